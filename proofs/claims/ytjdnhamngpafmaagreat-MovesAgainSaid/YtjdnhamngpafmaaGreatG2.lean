/- Texts of the proof, bound together and shortened by a program of mine. -/
import Derived.Test.YtjdnhamngpafmaaGreatG1
import Derived.ChangeKeysEq
import Derived.Laws.StructEq
import Derived.Laws.IdiomRangeMap
import Derived.Test.YtjdnhamngpafmaaGreatChecked
import Derived.KernelRfl
import Derived.ProofKit
import Derived.Carry
import Derived.SizedLaws
import Derived.Deep.Slices
import Derived.JoinedOf
import Derived.Laws.Closers25b
set_option linter.all false
set_option maxRecDepth 100000
set_option maxHeartbeats 4000000
namespace Go.Av
def G.ET(g:G)(id:Nat)(l:Loc)(o:A8):G:=⟨g.w,g.fr,g.env++[some l],g.objs.set id .gone++[o]⟩
variable {g:G}{id:Nat}{l:Loc}
theorem aq{o:A8}(hg:Good g)(BN:id<g.objs.length){i:Nat}{l':Loc}{o':A8}(h1:(g.ET id l o).env[i]?=some (some l'))(h2:(g.ET id l o).objs[i]?=some o')(h3:o'.live) :
  (i≠id∧g.env[i]?=some (some l')∧g.objs[i]?=some o')∨(i=g.objs.length∧l'=l∧o'=o):=by
 have hlen:=hg.len;rcases Eu h1 with q1|⟨q1,SB⟩
 ·rcases Eu h2 with q2|⟨q2,_⟩
  ·by_cases e:id=i
   ·subst e;rw[Bb BN]at q2;simp only[AM]at q2;subst q2;exact h3.elim
   rw[Ap e]at q2;exact .inl ⟨Ne.symm e,q1,q2⟩
  have:=AE q1;simp only[B2]at q2;omega
 rcases Eu h2 with q2|⟨q2,Tz⟩
 ·have:=AE q2;simp only[B2]at this;omega
 simp only[AM]at SB;exact .inr ⟨I,SB,Tz⟩
variable {o1:A8}
theorem Hn.ET{o:A8}(hg:Good g)(he:g.env[id]?=some (some l))(ho:g.objs[id]?=some o1)(hl:o1.live){b off:Nat}(h:Hn (g.ET id l o) b off):Hn g b off:=by
 obtain⟨i,l',o',h1,h2,h3,h4,h5⟩:=h;rcases aq hg (AE ho) h1 h2 h3 with⟨_,q1,q2⟩|⟨_,q1,_⟩
 ·exact⟨i,l',o',q1,q2,h3,h4,h5⟩
 subst q1;exact⟨id,l',o1,he,ho,hl,h4,h5⟩
theorem I1.ET{o:A8}(hg:Good g)(he:g.env[id]?=some (some l))(ho:g.objs[id]?=some o1)(hl:o1.live){b:Nat}(h:I1 (g.ET id l o) b):I1 g b:=by
 obtain⟨i,l',o',h1,h2,h3,h4⟩:=h;exact(Hn.ET hg he ho hl ⟨i,l',o',h1,h2,h3,h4,B6 _⟩).block
variable {i:Nat}
theorem mc{o o':A8}(AT:id≠i)(h:g.objs[i]?=some o'):(g.ET id l o).objs[i]?=some o':=by
 have:=AE h;simp only[G.ET];rw[Gt,A9 (by simpa using this),Ap AT];exact h
theorem wT{o:A8}(h:id<g.objs.length):(g.ET id l o).objs[id]?=some .gone:=by
 simp only[G.ET];rw[Gt,A9 Aa,Bb h]
theorem ec{o:A8}(h:i<g.env.length):(g.ET id l o).env[i]?=g.env[i]?:=by
 simp only[G.ET];rw[Gt,A9 h]
theorem Le.ET{o:A8}(hg:Good g)(he:g.env[id]?=some (some l))(ho:g.objs[id]?=some o1)(hl:o1.live)(hs:¬o1.Hx):Le g (g.ET id l o) where
 os:=rfl
 tape:=rfl
 output:=rfl
 fr:=rfl
 size:=B6 _
 block:=fun k _ h=>⟨rfl,fun q=>h (I1.ET hg he ho hl q)⟩
 cell:=fun b off x hx hn=>⟨hx,fun q=>hn (Hn.ET hg he ho hl q)⟩
 len:=by simp[G.ET]
 spare:=fun i m hm=>by
  have AT:id≠i:=by
   intro e;subst e;rw[ho]at hm;simp only[AM]at hm;subst hm;exact hs trivial
  exact .inl ⟨m,mc AT hm,B6 _⟩
 plain:=fun i o' CO hn=>by
  refine⟨?_,ec (by have:=AE CO;have:=hg.len;omega)⟩;by_cases e:id=i
  ·subst e;exact⟨.gone,wT (AE ho),Bd⟩
  exact⟨o',mc e CO,hn⟩
 gone:=fun i hi=>by
  by_cases e:id=i
  ·subst e;exact wT (AE ho)
  exact mc e hi
 tok:=fun i m hm _=>⟨ec (by have:=AE hm;have:=hg.len;omega),fun _ _=>rfl⟩
theorem Good.ET{cs:List A2}(hg:Good g)(he:g.env[id]?=some (some l))(ho:g.objs[id]?=some (.cells cs)):Good (g.ET id l (.cells cs)):=by
 have AF:=AE ho;have hle:=Le.ET (o:=.cells cs) hg he ho trivial Bd;have Qf:(g.ET id l (.cells cs)).env[g.objs.length]?=some (some l):=by
  simp only[G.ET];rw[<-hg.len];simp
 refine⟨hg.frlt,?_,by simp[G.ET,hg.len],?_,?_,?_,?_,?_⟩
 ·intro i l' o' h1 h2 h3;rcases aq hg AF h1 h2 h3 with⟨_,q1,q2⟩|⟨_,q1,_⟩
  ·exact hg.HQ i l' o' q1 q2 h3
  subst q1;exact hg.HQ id l' _ he ho trivial
 ·intro i l' o' h1 h2 h3;rcases aq hg AF h1 h2 h3 with⟨_,q1,q2⟩|⟨_,q1,_⟩
  ·exact hg.loc i l' o' q1 q2 h3
  subst q1;exact hg.loc id l' _ he ho trivial
 ·intro i j l1 l2 o1 o2 h1 h2 h3 k1 k2 k3 hb;rcases aq hg AF h1 h2 h3 with⟨n1,q1,q2⟩|⟨n1,q1,_⟩
  ·rcases aq hg AF k1 k2 k3 with⟨_,r1,r2⟩|⟨m1,r1,_⟩
   ·exact hg.apart i j l1 l2 o1 o2 q1 q2 h3 r1 r2 k3 hb
   subst r1;exact B3 (hg.apart i id l1 l2 o1 _ q1 q2 h3 he ho trivial hb) n1
  rcases aq hg AF k1 k2 k3 with⟨m1,r1,r2⟩|⟨m1,r1,_⟩
  ·subst q1;exact B3 (hg.apart j id l2 l1 o2 _ r1 r2 k3 he ho trivial hb.symm) m1
  omega
 ·intro i ds h;have O9:(A8.cells ds).live:=trivial;rcases Eu h with q|⟨q,q'⟩
  ·have AT:id≠i:=by
    intro e;subst e;rw[Bb AF]at q;cases q
   rw[Ap AT]at q;obtain⟨l',arr,t,e1,e0,e2,e3,e4,e5⟩:=hg.cells i ds q;exact⟨l',arr,t,(ec px).trans e1,e0,e2,e3,fun j c u a b=>(e4 j c u a b).mono hle,e5⟩
  simp only[A8.cells.injEq]at q';subst q';obtain⟨l',arr,t,e1,e0,e2,e3,e4,e5⟩:=hg.cells id _ ho;rw[he]at e1;simp only[AM]at e1;subst e1;refine⟨l,arr,t,?_,e0,e2,e3,fun j c u a b=>(e4 j c u a b).mono hle,e5⟩;rw[q,B2];exact Qf
 ·intro i m l' h h1;rcases Eu h with q|⟨q,q'⟩
  ·have AT:id≠i:=by
    intro e;subst e;rw[Bb AF]at q;cases q
   rw[Ap AT]at q;rw[ec px]at h1;exact hg.spare i m l' q h1
  cases q'
 intro i kt es h;rcases Eu h with q|⟨q,q'⟩
 ·have AT:id≠i:=by
   intro e;subst e;rw[Bb AF]at q;cases q
  rw[Ap AT]at q;obtain⟨l',ob,e1,e0,e2,e3⟩:=hg.map i kt es q;exact⟨l',ob,(ec px).trans e1,e0,e2,e3.mono hle⟩
 cases q'
variable {P:Program}
theorem qnd{AD:Cn}(hT:CH P AD){o:Oper}{σ:St}{t e:TypeId}{x i:Operand}{ti te:CU}{id len sz:Nat}{k:IntKind}{n:Int}
  (ho:o.op=.indexAddr t x i) (hd:∀d,o.dst=some d->d<σ.n) (ht:AD t=some ti) (Ah:ti.desc=.slice e) (he:AD e=some te)
  (hx:σ.ev x=some (.os id len sz)) (hi:σ.ev i=some (.v (.int k n))) (h0:0<=n) (hn:n<len):Cert P o σ (.mp id (n.toNat*te.size)) .pure :=
 Cert.EL .pure (.inl rfl) hd fun a g _ h _=>by
  have ei:=(h i CM _ hi).D0.1;have hu:=GZ hT ht Ah;obtain⟨l,o1,cap,h1,h2,h3,_,_,_,eu⟩:=(h x CM _ hx).Yo;exact⟨.pointer (some ⟨l.block,n.toNat*te.size,none⟩),aa7,.mp h1 h2 h3⟩
theorem qaQ{AD:Cn}(hT:CH P AD){o:Oper}{σ:St}{t e:TypeId}{x:Operand}{ti te:CU}{id len sz:Nat}{lo hi:Option Operand}{h:Nat}
  (ho:o.op=.slice t x lo hi none) (hd:∀d,o.dst=some d->d<σ.n) (ht:AD t=some ti) (Ah:ti.desc=.slice e) (he:AD e=some te) (hx:σ.ev x=some (.os id len sz))
  (CA:Rs σ lo 0 0) (GI:Rs σ hi len h) (h2:h<=len) (h3:0<len):Cert P o σ (.os id h sz) .pure :=
 Cert.EL .pure (.inl rfl) hd fun a g _ hh _=>by
  have hu:=GZ hT ht Ah;have Bu:=hh x dK _ hx;have hl:(lo=none∧(0:Nat)=0)∨∃q k,lo=some q∧a.eval q=.int k ((0:Nat):Int):=by
   rcases CA with q|⟨q,k,e1,e2⟩
   ·exact JV
   exact du hh
  have Bo:(hi=none∧h=len)∨∃q k,hi=some q∧a.eval q=.int k (h:Int):=by
   rcases GI with q|⟨q,k,e1,e2⟩
   ·exact JV
   exact dv hh
  have D4:execOp a.eval o=(do pure (.value (<-Instr.sliceAt t (a.eval x) (lo.map a.eval) (hi.map a.eval) none))):=by
   simp[execOp,ho]
  clear CA GI ho;obtain⟨lc,o1,Dm,q1,q2,q3,Lp,Lk,Bm,eu⟩:=Bu.Yo;have bounds:(Instr.sliceBounds true len Dm (lo.map a.eval) (hi.map a.eval) none).run P g.w=.ok (0,h,Dm) g.w:=by
   rcases hl with⟨e1,e2⟩|⟨p,k,e1,hk⟩
   ·rcases Bo with⟨e3,e4⟩|⟨q,k',e3,G3⟩
    ·subst e1 e3 e4;exact kF
    subst e1 e3;have:=run_sliceBound (P:=P) k' h Dm .sliceAcap g.w I I;exact Un G3
   rcases Bo with⟨e3,e4⟩|⟨q,k',e3,G3⟩
   ·subst e1 e3 e4;have:=run_sliceBound (P:=P) k 0 h .sliceB g.w I I;exact Un hk
   subst e1 e3;have e1:=run_sliceBound (P:=P) k' h Dm .sliceAcap g.w I I;have e2:=run_sliceBound (P:=P) k 0 h .sliceB g.w I I;simp[Instr.sliceBounds,hk,G3,e1,e2]
  have K9:=(hT e te he).sizeOf g.w;refine⟨.slice (some ((⟨lc.block,0,none⟩:Addr).add (0*te.size))) (h-0) (Dm-0),?_,?_⟩
  ·rw[D4];exact adL eu K9
  rw[addr_add];simp only[MH,J4,Zw];exact .os q1 q2 q3 I Lk I
theorem qnb{AD:Cn}(hT:CH P AD){o:Oper}{σ:St}{t e:TypeId}{x y:Operand}{ti te:CU}{sz:Nat}{xs ys:List A2}{ow:Ec}
  (ho:o.op=.call ⟨.builtin .append,#[x,y],#[t,t]⟩) (hd:∀d,o.dst=some d->d<σ.n) (ht:AD t=some ti) (Ah:ti.desc=.slice e) (he:AD e=some te) (Ag:te.size=sz) (hx:σ.ev x=some (.A3 sz xs .ex)) (hy:σ.ev y=some (.A3 sz ys ow))
  (hn:ys.length≠0) (hlen:xs.length+ys.length<=2 ^ 62) (hb:(xs.length+ys.length)*te.bytes<=2 ^ 47) :
  Cert P o σ (.os σ.objs.length (xs.length+ys.length) sz) (.write (σ.objs++[.cells (AP (xs++ys.map A2.share))])) :=
 Cert.IP hd fun base Bl a g Ax h CO=>by
  have hO:g.objs=σ.objs:=CO.resolve_left A6;have hg:=Ax.good;have hu:=GZ hT ht Ah;subst Ag;have Bu:=h x Gh _ hx;have H8:=h y Gh _ hy;obtain⟨L9,Iv,Dt,ex,Oh,L8,Qq,Oi,Ko,OZ⟩:=Bu.Ms (P:=P);obtain⟨XK,Wz,news,ey,JD,PN,Im,Lv,KV,IW⟩:=H8.Ms (P:=P);obtain⟨⟨i,z,h1,h2,h3,h4,h5,h6,h7,h8,h9⟩,_⟩:=hT e te he;have Rt:Iv=xs.length:=by
   rcases Bu.LP with⟨q1,q2⟩|⟨ad,cap,f,q1,_,_,_,_,_,_,_,q2⟩
   ·rw[ex]at q1;cases q2;simp at q1;simp[q1]
   rw[ex]at q1;simp only[Value.slice.injEq]at q1;exact Ye
  subst Rt;have D4:=Lw (P:=P) ho a g.w;simp only[builtin,QL,Bc,Ed]at D4;have Aj:=Xj (P:=P) g.w t o.type e i z hu h1 h4 L9 xs.length xs.length ys.length (a.eval y) Dt news JD YG dI I hlen Ua;rw[<-ex]at Aj;obtain⟨cap,C1⟩:∃cap,cap=grownCap g.w (xs.length+ys.length) xs.length e:=⟨_,rfl⟩
  obtain⟨rest,D3⟩:∃rest,rest=Builtin.zeroCells z.cells (cap-(xs.length+ys.length)):=⟨_,rfl⟩
  have FM:=grownCap_ge g.w (xs.length+ys.length) xs.length e;rw[<-C1]at Aj FM;rw[<-D3]at Aj;have Ie:rest.size=(cap-(xs.length+ys.length))*te.size:=YI
  obtain⟨arr,ER⟩:∃arr,arr=Dt.toArray++news.toArray++rest:=⟨_,rfl⟩
  rw[<-ER]at Aj;have Du:=hg.heap (w':=g.w.drew) rfl rfl rfl rfl;have Iy:=Le.heap (g:=g) (w':=g.w.drew) rfl rfl rfl rfl;obtain⟨g1,DJ⟩:∃g1:G,g1=⟨g.w.drew,g.fr,g.env,g.objs⟩:=⟨_,rfl⟩
  rw[<-DJ]at Du Iy;have Ha:g1.w=g.w.drew:=WM
  have DT:g1.objs=σ.objs:=WL
  have Ks:=Qq.append Im.Zb;rw[<-Pw]at Ks;have B8:(AP (xs++ys.map A2.share)).length=(xs.length+ys.length)*te.size:=by
   rw[Ja (sz:=te.size) (fun x hx=>by
    rcases List.mem_append.1 hx with q|q
    ·exact Oi x q
    exact Vx Lv x q)]
   simp
  have OD:arr.size=cap*te.size:=by
   rw[ER];simp only[RX,Jj,OZ,IW,Ie,<-LX];exact acE
  have hle:=Iy.trans (Le.alloc Du (.cells arr e) 0 (.cells (AP (xs++ys.map A2.share))));have FZ:Fits (g1.alloc (.cells arr e) 0 (.cells (AP (xs++ys.map A2.share)))) (.cells arr e) (.cells (AP (xs++ys.map A2.share))):=by
   refine⟨arr,e,rfl,abh,fun j c u hj hu=>?_,fun c hc=>?_⟩
   ·have AF:=AE hj;rw[B8]at AF;rw[ER]at hu;have IX:=U4 hu dL;exact(Ks.2 j c u hj Ub).mono hle
   rw[Pw]at hc;rcases List.mem_append.1 hc with q|q
   ·exact Ko c q
   exact Xh KV c q
  have EA:=Good.alloc Du (.cells arr e) 0 (.cells (AP (xs++ys.map A2.share))) (.inr rfl) FZ;refine jw ?_ ?_ ?_
  ·rw[D4];simp[Aj,G.alloc,Ha]
  ·exact Rl DT
  rw[<-DT];have e1:(g.w.heap.size)=g1.w.heap.size:=YQ
  rw[e1];exact acP
theorem qnx{AD:Cn}(hT:CH P AD){o:Oper}{σ:St}{t e:TypeId}{x y:Operand}{ti te:CU}{id len sz:Nat}{cs ys:List A2}{ow:Ec}
  (ho:o.op=.call ⟨.builtin .append,#[x,y],#[t,t]⟩) (hd:∀d,o.dst=some d->d<σ.n) (ht:AD t=some ti) (Ah:ti.desc=.slice e) (he:AD e=some te) (Ag:te.size=sz) (hx:σ.ev x=some (.os id len sz)) (Ex:σ.objs[id]?=some (.cells cs)) (hy:σ.ev y=some (.A3 sz ys ow))
  (G2:len*sz<=cs.length) (hn:ys.length≠0) (hlen:len+ys.length<=2 ^ 62) (hb:(len+ys.length)*te.bytes<=2 ^ 47) :
  Cert P o σ (.os σ.objs.length (len+ys.length) sz) (.write (σ.objs.set id .gone++[.cells (cs.take (len*sz)++AP (ys.map A2.share))])) :=
 Cert.IP hd fun base Bl a g Ax h CO=>by
  have hO:g.objs=σ.objs:=CO.resolve_left A6;have hg:=Ax.good;have hu:=GZ hT ht Ah;subst Ag;have Bu:=h x Gh _ hx;have H8:=h y Gh _ hy;obtain⟨l,o1,cap,q1,q2,q3,Lp,Lk,Bm,eu⟩:=Bu.Yo;obtain⟨XK,Wz,news,ey,JD,PN,Im,Lv,KV,IW⟩:=H8.Ms (P:=P);obtain⟨⟨i,z,h1,h2,h3,h4,h5,h6,h7,h8,h9⟩,_⟩:=hT e te he;have Fz:g.objs[id]?=some (.cells cs):=Rf
  have ez:=AE Fz;obtain⟨arr,t',CA,CV,qlU,BQ,Iw,TO⟩:=hg.row Fz q1;have D4:=Lw (P:=P) ho a g.w;simp only[builtin,QL,Bc,Ed]at D4;have D5:=Im.Zb;have B8:(AP (ys.map A2.share)).length=ys.length*te.size:=by
   rw[Ja (Vx Lv)];simp
  obtain⟨m,hm⟩:∃m,m=len*te.size:=⟨_,rfl⟩
  obtain⟨Dt,Jx⟩:∃Dt,Dt=arr.toList.take m:=⟨_,rfl⟩
  obtain⟨ds,H6⟩:∃ds,ds=cs.take (len*te.size)++AP (ys.map A2.share):=⟨_,rfl⟩
  rw[<-hm]at H6 G2;have V4:Dt.length=m:=by rw[Jx];exact KM
  have holds:Co g (cs.take m) Dt.toArray:=by
   refine⟨by simp[V4];omega,fun j c u hj hu=>?_⟩;have AF:=AE hj;simp only[Dy]at AF;rw[GC,A9 I]at hj;refine BQ j c u hj ?_;simp only[Zq,Jx]at hu;rw[GC,A9 I]at hu;simpa using hu
  have Br:Co g ds (Dt++news).toArray:=by
   rw[H6];exact holds.append D5
  have DB:ds.length=m+ys.length*te.size:=by
   rw[H6,Bf,Dy,B8];omega
  have cG:∀c∈ds,c.scalar:=fun c hc=>by
   rw[H6]at hc;rcases List.mem_append.1 hc with hc|hc
   ·exact Iw c (KF hc)
   exact Xh KV c hc
  have JY:(len+ys.length)*te.size=m+ys.length*te.size:=by rw[LX,hm]
  rw[<-hm,<-H6];by_cases LU:len+ys.length<=cap
  ·have AO:m+ys.length*te.size<=arr.size:=by
    have:=OE te.size LU;omega
   obtain⟨BJ,HB⟩:∃BJ,BJ=(arr.toList.take m++news++arr.toList.drop (m+news.length)).toArray:=⟨_,rfl⟩
   have Au:=run_storeCells_at P l.block m t' news 0 arr g.w CV qS (fun u hu=>by
    obtain⟨j,hj⟩:=MF hu;have AF:=AE hj;have Ag:=Im.1;simp only[Jj]at Ag;rw[Ag]at AF;have hc:=AY AF;exact((Im.2 j _ u hc QO).Vy (KV _ (AK hc))).1)
   simp only[J4]at Au;rw[<-HB]at Au;have Aj:=Xi (P:=P) g.w (g.w.setRow l.block BJ) t o.type e i hu h1 ⟨l.block,0,none⟩ len cap ys.length (a.eval y) news JD j9 I aam;rw[<-eu]at Aj;have Ew:=ZV (cs':=ds) Fz q1 CA BJ;have hle:=Le.Am hg Ew;have OD:BJ.size=arr.size:=by
    rw[HB];simp only[Jj,Bf,Dy,ND,WG,IW];omega
   have EA:=Good.Am hg Ew (by
    refine⟨l,BJ,t',rfl,CA,setRow_heap g.w l.block arr BJ t' (0,0) CV,by rw[DB,OD];exact AO,fun j c u hj G'=>?_,cG,by rw[OD];exact TO⟩;have AF:=AE hj;rw[DB]at AF;have e1:BJ=Dt.toArray++news.toArray++(arr.toList.drop (m+news.length)).toArray:=by
     rw[HB,Jx];simp
    rw[e1]at G';have IX:=U4 G' j7;exact(Br.2 j c u hj Ub).mono hle) (fun l1 h1 _=>by
    simp only[AM]at h1;subst h1;rw[setRow_size];exact Gq CV)
   obtain⟨g1,DJ⟩:∃g1:G,g1=g.Am id (some l) (.cells ds) (g.w.setRow l.block BJ):=⟨_,rfl⟩
   rw[<-DJ]at hle EA;have Gw:g1.env[id]?=some (some l):=by
    rw[DJ];simp only[G.Am];rw[Bb (Q6 hg Fz)]
   have DT:g1.objs[id]?=some (.cells ds):=by
    rw[DJ];simp only[G.Am];rw[Bb ez]
   have Gs:g1.objs.length=σ.objs.length:=by
    rw[DJ,<-hO];simp[G.Am]
   refine adO ?_ ?_ ?_
   ·rw[D4,DJ];simp[Aj,G.Am,G.ET]
   ·simp only[G.ET,DJ,G.Am,Mode.post,Hr,hO]
   refine .os (l:=l) (o:=.cells ds) ?_ ?_ Bd LU Lk hlen
   ·simp only[G.ET];rw[<-Gs,<-EA.len];simp
   simp only[G.ET];rw[<-Gs];simp
  have Aj:=Xj (P:=P) g.w t o.type e i z hu h1 h4 (some ⟨l.block,0,none⟩) len cap ys.length (a.eval y) Dt news JD YG (by
   rw[h2];simp only[Builtin.firstCells];rw[<-hm];have:=run_loadCells (P:=P) g.w.drew ⟨l.block,0,none⟩ m (fun j=>arr.getD j undef) (fun j hj=>by
    rw[addr_add,Db];have:g.w.drew.cell? ⟨l.block,j,none⟩=arr[j]?:=cell_of_row (w:=g.w.drew) CV j;rw[this];simp[HU,show j<arr.size from I])
   rw[ou Dt m _ V4 (fun j hj=>by
    rw[Jx,GC,A9 hj];simp[HU,show j<arr.size from I])]at this
   exact this) I hlen Ua
  rw[<-eu]at Aj;obtain⟨Kc,C1⟩:∃Kc,Kc=grownCap g.w (len+ys.length) cap e:=⟨_,rfl⟩
  obtain⟨rest,D3⟩:∃rest,rest=Builtin.zeroCells z.cells (Kc-(len+ys.length)):=⟨_,rfl⟩
  have FM:=grownCap_ge g.w (len+ys.length) cap e;rw[<-C1]at Aj FM;rw[<-D3]at Aj;have Ie:rest.size=(Kc-(len+ys.length))*te.size:=YI
  obtain⟨J2,ER⟩:∃J2,J2=Dt.toArray++news.toArray++rest:=⟨_,rfl⟩
  rw[<-ER]at Aj;have Du:=hg.heap (w':=g.w.drew) rfl rfl rfl rfl;have Iy:=Le.heap (g:=g) (w':=g.w.drew) rfl rfl rfl rfl;obtain⟨g1,DJ⟩:∃g1:G,g1=⟨g.w.drew,g.fr,g.env,g.objs⟩:=⟨_,rfl⟩
  rw[<-DJ]at Du Iy;have Ha:g1.w=g.w.drew:=WM
  have DT:g1.objs=σ.objs:=WL
  have OD:J2.size=Kc*te.size:=by
   rw[ER];simp only[RX,Jj,V4,IW,Ie];have:(len+ys.length)*te.size+(Kc-(len+ys.length))*te.size=Kc*te.size:=by
    exact ad3
   omega
  have hle:=Iy.trans (Le.alloc Du (.cells J2 e) 0 (.cells ds));have FZ:Fits (g1.alloc (.cells J2 e) 0 (.cells ds)) (.cells J2 e) (.cells ds):=by
   refine⟨J2,e,rfl,aaz,fun j c u hj hu=>?_,cG⟩;have AF:=AE hj;rw[DB]at AF;rw[ER]at hu;have IX:=U4 hu j7;exact(Br.2 j c u hj Ub).mono hle
  have EA:=Good.alloc Du (.cells J2 e) 0 (.cells ds) (.inr rfl) FZ;obtain⟨g2,Kl⟩:∃g2:G,g2=g1.alloc (.cells J2 e) 0 (.cells ds):=⟨_,rfl⟩
  rw[<-Kl]at hle EA;have nR:g2.env[id]?=some (some l):=by
   rw[Kl];simp only[G.alloc];rw[Gt,A9 abn,DJ];exact q1
  have bh:g2.objs[id]?=some (.cells cs):=by
   rw[Kl];simp only[G.alloc];rw[Gt,A9 jJ,DJ];exact Fz
  have Ew:=kQ bh nR Bd trivial;have Qp:g2.w=g.w.drew.alloc (.cells J2 e):=by rw[Kl,<-Ha];rfl
  refine acF ?_ ?_ ?_
  ·rw[D4];simp[Aj,G.Am,Qp]
  ·exact ace Kl DT
  have e1:(g.w.heap.size)=g1.w.heap.size:=YQ
  have qkD:id<g1.objs.length:=jJ
  rw[e1,<-DT];refine .os (l:=⟨g1.w.heap.size,0,J2.size⟩) (o:=.cells ds) ?_ ?_ Bd FM q8 hlen
  ·simp only[G.Am,Kl,G.alloc];rw[Ap I];exact RO Du
  simp only[G.Am,Kl,G.alloc];rw[Ap I];exact Nq
variable {o:Oper}{σ:St}{t t' e:TypeId}{x y:Operand}{b r:Bool}
theorem qaX{op:BinOp}{x':A2}
  (ho:o.op=.binOp op t x y t') (hd:∀d,o.dst=some d->d<σ.n) (ht:P.underlying t=some (.pointer e)) (hx:σ.ev x=some x') (hy:σ.ev y=some (.v (.pointer none)))
  (hb:(x'=.v (.pointer none)∧b=true)∨(∃oa cs,x'=.ip oa cs∧b=false)∨(∃id off,x'=.mp id off∧b=false))
  (hr:(op=.eql∧r=b)∨(op=.neq∧r=!b)):Cert P o σ (.v (.bool r)) .pure :=
 Cert.EL .pure (.inl rfl) hd fun a g _ h _=>by
  have Bu:=h x CM _ hx;have ey:=(h y CM _ hy).D0.1;have ex:∃q:Option Addr,a.eval x=.pointer q∧b=q.isNone:=by
   rcases hb with⟨e1,e2⟩|⟨oa,cs,e1,e2⟩|⟨id,off,e1,e2⟩
   ·subst e1;exact⟨none,Bu.D0.1,e2⟩
   ·subst e1;obtain⟨bb,off,_,e3,_⟩:=Bu.Wc;exact⟨some ⟨bb,off,none⟩,e3,e2⟩
   subst e1;obtain⟨l,o1,_,_,_,e3⟩:=Bu.RT;exact⟨_,e3,e2⟩
  obtain⟨q,ex,eb⟩:=ex;have hg:=U3 (P:=P) op t x y (.pointer q) (.pointer none) g.w A6 A6;refine Yg ?_;have he:(Op.equal t (.pointer q) (.pointer none)).run P g.w=.ok q.isNone g.w:=by
   have e:∃d,Op.equal t (.pointer q) (.pointer none)=Op.equalIn (d+1) t (.pointer q) (.pointer none):=⟨9999,rfl⟩
   obtain⟨d,e⟩:=e;rw[e];cases q<;>simp[Op.equalIn,Sem.run_bind,run_underlying ht]
  rcases hr with⟨e1,e2⟩|⟨e1,e2⟩<;>subst e1<;>subst e2<;>simp[execOp,ho,ex,ey,hg,binOp,he,eb]
def ed:BinOp->Addr->Addr->Option Bool
 | .eql,a,b=>some (decide (a=b))
 | .neq,a,b=>some (!decide (a=b))
 | _,_,_=>none
theorem qbZ{op:BinOp}{n:Nat}{a b:Addr}{cs ds:List A2}
  (ho:o.op=.binOp op t x y t') (hd:∀d,o.dst=some d->d<σ.n) (ht:P.underlying t=some (.pointer e)) (hn:∀w,(sizeOf e).run P w=.ok n w) (Il:n≠0) (hx:σ.ev x=some (.ip (some a) cs)) (hy:σ.ev y=some (.ip (some b) ds)) (R7:a.block=b.block)
  (hr:ed op a b=some r):Cert P o σ (.v (.bool r)) .pure :=
 Cert.EL .pure (.inl rfl) hd fun ac g _ h _=>by
  have ex:ac.eval x=.pointer (some a):=by
   obtain⟨b1,off,f,e1,e2,_⟩:=(h x CM _ hx).Wc;rcases e2 with e2|e2
   ·cases e2
   rw[e1,e2]
  have ey:ac.eval y=.pointer (some b):=by
   obtain⟨b1,off,f,e1,e2,_⟩:=(h y CM _ hy).Wc;rcases e2 with e2|e2
   ·cases e2
   rw[e1,e2]
  have hg:=U3 (P:=P) op t x y (.pointer (some a)) (.pointer (some b)) g.w A6 A6;refine Yg ?_;have he:(Op.equal t (.pointer (some a)) (.pointer (some b))).run P g.w=.ok (decide (a=b)) g.w:=by
   have e0:∃d,Op.equal t (.pointer (some a)) (.pointer (some b))=Op.equalIn (d+1) t (.pointer (some a)) (.pointer (some b)):=⟨9999,rfl⟩
   obtain⟨d,e0⟩:=e0;rw[e0];simp[Op.equalIn,Sem.run_bind,run_underlying ht,hn,Il,sameAddr,R7]
   first
    | rfl
    | exact beq_eq_decide
    | (rw[YF]
       simp)
  have Mn:(op=.eql∧r=decide (a=b))∨(op=.neq∧r=!decide (a=b)):=by
   cases op<;>simp[ed]at hr<;>simp[hr]
  rcases Mn with⟨e1,e2⟩|⟨e1,e2⟩<;>subst e1<;>subst e2<;>simp[execOp,ho,ex,ey,hg,binOp,he]
theorem sO{AD:Cn}(hT:CH P AD){t e:TypeId}{n:Nat}{ti:CU}(ht:AD t=some ti)(Ah:ti.desc=.array n e):P.underlying t=some (.array n e):=by
 obtain⟨_,d,h1,h2⟩:=hT t ti ht;rw[Ah]at h2;simp only[bE]at h2;rw[h1,h2]
theorem qnX{AD:Cn}(hT:CH P AD){o:Oper}{σ:St}{t e:TypeId}{x i:Operand}{ti te:CU}{id off len:Nat}{k:IntKind}{n:Int}
  (ho:o.op=.indexAddr t x i) (hd:∀d,o.dst=some d->d<σ.n) (ht:AD t=some ti) (Ah:ti.desc=.array len e) (he:AD e=some te)
  (hx:σ.ev x=some (.mp id off)) (hi:σ.ev i=some (.v (.int k n))) (h0:0<=n) (hn:n<len):Cert P o σ (.mp id (off+n.toNat*te.size)) .pure :=
 Cert.EL .pure (.inl rfl) hd fun a g _ h _=>by
  have ei:=(h i CM _ hi).D0.1;have hu:=sO hT ht Ah;obtain⟨l,o1,h1,h2,h3,eu⟩:=(h x CM _ hx).RT;exact⟨.pointer (some ⟨l.block,off+n.toNat*te.size,none⟩),aa6,.mp h1 h2 h3⟩
theorem qn8{AD:Cn}(hT:CH P AD){o:Oper}{σ:St}{t e:TypeId}{x i:Operand}{ti te:CU}{len:Nat}{oa:Option Addr}{cs:List A2}{k:IntKind}{n:Int}
  (ho:o.op=.indexAddr t x i) (hd:∀d,o.dst=some d->d<σ.n) (ht:AD t=some ti) (Ah:ti.desc=.array len e) (he:AD e=some te)
  (hx:σ.ev x=some (.ip oa cs)) (hi:σ.ev i=some (.v (.int k n))) (h0:0<=n) (hn:n<len):Cert P o σ (.ip none (cs.drop (n.toNat*te.size))) .pure :=
 Cert.EL .pure (.inl rfl) hd fun a g _ h _=>by
  have ei:=(h i CM _ hi).D0.1;have hu:=sO hT ht Ah;obtain⟨b,off,f,eu,_,B1,hm,hr⟩:=(h x CM _ hx).Wc;refine⟨.pointer (some ⟨b,off+n.toNat*te.size,none⟩),aa6,
   .ip (.inl rfl) (fun c hc=>B1 c (N9 hc)) (fun j=>f (n.toNat*te.size+j)) (fun j c hj=>?_) (fun j c hj=>?_)⟩
  ·rw[FC]at hj;have:=hm _ c hj;rw[<-Y6]at this;exact Cd
  rw[FC]at hj;exact hr _ c hj
theorem qny{AD:Cn}(hT:CH P AD){o:Oper}{σ:St}{t e:TypeId}{parts:Array (Nat×Operand)}{n:Nat}{ti te:CU}{ps:List (Nat×A2)}{cs:List A2}
  (ho:o.op=.build t parts) (hd:∀d,o.dst=some d->d<σ.n) (ht:AD t=some ti) (Ah:ti.desc=.array n e) (he:AD e=some te) (Hd:σ.K4 parts.toList=some ps) (Bt:∀p∈ps,p.2.flat)
  (BQ:JH (fun i=>some (i*te.size,te.size)) ti.zero ps=some cs):Cert P o σ (.agg cs) .pure :=
 Cert.EL .pure (.inl rfl) hd fun a g _ h _=>by
  have Ax:=ZT (a:=a) (g:=g) (fun x hx y hy=>h x dP y hy) Hd Bt;obtain⟨⟨i,z,h1,h2,h3,h4,h5,h6,h7,h8,h9⟩,d,Jr,h11⟩:=hT t ti ht;have hu:=sO hT ht Ah;obtain⟨⟨ie,ze,k1,k2,_⟩,_⟩:=hT e te he;obtain⟨BJ,q1,q2,q3⟩:=ck (fun i=>some (i*te.size,te.size)) Ax (cs:=ti.zero) (arr:=z.cells) ⟨h5,h8 g⟩ BQ;have hb:P.built t (parts.map fun(i,x)=>(i,a.eval x)).toList=some BJ:=by
   unfold Program.built;simp only[h1,hu,h4,k1,k2];rw[Zy];simpa using q1
  have Aj:=run_build g.w t _ BJ hb;exact acn
def fB(P:Program)(t:TypeId)(k:IntKind):Prop:=P.eqGuardType P.depth t=false∧∀(w:World) (a0 a1 b0 b1:Int),(Op.equal t (.agg #[.int k a0,.int k a1]) (.agg #[.int k b0,.int k b1])).run P w=.ok (decide (a0=b0)&&decide (a1=b1)) w
theorem lB{k:IntKind}(he:P.underlying e=some (.int k))(xs:Array Value)(i:Nat)(u:Value)(hu:xs[i]?=some u)(w:World):(part e xs i).run P w=.ok u w:=by
 simp[part,Go.isAgg,run_underlying he,hu]
theorem qbM{k:IntKind}(h:∃e i,P.underlying t=some (.array 2 e)∧P.info? e=some i∧i.size=1∧P.underlying e=some (.int k)∧P.eqGuardType P.depth t=false):fB P t k:=by
 obtain⟨e,ie,Xd,k1,Ag,hu,Du⟩:=h;refine⟨Du,fun w a0 a1 b0 b1=>?_⟩;have hc:P.cellsOf e=1:=by
  simp[Program.cellsOf,k1,Ag]
 have e0:∃d,Op.equal t (.agg #[.int k a0,.int k a1]) (.agg #[.int k b0,.int k b1])=Op.equalIn (d+2) t (.agg #[.int k a0,.int k a1]) (.agg #[.int k b0,.int k b1]):=⟨9998,rfl⟩
 obtain⟨d,e0⟩:=e0;rw[e0,run_equalIn_array w (d+1) _ _ Xd k1,hc];have hi:∀(p q:Int),(Op.equalIn (d+1) e (.int k p) (.int k q)).run P w=.ok (decide (p=q)) w:=fun p q=>by
  have hpq:(p == q)=decide (p=q):=by
   by_cases hq:p=q
   ·simp[hq]
   simp[hq]
  simp[Op.equalIn,run_underlying hu,hpq]
 have p0:=lB hu #[.int k a0,.int k a1] 0 (.int k a0) rfl w;have p1:=lB hu #[.int k a0,.int k a1] 1 (.int k a1) rfl w;have s0:=lB hu #[.int k b0,.int k b1] 0 (.int k b0) rfl w;have s1:=lB hu #[.int k b0,.int k b1] 1 (.int k b1) rfl w;show(Op.eqItems (d+1) e 1 _ _ [0,1]).run P w=_;simp only[Op.eqItems,Sem.run_bind,MH,Nat.one_mul,p0,s0,p1,s1,hi,Result.andThen_ok];by_cases q0:a0=b0
 ·subst q0;simp only[decide_true,Y8,JS,Gf,PA,Sem.run_bind,p1,s1,hi,Result.andThen_ok];by_cases q1:a1=b1<;>simp[q1]
 simp[q0]
theorem qbb{op:BinOp}{k:IntKind}{a0 a1 b0 b1:Int}
  (ho:o.op=.binOp op t x y t') (hd:∀d,o.dst=some d->d<σ.n) (hP:fB P t k)
  (hx:σ.ev x=some (.agg [.v (.int k a0),.v (.int k a1)])) (hy:σ.ev y=some (.agg [.v (.int k b0),.v (.int k b1)]))
  (hr:(op=.eql∧r=(decide (a0=b0)&&decide (a1=b1)))∨(op=.neq∧r=!(decide (a0=b0)&&decide (a1=b1)))):Cert P o σ (.v (.bool r)) .pure :=
 Cert.EL .pure (.inl rfl) hd fun ac g _ h _=>by
  obtain⟨Du,Br⟩:=hP;have cells:∀{z:Operand} {c0 c1:Int},z∈o.op.operands->σ.ev z=some (.agg [.v (.int k c0),.v (.int k c1)])->ac.eval z=.agg #[.int k c0,.int k c1]:=fun {z c0 c1} hz Hd=>by
   obtain⟨vs,e1,e2,e3⟩:=(h z hz _ Hd).lz;rw[e1];congr 1;have e2:vs.size=2:=e2;have h0:vs[0]?=some (vs[0]' I):=by simp[e2]
   have h1:vs[1]?=some (vs[1]' I):=by simp[e2]
   have q0:=(e3.2 0 _ _ rfl h0).D0.1;have q1:=(e3.2 1 _ _ rfl h1).D0.1;apply Array.ext
   ·simp[e2]
   intro i NZ Na;have:i=0∨i=1:=by
    simp at Na;omega
   rcases this with rfl|rfl
   ·simpa using q0
   simpa using q1
  have ex:=cells CM hx;have ey:=cells CM hy;have hg:=run_eqGuard_agg (P:=P) g.w op t x y #[.int k a0,.int k a1] #[.int k b0,.int k b1] Du;refine Yg ?_;have Fu:=Br g.w a0 a1 b0 b1;rcases hr with⟨e1,e2⟩|⟨e1,e2⟩<;>subst e1<;>subst e2<;>simp[execOp,ho,ex,ey,hg,binOp,Fu]
variable {es:List (Value×A2)}
theorem RV.qiD{kt:KT}{u:Value}(h:RV g (.im kt es) u):∃(r clk:Nat) (arr:Array MapEntry),u=.map (some r)∧g.w.heap[r]?=some (.map arr clk)∧(∀off,¬HD g r off)∧arr.size=es.length ∧
  (∀(i:Nat) (e:MapEntry) (kx:Value×A2),arr[i]?=some e->es[i]?=some kx->e.key=kx.1∧RV g kx.2 e.val)∧P6 arr clk:=by
 cases h with
 | im hh hn hl hk Ik hb hr=>exact⟨_,_,_,rfl,hh,hn,hl,fun i e kx a b=>⟨hk i e kx a b,hr i e kx a b⟩,hb⟩
theorem qac{AD:Cn}(hT:CH P AD){o:Oper}{σ:St}{t k e:TypeId}{x:Operand}{ti:CU}{kt:KT}{es:List (Value×A2)}
  (ho:o.op=.range t x) (hd:∀d,o.dst=some d->d<σ.n) (ht:AD t=some ti) (Ah:ti.desc=.map k e) (hx:σ.ev x=some (.im kt es)) (hf:∀p∈es,Mu p.1∧∃y,p.2=.v y) :
  Cert P o σ (.mp σ.objs.length 0) (.write (σ.objs++[.map (.iter none) es])) :=
 Cert.IP hd fun base Bl a g Ax h CO=>by
  have hO:g.objs=σ.objs:=CO.resolve_left A6;have hg:=Ax.good;obtain⟨r,clk,arr,ex,hh,hn,hl,hr,hb⟩:=(h x CM _ hx).qiD;have hle:=Le.alloc hg (.mapIter (some r) clk #[] clk) 0 (.map (.iter none) es);obtain⟨q1,q2⟩:=hle.stay hh hn;have FP:∀(i:Nat) (e:MapEntry),arr[i]?=some e->∃kx,es[i]?=some kx∧Mu e.key∧Mu e.val∧kx=(e.key,A2.v e.val):=fun i e hi=>by
   have AF:=Gq hi;have J8:es[i]?=some (es[i]' I):=AY I;obtain⟨f1,y,f2⟩:=hf _ (AK J8);obtain⟨r1,r2⟩:=hr i e _ hi J8;rw[f2]at r2;obtain⟨v1,v2⟩:=r2.D0;refine⟨_,J8,by rw[r1];exact f1,by rw[v1];exact v2,?_⟩;rw[r1,v1,<-f2]
  refine⟨.pointer (some ⟨g.w.heap.size,0,none⟩),g.alloc (.mapIter (some r) clk #[] clk) 0 (.map (.iter none) es),.inl ?_,hle,Good.alloc hg _ 0 _ (.inr rfl) ?_,?_,?_⟩
  ·have DO:(getObj r).run P g.w=.ok (.map arr clk) g.w:=abC
   simp[execOp,ho,ex,Instr.range,run_underlying (Zl hT ht Ah),DO,G.alloc]
  ·show ml _ none es _;refine⟨r,clk,clk,#[],arr,rfl,q1,q2,hb,fun h=>B3 rfl h,fun i e hi=>?_,?_,fun k x q=>je⟩
   ·obtain⟨_,_,f1,f2,_⟩:=FP i e hi;exact⟨f1,f2⟩
   rw[List.filter_eq_self.2 (fun e _=>A6)];apply Gg;intro i;have e0:arr.toList[i]?=arr[i]?:=A6
   rw[Bv,e0];cases hi:arr[i]? with
   | none =>
    rw[ik,H3];have:=Array.getElem?_eq_none_iff.1 hi;omega
   | some e =>
    obtain⟨kx,f1,_,_,f2⟩:=FP i e hi;rw[f1,f2];rfl
  ·exact Rl hO
  exact rV hO hg
theorem qaI{arr:Array MapEntry}{clk:Nat}(h:P6 arr clk):(arr.toList.map (·.born)).Nodup:=by
 unfold List.Nodup;rw[List.pairwise_map,zo];intro i j hi hj F4;have:=h.1 i j arr.toList[i] arr.toList[j] F4 A6 A6;omega
theorem qce{k v:Value}
  (ho:o.op=.entry x) (hd:∀d,o.dst=some d->d<σ.n) (hx:σ.ev x=some (.mp id 0)) (Ex:σ.objs[id]?=some (.map (.iter (some (k,v))) es)) :
  Cert P o σ (.Ab [.v k,.v v]) (.rd id) :=
 Cert.ga hd fun a g hg h hO=>by
  obtain⟨l,o1,Gw,h1,_,ex⟩:=(h x CM _ hx).RT;obtain⟨l',ob,e1,CA,hh,hm⟩:=hg.map id _ es Rf;rw[Gw]at e1;simp only[AM]at e1;subst e1;obtain⟨m,clk,last,seen,arr,rfl,hh2,hn,hb,TA,Bt,J8,zC⟩:=hm;obtain⟨i,e,hi,Ys,hk,hv⟩:=zC k v rfl;have Nb:last=clk:=TA (fun q=>by rw[q]at Ys;simp at Ys);have hf:arr.find? (·.born == e.born)=some e:=by
   rw[<-Array.find?_toList];exact find_born e arr.toList (qaI hb) (by
    have:=Array.mem_of_getElem? hi;simpa using this)
  obtain⟨f1,f2⟩:=Bt i e hi;refine⟨.tuple #[e.key,e.val],?_,.Ab rfl fun i c u hc hu=>?_⟩
  ·have nV:(getObj l.block).run P g.w=.ok (.mapIter (some m) clk seen last) g.w:=abC
   have nW:(getObj m).run P g.w=.ok (.map arr clk) g.w:=by simp[Go.getObj,Sem.run,hh2]
   simp[execOp,ho,ex,Instr.entry,nV,nW,Ys,Nb,hf]
  match i,hc,hu with
  | 0,hc,hu =>
   simp at hc hu;subst hc;subst hu;rw[hk];exact .v (by rw[<-hk];exact f1)
  | 1,hc,hu =>
   simp at hc hu;subst hc;subst hu;rw[hv];exact .v (by rw[<-hv];exact f2)
  | i+2,hc,hu=>simp at hc
theorem qan(w:World)(ty:TypeId)(r bm clk last:Nat)(seen:Array Nat)(arr:Array MapEntry)(hr:w.heap[r]?=some (.mapIter (some bm) clk seen last))(hb:w.heap[bm]?=some (.map arr clk))(fo:P6 arr clk)(TA:seen≠#[]->last=clk) :
  ((arr.toList.filter fun e=>!seen.contains e.born)=[]∧(Instr.next (.pointer (some ⟨r,0,none⟩)) false ty).run P w=.ok (.tuple #[.bool false]) w) ∨
  ∃(l1 l2:List MapEntry) (e:MapEntry) (w1:World),(arr.toList.filter fun e=>!seen.contains e.born)=l1++e::l2∧w1.heap=w.heap∧w1.os=w.os∧w1.tape=w.tape∧w1.output=w.output ∧
   (Instr.next (.pointer (some ⟨r,0,none⟩)) false ty).run P w=.ok (.tuple #[.bool true,e.key,e.val]) { w1 with heap:=w.heap.setIfInBounds r (.mapIter (some bm) clk (seen.push e.born) clk) }:=by
 have hold:∀x∈arr.toList,x.born<clk:=fun x hx=>by
  obtain⟨i,hi⟩:=List.mem_iff_getElem?.1 hx;exact fo.2 i x T5
 have qm8:(!seen.isEmpty&&!arr.isEmpty&&arr.all (fun x=>decide (x.born ≥ last)))=false:=by
  by_cases hs:seen = #[]
  ·subst hs;simp
  rw[TA hs];exact next_test_false seen arr clk clk hold (B6 _)
 have nV:(getObj r).run P w=.ok (.mapIter (some bm) clk seen last) w:=by simp[Go.getObj,Sem.run,hr]
 have nW:(getObj bm).run P w=.ok (.map arr clk) w:=by simp[Go.getObj,Sem.run,hb]
 simp only[Instr.next,nV,nW,Sem.run_bind,Result.andThen_ok,qm8,JS,Gf];have hF:(Array.filter (fun e=>!seen.contains e.born) arr).toList=arr.toList.filter fun e=>!seen.contains e.born:=A6
 have ED:∀x∈(Array.filter (fun e=>!seen.contains e.born) arr).toList,x.born<clk:=fun x hx=>hold x (by simp at hx ⊢;exact hx.1);rw[<-hF];generalize Array.filter (fun e=>!seen.contains e.born) arr=L at ED ⊢;have e1:L.filter (fun x=>decide (x.born<clk))=L:=Array.filter_eq_self.2 (fun x hx=>by simpa using ED x jK);have e2:L.filter (fun x=>decide (x.born ≥ clk)) = #[]:=by
  rw[Array.filter_eq_empty_iff];intro x hx;have:=ED x jK;exact KM
 simp only[e1,e2,Array.append_empty];by_cases h0:L.size=0
 ·left;have:L = #[]:=Array.eq_empty_of_size_eq_zero h0;subst this;refine⟨rfl,?_⟩;simp[choose,Sem.run,Question.forced]
 right;have AT:L.isEmpty=false:=by simp[Array.isEmpty,h0]
 simp only[AT,JS,Gf,Array.empty_append,Array.size_map];have F5:∃(j:Nat) (w1:World),j<L.size∧w1.heap=w.heap∧w1.os=w.os∧w1.tape=w.tape∧w1.output=w.output∧(choose (Question.mapNext L.size)).run P w=.ok j w1:=by
  by_cases hf:L.size<=1
  ·exact⟨0,w,I,rfl,rfl,rfl,rfl,by simp[choose,Sem.run,Question.forced,hf]⟩
  exact⟨w.tape w.drawn (Question.mapNext L.size) % L.size,w.drew,dH _ I,rfl,rfl,rfl,rfl,by
   simp only[choose,Sem.run,Question.forced,Cp,hf,Gf,Question.cut];rfl⟩
 obtain⟨j,w1,hj,Ha,Qp,hw3,hw4,Aj⟩:=F5;have Fk:∀o',(setObj r o').run P w1=.ok () { w1 with heap:=w1.heap.setIfInBounds r o' }:=fun o'=>by
  simp[Go.setObj,Sem.run,Ha,hr]
 refine⟨L.toList.take j,L.toList.drop (j+1),L[j],w1,?_,Ha,Qp,hw3,hw4,?_⟩
 ·have h1:L.toList[j]?=some L[j]:=by simp[hj]
  have h2:L.toList.drop j=L[j]::L.toList.drop (j+1):=by
   rw[Zp QO];simp
  rw[<-h2,UP]
 simp only[Aj,UU,UO hj,FV,Sem.run_bind,Fk,Result.andThen_ok,Sem.run_pure,Ha]
structure Tag{α:Type}(a:α):Type where
def on{α:Type}(x:Option α)(f:α->Prop)(_t:Tag f:={}):Prop :=
 match x with
 | some y=>f y
 | none=>False
theorem mZ{α:Type}(y:α)(f:α->Prop)(t:Tag f):on (some y) f t=f y:=rfl
theorem Aw{α:Type}{x:Option α}{f:α->Prop}{t:Tag f}(h:on x f t):∃y,x=some y∧f y:=by
 cases x with
 | none=>exact h.elim
 | some y=>exact⟨y,rfl,h⟩
def Yx(p:Unit->Prop)(_t:Tag p:={}):Prop:=p ()
def At(σ:St)(f:St->Prop)(_t:Tag f:={}):Prop:=f σ
theorem Ga{f:St->Prop}{t:Tag f}(h:f σ):At σ f t:=h
def MS(b:Bool)(X Y:Unit->Prop)(_t:Tag X:={})(_t':Tag Y:={}):Prop:=if b then X ()else Y ()
theorem Nt(X Y:Unit->Prop)(t:Tag X)(t':Tag Y):MS true X Y t t'=X ():=rfl
theorem Np(X Y:Unit->Prop)(t:Tag X)(t':Tag Y):MS false X Y t t'=Y ():=rfl
theorem qdY{X Y:Unit->Prop}{t:Tag X}{t':Tag Y}(h:b=true->X ())(k:b=false->Y ()):MS b X Y t t':=by
 cases b
 ·exact k rfl
 exact h rfl
abbrev Fm:=A2->Mode->Prop
def isNil:Operand->Bool
 | .const (.slice none 0 0)=>true
 | _=>false
def bM(AD:Cn)(ty:TypeId)(x:Operand)(σ:St)(K:Fm):Prop :=
 match isNil x with
 | true=>on (AD ty) fun ti=>match ti.desc with
  | .slice e=>on (AD e) fun te=>K (.A3 te.size [] .ex) .pure
  | _=>False
 | false=>on (σ.ev x) fun y=>K y .pure
def nC(σ:St)(c x z:Operand)(K:Fm):Prop :=
 on (σ.ev c) fun
  | .v (.bool b)=>MS b (fun _=>on (σ.ev x) fun y=>K y .pure) (fun _=>on (σ.ev z) fun y=>K y .pure)
  | _=>False
def sJ(AD:Cn)(s:TypeId)(k:Nat)(x:A2)(K:Fm):Prop :=
 on (AD s) fun ti=>match ti.desc with
  | .struct fs=>on fs[k]? fun f=>on (AD f.2) fun tf=>tf.size≠0 ∧
   match x with
   | .ip oa cs=>K (.ip (oa.map (·.add f.1)) (cs.drop f.1)) .pure
   | .mp id off=>K (.mp id (off+f.1)) .pure
   | _=>False
  | _=>False
def mI(AD:Cn)(s:TypeId)(k:Nat)(x:A2)(K:Fm):Prop :=
 on (AD s) fun ti=>match ti.desc with
  | .struct fs=>on fs[k]? fun f=>on (AD f.2) fun tf=>match x with
   | .agg cs=>MS tf.desc.agg (fun _=>K (.agg ((cs.drop f.1).take tf.size)) .pure) (fun _=>on cs[f.1]? fun r=>K r .pure)
   | _=>False
  | _=>False
def nB(AD:Cn)(O:List A8)(t:TypeId)(x:A2)(K:Fm):Prop :=
 on (AD t) fun ti =>
  match x with
  | .ip _ cs=>MS ti.desc.agg (fun _=>ti.size<=cs.length∧K (.agg (cs.take ti.size)) .pure) (fun _=>on cs[0]? fun c=>K c .pure)
  | .mp id off=>on O[id]? fun
   | .cells os=>MS ti.desc.agg (fun _=>off+ti.size<=os.length∧K (.agg ((os.drop off).take ti.size)) (.rd id)) (fun _=>on os[off]? fun c=>K c (.rd id))
   | _=>False
  | _=>False
def mL(AD:Cn)(O:List A8)(t:TypeId)(x y:A2)(K:Fm):Prop :=
 on (AD t) fun ti =>
  match x with
  | .mp id off=>on O[id]? fun
   | .cells os=>y.flat∧y.cells.length=ti.size∧off+ti.size<=os.length∧K (.v (.bool false)) (.wr O.length [id] (O.set id (.cells (As os off y.cells))))
   | _=>False
  | _=>False
def sK(AD:Cn)(t:TypeId)(x i:A2)(K:Fm):Prop :=
 on (AD t) fun ti=>match ti.desc with
  | .slice e=>on (AD e) fun te =>
   match i with
   | .v (.int _ n) =>
    (match x with
    | .A3 sz xs ow=>te.size=sz∧0<=n∧on xs[n.toNat]? fun y=>K (.ip (Uy ow (n.toNat*te.size)) y.cells) .pure
    | .ms id off len _=>0<=n∧n<len∧K (.mp id (off+n.toNat*te.size)) .pure
    | .os id len _=>0<=n∧n<len∧K (.mp id (n.toNat*te.size)) .pure
    | _=>False)
   | _=>False
  | .array len e=>on (AD e) fun te =>
   match i with
   | .v (.int _ n) =>
    (match x with
    | .mp id off=>0<=n∧n<len∧K (.mp id (off+n.toNat*te.size)) .pure
    | .ip _ cs=>0<=n∧n<len∧K (.ip none (cs.drop (n.toNat*te.size))) .pure
    | _=>False)
   | _=>False
  | _=>False
def fC:BinOp->ByteArray->ByteArray->Option Bool
 | .eql,a,b=>some (decide (a=b))
 | .neq,a,b=>some (!decide (a=b))
 | _,_,_=>none
def eg:BinOp->Bool->Bool->Option Bool
 | .eql,a,b=>some (a == b)
 | .neq,a,b=>some (!(a == b))
 | _,_,_=>none
def fk(op:BinOp)(k:IntKind)(m n:Int)(K:Fm):Prop :=
 MS (RR op m n).isSome (fun _=>on (RR op m n) fun b=>K (.v (.bool b)) .pure) (fun _=>on (Mr k op m n) fun r=>SA k<=r∧r<=Ow k∧K (.v (.int k r)) .pure)
def Sl:BinOp->Bool->Option Bool
 | .eql,b=>some b
 | .neq,b=>some (!b)
 | _,_=>none
def ZH:A2->Option Bool
 | .v (.pointer none)=>some true
 | .ip _ _=>some false
 | .mp _ _=>some false
 | _=>none
theorem qen{x:A2}(h:ZH x=some b):(x=.v (.pointer none)∧b=true)∨(∃oa cs,x=.ip oa cs∧b=false)∨(∃id off,x=.mp id off∧b=false):=by
 unfold ZH at h;split at h
 ·exact .inl ⟨rfl,UZ⟩
 ·exact .inr (.inl ⟨_,_,rfl,UZ⟩)
 ·exact .inr (.inr ⟨_,_,rfl,UZ⟩)
 cases h
def y8(P:Program)(op:BinOp)(t:TypeId)(x:A2)(K:Fm):Prop :=
 (∃e,P.underlying t=some (.pointer e))∧on (ZH x) fun b=>on (Sl op b) fun r=>K (.v (.bool r)) .pure
def T9(P:Program)(op:BinOp)(t:TypeId)(x y:A2)(K:Fm):Prop :=
 match x,y with
 | .v (.int k m),.v (.int k' n)=>MS (Jd op) (fun _=>0<=n∧SA k<=Nw k op m n∧Nw k op m n<=Ow k∧K (.v (.int k (Nw k op m n))) .pure) (fun _=>k=k'∧fk op k m n K)
 | .v (.string a),.v (.string b)=>on (fC op a b) fun r=>K (.v (.bool r)) .pure
 | .v (.bool a),.v (.bool b)=>P.underlying t=some .bool∧on (eg op a b) fun r=>K (.v (.bool r)) .pure
 | x,.v (.pointer none)=>y8 P op t x K
 | .ip (some a) _,.ip (some b) _=>(∃e n,P.underlying t=some (.pointer e)∧(∀w,(sizeOf e).run P w=.ok n w)∧n≠0)∧a.block=b.block∧on (ed op a b) fun r=>K (.v (.bool r)) .pure
 | .agg [.v (.int k a0),.v (.int k1 a1)],.agg [.v (.int k2 b0),.v (.int k3 b1)]=>(k1=k∧k2=k∧k3=k∧fB P t k)∧on (Sl op (decide (a0=b0)&&decide (a1=b1))) fun r=>K (.v (.bool r)) .pure
 | _,_=>False
def TD.elem:TD->Option TypeId
 | .slice e=>some e
 | _=>none
theorem TD.cg{d:TD}(h:d.elem=some e):d=.slice e:=by
 cases d<;>simp[TD.elem]at h;rw[h]
def X4:A2->Option Bool
 | .v (.slice none 0 0)=>some true
 | .A3 _ _ .nn=>some false
 | .ms _ _ _ _=>some false
 | _=>none
def nq(AD:Cn)(op:BinOp)(t:TypeId)(x:A2)(K:Fm):Prop :=
 on (AD t) fun ti=>on ti.desc.elem fun _=>on (X4 x) fun b=>on (Sl op b) fun r=>K (.v (.bool r)) .pure
def cK(op:UnOp)(x:A2)(K:Fm):Prop :=
 match op,x with
 | .not,.v (.bool b)=>K (.v (.bool !b)) .pure
 | .neg,.v (.int k n)=>SA k<=-n∧-n<=Ow k∧K (.v (.int k (-n))) .pure
 | _,_=>False
def PX(σ:St)(p:Option Operand)(X1:Nat)(K:Nat->Prop):Prop :=
 match p with
 | none=>K X1
 | some q=>on (σ.ev q) fun
  | .v (.int _ n)=>0<=n∧K n.toNat
  | _=>False
def bj(sz:Nat)(xs:List A2)(o:Ec)(l h:Nat)(K:Fm):Prop :=
 match o with
 | .ex=>MS (decide (l=0)&&decide (h=xs.length)) (fun _=>K (.A3 sz xs .ex) .pure) (fun _=>K (.A3 sz ((xs.take h).drop l) .sh) .pure)
 | _=>K (.A3 sz ((xs.take h).drop l) .sh) .pure
variable {K:Fm}
theorem qdv{sz:Nat}{xs:List A2}{o:Ec}{l h:Nat}(k:bj sz xs o l h K):(o=.ex∧l=0∧h=xs.length∧K (.A3 sz xs .ex) .pure)∨K (.A3 sz ((xs.take h).drop l) .sh) .pure:=by
 unfold bj at k;split at k
 ·by_cases hf:(decide (l=0)&&decide (h=xs.length))=true
  ·rw[hf,Nt]at k;simp only[F0,Cp]at hf;exact .inl ⟨rfl,hf.1,hf.2,k⟩
  rw[show(decide (l=0)&&decide (h=xs.length))=false by simpa using hf,Np]at k;exact .inr k
 exact .inr k
def mK(AD:Cn)(σ:St)(t:TypeId)(x:A2)(lo hi mx:Option Operand)(K:Fm):Prop :=
 on (AD t) fun ti=>match ti.desc with
  | .slice e=>on (AD e) fun te =>
   match x,mx with
   | .A3 sz xs ow,none=>te.size=sz∧PX σ lo 0 fun l=>PX σ hi xs.length fun h=>l<=h∧h<=xs.length∧bj sz xs ow l h K
   | .ms id off len cap,none=>PX σ lo 0 fun l=>PX σ hi len fun h=>l<=h∧h<=cap∧l<cap∧h<=2 ^ 62∧K (.ms id (off+l*te.size) (h-l) (cap-l)) .pure
   | .raw sz len id,none=>0<len∧PX σ lo 0 fun l=>PX σ hi len fun h=>l=0∧h=0∧K (.A3 sz [] (.tok id)) .pure
   | .os id len sz,none=>PX σ lo 0 fun l=>PX σ hi len fun h=>l=0∧h<=len∧0<len∧K (.os id h sz) .pure
   | _,_=>False
  | _=>False
def Y4:List (Nat×A2)->Prop
 | []=>True
 | p::r=>p.2.flat∧Y4 r
def eV(n:Nat):List A2->Prop
 | []=>True
 | x::r=>x.cells.length=n∧eV n r
def mU(AD:Cn)(σ:St)(t:TypeId)(parts:Array (Nat×Operand))(K:Fm):Prop :=
 on (AD t) fun ti=>match ti.desc with
  | .struct fs=>on (UD AD fs) fun pl=>on (σ.K4 parts.toList) fun ps=>Y4 ps∧on (JH (fun i=>pl[i]?) ti.zero ps) fun cs=>K (.agg cs) .pure
  | .array _ e=>on (AD e) fun te=>on (σ.K4 parts.toList) fun ps=>Y4 ps∧on (JH (fun i=>some (i*te.size,te.size)) ti.zero ps) fun cs=>K (.agg cs) .pure
  | _=>False
def s8(AD:Cn)(σ:St)(t:TypeId)(len:Nat)(parts:Array (Nat×Operand))(K:Fm):Prop :=
 on (AD t) fun ti=>match ti.desc with
  | .slice e=>on (AD e) fun te=>on (σ.K4 parts.toList) fun ps=>Y4 ps∧on (Q4 0 ps) fun xs=>0<te.size∧xs.length=len∧eV te.size xs∧len*te.size<=2 ^ 24∧K (.A3 te.size (xs.map A2.share) .ex) .pure
  | _=>False
structure Md where
 app:Bool
 made:Bool
def sL(mk:Bool)(AD:Cn)(O:List A8)(t:TypeId)(x y:A2)(K:Fm):Prop :=
 on (AD t) fun ti=>match ti.desc with
  | .slice e=>on (AD e) fun te =>
   match x,y with
   | .v (.int _ n),.v (.int _ n')=>n'=n∧0<=n∧te.bytes*n.toNat<=2 ^ 48∧n.toNat<=2 ^ 62∧0<te.size ∧
     MS mk (fun _=>(te.desc.agg=true∨te.size=1)∧K (.A3 te.size (List.replicate n.toNat (zeroOf te).share) .ex) .pure)
      (fun _=>K (.ms O.length 0 n.toNat n.toNat) (.wr O.length [] (O++[.cells (List.replicate n.toNat te.zero).flatten])))
   | _,_=>False
  | _=>False
def X3(P:Program)(k:TypeId):Option KT :=
 match P.underlying k with
 | some .string=>some .str
 | some (.int k)=>some (.int k)
 | _=>none
def lu(P:Program)(AD:Cn)(O:List A8)(t:TypeId)(x y:A2)(ok:Bool)(K:Fm):Prop :=
 on (AD t) fun ti=>match ti.desc with
  | .map k e=>on (X3 P k) fun kt=>on (AD e) fun te=>(te.desc.agg=true∨te.size=1) ∧
   match y with
   | .v key=>kt.ok key ∧
    (match x with
    | .im kt' es=>kt'=kt∧K (W9 ok (HC es key) (zeroOf te)) .pure
    | .mm id=>on O[id]? fun
     | .map kt' es=>kt'=kt∧K (W9 ok (HC es key) (zeroOf te)) (.rd id)
     | _=>False
    | .v (.map none)=>K (W9 ok none (zeroOf te)) .pure
    | _=>False)
   | _=>False
  | _=>False
def cX(P:Program)(AD:Cn)(O:List A8)(t:TypeId)(x y v:A2)(K:Fm):Prop :=
 on (AD t) fun ti=>match ti.desc with
  | .map k _=>on (X3 P k) fun kt =>
   match x,y with
   | .mm id,.v key=>kt.ok key∧on O[id]? fun
    | .map kt' es=>kt'=kt∧K (.v (.bool false)) (.wr O.length [id] (O.set id (.map kt (Fa es key v))))
    | _=>False
   | _,_=>False
  | _=>False
def tT(P:Program)(AD:Cn)(O:List A8)(t:TypeId)(K:Fm):Prop :=
 on (AD t) fun ti=>match ti.desc with
  | .map k _=>on (X3 P k) fun kt=>K (.mm O.length) (.wr O.length [] (O++[.map kt []]))
  | _=>False
def NN:A2->Option Nat
 | .A3 _ xs _=>some xs.length
 | .ms _ _ len _=>some len
 | .os _ len _=>some len
 | _=>none
def nk(AD:Cn)(t:TypeId)(x:A2)(K:Fm):Prop :=
 on (AD t) fun ti=>on ti.desc.elem fun _=>on (NN x) fun n=>K (.v (.int .i64 n)) .pure
theorem qf0{x:A2}{n:Nat}(h:NN x=some n):(∃sz xs ow,x=.A3 sz xs ow∧n=xs.length)∨(∃id off cap,x=.ms id off n cap)∨∃id sz,x=.os id n sz:=by
 cases x<;>simp[NN]at h
 ·exact .inl ⟨_,_,_,rfl,h.symm⟩
 ·subst h;exact .inr (.inl ⟨_,_,_,rfl⟩)
 subst h;exact .inr (.inr ⟨_,_,rfl⟩)
def lr(P:Program)(mk:Bool)(md:Bool)(AD:Cn)(O:List A8)(t t':TypeId)(x y:A2)(K:Fm):Prop :=
 on (AD t) fun ti=>on ti.desc.elem fun e=>on (AD e) fun te =>
   match x,y with
   | .A3 sz xs .ex,.A3 sz' ys _=>t'=t∧te.size=sz∧sz'=sz∧xs.length+ys.length<=2 ^ 62∧(xs.length+ys.length)*te.bytes<=2 ^ 47 ∧
     MS md (fun _=>ys.length≠0∧MS mk (fun _=>K (.os O.length (xs.length+ys.length) sz) (.wr O.length [] (O++[.cells (AP (xs++ys.map A2.share))])))
       (fun _=>K (.ms O.length 0 (xs.length+ys.length) (xs.length+ys.length)) (.wr O.length [] (O++[.cells (AP (xs++ys.map A2.share))]))))
      (fun _=>K (.A3 sz (xs++ys.map A2.share) (.tok O.length)) (.wr O.length [] (O++[.spare (xs.length+ys.length)])))
   | .A3 sz xs (.tok id),.A3 sz' ys _=>t'=t∧te.size=sz∧sz'=sz∧O[id]?=some (.spare xs.length)∧xs.length+ys.length<=2 ^ 62∧(xs.length+ys.length)*te.bytes<=2 ^ 47 ∧
     K (.A3 sz (xs++ys.map A2.share) (.tok id)) (.wr O.length [id] (O.set id (.spare (xs.length+ys.length))))
   | .A3 _ xs .ex,.v (.int k n)=>xs=[]∧k=.i64∧P.underlying t'=some (.int .i64)∧0<n∧n.toNat<=2 ^ 62∧n.toNat*te.bytes<=2 ^ 47∧0<te.size ∧
     MS md (fun _=>K (.raw te.size n.toNat O.length) (.wr O.length [] (O++[.spare 0])))
      (fun _=>K (.ms O.length 0 n.toNat n.toNat) (.wr O.length [] (O++[.cells (List.replicate n.toNat te.zero).flatten])))
   | .ms id off len cap,.A3 sz ys _=>t'=t∧te.size=sz∧on O[id]? fun
    | .cells cs=>len+ys.length<=cap∧len+ys.length<=2 ^ 62∧off+(len+ys.length)*sz<=cs.length ∧
     K (.ms id off (len+ys.length) cap) (.wr O.length [id] (O.set id (.cells (As cs (off+len*sz) (AP (ys.map A2.share))))))
    | _=>False
   | .os id len sz,.A3 sz' ys _=>t'=t∧te.size=sz∧sz'=sz∧on O[id]? fun
    | .cells cs=>len*sz<=cs.length∧ys.length≠0∧len+ys.length<=2 ^ 62∧(len+ys.length)*te.bytes<=2 ^ 47 ∧
     K (.os O.length (len+ys.length) sz) (.wr O.length [id] (O.set id .gone++[.cells (cs.take (len*sz)++AP (ys.map A2.share))]))
    | _=>False
   | _,_=>False
def bt:A2->Option Nat
 | .A3 _ xs .ex=>some xs.length
 | _=>none
theorem qeI{x:A2}{n:Nat}(h:bt x=some n):∃sz xs,x=.A3 sz xs .ex∧n=xs.length:=by
 unfold bt at h;split at h
 ·exact⟨_,_,rfl,UZ⟩
 cases h
def nh(AD:Cn)(t:TypeId)(x:A2)(K:Fm):Prop :=
 on (AD t) fun ti=>on ti.desc.elem fun _=>on (bt x) fun n=>K (.v (.int .i64 n)) .pure
def mG(AD:Cn)(O:List A8)(t:TypeId)(x:A2)(K:Fm):Prop :=
 on (AD t) fun ti=>on ti.desc.elem fun e=>on (AD e) fun te=>match x with
  | .ms id off len _=>on O[id]? fun
   | .cells cs=>0<len∧0<te.size∧off+len*te.size<=cs.length∧K (.Ab []) (.wr O.length [id] (O.set id (.cells (As cs off (List.replicate len te.zero).flatten))))
   | _=>False
  | _=>False
def nr(x y:A2)(K:Fm):Prop :=
 match x,y with
 | .v (.int .i64 m),.v (.int .i64 n)=>K (.v (.int .i64 (max m n))) .pure
 | _,_=>False
def nm(x y:A2)(K:Fm):Prop :=
 match x,y with
 | .v (.int .i64 m),.v (.int .i64 n)=>K (.v (.int .i64 (min m n))) .pure
 | _,_=>False
variable {m:Int}
theorem qfi{HI:Array TypeId}{n:Int}
  (ho:o.op=.call ⟨.builtin .max,#[x,y],HI⟩) (hd:∀d,o.dst=some d->d<σ.n) (hx:σ.ev x=some (.v (.int .i64 m))) (hy:σ.ev y=some (.v (.int .i64 n))):Cert P o σ (.v (.int .i64 (max m n))) .pure :=
 Cert.EL .pure (.inl rfl) hd fun a g _ h _=>by
  obtain⟨ex,fx⟩:=(h x Gh _ hx).D0;obtain⟨ey,fy⟩:=(h y Gh _ hy).D0;refine⟨.int .i64 (max m n),?_,.v ?_⟩
  ·rw[Lw ho];have e:(if n > m then n else m)=max m n:=by
    split<;>omega
   simp[builtin,Builtin.max_,Builtin.max2,ex,ey,e]
  rcases Int.le_total m n with q|q
  ·rw[Int.max_eq_right q];exact fy
  rw[Int.max_eq_left q];exact fx
theorem qgB{HI:Array TypeId}{n:Int}
  (ho:o.op=.call ⟨.builtin .min,#[x,y],HI⟩) (hd:∀d,o.dst=some d->d<σ.n) (hx:σ.ev x=some (.v (.int .i64 m))) (hy:σ.ev y=some (.v (.int .i64 n))):Cert P o σ (.v (.int .i64 (min m n))) .pure :=
 Cert.EL .pure (.inl rfl) hd fun a g _ h _=>by
  obtain⟨ex,fx⟩:=(h x Gh _ hx).D0;obtain⟨ey,fy⟩:=(h y Gh _ hy).D0;refine⟨.int .i64 (min m n),?_,.v ?_⟩
  ·rw[Lw ho];have e:(if n<m then n else m)=min m n:=by
    split<;>omega
   simp[builtin,Builtin.min_,Builtin.min2,ex,ey,e]
  rcases Int.le_total m n with q|q
  ·rw[Int.min_eq_left q];exact fx
  rw[Int.min_eq_right q];exact fy
def fU(P:Program)(O:List A8)(f:A2)(BI:List A2)(K:Fm):Prop :=
 match f with
 | .fn (.func id) fs cs =>
  (∃r,BR P id ((fs++BI++cs).map A2.share) r∧AQ 0 ((fs++BI++cs).map A2.share)∧Yx fun _=>K r .pure) ∨
  (∃r O',(Aq P id O (fs++BI++cs) fun r' O1=>r'=r∧O1=O')∧((Yx fun _=>K r (.write O'))∨∃n l,(∀i,i<n->i ∉ l->O'[i]?=O[i]?)∧Yx fun _=>K r (.wr n l O'))) ∨
  (∃r,(Aq P id O (fs++BI++cs) fun r' O1=>r'=r∧O1=O)∧Yx fun _=>K r .read)
 | _=>False
def M3(P:Program)(AD:Cn)(md:Md)(dst:Option Nat)(σ:St)(callee:Callee)(args:List Operand)(HI:List TypeId)(K:Fm):Prop :=
 match callee with
 | .value f=>on (σ.ev f) fun f=>on (σ.LB args) fun BI=>fU P σ.objs f BI K
 | .builtin .len =>
  (match args,HI with
  | [x],[t]=>on (σ.ev x) fun x=>nk AD t x K
  | _,_=>False)
 | .builtin .append =>
  (match args,HI with
  | [x,y],[t,t']=>on (σ.ev x) fun x=>on (σ.ev y) fun y=>lr P md.made md.app AD σ.objs t t' x y K
  | _,_=>False)
 | .builtin .cap =>
  (match args,HI with
  | [x],[t]=>on (σ.ev x) fun x=>nh AD t x K
  | _,_=>False)
 | .builtin .clear =>
  (match args,HI with
  | [x],[t]=>dst=none∧on (σ.ev x) fun x=>mG AD σ.objs t x K
  | _,_=>False)
 | .builtin .max =>
  (match args with
  | [x,y]=>on (σ.ev x) fun x=>on (σ.ev y) fun y=>nr x y K
  | _=>False)
 | .builtin .min =>
  (match args with
  | [x,y]=>on (σ.ev x) fun x=>on (σ.ev y) fun y=>nm x y K
  | _=>False)
 | _=>False
def cY(y:A2)(K:Fm):Prop :=
 match y with
 | .mp id off=>K (.mp id off) .pure
 | .ip oa cs=>K (.ip oa cs) .pure
 | _=>False
def gB:A2->Option (List (Value×A2))
 | .im _ es=>some es
 | _=>none
theorem qdz{x:A2}(h:gB x=some es):∃kt,x=.im kt es:=by
 unfold gB at h;split at h
 ·simp only[AM]at h;subst h;exact⟨_,rfl⟩
 cases h
def TD.maps:TD->Option (TypeId×TypeId)
 | .map k e=>some (k,e)
 | _=>none
theorem TD.qf6{d:TD}{p:TypeId×TypeId}(h:d.maps=some p):d=.map p.1 p.2:=by
 unfold TD.maps at h;split at h
 ·simp only[AM]at h;subst h;rfl
 cases h
def mJ(AD:Cn)(O:List A8)(t:TypeId)(x:A2)(K:Fm):Prop :=
 on (AD t) fun ti=>on ti.desc.maps fun _=>on (gB x) fun es=>(∀p∈es,Mu p.1∧∃y,p.2=.v y)∧K (.mp O.length 0) (.wr O.length [] (O++[.map (.iter none) es]))
def lO:A8->Option (Value×Value)
 | .map (.iter c) _=>c
 | _=>none
theorem qat{o:A8}{c:Value×Value}(h:lO o=some c):∃es,o=.map (.iter (some c)) es:=by
 unfold lO at h;split at h
 ·subst h;exact⟨_,rfl⟩
 cases h
def gD:A2->Option Nat
 | .mp id 0=>some id
 | _=>none
theorem qe0{x:A2}(h:gD x=some id):x=.mp id 0:=by
 unfold gD at h;split at h
 ·simp only[AM]at h;rw[h]
 cases h
def mH(O:List A8)(x:A2)(K:Fm):Prop:=on (gD x) fun id=>on O[id]? fun ob=>on (lO ob) fun c=>K (.Ab [.v c.1,.v c.2]) (.rd id)
def cJ(P:Program)(AD:Cn)(md:Md)(o:Oper)(σ:St)(K:Fm):Prop :=
 match o.op with
 | .move x=>bM AD o.type x σ K
 | .assign x=>bM AD o.type x σ K
 | .pick c x z=>nC σ c x z K
 | .fieldAddr s x k=>on (σ.ev x) fun x=>sJ AD s k x K
 | .field s x k=>on (σ.ev x) fun x=>mI AD s k x K
 | .load t x=>on (σ.ev x) fun x=>nB AD σ.objs t x K
 | .store t x y=>o.dst=none∧on (σ.ev x) fun x=>on (σ.ev y) fun y=>mL AD σ.objs t x y K
 | .indexAddr t x i=>on (σ.ev x) fun x=>on (σ.ev i) fun i=>sK AD t x i K
 | .binOp op t x y _=>MS (isNil y) (fun _=>on (σ.ev x) fun x=>nq AD op t x K) (fun _=>on (σ.ev x) fun x=>on (σ.ev y) fun y=>T9 P op t x y K)
 | .unOp op _ x=>on (σ.ev x) fun x=>cK op x K
 | .slice t x lo hi mx=>on (σ.ev x) fun x=>mK AD σ t x lo hi mx K
 | .build t parts=>mU AD σ t parts K
 | .buildSlice t len parts=>s8 AD σ t len parts K
 | .alloc t=>on (AD t) fun ti=>K (.mp σ.objs.length 0) (.wr σ.objs.length [] (σ.objs++[.cells ti.zero]))
 | .box _ x=>on (σ.ev x) fun y=>y.flat∧K (.mp σ.objs.length 0) (.wr σ.objs.length [] (σ.objs++[.cells y.cells]))
 | .makeMap t none=>tT P AD σ.objs t K
 | .makeSlice t x y=>on (σ.ev x) fun x=>on (σ.ev y) fun y=>sL md.made AD σ.objs t x y K
 | .makeFunc f first captured=>on (σ.LB first.toList) fun fs=>on (σ.LB captured.toList) fun cs=>K (.fn f fs cs) .pure
 | .lookup t x y ok=>on (σ.ev x) fun x=>on (σ.ev y) fun y=>lu P AD σ.objs t x y ok K
 | .mapUpdate t x y v=>o.dst=none∧on (σ.ev x) fun x=>on (σ.ev y) fun y=>on (σ.ev v) fun v=>cX P AD σ.objs t x y v K
 | .insert t x y v=>o.dst=none∧on (σ.ev x) fun x=>on (σ.ev y) fun y=>on (σ.ev v) fun v=>cX P AD σ.objs t x y v K
 | .extract x k=>on (σ.ev x) fun
  | .Ab cs=>on cs[k]? fun r=>K r .pure
  | _=>False
 | .call c=>M3 P AD md o.dst σ c.callee c.args.toList c.argTypes.toList K
 | .nilCheck x=>on (σ.ev x) fun y=>cY y K
 | .range t x=>on (σ.ev x) fun x=>mJ AD σ.objs t x K
 | .entry x=>on (σ.ev x) fun x=>mH σ.objs x K
 | _=>False
variable {O:List A8}
theorem Sb{X:List A8}:∀i,i<O.length->i ∉ ([]:List Nat)->(O++X)[i]?=O[i]?:=fun _ hi _=>EV hi
theorem Xz{x:A8}:∀i,i<O.length->i ∉ [id]->(O.set id x)[i]?=O[i]?:=fun i _ hl=>Ap (fun e=>hl da)
theorem qew{x y:A8}:∀i,i<O.length->i ∉ [id]->(O.set id x++[y])[i]?=O[i]?:=fun i hi hl=>by
 rw[EV T5];exact Ap (fun e=>hl da)
theorem qdH(hn:isNil x=true):x=.const (.slice none 0 0):=by
 unfold isNil at hn;split at hn
 ·rfl
 cases hn
theorem qec{y:A2}(h:X4 y=some b):(y=.v (.slice none 0 0)∧b=true)∨(∃sz xs,y=.A3 sz xs .nn∧b=false)∨(∃id off len cap,y=.ms id off len cap∧b=false):=by
 unfold X4 at h;split at h
 ·exact .inl ⟨rfl,UZ⟩
 ·exact .inr (.inl ⟨_,_,rfl,UZ⟩)
 ·exact .inr (.inr ⟨_,_,_,_,rfl,UZ⟩)
 cases h
theorem po{op:BinOp}(h:Sl op b=some r):(op=.eql∧r=b)∨(op=.neq∧r=!b):=by
 unfold Sl at h;split at h
 ·exact .inl ⟨rfl,UZ⟩
 ·exact .inr ⟨rfl,UZ⟩
 cases h
theorem aeb{AD:Cn}(ho:o.op=.move x∨o.op=.assign x)(hd:∀d,o.dst=some d->d<σ.n)(h:bM AD o.type x σ K):∃r m,Cert P o σ r m∧K r m:=by
 unfold bM at h;cases hn:isNil x with
 | true =>
  have hx:x=.const (.slice none 0 0):=by
   unfold isNil at hn;split at hn
   ·rfl
   cases hn
  subst hx;simp only[hn]at h;obtain⟨ti,_,h⟩:=Aw h;split at h
  ·obtain⟨te,_,h⟩:=Aw h;exact⟨_,_,qgD te.size ho hd,h⟩
  exact DV
 | false =>
  simp only[hn]at h;obtain⟨y,hy,h⟩:=Aw h;exact⟨_,_,qeM ho hd hy,h⟩
theorem ko{k:TypeId}{kt:KT}(h:X3 P k=some kt):∃d,P.underlying k=some d∧kt.desc d:=by
 unfold X3 at h;split at h
 ·simp only[AM]at h;subst h;exact⟨_,I8,rfl⟩
 ·simp only[AM]at h;subst h;exact⟨_,I8,rfl⟩
 cases h
theorem gn:∀{l:List (Nat×A2)},Y4 l->∀p∈l,p.2.flat
 | [],_,p,hp=>by cases hp
 | q::r,h,p,hp=>by
  rcases List.mem_cons.1 hp with e|e
  ·subst e;exact h.1
  exact gn h.2 p e
theorem adg{n:Nat}:∀{l:List A2},eV n l->∀x∈l,x.cells.length=n
 | [],_,p,hp=>by cases hp
 | q::r,h,p,hp=>by
  rcases List.mem_cons.1 hp with e|e
  ·subst e;exact h.1
  exact adg h.2 p e
theorem W4{p:Option Operand}{X1:Nat}{K:Nat->Prop}(h:PX σ p X1 K):∃n,Rs σ p X1 n∧K n:=by
 unfold PX at h;split at h
 ·exact⟨X1,.inl ⟨rfl,rfl⟩,h⟩
 rename_i q;obtain⟨y,hy,h⟩:=Aw h;split at h
 ·rename_i k n;obtain⟨h1,h2⟩:=h;exact⟨n.toNat,.inr ⟨q,k,rfl,by rw[Int.toNat_of_nonneg h1];exact hy⟩,h2⟩
 exact DV
theorem qcD{op:BinOp}{k:IntKind}{n:Int}(ho:o.op=.binOp op t x y t')(hd:∀d,o.dst=some d->d<σ.n)(hx:σ.ev x=some (.v (.int k m)))(hy:σ.ev y=some (.v (.int k n)))
  (h:fk op k m n K):∃r m,Cert P o σ r m∧K r m:=by
 unfold fk at h;cases oC:RR op m n with
 | some b =>
  simp only[oC,pE,Nt,mZ]at h;exact⟨_,_,qbY ho hd hx hy oC,h⟩
 | none =>
  simp only[oC,pQ,Np]at h;obtain⟨r,hr,h1,h2,h⟩:=Aw h;rw[fI]at h1;rw[fL]at h2;exact⟨_,_,qaV ho hd hx hy hr h1 h2,h⟩
theorem uG{AD:Cn}{md:Md}(hT:CH P AD){o:Oper}{σ:St}{K:Fm}(hd:∀d,o.dst=some d->d<σ.n)(h:cJ P AD md o σ K):∃r m,Cert P o σ r m∧K r m:=by
 unfold cJ at h;split at h
 case h_1 x ho=>exact aeb (.inl ho) hd h
 case h_2 x ho=>exact aeb (.inr ho) hd h
 case h_3 c x z ho =>
  unfold nC at h;obtain⟨y,hy,h⟩:=Aw h;split at h
  ·rename_i b;cases b
   ·rw[Np]at h;obtain⟨r,hr,h⟩:=Aw h;exact⟨_,_,uL ho hd hy A6 (fun _=>hr),h⟩
   rw[Nt]at h;obtain⟨r,hr,h⟩:=Aw h;exact⟨_,_,uL ho hd hy (fun _=>hr) A6,h⟩
  exact DV
 case h_4 s x k ho =>
  obtain⟨y,hy,h⟩:=Aw h;unfold sJ at h;obtain⟨ti,ht,h⟩:=Aw h;split at h
  ·rename_i fs Ah;obtain⟨f,hf,h⟩:=Aw h;obtain⟨tf,htf,hz,h⟩:=Aw h;split at h
   ·exact⟨_,_,qnc hT ho hd ht Ah hf htf hz hy,h⟩
   ·exact⟨_,_,qnZ hT ho hd ht Ah hf htf hz hy,h⟩
   exact DV
  exact DV
 case h_5 s x k ho =>
  obtain⟨y,hy,h⟩:=Aw h;unfold mI at h;obtain⟨ti,ht,h⟩:=Aw h;split at h
  ·rename_i fs Ah;obtain⟨f,hf,h⟩:=Aw h;obtain⟨tf,htf,h⟩:=Aw h;split at h
   ·cases EO:tf.desc.agg with
    | true =>
     simp only[EO,Nt]at h;exact⟨_,_,CC hT ho hd ht Ah hf htf hy (by rw[A9 EO]),h⟩
    | false =>
     simp only[EO,Np]at h;obtain⟨r,hr,h⟩:=Aw h;exact⟨_,_,CC hT ho hd ht Ah hf htf hy (by rw[A4 (by simp[EO])];exact hr),h⟩
   exact DV
  exact DV
 case h_6 t x ho =>
  obtain⟨y,hy,h⟩:=Aw h;unfold nB at h;obtain⟨ti,ht,h⟩:=Aw h;split at h
  ·cases EO:ti.desc.agg with
   | true =>
    simp only[EO,Nt]at h;exact⟨_,_,qaz hT ho hd ht hy EO h.1,h.2⟩
   | false =>
    simp only[EO,Np]at h;obtain⟨c,hc,h⟩:=Aw h;exact⟨_,_,qaZ hT ho hd ht hy EO hc,h⟩
  ·obtain⟨os,hos,h⟩:=Aw h;split at h
   ·cases EO:ti.desc.agg with
    | true =>
     simp only[EO,Nt]at h;exact⟨_,_,qb0 hT ho hd ht hy hos EO h.1,h.2⟩
    | false =>
     simp only[EO,Np]at h;obtain⟨c,hc,h⟩:=Aw h;exact⟨_,_,qaa hT ho hd ht hy hos EO hc,h⟩
   exact DV
  exact DV
 case h_7 t x y ho =>
  obtain⟨IS,h⟩:=h;obtain⟨x',hx,h⟩:=Aw h;obtain⟨y',hy,h⟩:=Aw h;unfold mL at h;obtain⟨ti,ht,h⟩:=Aw h;split at h
  ·obtain⟨os,hos,h⟩:=Aw h;split at h
   ·obtain⟨h1,h2,h3,h⟩:=h;exact⟨_,_,(qci hT ho IS ht hx hos hy h1 h2 h3).close Xz,h⟩
   exact DV
  exact DV
 case h_8 t x i ho =>
  obtain⟨x',hx,h⟩:=Aw h;obtain⟨i',hi,h⟩:=Aw h;unfold sK at h;obtain⟨ti,ht,h⟩:=Aw h;split at h
  ·rename_i e Ah;obtain⟨te,he,h⟩:=Aw h;split at h
   ·split at h
    ·obtain⟨h1,h2,h⟩:=h;obtain⟨y,h3,h⟩:=Aw h;exact⟨_,_,qnY hT ho hd ht Ah he h1 hx hi h2 h3,h⟩
    ·obtain⟨h1,h2,h⟩:=h;exact⟨_,_,qna hT ho hd ht Ah he hx hi h1 h2,h⟩
    ·obtain⟨h1,h2,h⟩:=h;exact⟨_,_,qnd hT ho hd ht Ah he hx hi h1 h2,h⟩
    exact DV
   exact DV
  ·rename_i len e Ah;obtain⟨te,he,h⟩:=Aw h;split at h
   ·split at h
    ·obtain⟨h1,h2,h⟩:=h;exact⟨_,_,qnX hT ho hd ht Ah he hx hi h1 h2,h⟩
    ·obtain⟨h1,h2,h⟩:=h;exact⟨_,_,qn8 hT ho hd ht Ah he hx hi h1 h2,h⟩
    exact DV
   exact DV
  exact DV
 case h_9 op t x y t' ho =>
  cases hn:isNil y with
  | true =>
   simp only[hn,Nt]at h;have hy:=qdH hn;subst hy;obtain⟨x',hx,h⟩:=Aw h;unfold nq at h;obtain⟨ti,ht,h⟩:=Aw h;obtain⟨e,Ah,h⟩:=Aw h;obtain⟨b,hb,h⟩:=Aw h;obtain⟨r,hr,h⟩:=Aw h;exact⟨_,_,qbc hT ho hd ht (TD.cg Ah) hx (qec hb) (po hr),h⟩
  | false =>
  simp only[hn,Np]at h;obtain⟨x',hx,h⟩:=Aw h;obtain⟨y',hy,h⟩:=Aw h;unfold T9 at h;split at h
  ·cases hs:Jd op with
   | true =>
    simp only[hs,Nt]at h;obtain⟨h0,h1,h2,h⟩:=h;rw[fI]at h1;rw[fL]at h2;exact⟨_,_,qad ho hd hx hy hs h0 h1 h2,h⟩
   | false =>
    simp only[hs,Np]at h;obtain⟨hk,h⟩:=h;subst hk;exact qcD ho hd hx hy h
  ·obtain⟨r,hr,h⟩:=Aw h;refine⟨_,_,qaY ho hd hx hy ?_,h⟩;cases op<;>simp[fC]at hr<;>simp[hr]
  ·obtain⟨hb,h⟩:=h;obtain⟨r,hr,h⟩:=Aw h;refine⟨_,_,qba ho hd hb hx hy ?_,h⟩;cases op<;>simp[eg]at hr<;>simp[hr]
  ·obtain⟨⟨e,he⟩,h⟩:=h;obtain⟨b,hb,h⟩:=Aw h;obtain⟨r,hr,h⟩:=Aw h;exact⟨_,_,qaX ho hd he hx hy (qen hb) (po hr),h⟩
  ·obtain⟨⟨e,n,he,hn,Il⟩,R7,h⟩:=h;obtain⟨r,hr,h⟩:=Aw h;exact⟨_,_,qbZ ho hd he hn Il hx hy R7 hr,h⟩
  ·obtain⟨⟨k1,k2,k3,hP⟩,h9⟩:=h;obtain⟨r,hr,h8⟩:=Aw h9;subst k1;subst k2;subst k3;exact⟨_,_,qbb ho hd hP hx hy (po hr),h8⟩
  exact DV
 case h_10 op t x ho =>
  obtain⟨x',hx,h⟩:=Aw h;unfold cK at h;split at h
  ·exact⟨_,_,qgE ho hd hx,h⟩
  ·obtain⟨h1,h2,h⟩:=h;rw[fI]at h1;rw[fL]at h2;exact⟨_,_,qgC ho hd hx h1 h2,h⟩
  exact DV
 case h_11 t x lo hi mx ho =>
  obtain⟨x',hx,h⟩:=Aw h;unfold mK at h;obtain⟨ti,ht,h⟩:=Aw h;split at h
  ·rename_i e Ah;obtain⟨te,he,h⟩:=Aw h;split at h
   ·obtain⟨h1,h⟩:=h;obtain⟨l,hl,h⟩:=W4 h;obtain⟨hh,GI,h2,h3,h⟩:=W4 h;rcases qdv h with⟨e1,e2,e3,hq⟩|hq
    ·subst e1;subst e2;subst e3;exact⟨_,_,qnn hT ho hd ht Ah he hx hl GI,hq⟩
    exact⟨_,_,qch hT ho hd ht Ah he h1 hx hl GI h2 h3,hq⟩
   ·obtain⟨l,hl,h⟩:=W4 h;obtain⟨hh,GI,h2,h3,h4,h5,h⟩:=W4 h;exact⟨_,_,qae hT ho hd ht Ah he hx hl GI h2 h3 h4 h5,h⟩
   ·obtain⟨h1,h⟩:=h;obtain⟨l,hl,hq⟩:=W4 h;obtain⟨hh,GI,h2,h3,hz⟩:=W4 hq;subst h2;subst h3;exact⟨_,_,qnr hT ho hd ht Ah he hx hl GI h1,hz⟩
   ·obtain⟨l,hl,hq⟩:=W4 h;obtain⟨hh,GI,h2,h3,h4,hz⟩:=W4 hq;subst h2;exact⟨_,_,qaQ hT ho hd ht Ah he hx hl GI h3 h4,hz⟩
   exact DV
  exact DV
 case h_12 t parts ho =>
  unfold mU at h;obtain⟨ti,ht,h⟩:=Aw h;split at h
  ·rename_i fs Ah;obtain⟨pl,IH,h⟩:=Aw h;obtain⟨ps,GS,Bt,h⟩:=Aw h;obtain⟨cs,BQ,h⟩:=Aw h;exact⟨_,_,qcc hT ho hd ht Ah IH GS (gn Bt) BQ,h⟩
  ·rename_i n e Ah;obtain⟨te,he,h⟩:=Aw h;obtain⟨ps,GS,Bt,h⟩:=Aw h;obtain⟨cs,BQ,h⟩:=Aw h;exact⟨_,_,qny hT ho hd ht Ah he GS (gn Bt) BQ,h⟩
  exact DV
 case h_13 t len parts ho =>
  unfold s8 at h;obtain⟨ti,ht,h⟩:=Aw h;split at h
  ·rename_i e Ah;obtain⟨te,he,h⟩:=Aw h;obtain⟨ps,GS,Bt,h⟩:=Aw h;obtain⟨xs,II,h1,h2,h3,h4,h⟩:=Aw h;exact⟨_,_,qnk hT ho hd ht Ah he h1 GS (gn Bt) II h2 (adg h3) h4,h⟩
  exact DV
 case h_14 t ho =>
  obtain⟨ti,ht,h⟩:=Aw h;exact⟨_,_,(qcb hT ho hd ht).close Sb,h⟩
 case h_15 t x ho =>
  obtain⟨y,hy,hf,h⟩:=Aw h;exact⟨_,_,(qg9 ho hd hy hf).close Sb,h⟩
 case h_16 t ho =>
  unfold tT at h;obtain⟨ti,ht,h⟩:=Aw h;split at h
  ·obtain⟨kt,Ik,h⟩:=Aw h;exact⟨_,_,(qb1 kt (KT.iF (ko Ik).choose_spec.2) ho hd).close Sb,h⟩
  exact DV
 case h_17 t x y ho =>
  obtain⟨x',hx,h⟩:=Aw h;obtain⟨y',hy,h⟩:=Aw h;unfold sL at h;obtain⟨ti,ht,h⟩:=Aw h;split at h
  ·rename_i e Ah;obtain⟨te,he,h⟩:=Aw h;split at h
   ·obtain⟨e1,h1,h2,h3,h4,hq⟩:=h;subst e1;by_cases XL:md.made=true
    ·rw[XL,Nt]at hq;exact⟨_,_,qnm hT ho hd ht Ah he hx hy h1 h2 h3 h4 hq.1,hq.2⟩
    rw[show md.made=false by simpa using XL,Np]at hq;exact⟨_,_,(A1 hT ho hd ht Ah he hx hy h1 h2 h3 h4).close Sb,hq⟩
   exact DV
  exact DV
 case h_18 f first captured ho =>
  obtain⟨fs,Mj,h⟩:=Aw h;obtain⟨cs,BQ,h⟩:=Aw h;exact⟨_,_,qab ho hd Mj BQ,h⟩
 case h_19 t x y ok ho =>
  obtain⟨x',hx,h⟩:=Aw h;obtain⟨y',hy,h⟩:=Aw h;unfold lu at h;obtain⟨ti,ht,h⟩:=Aw h;split at h
  ·rename_i k e Ah;obtain⟨kt,Ik,h⟩:=Aw h;obtain⟨d,hk,Ij⟩:=ko Ik;obtain⟨te,he,Ag,h⟩:=Aw h;split at h
   ·obtain⟨Bh,h⟩:=h;split at h
    ·obtain⟨e1,hq⟩:=h;subst e1;exact⟨_,_,Eg hT ho hd ht Ah hk Ij he Ag hx hy Bh,hq⟩
    ·obtain⟨es,J8,h⟩:=Aw h;split at h
     case h_2=>exact h.elim
     obtain⟨e1,hq⟩:=h;subst e1;exact⟨_,_,AL hT ho hd ht Ah hk Ij he Ag hx J8 hy Bh,hq⟩
    ·exact⟨_,_,qnl hT ho hd ht Ah hk Ij he Ag hx hy,h⟩
    exact DV
   exact DV
  exact DV
 case h_20 t x y v ho =>
  obtain⟨IS,h⟩:=h;obtain⟨x',hx,h⟩:=Aw h;obtain⟨y',hy,h⟩:=Aw h;obtain⟨v',hv,h⟩:=Aw h;unfold cX at h;obtain⟨ti,ht,h⟩:=Aw h;split at h
  ·rename_i k e Ah;obtain⟨kt,Ik,h⟩:=Aw h;obtain⟨d,hk,Ij⟩:=ko Ik;split at h
   ·obtain⟨Bh,h⟩:=h;obtain⟨es,J8,h⟩:=Aw h;split at h
    ·obtain⟨e1,hq⟩:=h;subst e1;exact⟨_,_,(adV hT (.inl ho) IS ht Ah hk Ij hx J8 hy Bh hv).close Xz,hq⟩
    exact DV
   exact DV
  exact DV
 case h_21 t x y v ho =>
  obtain⟨IS,h⟩:=h;obtain⟨x',hx,h⟩:=Aw h;obtain⟨y',hy,h⟩:=Aw h;obtain⟨v',hv,h⟩:=Aw h;unfold cX at h;obtain⟨ti,ht,h⟩:=Aw h;split at h
  ·rename_i k e Ah;obtain⟨kt,Ik,h⟩:=Aw h;obtain⟨d,hk,Ij⟩:=ko Ik;split at h
   ·obtain⟨Bh,h⟩:=h;obtain⟨es,J8,h⟩:=Aw h;split at h
    ·obtain⟨e1,hq⟩:=h;subst e1;exact⟨_,_,(adV hT (.inr ho) IS ht Ah hk Ij hx J8 hy Bh hv).close Xz,hq⟩
    exact DV
   exact DV
  exact DV
 case h_22 x k ho =>
  obtain⟨x',hx,h⟩:=Aw h;split at h
  ·obtain⟨r,hr,h⟩:=Aw h;exact⟨_,_,qay ho hd hx hr,h⟩
  exact DV
 case h_23 c ho =>
  obtain⟨callee,args,HI⟩:=c;simp only at h;unfold M3 at h;split at h
  ·obtain⟨f',hf,h⟩:=Aw h;obtain⟨BI,has,h⟩:=Aw h;unfold fU at h;split at h
   ·rcases h with⟨r,h1,h2,h⟩|⟨r,O',h1,h|⟨n,l,hk,h⟩⟩|⟨r,h1,h⟩
    ·exact⟨_,_,qcf ho hd hf has h1 h2,h⟩
    ·exact⟨_,_,AH ho hd hf has h1,h⟩
    ·exact⟨_,_,(AH ho hd hf has h1).close hk,h⟩
    exact⟨_,_,qcg ho hd hf has h1,h⟩
   exact DV
  ·split at h
   ·rename_i x t e1 e2;have ea:args = #[x]:=Array.toList_inj.1 e1;have et:HI = #[t]:=Array.toList_inj.1 e2;subst ea;subst et;obtain⟨x',hx,h⟩:=Aw h;unfold nk at h;obtain⟨ti,ht,h⟩:=Aw h;obtain⟨e,Ah,h⟩:=Aw h;obtain⟨n,hn,h⟩:=Aw h;exact⟨_,_,qgA hT ho hd ht (TD.cg Ah) hx (qf0 hn),h⟩
   exact DV
  ·split at h
   ·rename_i x y t t' e1 e2;have ea:args = #[x,y]:=Array.toList_inj.1 e1;have et:HI = #[t,t']:=Array.toList_inj.1 e2;subst ea;subst et;obtain⟨x',hx,h⟩:=Aw h;obtain⟨y',hy,h⟩:=Aw h;unfold lr at h;obtain⟨ti,ht,h⟩:=Aw h;obtain⟨e,Ah,h⟩:=Aw h;have Ah:=TD.cg Ah;obtain⟨te,he,h⟩:=Aw h;split at h
    ·obtain⟨h0,h1,h2,h3,h4,hq⟩:=h;subst h0;subst h2;by_cases hmd:md.app=true
     ·rw[hmd,Nt]at hq;obtain⟨hq1,hq2⟩:=hq;cases XL:md.made with
      | true =>
       rw[XL,Nt]at hq2;exact⟨_,_,(qnb hT ho hd ht Ah he h1 hx hy hq1 h3 h4).close Sb,hq2⟩
      | false =>
       rw[XL,Np]at hq2;exact⟨_,_,(qnh hT ho hd ht Ah he h1 hx hy hq1 h3 h4).close Sb,hq2⟩
     rw[show md.app=false by simpa using hmd,Np]at hq;exact⟨_,_,(qnu hT ho hd ht Ah he h1 hx hy h3 h4).close Sb,hq⟩
    ·obtain⟨h0,h1,h2,h3,h4,h5,hq⟩:=h;subst h0;subst h2;exact⟨_,_,(qnj hT ho hd ht Ah he h1 hx hy h3 h4 h5).close Xz,hq⟩
    ·obtain⟨h0,h1,h2,h3,h4,h5,h6,hq⟩:=h;subst h0;subst h1;cases hmd:md.app with
     | true =>
      rw[hmd,Nt]at hq;exact⟨_,_,(qni hT ho hd ht Ah he h2 hx hy h3 h4 h5 h6).close Sb,hq⟩
     | false =>
      rw[hmd,Np]at hq;exact⟨_,_,(qne hT ho hd ht Ah he h2 hx hy h3 h4 h5 h6).close Sb,hq⟩
    ·obtain⟨h0,h1,hq⟩:=h;subst h0;obtain⟨o1,DT,hq⟩:=Aw hq;split at hq
     ·obtain⟨h2,h3,h4,hq⟩:=hq;exact⟨_,_,(qnw hT ho hd ht Ah he h1 hx DT hy h2 h3 h4).close Xz,hq⟩
     exact hq.elim
    ·obtain⟨h0,h1,h2,hq⟩:=h;subst h0;subst h2;obtain⟨o1,DT,hq⟩:=Aw hq;split at hq
     ·obtain⟨h3,h4,h5,h6,hq⟩:=hq;exact⟨_,_,(qnx hT ho hd ht Ah he h1 hx DT hy h3 h4 h5 h6).close qew,hq⟩
     exact hq.elim
    exact DV
   exact DV
  ·split at h
   ·rename_i x t e1 e2;have ea:args = #[x]:=Array.toList_inj.1 e1;have et:HI = #[t]:=Array.toList_inj.1 e2;subst ea;subst et;obtain⟨x',hx,h⟩:=Aw h;unfold nh at h;obtain⟨ti,ht,h⟩:=Aw h;obtain⟨e,Ah,h⟩:=Aw h;obtain⟨n,hn,h⟩:=Aw h;obtain⟨sz,xs,e3,e4⟩:=qeI hn;subst e3;subst e4;exact⟨_,_,qcd hT ho hd ht (TD.cg Ah) hx,h⟩
   exact DV
  ·split at h
   ·rename_i x t e1 e2;have ea:args = #[x]:=Array.toList_inj.1 e1;have et:HI = #[t]:=Array.toList_inj.1 e2;subst ea;subst et;obtain⟨IS,h⟩:=h;obtain⟨x',hx,h⟩:=Aw h;unfold mG at h;obtain⟨ti,ht,h⟩:=Aw h;obtain⟨e,Ah,h⟩:=Aw h;obtain⟨te,he,h⟩:=Aw h;split at h
    ·obtain⟨o1,DT,h⟩:=Aw h;split at h
     ·obtain⟨h2,h3,h4,h⟩:=h;exact⟨_,_,(qaW hT ho IS ht (TD.cg Ah) he hx DT h2 h3 h4).close Xz,h⟩
     exact DV
    exact DV
   exact DV
  ·split at h
   ·rename_i x y e1;have ea:args = #[x,y]:=Array.toList_inj.1 e1;subst ea;obtain⟨x',hx,h⟩:=Aw h;obtain⟨y',hy,h⟩:=Aw h;unfold nr at h;split at h
    ·exact⟨_,_,qfi ho hd hx hy,h⟩
    exact DV
   exact DV
  ·split at h
   ·rename_i x y e1;have ea:args = #[x,y]:=Array.toList_inj.1 e1;subst ea;obtain⟨x',hx,h⟩:=Aw h;obtain⟨y',hy,h⟩:=Aw h;unfold nm at h;split at h
    ·exact⟨_,_,qgB ho hd hx hy,h⟩
    exact DV
   exact DV
  exact DV
 case h_24 x ho =>
  obtain⟨y,hy,h⟩:=Aw h;unfold cY at h;split at h
  ·exact⟨_,_,ada ho hd hy (.inl ⟨_,_,rfl⟩),h⟩
  ·exact⟨_,_,ada ho hd hy (.inr ⟨_,_,rfl⟩),h⟩
  exact DV
 case h_25 t x ho =>
  obtain⟨y,hy,h⟩:=Aw h;unfold mJ at h;obtain⟨ti,ht,h⟩:=Aw h;obtain⟨p,hp,h⟩:=Aw h;obtain⟨es,he,h⟩:=Aw h;obtain⟨kt,rfl⟩:=qdz he;exact⟨_,_,(qac hT ho hd ht (TD.qf6 hp) hy h.1).close Sb,h.2⟩
 case h_26 x ho =>
  obtain⟨y,hy,h⟩:=Aw h;unfold mH at h;obtain⟨id,BN,h⟩:=Aw h;obtain⟨os,hos,h⟩:=Aw h;obtain⟨c,hc,h⟩:=Aw h;obtain⟨es,rfl⟩:=qat hc;rw[qe0 BN]at hy;exact⟨_,_,qce ho hd hy hos,h⟩
 case h_27=>exact h.elim
def nN(d:Option Nat)(n:Nat):Prop :=
 match d with
 | some d=>d<n
 | none=>True
def UF:List (Nat×Nat)->Nat->Option Nat
 | [],_=>none
 | (k,d)::r,j=>if k=j then some d else UF r j
def WB(i:Nat)(d:Option Nat)(ds:List (Nat×Nat)):List (Nat×Nat) :=
 match d with
 | some d=>(i,d)::ds
 | none=>ds
def Nxt(σ:St)(f:St->Prop)(_t:Tag f:={}):Prop:=f σ
theorem ql2(n:Nat)(s:List (Nat×A2))(O:List A8)(f:St->Prop)(t:Tag f):Nxt ⟨n,s,O⟩ f t=f ⟨n,s,O⟩:=rfl
def G9(P:Program)(AD:Cn)(md:Md):List Oper->Nat->List (Nat×Nat)->St->List Kind->(St->List Kind->Prop)->Prop
 | [],_,_,σ,ks,K=>K σ ks
 | o::r,i,ds,σ,ks,K=>nN o.dst σ.n ∧
  match o.guard with
  | none=>cJ P AD md o σ fun x m=>Nxt ⟨σ.n,MR o.dst x σ.BG,m.post σ.objs⟩ fun τ=>G9 P AD md r (i+1) (WB i o.dst ds) τ (m.kind::ks) K
  | some (j,want)=>on (UF ds j) fun t=>on (σ.get t) fun
   | .v (.bool b)=>MS (b == want)
    (fun _=>cJ P AD md o ⟨σ.n,GY t (.v (.bool want)) σ.BG,σ.objs⟩ fun x m=>Nxt ⟨σ.n,MR o.dst x (GY t (.v (.bool want)) σ.BG),m.post σ.objs⟩ fun τ=>G9 P AD md r (i+1) (WB i o.dst ds) τ (m.kind::ks) K)
    (fun _=>Nxt ⟨σ.n,V' σ.n o.dst (GY t (.v (.bool !want)) σ.BG),σ.objs⟩ fun τ=>G9 P AD md r (i+1) (WB i o.dst ds) τ (.pure::ks) K)
   | .Ab []=>Nxt ⟨σ.n,V' σ.n o.dst σ.BG,σ.objs⟩ fun τ=>G9 P AD md r (i+1) (WB i o.dst ds) τ (.pure::ks) K
   | _=>False
theorem qct{all:Array Oper}(ho:all[i]?=some o){ds:List (Nat×Nat)}(h:∀j t,UF ds j=some t->(all[j]?).bind (·.dst)=some t):∀j t,UF (WB i o.dst ds) j=some t->(all[j]?).bind (·.dst)=some t:=by
 intro j t hj;cases hd:o.dst with
 | none =>
  rw[hd]at hj;exact h j t hj
 | some d =>
  rw[hd]at hj;simp only[WB,UF]at hj;split at hj
  ·rename_i e;subst e;simp only[AM]at hj;subst hj;simp[ho,hd]
  exact h j t hj
theorem wX{t:Nat}{x:A2}(h:σ.get t=some x):GQ ⟨σ.n,GY t x σ.BG,σ.objs⟩ σ:=by
 refine⟨rfl,rfl,fun s=>?_⟩;simp only[St.get,RL];split
 ·rename_i e;subst e;exact h.symm
 rfl
theorem pB{P:Program}{ops:Array Oper}:∀{l l':List (Nat×Kind)} {σ τ ρ:St},Gy P ops l σ τ->Gy P ops l' τ ρ->Gy P ops (l++l') σ ρ
 | [],_,_,_,_,h,k=>k.same h.symm
 | (i,q)::r,_,_,_,_,h,k=>by
  obtain⟨Bl,h1,h2⟩:=h;exact⟨Bl,h1,pB h2 k⟩
theorem Sc{P:Program}{AD:Cn}{md:Md}(hT:CH P AD){all:Array Oper}{K:St->List Kind->Prop}:∀(l:List Oper) (k:Nat) (ds:List (Nat×Nat)) (σ:St) (ks:List Kind),(∀j,l[j]?=all[k+j]?)->(∀j t,UF ds j=some t->(all[j]?).bind (·.dst)=some t)->G9 P AD md l k ds σ ks K ->
  ∃(τ:St) (Hw:List Kind),Gy P all (Hw.zipIdx k |>.map fun p=>(p.2,p.1)) σ τ∧Hw.length=l.length∧K τ (Hw.reverse++ks)
 | [],k,_,σ,ks,_,_,h=>⟨σ,[],GQ.refl σ,rfl,h⟩
 | o::r,k,ds,σ,ks,hl,H6,h=>by
  obtain⟨hd,h⟩:=h;have hd':∀d,o.dst=some d->d<σ.n:=fun d e=>by
   rw[e]at hd;exact hd
  have ho:all[k]?=some o:=by
   have:=hl 0;simpa using this.symm
  have gN:=qct ho H6;have hr:∀j,r[j]?=all[k+1+j]?:=fun j=>by
   have:=hl (j+1);rw[show k+1+j=k+(j+1) from I];exact NI
  cases hg:o.guard with
  | none =>
   simp only[hg]at h;obtain⟨x,m,hc,h⟩:=uG hT hd' h;obtain⟨τ,Hw,h1,h2,h3⟩:=Sc hT r (k+1) _ _ _ hr gN h;refine⟨τ,m.kind::Hw,?_,Ud,Ug⟩;simp only[T0,Bc];exact⟨_,⟨o,ho,.inl ⟨by simp[JF,hg],x,m,hc,rfl,rfl⟩⟩,h1⟩
  | some p =>
   obtain⟨j,want⟩:=p;simp only[hg]at h;obtain⟨t,Pr,h⟩:=Aw h;have ht:=H6 j t Pr;obtain⟨y,hy,h⟩:=Aw h;split at h
   ·rename_i b;by_cases hb:b=want
    ·rw[show(b == want)=true from YP,Nt]at h;have hs:=wX (hb ▸ hy);obtain⟨x,m,hc,h⟩:=uG hT (σ:=⟨σ.n,GY t (.v (.bool want)) σ.BG,σ.objs⟩) hd' h;obtain⟨τ,Hw,h1,h2,h3⟩:=Sc hT r (k+1) _ _ _ hr gN h;refine⟨τ,m.kind::Hw,?_,Ud,Ug⟩;simp only[T0,Bc];have Au:Su P all k m.kind ⟨σ.n,GY t (.v (.bool want)) σ.BG,σ.objs⟩ (St.put ⟨σ.n,GY t (.v (.bool want)) σ.BG,σ.objs⟩ o.dst x (m.post σ.objs)) :=
      ⟨o,ho,.inl ⟨by simp[JF,hg,ht,St.get,RL],x,m,hc,rfl,rfl⟩⟩
     obtain⟨Bl,q1,q2⟩:=Au.same hs;exact⟨Bl,q1,h1.same q2⟩
    rw[show(b == want)=false from YP,Np]at h;have Mh:b=!want:=by cases b<;>cases want<;>simp_all
    have hs:=wX (Mh ▸ hy);obtain⟨τ,Hw,h1,h2,h3⟩:=Sc hT r (k+1) _ _ _ hr gN h;refine⟨τ,.pure::Hw,?_,Ud,Ug⟩;simp only[T0,Bc];have Au:Su P all k .pure ⟨σ.n,GY t (.v (.bool !want)) σ.BG,σ.objs⟩ (St.skip ⟨σ.n,GY t (.v (.bool !want)) σ.BG,σ.objs⟩ o.dst) :=
     ⟨o,ho,.inr ⟨by cases want<;>simp[JF,hg,ht,St.get,RL],rfl,rfl⟩⟩
    obtain⟨Bl,q1,q2⟩:=Au.same hs;exact⟨Bl,q1,h1.same q2⟩
   ·obtain⟨τ,Hw,h1,h2,h3⟩:=Sc hT r (k+1) _ _ _ hr gN h;refine⟨τ,.pure::Hw,?_,Ud,Ug⟩;simp only[T0,Bc];exact⟨_,⟨o,ho,.inr ⟨by simp[JF,hg,ht,hy],rfl,rfl⟩⟩,h1⟩
   exact DV
def Jc(ops:Array Oper)(ks:List Kind):Prop:=We ops ks=true
def IN(draw:Bool)(p:Unit->Prop)(_t:Tag p:={}):Prop:=draw=true->p ()
theorem qbj(p:Unit->Prop)(t:Tag p):IN false p t=True:=by simp[IN]
theorem qcp(p:Unit->Prop)(t:Tag p):IN true p t=p ():=by simp[IN]
theorem cO{kb:Nat}{AD:Cn}(md:Md)(hT:CH P AD)(hm:P.follows .mixedOrders=true){id:Nat}{l:List Oper}{draw:Bool}{Q:E7->St->Prop}{σ:St}
  (h:G9 P AD md l 0 [] σ [] fun τ ks=>IN draw (fun _=>Jc l.toArray ks.reverse)∧At τ (Q .norm)):AU P kb (.region id l.toArray draw) Q σ:=by
 obtain⟨ops,o8⟩:∃ops,ops=l.toArray:=⟨_,rfl⟩
 have hl:l=ops.toList:=by rw[o8]
 rw[<-o8]at h ⊢;rw[hl]at h;clear o8 hl;obtain⟨τ,ks,h1,h2,h3,h4⟩:=Sc (all:=ops) hT ops.toList 0 [] σ [] (fun j=>A6) (fun j t hj=>aL) h;intro base a g hb hr;have F5:Gy P ops ((List.range ops.size).map fun i=>(i,ks.getD i .write)) σ τ:=by
  have e:(ks.zipIdx 0).map (fun p=>(p.2,p.1))=(List.range ops.size).map fun i=>(i,ks.getD i .write):=by
   apply Gg;intro i;simp only[Bv];have hlen:ks.length=ops.size:=KI
   by_cases hi:i<ops.size
   ·rw[J3 hi];simp[hlen,hi]
   rw[H3 abV,H3 abW];rfl
  rw[<-e];exact h1
 cases draw with
 | false=>exact oz F5 hr fun a g Mn=>⟨g,τ,rfl,Mn,h4⟩
 | true =>
  have hB:=h3 rfl;simp only[F9,List.reverse_reverse]at hB;exact zl hm hB F5 hr fun a g Mn=>⟨g,τ,rfl,Mn,h4⟩
theorem RJ{kb:Nat}{AD:Cn}(hT:CH P AD)(hm:P.follows .mixedOrders=true){id:Nat}{l:List Oper}{draw:Bool}{Q:E7->St->Prop}{σ:St}
  (h:G9 P AD ⟨false,false⟩ l 0 [] σ [] fun τ ks=>IN draw (fun _=>Jc l.toArray ks.reverse)∧At τ (Q .norm)):AU P kb (.region id l.toArray draw) Q σ:=cO ⟨false,false⟩ hT hm h
def slotsOf:Nat->List A2->List (Nat×A2)
 | _,[]=>[]
 | k,x::r=>(k,x)::slotsOf (k+1) r
theorem p8:∀(l:List A2) (k s:Nat) (x:A2),look (slotsOf k l) s=some x->k<=s∧l[s-k]?=some x
 | [],k,s,x,h=>by cases h
 | y::r,k,s,x,h=>by
  simp only[slotsOf,look]at h;split at h
  ·rename_i e;subst e;simp only[AM]at h;subst h;simp
  obtain⟨h1,h2⟩:=p8 r (k+1) s x h;refine⟨I,?_⟩;rw[show s-k=(s-(k+1))+1 from I];simpa using h2
def Mq(AD:Cn)(σ:St):ResultVar->Option A2
 | .tmp t=>σ.get t
 | .cell a ty =>
  match σ.get a,AD ty with
  | some (.mp id off),some ti =>
   match σ.objs[id]? with
   | some (.cells cs)=>if ti.desc.agg then(if off+ti.size<=cs.length then some (.agg ((cs.drop off).take ti.size))else none)else cs[off]?
   | _=>none
  | _,_=>none
def JG(AD:Cn)(σ:St):List ResultVar->Option (List A2)
 | []=>some []
 | v::r =>
  match Mq AD σ v,JG AD σ r with
  | some x,some xs=>some (x::xs)
  | _,_=>none
def Hl:List A2->A2
 | [x]=>x
 | xs=>.Ab xs
def Sq(a:Act):ResultVar->Sem Value
 | .tmp t=>pure (a.tmps.getD t undef)
 | .cell c t=>do loadVar t (<-asAddr (a.tmps.getD c undef))
theorem qcM{AD:Cn}(hT:CH P AD){σ:St}{base:G}{a:Act}{g:G}(hr:Rel base σ a g){v:ResultVar}{x:A2}(h:Mq AD σ v=some x) :
  ∃u,(Sq a v).run P g.w=.ok u g.w∧RV g x u:=by
 cases v with
 | tmp t =>
  obtain⟨u,h1,h2⟩:=hr.slot t x h;exact⟨u,by simp[Sq,HU,h1],h2⟩
 | cell c ty =>
  simp only[Mq]at h;split at h
  ·rename_i id off ti hc XE;obtain⟨u,h1,h2⟩:=hr.slot c _ hc;obtain⟨l,o1,he,ho,_,eu⟩:=h2.RT;split at h
   ·rename_i cs BQ;have V5:g.objs[id]?=some (.cells cs):=by rw[hr.objs];exact BQ
    obtain⟨arr,t',_,CV,hlen,GJ,B1,_⟩:=hr.good.row V5 he;subst eu;split at h
    ·rename_i EO;split at h
     ·rename_i hs;simp only[AM]at h;subst h;obtain⟨f,hf⟩:∃f:Nat->Value,∀j,off+j<arr.size->arr[off+j]?=some (f j):=⟨fun j=>arr.getD (off+j) undef,fun j hj=>by simp[HU,hj]⟩
      have Aj:=(hT ty ti XE).sD EO g.w l.block off f (fun j hj=>by
       rw[cell_of_row CV];exact hf j I)
      refine⟨.agg ((List.range ti.size).map f).toArray,abd,?_⟩;have hl:((cs.drop off).take ti.size).length=ti.size:=Ai
      have:=RV.ofRow (g:=g) ((cs.drop off).take ti.size) f (fun c hc=>B1 c (N9 (KF hc))) (fun j c hj=>by
       have CK:=Zm hj;rw[FC]at CK;have AF:=AE CK;exact GJ (off+j) c _ CK (hf j I))
      rw[hl]at this;exact Cd
     cases h
    rename_i EO;have AF:=AE h;have Cg:g.w.cell? ⟨l.block,off,none⟩=some arr[off]:=by
     exact adF
    have Aj:=(hT ty ti XE).pC qC g.w ⟨l.block,off,none⟩ _ Cg;exact⟨arr[off],abd,GJ off x _ h aaX⟩
   cases h
  cases h
theorem qo{P:Program}{AD:Cn}(hT:CH P AD){σ:St}{base:G}{a:Act}{g:G}(hr:Rel base σ a g):∀{vs:List ResultVar} {xs:List A2},JG AD σ vs=some xs ->
  ∃us:List Value,(vs.mapM (Sq a)).run P g.w=.ok us g.w∧Co g xs us.toArray
 | [],xs,h=>by
  simp only[JG,AM]at h;subst h;exact⟨[],A6,⟨rfl,A6⟩⟩
 | v::r,xs,h=>by
  simp only[JG]at h;cases hv:Mq AD σ v with
  | none=>simp[hv]at h
  | some x =>
   cases Ie:JG AD σ r with
   | none=>simp[hv,Ie]at h
   | some ys =>
    simp only[hv,Ie,AM]at h;subst h;obtain⟨u,h1,h2⟩:=qcM hT hr hv;obtain⟨us,h3,h4,h5⟩:=qo hT hr Ie;refine⟨u::us,?_,by simpa using h4,fun j c w e1 e2=>?_⟩
    ·rw[pX];simp only[Sem.run_bind,h1,Result.andThen_ok,h3,Sem.run_pure]
    cases j with
    | zero =>
     simp at e1 e2;subst e1;subst e2;exact h2
    | succ j=>exact h5 j c w (by simpa using e1) (by simpa using e2)
def fc(AD:Cn)(rv:List ResultVar)(sh:Bool)(k:Nat)(R:A2->List A8->Prop):E7->St->Prop
 | .exit _,_=>False
 | _,σ=>on (JG AD σ rv) fun rs=>k<=σ.objs.length∧(∀o∈σ.objs.take k,o.upto k)∧(Hl (if sh then rs.map A2.share else rs)).upto k∧R (Hl (if sh then rs.map A2.share else rs)) (σ.objs.take k)
theorem RV.Hl{g:G}{xs:List A2}{us:List Value}(h:Co g xs us.toArray):RV g (Hl xs) (if h:us.toArray.size=1 then us.toArray[0]else .tuple us.toArray):=by
 obtain⟨h1,h2⟩:=h
 match xs,us,h1,h2 with
 | [],[],_,h2=>exact .Ab rfl A6
 | [x],[u],_,h2 =>
  simp only[Jj,IU,dite_true];exact h2 0 x u rfl rfl
 | x::y::r,u0::u1::s,h1,h2 =>
  rw[dif_neg A6];exact .Ab h1 h2
 | [],_::_,h1,_=>simp at h1
 | _::_,[],h1,_=>simp at h1
 | [_],_::_::_,h1,_=>simp at h1
 | _::_::_,[_],h1,_=>simp at h1
theorem Ly{AD:Cn}(hT:CH P AD){f:FuncId}{fn:Func}{c:Code}{O:List A8}{args:List A2}{R:A2->List A8->Prop}(sh:Bool)(k:Nat)(hf:P.funcs[f]?=some fn)(hb:fn.body=some c)
  (Wv : (fn.name == "runtime.NumGoroutine") = false) (hn : args.length <= fn.ntmps) (hk : O.length <= k) (h : AU P O.length c (fc AD fn.results.toList sh k R) ⟨fn.ntmps, slotsOf 0 args, O⟩) : Aq P f O args R := by
 refine⟨⟨fn,hf,Wv,YP⟩,fun g vs hg ho ha=>?_⟩;refine calls_of_wp hf hb ?_;have Ax:Rel g ⟨fn.ntmps,slotsOf 0 args,O⟩ { tmps:=vs++Array.replicate (fn.ntmps-vs.size) undef,defers:=[] } g:={
  le:=Le.refl g
  good:=hg
  objs:=ho
  size:=by
   have:=ha.1;simp only[RX,aaF];omega
  defers:=rfl
  slot:=fun s x hx=>by
   obtain⟨_,h1⟩:=p8 args 0 s x hx;simp only[Zw]at h1;have AF:=AE h1;have HR:s<vs.size:=by rw[ha.1];exact AF
   refine⟨vs[s],?_,ha.2 s x _ h1 (by simp[HR])⟩;simp only;rw[iR,A9 HR];simp[HR] }
 refine wp_mono (h g _ g abQ Ax) fun e a w hp=>?_;have key:∀g' Bl,g'.w=w->Rel g Bl a g'->(on (JG AD Bl fn.results.toList) fun rs=>k<=Bl.objs.length∧(∀o∈Bl.objs.take k,o.upto k)∧(Av.Hl (if sh then rs.map A2.share else rs)).upto k∧R (Av.Hl (if sh then rs.map A2.share else rs)) (Bl.objs.take k)) ->
   a.defers=[]∧∃v,(results fn a.tmps).run P w=.ok v w∧∃g' v' r,Ending.returned v=.returned v'∧g'.w=w∧Le g g'∧Good g'∧RV g' r v'∧R r g'.objs:=by
  intro g' Bl hw hr hq;subst hw;obtain⟨rs,Ie,h1,h2,h3,h4⟩:=Aw hq;obtain⟨us,q1,q2⟩:=qo hT hr Ie;have hO:g'.objs=Bl.objs:=hr.objs;refine⟨hr.defers,(if h:us.toArray.size=1 then us.toArray[0]else .tuple us.toArray),?_,g'.De k,_,_,rfl,rfl,hr.le.De (by rw[ho];exact hk),hr.good.De (by rw[hO];exact h1) (by rw[hO];exact h2),?_,by simp only[G.De,hO];exact h4⟩
  ·have hm:fn.results.mapM (Sq a)=Functor.map List.toArray (fn.results.toList.mapM (Sq a)):=zv;have Df:results fn a.tmps=(do
    let vs <-fn.results.mapM (Sq a)
    pure (if h:vs.size=1 then vs[0]else .tuple vs)):=rfl
   rw[Df,hm];exact adH q1
  have D5:Co g' (if sh then rs.map A2.share else rs) us.toArray:=by
   cases sh
   ·exact q2
   exact q2.share
  exact(RV.Hl D5).De (by rw[hO];exact h1) h3
 cases e with
 | normal =>
  obtain⟨g',Bl,h1,h2,h3⟩:=hp;exact key g' Bl h1 h2 h3
 | ret =>
  obtain⟨g',Bl,h1,h2,h3⟩:=hp;exact key g' Bl h1 h2 h3
 | exit id =>
  obtain⟨g',Bl,h1,h2,h3⟩:=hp;exact h3.elim
 | goto l=>exact hp.elim
 | panic c=>exact hp.elim
 | outgrown=>exact hp.elim
theorem qb9(P:Program)(kb:Nat)(c:Code)(Q:E7->St->Prop)(σ:St):DX P kb c Q .norm σ=AU P kb c Q σ:=rfl
theorem RE(P:Program)(kb:Nat)(c:Code)(Q:E7->St->Prop)(σ:St):DX P kb c Q .ret σ=Q .ret σ:=rfl
theorem qb8(P:Program)(kb:Nat)(c:Code)(Q:E7->St->Prop)(σ:St)(id:Nat):DX P kb c Q (.exit id) σ=Q (.exit id) σ:=rfl
theorem qns(id:Nat)(Q:E7->St->Prop)(σ:St):GL id Q .norm σ=Q .norm σ:=rfl
theorem RG(id:Nat)(Q:E7->St->Prop)(σ:St):GL id Q .ret σ=Q .ret σ:=rfl
theorem qnt(id:Nat)(Q:E7->St->Prop)(σ:St):GL id Q (.exit id) σ=Q .norm σ:=by simp[GL]
theorem qnf{id Da:Nat}(h:Da≠id)(Q:E7->St->Prop)(σ:St):GL id Q (.exit Da) σ=Q (.exit Da) σ:=by simp[GL,h]
theorem qal{ι:Type}(L:ι->St)(μ:ι->Nat)(i:ι)(Q:E7->St->Prop)(σ:St):Q3 L μ i Q .norm σ = ∃j,μ j<μ i∧Hy σ (L j):=rfl
theorem RF{ι:Type}(L:ι->St)(μ:ι->Nat)(i:ι)(Q:E7->St->Prop)(σ:St):Q3 L μ i Q .ret σ=Q .ret σ:=rfl
theorem qak{ι:Type}(L:ι->St)(μ:ι->Nat)(i:ι)(Q:E7->St->Prop)(σ:St)(id:Nat):Q3 L μ i Q (.exit id) σ=Q (.exit id) σ:=rfl
def nD:A2->Value->Bool
 | .v (.int k n),.int k' n'=>decide (k=k')&&decide (n=n')&&decide (k.min<=n)&&decide (n<=k.max)
 | .v (.bool b),.bool b'=>b == b'
 | .v (.string s),.string s'=>decide (s=s')
 | .v (.pointer none),.pointer none=>true
 | .v (.map none),.map none=>true
 | .v .nilFunc,.nilFunc=>true
 | .v .nilIface,.nilIface=>true
 | .A3 _ [] .ex,.slice none 0 0=>true
 | _,_=>false
theorem qcJ{x:A2}{u:Value}(h:nD x u=true):(∀g:G,RV g x u)∧x.scalar:=by
 unfold nD at h;split at h
 ·simp only[F0,Cp]at h;obtain⟨⟨⟨h1,h2⟩,h3⟩,h4⟩:=h;subst h1;subst h2;exact⟨fun g=>.v ⟨h3,h4⟩,trivial⟩
 ·simp only[beq_iff_eq]at h;subst h;exact ah
 ·simp only[Cp]at h;subst h;exact ah
 ·exact ah
 ·exact ah
 ·exact ah
 ·exact ah
 ·exact⟨fun g=>.nil (fun id e=>db) A6,trivial⟩
 cases h
def aw:List A2->List Value->Bool
 | [],[]=>true
 | x::xs,u::us=>nD x u&&aw xs us
 | _,_=>false
theorem aec:∀{xs:List A2} {us:List Value},aw xs us=true->us.length=xs.length∧(∀g:G,∀(j:Nat) (c:A2) (u:Value),xs[j]?=some c->us[j]?=some u->RV g c u)∧∀c∈xs,c.scalar
 | [],[],_=>⟨rfl,A6,A6⟩
 | x::xs,u::us,h=>by
  simp only[aw,F0]at h;obtain⟨h1,h2⟩:=qcJ h.1;obtain⟨h3,h4,h5⟩:=aec h.2;refine⟨by simp[h3],fun g j c w a b=>?_,fun c hc=>?_⟩
  ·cases j with
   | zero =>
    simp at a b;subst a;subst b;exact h1 g
   | succ j=>exact h4 g j c w jF qi
  rcases List.mem_cons.1 hc with e|e
  ·subst e;exact h2
  exact h5 c e
 | [],_::_,h=>by simp[aw]at h
 | _::_,[],h=>by simp[aw]at h
def az:List Field->List (Nat×TypeId)->Bool
 | [],[]=>true
 | f::r,p::q=>decide (f.offset=p.1)&&decide (f.type=p.2)&&az r q
 | _,_=>false
theorem adv:∀{fs:List Field} {ps:List (Nat×TypeId)},az fs ps=true->fs.map (fun f=>(f.offset,f.type))=ps
 | [],[],_=>rfl
 | f::r,p::q,h=>by
  simp only[az,F0,Cp]at h;obtain⟨⟨h1,h2⟩,h3⟩:=h;rw[Bc,adv h3,h1,h2]
 | [],_::_,h=>by simp[az]at h
 | _::_,[],h=>by simp[az]at h
def nL:TypeDesc->TD->Bool
 | .struct fields,.struct fs=>az fields.toList fs
 | .slice e,.slice e'=>decide (e=e')
 | .array n e,.array n' e'=>decide (n=n')&&decide (e=e')
 | .map k e,.map k' e'=>decide (k=k')&&decide (e=e')
 | .struct _,.other=>false
 | .array _ _,.other=>false
 | _,.other=>true
 | _,_=>false
theorem qcn{d:TypeDesc}{td:TD}(h:nL d td=true):bE d td:=by
 unfold nL at h;split at h
 ·exact⟨_,rfl,adv h⟩
 ·simp only[Cp]at h;subst h;rfl
 ·simp only[F0,Cp]at h;obtain⟨h1,h2⟩:=h;subst h1;subst h2;rfl
 ·simp only[F0,Cp]at h;obtain⟨h1,h2⟩:=h;subst h1;subst h2;rfl
 ·cases h
 ·cases h
 ·rename_i h1 h2;cases d<;>first|trivial|exact(h1 _ rfl).elim|exact(h2 _ _ rfl).elim
 cases h
def nE(agg:Bool):Value->Bool
 | .agg _=>agg
 | _=>!agg
def CZ(P:Program)(t:TypeId)(ti:CU):Bool :=
 match P.info? t,P.underlying t with
 | some i,some d=>decide (i.size=ti.size)&&decide (i.bytes=ti.bytes)&&nL d ti.desc&&decide (ti.zero.length=ti.size) &&
  (match i.zero with
  | some z=>aw ti.zero z.cells.toList&&nE ti.desc.agg z
  | none=>false)
 | _,_=>false
theorem Ck{ti:CU}(h:CZ P t ti=true):NU P t ti:=by
 unfold CZ at h;split at h
 ·rename_i i d hi hd;split at h
  ·rename_i z hz;simp only[F0,Cp]at h;obtain⟨⟨⟨⟨h1,h2⟩,h3⟩,h4⟩,h5,h6⟩:=h;obtain⟨q1,q2,q3⟩:=aec h5;refine⟨⟨i,z,hi,h1,h2,hz,by simpa using q1,h4,⟨fun ha=>?_,fun ha=>?_⟩,fun g j c u a b=>q2 g j c u a qi,q3⟩,d,hd,qcn h3⟩
   ·cases z with
    | agg cs=>exact⟨cs,rfl⟩
    | _=>simp[nE,ha]at h6
   cases z with
   | agg cs=>simp[nE,ha]at h6
   | _=>rfl
  simp at h
 cases h
end Go.Av
namespace Go.Proofs.YtjdnhamngpafmaaGreat
open Go.Av Tryz
def AD:Cn
 | 1=>some ⟨1,8,[.v .nilFunc],.other⟩
 | 2=>some ⟨1,8,[.v (.int .i64 0)],.other⟩
 | 3=>some ⟨1,8,[.v (.int .i64 0)],.other⟩
 | 4=>some ⟨1,1,[.v (.bool false)],.other⟩
 | 5=>some ⟨1,1,[.v (.int .u8 0)],.other⟩
 | 9=>some ⟨1,16,[.v (.string ByteArray.empty)],.other⟩
 | 22=>some ⟨1,24,[.A3 2 [] .ex],.slice 34⟩
 | 24=>some ⟨2,32,[.A3 2 [] .ex,.v (.int .i64 0)],.struct [(0,22),(1,3)]⟩
 | 26=>some ⟨1,8,[.v (.int .i64 0)],.other⟩
 | 32=>some ⟨1,24,[.A3 7 [] .ex],.slice 50⟩
 | 34=>some ⟨2,32,[.v (.int .i64 0),.A3 7 [] .ex],.struct [(0,3),(1,32)]⟩
 | 35=>some ⟨1,24,[.A3 3 [] .ex],.slice 43⟩
 | 38=>some ⟨1,24,[.A3 1 [] .ex],.slice 41⟩
 | 41=>some ⟨1,24,[.A3 1 [] .ex],.slice 3⟩
 | 43=>some ⟨3,40,[.v (.int .i64 0),.A3 1 [] .ex,.v (.int .i64 0)],.struct [(0,3),(1,41),(2,3)]⟩
 | 45=>some ⟨1,24,[.A3 2 [] .ex],.slice 82⟩
 | 47=>some ⟨5,72,[.v (.int .i64 0),.v (.int .i64 0),.v (.int .i64 0),.A3 1 [] .ex,.A3 2 [] .ex],.struct [(0,3),(1,3),(2,3),(3,41),(4,45)]⟩
 | 48=>some ⟨1,24,[.A3 4 [] .ex],.slice 65⟩
 | 50=>some ⟨7,120,[.A3 1 [] .ex,.A3 4 [] .ex,.v (.int .i64 0),.v (.int .i64 0),.v (.int .i64 0),.A3 1 [] .ex,.A3 2 [] .ex],.struct [(0,41),(1,48),(2,47)]⟩
 | 56=>some ⟨1,24,[.A3 1 [] .ex],.slice 4⟩
 | 65=>some ⟨4,48,[.v (.int .i64 0),.v (.int .i64 0),.v (.int .i64 0),.A3 1 [] .ex],.struct [(0,3),(1,3),(2,3),(3,41)]⟩
 | 67=>some ⟨3,40,[.A3 1 [] .ex,.v (.int .i64 0),.v (.int .i64 0)],.struct [(0,41),(1,3),(2,3)]⟩
 | 77=>some ⟨1,24,[.A3 2 [] .ex],.slice 79⟩
 | 79=>some ⟨2,16,[.v (.int .i64 0),.v (.int .i64 0)],.array 2 3⟩
 | 82=>some ⟨2,32,[.v (.int .i64 0),.A3 1 [] .ex],.struct [(0,3),(1,41)]⟩
 | 83=>some ⟨1,24,[.A3 2 [] .ex],.slice 87⟩
 | 87=>some ⟨2,16,[.v (.int .i64 0),.v (.int .i64 0)],.struct [(0,3),(1,3)]⟩
 | 97=>some ⟨1,8,[.v .nilFunc],.other⟩
 | 102=>some ⟨1,8,[.v (.pointer none)],.other⟩
 | 103=>some ⟨1,8,[.v (.map none)],.map 3 138⟩
 | 105=>some ⟨3,40,[.v (.int .i64 0),.A3 7 [] .ex,.v (.map none)],.struct [(0,34),(2,103)]⟩
 | 110=>some ⟨1,8,[.v (.int .u64 0)],.other⟩
 | 112=>some ⟨1,8,[.v .nilFunc],.other⟩
 | 120=>some ⟨4,80,[.v (.int .i64 0),.A3 7 [] .ex,.A3 1 [] .ex,.A3 1 [] .ex],.struct [(0,34),(2,41),(3,38)]⟩
 | 121=>some ⟨1,8,[.v (.pointer none)],.other⟩
 | 122=>some ⟨1,24,[.A3 1 [] .ex],.slice 56⟩
 | 124=>some ⟨1,24,[.A3 1 [] .ex],.slice 162⟩
 | 126=>some ⟨9,168,[.v (.int .i64 0),.A3 7 [] .ex,.A3 1 [] .ex,.A3 1 [] .ex,.A3 1 [] .ex,.v (.int .i64 0),.v (.int .i64 0),.A3 7 [] .ex,.A3 1 [] .ex],.struct [(0,120),(4,122),(5,3),(6,34),(8,124)]⟩
 | 129=>some ⟨1,8,[.v (.pointer none)],.other⟩
 | 130=>some ⟨1,24,[.A3 1 [] .ex],.slice 172⟩
 | 132=>some ⟨9,112,[.A3 2 [] .ex,.v (.int .i64 0),.A3 1 [] .ex,.v (.int .i64 0),.v (.bool false),.v (.bool false),.A3 1 [] .ex,.v (.int .i64 0),.v (.int .i64 0)],.struct [(0,24),(2,130),(3,3),(4,4),(5,4),(6,67)]⟩
 | 138=>some ⟨2,16,[.v (.int .i64 0),.v (.int .i64 0)],.struct [(0,3),(1,3)]⟩
 | 139=>some ⟨1,24,[.A3 2 [] .ex],.slice 142⟩
 | 140=>some ⟨1,8,[.v (.int .u64 0)],.other⟩
 | 142=>some ⟨2,16,[.v (.int .u64 0),.v (.int .u64 0)],.array 2 140⟩
 | 148=>some ⟨2,48,[.A3 1 [] .ex,.A3 1 [] .ex],.struct [(0,41),(1,41)]⟩
 | 162=>some ⟨1,8,[.v (.map none)],.map 3 3⟩
 | 166=>some ⟨2,16,[.v (.int .i64 0),.v (.int .i64 0)],.struct [(0,3),(1,3)]⟩
 | 167=>some ⟨1,24,[.A3 2 [] .ex],.slice 166⟩
 | 168=>some ⟨1,8,[.v (.pointer none)],.other⟩
 | 171=>some ⟨1,24,[.A3 4 [] .ex],.slice 178⟩
 | 172=>some ⟨1,8,[.v (.pointer none)],.other⟩
 | 173=>some ⟨1,8,[.v (.map none)],.map 3 178⟩
 | 175=>some ⟨5,40,[.v (.int .i64 0),.v (.int .i64 0),.v (.int .i64 0),.v (.int .i64 0),.v (.map none)],.struct [(0,3),(1,3),(2,3),(3,3),(4,173)]⟩
 | 176=>some ⟨1,8,[.v (.pointer none)],.other⟩
 | 178=>some ⟨4,48,[.v (.int .i64 0),.v (.int .i64 0),.A3 4 [] .ex,.v (.pointer none)],.struct [(0,3),(1,3),(2,171),(3,176)]⟩
 | 187=>some ⟨1,8,[.v .nilFunc],.other⟩
 | 191=>some ⟨1,8,[.v (.int .u64 0)],.other⟩
 | 195=>some ⟨1,8,[.v (.pointer none)],.other⟩
 | 206=>some ⟨1,8,[.v .nilFunc],.other⟩
 | 211=>some ⟨1,8,[.v (.pointer none)],.other⟩
 | _=>none
theorem qlj:AD 1=some ⟨1,8,[.v .nilFunc],.other⟩:=rfl
theorem qlk:AD 2=some ⟨1,8,[.v (.int .i64 0)],.other⟩:=rfl
theorem qll:AD 3=some ⟨1,8,[.v (.int .i64 0)],.other⟩:=rfl
theorem qlm:AD 4=some ⟨1,1,[.v (.bool false)],.other⟩:=rfl
theorem qln:AD 5=some ⟨1,1,[.v (.int .u8 0)],.other⟩:=rfl
theorem qlo:AD 9=some ⟨1,16,[.v (.string ByteArray.empty)],.other⟩:=rfl
theorem ql8:AD 22=some ⟨1,24,[.A3 2 [] .ex],.slice 34⟩:=rfl
theorem ql9:AD 24=some ⟨2,32,[.A3 2 [] .ex,.v (.int .i64 0)],.struct [(0,22),(1,3)]⟩:=rfl
theorem qlA:AD 26=some ⟨1,8,[.v (.int .i64 0)],.other⟩:=rfl
theorem bC:AD 32=some ⟨1,24,[.A3 7 [] .ex],.slice 50⟩:=rfl
theorem qlB:AD 34=some ⟨2,32,[.v (.int .i64 0),.A3 7 [] .ex],.struct [(0,3),(1,32)]⟩:=rfl
theorem qkX:AD 35=some ⟨1,24,[.A3 3 [] .ex],.slice 43⟩:=rfl
theorem qkY:AD 38=some ⟨1,24,[.A3 1 [] .ex],.slice 41⟩:=rfl
theorem qkZ:AD 41=some ⟨1,24,[.A3 1 [] .ex],.slice 3⟩:=rfl
theorem qka:AD 43=some ⟨3,40,[.v (.int .i64 0),.A3 1 [] .ex,.v (.int .i64 0)],.struct [(0,3),(1,41),(2,3)]⟩:=rfl
theorem qkb:AD 45=some ⟨1,24,[.A3 2 [] .ex],.slice 82⟩:=rfl
theorem qkc:AD 47=some ⟨5,72,[.v (.int .i64 0),.v (.int .i64 0),.v (.int .i64 0),.A3 1 [] .ex,.A3 2 [] .ex],.struct [(0,3),(1,3),(2,3),(3,41),(4,45)]⟩:=rfl
theorem qkd:AD 48=some ⟨1,24,[.A3 4 [] .ex],.slice 65⟩:=rfl
theorem bB:AD 50=some ⟨7,120,[.A3 1 [] .ex,.A3 4 [] .ex,.v (.int .i64 0),.v (.int .i64 0),.v (.int .i64 0),.A3 1 [] .ex,.A3 2 [] .ex],.struct [(0,41),(1,48),(2,47)]⟩:=rfl
theorem qke:AD 56=some ⟨1,24,[.A3 1 [] .ex],.slice 4⟩:=rfl
theorem qkf:AD 65=some ⟨4,48,[.v (.int .i64 0),.v (.int .i64 0),.v (.int .i64 0),.A3 1 [] .ex],.struct [(0,3),(1,3),(2,3),(3,41)]⟩:=rfl
theorem qkg:AD 67=some ⟨3,40,[.A3 1 [] .ex,.v (.int .i64 0),.v (.int .i64 0)],.struct [(0,41),(1,3),(2,3)]⟩:=rfl
theorem fS:AD 77=some ⟨1,24,[.A3 2 [] .ex],.slice 79⟩:=rfl
theorem fT:AD 79=some ⟨2,16,[.v (.int .i64 0),.v (.int .i64 0)],.array 2 3⟩:=rfl
theorem qkh:AD 82=some ⟨2,32,[.v (.int .i64 0),.A3 1 [] .ex],.struct [(0,3),(1,41)]⟩:=rfl
theorem qki:AD 83=some ⟨1,24,[.A3 2 [] .ex],.slice 87⟩:=rfl
theorem qkj:AD 87=some ⟨2,16,[.v (.int .i64 0),.v (.int .i64 0)],.struct [(0,3),(1,3)]⟩:=rfl
theorem qkk:AD 97=some ⟨1,8,[.v .nilFunc],.other⟩:=rfl
theorem qiu:AD 102=some ⟨1,8,[.v (.pointer none)],.other⟩:=rfl
theorem qiv:AD 103=some ⟨1,8,[.v (.map none)],.map 3 138⟩:=rfl
theorem qiw:AD 105=some ⟨3,40,[.v (.int .i64 0),.A3 7 [] .ex,.v (.map none)],.struct [(0,34),(2,103)]⟩:=rfl
theorem qix:AD 110=some ⟨1,8,[.v (.int .u64 0)],.other⟩:=rfl
theorem qiy:AD 112=some ⟨1,8,[.v .nilFunc],.other⟩:=rfl
theorem xF:AD 120=some ⟨4,80,[.v (.int .i64 0),.A3 7 [] .ex,.A3 1 [] .ex,.A3 1 [] .ex],.struct [(0,34),(2,41),(3,38)]⟩:=rfl
theorem qiV:AD 121=some ⟨1,8,[.v (.pointer none)],.other⟩:=rfl
theorem qiW:AD 122=some ⟨1,24,[.A3 1 [] .ex],.slice 56⟩:=rfl
theorem xG:AD 124=some ⟨1,24,[.A3 1 [] .ex],.slice 162⟩:=rfl
theorem qiX:AD 126=some ⟨9,168,[.v (.int .i64 0),.A3 7 [] .ex,.A3 1 [] .ex,.A3 1 [] .ex,.A3 1 [] .ex,.v (.int .i64 0),.v (.int .i64 0),.A3 7 [] .ex,.A3 1 [] .ex],.struct [(0,120),(4,122),(5,3),(6,34),(8,124)]⟩:=rfl
theorem qiY:AD 129=some ⟨1,8,[.v (.pointer none)],.other⟩:=rfl
theorem qiZ:AD 130=some ⟨1,24,[.A3 1 [] .ex],.slice 172⟩:=rfl
theorem qia:AD 132=some ⟨9,112,[.A3 2 [] .ex,.v (.int .i64 0),.A3 1 [] .ex,.v (.int .i64 0),.v (.bool false),.v (.bool false),.A3 1 [] .ex,.v (.int .i64 0),.v (.int .i64 0)],.struct [(0,24),(2,130),(3,3),(4,4),(5,4),(6,67)]⟩:=rfl
theorem qib:AD 138=some ⟨2,16,[.v (.int .i64 0),.v (.int .i64 0)],.struct [(0,3),(1,3)]⟩:=rfl
theorem qic:AD 139=some ⟨1,24,[.A3 2 [] .ex],.slice 142⟩:=rfl
theorem xH:AD 140=some ⟨1,8,[.v (.int .u64 0)],.other⟩:=rfl
theorem qid:AD 142=some ⟨2,16,[.v (.int .u64 0),.v (.int .u64 0)],.array 2 140⟩:=rfl
theorem qjU:AD 148=some ⟨2,48,[.A3 1 [] .ex,.A3 1 [] .ex],.struct [(0,41),(1,41)]⟩:=rfl
theorem xI:AD 162=some ⟨1,8,[.v (.map none)],.map 3 3⟩:=rfl
theorem qjV:AD 166=some ⟨2,16,[.v (.int .i64 0),.v (.int .i64 0)],.struct [(0,3),(1,3)]⟩:=rfl
theorem qjW:AD 167=some ⟨1,24,[.A3 2 [] .ex],.slice 166⟩:=rfl
theorem qjX:AD 168=some ⟨1,8,[.v (.pointer none)],.other⟩:=rfl
theorem qjY:AD 171=some ⟨1,24,[.A3 4 [] .ex],.slice 178⟩:=rfl
theorem qjZ:AD 172=some ⟨1,8,[.v (.pointer none)],.other⟩:=rfl
theorem qja:AD 173=some ⟨1,8,[.v (.map none)],.map 3 178⟩:=rfl
theorem qjb:AD 175=some ⟨5,40,[.v (.int .i64 0),.v (.int .i64 0),.v (.int .i64 0),.v (.int .i64 0),.v (.map none)],.struct [(0,3),(1,3),(2,3),(3,3),(4,173)]⟩:=rfl
theorem qjc:AD 176=some ⟨1,8,[.v (.pointer none)],.other⟩:=rfl
theorem qjd:AD 178=some ⟨4,48,[.v (.int .i64 0),.v (.int .i64 0),.A3 4 [] .ex,.v (.pointer none)],.struct [(0,3),(1,3),(2,171),(3,176)]⟩:=rfl
theorem qje:AD 187=some ⟨1,8,[.v .nilFunc],.other⟩:=rfl
theorem qjf:AD 191=some ⟨1,8,[.v (.int .u64 0)],.other⟩:=rfl
theorem qjg:AD 195=some ⟨1,8,[.v (.pointer none)],.other⟩:=rfl
theorem qjh:AD 206=some ⟨1,8,[.v .nilFunc],.other⟩:=rfl
theorem qji:AD 211=some ⟨1,8,[.v (.pointer none)],.other⟩:=rfl
theorem qkm:CZ Go.Proofs.Tryz.prog 1 ⟨1,8,[.v .nilFunc],.other⟩=true:=by kernel_rfl
theorem qkn:CZ Go.Proofs.Tryz.prog 2 ⟨1,8,[.v (.int .i64 0)],.other⟩=true:=by kernel_rfl
theorem qko:CZ Go.Proofs.Tryz.prog 3 ⟨1,8,[.v (.int .i64 0)],.other⟩=true:=by kernel_rfl
theorem qkp:CZ Go.Proofs.Tryz.prog 4 ⟨1,1,[.v (.bool false)],.other⟩=true:=by kernel_rfl
theorem qkq:CZ Go.Proofs.Tryz.prog 5 ⟨1,1,[.v (.int .u8 0)],.other⟩=true:=by kernel_rfl
theorem qkr:CZ Go.Proofs.Tryz.prog 9 ⟨1,16,[.v (.string ByteArray.empty)],.other⟩=true:=by kernel_rfl
theorem qjj:CZ Go.Proofs.Tryz.prog 22 ⟨1,24,[.A3 2 [] .ex],.slice 34⟩=true:=by kernel_rfl
theorem qjk:CZ Go.Proofs.Tryz.prog 24 ⟨2,32,[.A3 2 [] .ex,.v (.int .i64 0)],.struct [(0,22),(1,3)]⟩=true:=by kernel_rfl
theorem qjl:CZ Go.Proofs.Tryz.prog 26 ⟨1,8,[.v (.int .i64 0)],.other⟩=true:=by kernel_rfl
theorem qjm:CZ Go.Proofs.Tryz.prog 32 ⟨1,24,[.A3 7 [] .ex],.slice 50⟩=true:=by kernel_rfl
theorem qjn:CZ Go.Proofs.Tryz.prog 34 ⟨2,32,[.v (.int .i64 0),.A3 7 [] .ex],.struct [(0,3),(1,32)]⟩=true:=by kernel_rfl
theorem qjo:CZ Go.Proofs.Tryz.prog 35 ⟨1,24,[.A3 3 [] .ex],.slice 43⟩=true:=by kernel_rfl
theorem qjp:CZ Go.Proofs.Tryz.prog 38 ⟨1,24,[.A3 1 [] .ex],.slice 41⟩=true:=by kernel_rfl
theorem qjq:CZ Go.Proofs.Tryz.prog 41 ⟨1,24,[.A3 1 [] .ex],.slice 3⟩=true:=by kernel_rfl
theorem qjr:CZ Go.Proofs.Tryz.prog 43 ⟨3,40,[.v (.int .i64 0),.A3 1 [] .ex,.v (.int .i64 0)],.struct [(0,3),(1,41),(2,3)]⟩=true:=by kernel_rfl
theorem qjs:CZ Go.Proofs.Tryz.prog 45 ⟨1,24,[.A3 2 [] .ex],.slice 82⟩=true:=by kernel_rfl
theorem qjt:CZ Go.Proofs.Tryz.prog 47 ⟨5,72,[.v (.int .i64 0),.v (.int .i64 0),.v (.int .i64 0),.A3 1 [] .ex,.A3 2 [] .ex],.struct [(0,3),(1,3),(2,3),(3,41),(4,45)]⟩=true:=by kernel_rfl
theorem qjI:CZ Go.Proofs.Tryz.prog 48 ⟨1,24,[.A3 4 [] .ex],.slice 65⟩=true:=by kernel_rfl
theorem qjJ:CZ Go.Proofs.Tryz.prog 50 ⟨7,120,[.A3 1 [] .ex,.A3 4 [] .ex,.v (.int .i64 0),.v (.int .i64 0),.v (.int .i64 0),.A3 1 [] .ex,.A3 2 [] .ex],.struct [(0,41),(1,48),(2,47)]⟩=true:=by kernel_rfl
theorem qjK:CZ Go.Proofs.Tryz.prog 56 ⟨1,24,[.A3 1 [] .ex],.slice 4⟩=true:=by kernel_rfl
theorem qjL:CZ Go.Proofs.Tryz.prog 65 ⟨4,48,[.v (.int .i64 0),.v (.int .i64 0),.v (.int .i64 0),.A3 1 [] .ex],.struct [(0,3),(1,3),(2,3),(3,41)]⟩=true:=by kernel_rfl
theorem qjM:CZ Go.Proofs.Tryz.prog 67 ⟨3,40,[.A3 1 [] .ex,.v (.int .i64 0),.v (.int .i64 0)],.struct [(0,41),(1,3),(2,3)]⟩=true:=by kernel_rfl
theorem qjN:CZ Go.Proofs.Tryz.prog 77 ⟨1,24,[.A3 2 [] .ex],.slice 79⟩=true:=by kernel_rfl
theorem qjO:CZ Go.Proofs.Tryz.prog 79 ⟨2,16,[.v (.int .i64 0),.v (.int .i64 0)],.array 2 3⟩=true:=by kernel_rfl
theorem qjP:CZ Go.Proofs.Tryz.prog 82 ⟨2,32,[.v (.int .i64 0),.A3 1 [] .ex],.struct [(0,3),(1,41)]⟩=true:=by kernel_rfl
theorem qjQ:CZ Go.Proofs.Tryz.prog 83 ⟨1,24,[.A3 2 [] .ex],.slice 87⟩=true:=by kernel_rfl
theorem qjR:CZ Go.Proofs.Tryz.prog 87 ⟨2,16,[.v (.int .i64 0),.v (.int .i64 0)],.struct [(0,3),(1,3)]⟩=true:=by kernel_rfl
theorem qjS:CZ Go.Proofs.Tryz.prog 97 ⟨1,8,[.v .nilFunc],.other⟩=true:=by kernel_rfl
theorem qhn:CZ Go.Proofs.Tryz.prog 102 ⟨1,8,[.v (.pointer none)],.other⟩=true:=by kernel_rfl
theorem qho:CZ Go.Proofs.Tryz.prog 103 ⟨1,8,[.v (.map none)],.map 3 138⟩=true:=by kernel_rfl
theorem qh6:CZ Go.Proofs.Tryz.prog 105 ⟨3,40,[.v (.int .i64 0),.A3 7 [] .ex,.v (.map none)],.struct [(0,34),(2,103)]⟩=true:=by kernel_rfl
theorem qh7:CZ Go.Proofs.Tryz.prog 110 ⟨1,8,[.v (.int .u64 0)],.other⟩=true:=by kernel_rfl
theorem qh8:CZ Go.Proofs.Tryz.prog 112 ⟨1,8,[.v .nilFunc],.other⟩=true:=by kernel_rfl
theorem qh9:CZ Go.Proofs.Tryz.prog 120 ⟨4,80,[.v (.int .i64 0),.A3 7 [] .ex,.A3 1 [] .ex,.A3 1 [] .ex],.struct [(0,34),(2,41),(3,38)]⟩=true:=by kernel_rfl
theorem qhA:CZ Go.Proofs.Tryz.prog 121 ⟨1,8,[.v (.pointer none)],.other⟩=true:=by kernel_rfl
theorem qhB:CZ Go.Proofs.Tryz.prog 122 ⟨1,24,[.A3 1 [] .ex],.slice 56⟩=true:=by kernel_rfl
theorem qhC:CZ Go.Proofs.Tryz.prog 124 ⟨1,24,[.A3 1 [] .ex],.slice 162⟩=true:=by kernel_rfl
theorem qhD:CZ Go.Proofs.Tryz.prog 126 ⟨9,168,[.v (.int .i64 0),.A3 7 [] .ex,.A3 1 [] .ex,.A3 1 [] .ex,.A3 1 [] .ex,.v (.int .i64 0),.v (.int .i64 0),.A3 7 [] .ex,.A3 1 [] .ex],.struct [(0,120),(4,122),(5,3),(6,34),(8,124)]⟩=true:=by kernel_rfl
theorem qhE:CZ Go.Proofs.Tryz.prog 129 ⟨1,8,[.v (.pointer none)],.other⟩=true:=by kernel_rfl
theorem qhF:CZ Go.Proofs.Tryz.prog 130 ⟨1,24,[.A3 1 [] .ex],.slice 172⟩=true:=by kernel_rfl
theorem qhG:CZ Go.Proofs.Tryz.prog 132 ⟨9,112,[.A3 2 [] .ex,.v (.int .i64 0),.A3 1 [] .ex,.v (.int .i64 0),.v (.bool false),.v (.bool false),.A3 1 [] .ex,.v (.int .i64 0),.v (.int .i64 0)],.struct [(0,24),(2,130),(3,3),(4,4),(5,4),(6,67)]⟩=true:=by kernel_rfl
theorem qhH:CZ Go.Proofs.Tryz.prog 138 ⟨2,16,[.v (.int .i64 0),.v (.int .i64 0)],.struct [(0,3),(1,3)]⟩=true:=by kernel_rfl
theorem qhI:CZ Go.Proofs.Tryz.prog 139 ⟨1,24,[.A3 2 [] .ex],.slice 142⟩=true:=by kernel_rfl
theorem qhJ:CZ Go.Proofs.Tryz.prog 140 ⟨1,8,[.v (.int .u64 0)],.other⟩=true:=by kernel_rfl
theorem qhK:CZ Go.Proofs.Tryz.prog 142 ⟨2,16,[.v (.int .u64 0),.v (.int .u64 0)],.array 2 140⟩=true:=by kernel_rfl
theorem qhL:CZ Go.Proofs.Tryz.prog 148 ⟨2,48,[.A3 1 [] .ex,.A3 1 [] .ex],.struct [(0,41),(1,41)]⟩=true:=by kernel_rfl
theorem qhM:CZ Go.Proofs.Tryz.prog 162 ⟨1,8,[.v (.map none)],.map 3 3⟩=true:=by kernel_rfl
theorem qhN:CZ Go.Proofs.Tryz.prog 166 ⟨2,16,[.v (.int .i64 0),.v (.int .i64 0)],.struct [(0,3),(1,3)]⟩=true:=by kernel_rfl
theorem qhO:CZ Go.Proofs.Tryz.prog 167 ⟨1,24,[.A3 2 [] .ex],.slice 166⟩=true:=by kernel_rfl
theorem qhP:CZ Go.Proofs.Tryz.prog 168 ⟨1,8,[.v (.pointer none)],.other⟩=true:=by kernel_rfl
theorem qhQ:CZ Go.Proofs.Tryz.prog 171 ⟨1,24,[.A3 4 [] .ex],.slice 178⟩=true:=by kernel_rfl
theorem qhR:CZ Go.Proofs.Tryz.prog 172 ⟨1,8,[.v (.pointer none)],.other⟩=true:=by kernel_rfl
theorem qhS:CZ Go.Proofs.Tryz.prog 173 ⟨1,8,[.v (.map none)],.map 3 178⟩=true:=by kernel_rfl
theorem qhT:CZ Go.Proofs.Tryz.prog 175 ⟨5,40,[.v (.int .i64 0),.v (.int .i64 0),.v (.int .i64 0),.v (.int .i64 0),.v (.map none)],.struct [(0,3),(1,3),(2,3),(3,3),(4,173)]⟩=true:=by kernel_rfl
theorem qgz:CZ Go.Proofs.Tryz.prog 176 ⟨1,8,[.v (.pointer none)],.other⟩=true:=by kernel_rfl
theorem qh0:CZ Go.Proofs.Tryz.prog 178 ⟨4,48,[.v (.int .i64 0),.v (.int .i64 0),.A3 4 [] .ex,.v (.pointer none)],.struct [(0,3),(1,3),(2,171),(3,176)]⟩=true:=by kernel_rfl
theorem qh1:CZ Go.Proofs.Tryz.prog 187 ⟨1,8,[.v .nilFunc],.other⟩=true:=by kernel_rfl
theorem qh2:CZ Go.Proofs.Tryz.prog 191 ⟨1,8,[.v (.int .u64 0)],.other⟩=true:=by kernel_rfl
theorem qh3:CZ Go.Proofs.Tryz.prog 195 ⟨1,8,[.v (.pointer none)],.other⟩=true:=by kernel_rfl
theorem qh4:CZ Go.Proofs.Tryz.prog 206 ⟨1,8,[.v .nilFunc],.other⟩=true:=by kernel_rfl
theorem qh5:CZ Go.Proofs.Tryz.prog 211 ⟨1,8,[.v (.pointer none)],.other⟩=true:=by kernel_rfl
set_option maxRecDepth 100000 in
theorem hT:CH Go.Proofs.Tryz.prog AD:=by
 intro t ti h;unfold AD at h;split at h
 ·cases h;exact Ck qkm
 ·cases h;exact Ck qkn
 ·cases h;exact Ck qko
 ·cases h;exact Ck qkp
 ·cases h;exact Ck qkq
 ·cases h;exact Ck qkr
 ·cases h;exact Ck qjj
 ·cases h;exact Ck qjk
 ·cases h;exact Ck qjl
 ·cases h;exact Ck qjm
 ·cases h;exact Ck qjn
 ·cases h;exact Ck qjo
 ·cases h;exact Ck qjp
 ·cases h;exact Ck qjq
 ·cases h;exact Ck qjr
 ·cases h;exact Ck qjs
 ·cases h;exact Ck qjt
 ·cases h;exact Ck qjI
 ·cases h;exact Ck qjJ
 ·cases h;exact Ck qjK
 ·cases h;exact Ck qjL
 ·cases h;exact Ck qjM
 ·cases h;exact Ck qjN
 ·cases h;exact Ck qjO
 ·cases h;exact Ck qjP
 ·cases h;exact Ck qjQ
 ·cases h;exact Ck qjR
 ·cases h;exact Ck qjS
 ·cases h;exact Ck qhn
 ·cases h;exact Ck qho
 ·cases h;exact Ck qh6
 ·cases h;exact Ck qh7
 ·cases h;exact Ck qh8
 ·cases h;exact Ck qh9
 ·cases h;exact Ck qhA
 ·cases h;exact Ck qhB
 ·cases h;exact Ck qhC
 ·cases h;exact Ck qhD
 ·cases h;exact Ck qhE
 ·cases h;exact Ck qhF
 ·cases h;exact Ck qhG
 ·cases h;exact Ck qhH
 ·cases h;exact Ck qhI
 ·cases h;exact Ck qhJ
 ·cases h;exact Ck qhK
 ·cases h;exact Ck qhL
 ·cases h;exact Ck qhM
 ·cases h;exact Ck qhN
 ·cases h;exact Ck qhO
 ·cases h;exact Ck qhP
 ·cases h;exact Ck qhQ
 ·cases h;exact Ck qhR
 ·cases h;exact Ck qhS
 ·cases h;exact Ck qhT
 ·cases h;exact Ck qgz
 ·cases h;exact Ck qh0
 ·cases h;exact Ck qh1
 ·cases h;exact Ck qh2
 ·cases h;exact Ck qh3
 ·cases h;exact Ck qh4
 ·cases h;exact Ck qh5
 cases h
theorem hm:Go.Proofs.Tryz.prog.follows .mixedOrders=true:=by kernel_rfl
structure Ins where
 to:Int
 op:Int
 n:Int
 args:List Int
structure Edge where
 block:Int
 args:List Int
structure Term where
 kind:Int
 arg:Int
 n:Int
 cases:List Int
 to:List Edge
structure Block where
 params:List Int
 ins:List Ins
 term:Term
structure Func where
 name:Int
 blocks:List Block
structure Ad where
 fns:List Func
 main:Int
abbrev aI(n:Int):A2:=.v (.int .i64 n)
abbrev AA(l:List Int):A2:=.A3 1 (l.map aI) .sh
def Ins.enc(i:Ins):A2:=.agg [aI i.to,aI i.op,aI i.n,AA i.args]
abbrev B7(l:List Ins):A2:=.A3 4 (l.map Ins.enc) .sh
def Edge.enc(e:Edge):A2:=.agg [aI e.block,AA e.args]
abbrev An(l:List Edge):A2:=.A3 2 (l.map Edge.enc) .sh
def Term.enc(t:Term):A2:=.agg [aI t.kind,aI t.arg,aI t.n,AA t.cases,An t.to]
def Block.enc(b:Block):A2:=.agg [AA b.params,B7 b.ins,aI b.term.kind,aI b.term.arg,aI b.term.n,AA b.term.cases,An b.term.to]
abbrev AR(l:List Block):A2:=.A3 7 (l.map Block.enc) .sh
def Func.enc(f:Func):A2:=.agg [aI f.name,AR f.blocks]
abbrev C8(l:List Func):A2:=.A3 2 (l.map Func.enc) .sh
def Ad.enc(u:Ad):A2:=.agg [C8 u.fns,aI u.main]
theorem BU(n:Nat)(l:List Int):AQ n (l.map aI):=by
 rw[CF];intro x hx;obtain⟨c,_,rfl⟩:=List.mem_map.1 hx;trivial
theorem qfD(l:List Int):(l.map aI).map A2.share=l.map aI:=by
 rw[HV];rfl
theorem Ins.D'(i:Ins):i.enc.cells=[aI i.to,aI i.op,aI i.n,AA i.args]:=rfl
theorem Ins.fold(i:Ins):A2.agg [aI i.to,aI i.op,aI i.n,AA i.args]=i.enc:=rfl
theorem Ins.Cr(n:Nat)(i:Ins):i.enc.upto n:=by
 simp only[Ins.enc,A2.upto,AQ,FW,FA,BU]
theorem Ins.AX(n:Nat)(l:List Ins):AQ n (l.map Ins.enc):=by
 rw[CF];intro x hx;obtain⟨c,_,rfl⟩:=List.mem_map.1 hx;exact c.Cr n
theorem Ins.EK(i:Ins):i.enc.flat:=trivial
theorem Ins.E4(i:Ins):i.enc.share=i.enc:=rfl
theorem Ins.M0(l:List Ins):(l.map Ins.enc).map A2.share=l.map Ins.enc:=by
 rw[HV];rfl
theorem Edge.D'(e:Edge):e.enc.cells=[aI e.block,AA e.args]:=rfl
theorem Edge.fold(e:Edge):A2.agg [aI e.block,AA e.args]=e.enc:=rfl
theorem Edge.Cr(n:Nat)(e:Edge):e.enc.upto n:=by
 simp only[Edge.enc,A2.upto,AQ,FW,FA,BU]
theorem Edge.AX(n:Nat)(l:List Edge):AQ n (l.map Edge.enc):=by
 rw[CF];intro x hx;obtain⟨c,_,rfl⟩:=List.mem_map.1 hx;exact c.Cr n
theorem Edge.EK(e:Edge):e.enc.flat:=trivial
theorem Edge.E4(e:Edge):e.enc.share=e.enc:=rfl
theorem Edge.M0(l:List Edge):(l.map Edge.enc).map A2.share=l.map Edge.enc:=by
 rw[HV];rfl
theorem Term.D'(t:Term):t.enc.cells=[aI t.kind,aI t.arg,aI t.n,AA t.cases,An t.to]:=rfl
theorem Term.fold(t:Term):A2.agg [aI t.kind,aI t.arg,aI t.n,AA t.cases,An t.to]=t.enc:=rfl
theorem Term.Cr(n:Nat)(t:Term):t.enc.upto n:=by
 simp only[Term.enc,A2.upto,AQ,FW,FA,BU,Edge.AX]
theorem Term.AX(n:Nat)(l:List Term):AQ n (l.map Term.enc):=by
 rw[CF];intro x hx;obtain⟨c,_,rfl⟩:=List.mem_map.1 hx;exact c.Cr n
theorem Term.EK(t:Term):t.enc.flat:=trivial
theorem Term.E4(t:Term):t.enc.share=t.enc:=rfl
theorem Term.M0(l:List Term):(l.map Term.enc).map A2.share=l.map Term.enc:=by
 rw[HV];rfl
theorem Block.D'(b:Block):b.enc.cells=[AA b.params,B7 b.ins,aI b.term.kind,aI b.term.arg,aI b.term.n,AA b.term.cases,An b.term.to]:=rfl
theorem Block.fold(b:Block):A2.agg [AA b.params,B7 b.ins,aI b.term.kind,aI b.term.arg,aI b.term.n,AA b.term.cases,An b.term.to]=b.enc:=rfl
theorem Block.Cr(n:Nat)(b:Block):b.enc.upto n:=by
 simp only[Block.enc,A2.upto,AQ,FW,FA,BU,Edge.AX,Ins.AX]
theorem Block.AX(n:Nat)(l:List Block):AQ n (l.map Block.enc):=by
 rw[CF];intro x hx;obtain⟨c,_,rfl⟩:=List.mem_map.1 hx;exact c.Cr n
theorem Block.EK(b:Block):b.enc.flat:=trivial
theorem Block.E4(b:Block):b.enc.share=b.enc:=rfl
theorem Block.M0(l:List Block):(l.map Block.enc).map A2.share=l.map Block.enc:=by
 rw[HV];rfl
theorem Func.D'(f:Func):f.enc.cells=[aI f.name,AR f.blocks]:=rfl
theorem Func.fold(f:Func):A2.agg [aI f.name,AR f.blocks]=f.enc:=rfl
theorem Func.Cr(n:Nat)(f:Func):f.enc.upto n:=by
 simp only[Func.enc,A2.upto,AQ,FW,FA,BU,Block.AX]
theorem Func.AX(n:Nat)(l:List Func):AQ n (l.map Func.enc):=by
 rw[CF];intro x hx;obtain⟨c,_,rfl⟩:=List.mem_map.1 hx;exact c.Cr n
theorem Func.EK(f:Func):f.enc.flat:=trivial
theorem Func.E4(f:Func):f.enc.share=f.enc:=rfl
theorem Func.M0(l:List Func):(l.map Func.enc).map A2.share=l.map Func.enc:=by
 rw[HV];rfl
theorem Ad.D'(u:Ad):u.enc.cells=[C8 u.fns,aI u.main]:=rfl
theorem Ad.fold(u:Ad):A2.agg [C8 u.fns,aI u.main]=u.enc:=rfl
theorem Ad.Cr(n:Nat)(u:Ad):u.enc.upto n:=by
 simp only[Ad.enc,A2.upto,AQ,FW,FA,BU,Func.AX]
theorem Ad.AX(n:Nat)(l:List Ad):AQ n (l.map Ad.enc):=by
 rw[CF];intro x hx;obtain⟨c,_,rfl⟩:=List.mem_map.1 hx;exact c.Cr n
theorem Ad.EK(u:Ad):u.enc.flat:=trivial
theorem Ad.E4(u:Ad):u.enc.share=u.enc:=rfl
theorem Ad.M0(l:List Ad):(l.map Ad.enc).map A2.share=l.map Ad.enc:=by
 rw[HV];rfl
theorem qmD:X3 prog 3=some (.int .i64):=by
 unfold X3;rw[Tryz.underlying3]
def Bi(n:Int):Prop:=-9223372036854775808<=n∧n<=9223372036854775807
def It(l:List Int):Prop:=∀n∈l,Bi n
def Ins.fit(i:Ins):Prop:=Bi i.to∧Bi i.op∧Bi i.n∧It i.args∧i.args.length<=2 ^ 47
def Edge.fit(e:Edge):Prop:=Bi e.block∧It e.args∧e.args.length<=2 ^ 47
def Term.fit(t:Term):Prop:=Bi t.kind∧Bi t.arg∧Bi t.n∧It t.cases∧t.cases.length<=2 ^ 47∧t.to.length<=2 ^ 47∧∀e∈t.to,e.fit
def Block.fit(b:Block):Prop:=It b.params∧b.params.length<=2 ^ 47∧b.ins.length<=2 ^ 47∧(∀i∈b.ins,i.fit)∧b.term.fit
def Func.fit(f:Func):Prop:=Bi f.name∧f.blocks.length<=2 ^ 47∧∀b∈f.blocks,b.fit
def Ad.fit(u:Ad):Prop:=Bi u.main∧u.fns.length<=2 ^ 47∧∀f∈u.fns,f.fit
inductive SV where
 | mk (kind n:Int) (list:List SV) (arr:Option Nat)
def eP:Option Nat->A2
 | none=>.v (.pointer none)
 | some id=>.mp id 0
namespace SV
def kind:SV->Int|mk k _ _ _=>k
def n:SV->Int|mk _ n _ _=>n
def list:SV->List SV|mk _ _ l _=>l
def arr:SV->Option Nat|mk _ _ _ a=>a
mutual
def enc:SV->A2
 | mk k n l a=>.agg [aI k,aI n,.A3 4 (br l) .sh,eP a]
def br:List SV->List A2
 | []=>[]
 | p::r=>p.enc::br r
end
theorem vc:∀l:List SV,br l=l.map enc
 | []=>by simp[br]
 | p::r=>by simp[br,vc r]
theorem KY(p:SV):p.enc=.agg [aI p.kind,aI p.n,.A3 4 (p.list.map enc) .sh,eP p.arr]:=by
 cases p with
 | mk k n l a=>simp[enc,kind,SV.n,list,arr,vc]
theorem fold(p:SV):A2.agg [aI p.kind,aI p.n,.A3 4 (p.list.map enc) .sh,eP p.arr]=p.enc:=(KY p).symm
theorem QB(k n:Int)(l:List SV)(a:Option Nat):(mk k n l a).enc=.agg [aI k,aI n,.A3 4 (l.map enc) .sh,eP a]:=KY _
theorem D'(p:SV):p.enc.cells=[aI p.kind,aI p.n,.A3 4 (p.list.map enc) .sh,eP p.arr]:=by
 rw[KY];rfl
theorem qdy(p:SV):A2.agg p.enc.cells=p.enc:=by
 rw[D',fold]
theorem _root_.Go.Proofs.YtjdnhamngpafmaaGreat.gg(a:Option Nat):(eP a).Dd=eP a:=by cases a<;>rfl
theorem _root_.Go.Proofs.YtjdnhamngpafmaaGreat.qeU(a:Option Nat):(eP a).scalar:=by cases a<;>trivial
theorem E4(p:SV):p.enc.share=p.enc:=by
 rw[KY];have:=gg p.arr;unfold A2.Dd at this;simp[A2.share,A2.Dd,this]
theorem EK(p:SV):p.enc.flat:=by
 rw[KY];trivial
theorem M0(l:List SV):(l.map enc).map A2.share=l.map enc:=by
 rw[HV];exact Rb fun p _=>E4 p
theorem Py(p:SV):p.enc.cells.length=4:=by
 rw[D'];rfl
inductive BC(n:Nat):SV->Prop
 | mk {k m:Int} {l:List SV} {a:Option Nat} (ha:∀id,a=some id->id<n) (hl:∀v,v∈l->BC n v):BC n (.mk k m l a)
theorem BC.mono{n m:Nat}(h:n<=m){v:SV}(k:BC n v):BC m v:=by
 induction k with
 | mk ha hl ih=>exact .mk (fun id e=>L' (ha id e) h) ih
theorem qiI{n:Nat}{a:Option Nat}(h:∀id,a=some id->id<n):(eP a).upto n:=by
 cases a with
 | none=>trivial
 | some id=>exact h id rfl
theorem BC.Cr{n:Nat}{p:SV}(h:BC n p):p.enc.upto n:=by
 induction h with
 | mk ha hl ih =>
  rw[QB];simp only[A2.upto,AQ,FA,FW];refine⟨?_,qiI ha⟩;rw[CF];intro x hx;obtain⟨v,hv,rfl⟩:=List.mem_map.1 hx;exact ih v hv
variable {l:List SV}
theorem AX{n:Nat}(h:∀v∈l,BC n v):AQ n (l.map enc):=by
 rw[CF];intro x hx;obtain⟨v,hv,rfl⟩:=List.mem_map.1 hx;exact(h v hv).Cr
theorem ZX{n:Nat}(h:∀v∈l,BC n v):AQ n (AP (l.map enc)):=by
 rw[CF];intro c hc;simp only[AP,L0,JQ]at hc;obtain⟨_,⟨p,hp,rfl⟩,hc⟩:=hc;have:=(h p hp).Cr;rw[KY]at this;rw[D']at hc;simp only[A2.upto,CF]at this;exact this c hc
theorem qjH(l:List SV):(AP (l.map enc)).length=l.length*4:=by
 rw[Ja (sz:=4) (fun x hx=>by
  obtain⟨p,_,rfl⟩:=List.mem_map.1 hx;exact p.Py)]
 simp
theorem xB:∀{l:List SV} {k:Nat} {p:SV},l[k]?=some p->((AP (l.map enc)).drop (k*4)).take 4=p.enc.cells
 | q::r,0,p,h=>by
  simp only[Dh,AM]at h;subst h;simp only[Bc,AP,GF,MH,I7];rw[Zo jM,Cb jM]
 | q::r,k+1,p,h=>by
  have ih:=xB (l:=r) (k:=k) (p:=p) Aa;simp only[Bc,AP,GF]at ih ⊢;rw[WJ,KD qT,Py,show(k+1)*4-4=k*4 from I];exact ih
theorem qie{k:Nat}(h:k<l.length)(q:SV):As (AP (l.map enc)) (k*4) q.enc.cells=AP ((l.set k q).map enc):=by
 induction l generalizing k with
 | nil=>simp at h
 | cons p r ih =>
  cases k with
  | zero =>
   simp only[OH,Bc,AP,GF,As,MH,T4,HF,Db,Py];rw[pc jM,KD jM];rfl
  | succ k =>
   have:=ih (k:=k) Aa;simp only[US,Bc,AP,GF,As,Py]at this ⊢;rw[YD,WJ,Py,Cb qT,KD qT,show(k+1)*4-4=k*4 from I,show(k+1)*4+4-4=k*4+4 from I,HF,Ez,this]
def word(n:Int):SV:=mk 0 n [] none
def zero:SV:=mk 0 0 [] none
inductive Wf(f:Nat)(a:Nat->Prop):SV->Prop
 | mk {k m:Int} {l:List SV} {r:Option Nat}
   (h0:0<=k∧k<=4) (h1:k=0∨k=1->-1073741824<=m∧m<=1073741823) (h2:k=2->0<=m∧m<f) (h3:k=3->∃id,r=some id)
   (h4:k=4->∀v,v∈l->v.kind=0) (hl:l.length<=1000) (hr:∀id,r=some id->a id) (h:∀v,v∈l->Wf f a v):Wf f a (.mk k m l r)
variable {f:Nat}{a:Nat->Prop}
theorem Wf.under{n:Nat}(ha:∀id,a id->id<n){v:SV}(h:Wf f a v):BC n v:=by
 induction h with
 | mk h0 h1 h2 h3 h4 hl hr h ih=>exact .mk (fun id e=>ha id (hr id e)) ih
theorem Wf.mono{b:Nat->Prop}(R7:∀id,a id->b id){v:SV}(h:Wf f a v):Wf f b v:=by
 induction h with
 | mk h0 h1 h2 h3 h4 hl hr h ih=>exact .mk h0 h1 h2 h3 h4 hl (fun id e=>R7 id (hr id e)) ih
theorem Wf.word{f:Nat}{a:Nat->Prop}{n:Int}(h:-1073741824<=n∧n<=1073741823):Wf f a (word n) :=
 .mk I (fun _=>h) I I I A6 A6 A6
theorem Wf.zero{f:Nat}{a:Nat->Prop}:Wf f a zero:=Wf.word (n:=0) I
variable {v:SV}
theorem Wf.num(h:Wf f a v):v.kind=0∨v.kind=1->-1073741824<=v.n∧v.n<=1073741823:=by cases h;assumption
theorem Wf.fn(h:Wf f a v):v.kind=2->0<=v.n∧v.n<f:=by cases h;assumption
theorem Wf.array(h:Wf f a v):v.kind=3->∃id,v.arr=some id:=by cases h;assumption
theorem Wf.vec(h:Wf f a v):v.kind=4->∀x∈v.list,x.kind=0:=by cases h;assumption
theorem Wf.len(h:Wf f a v):v.list.length<=1000:=by cases h;assumption
theorem Wf.ref(h:Wf f a v):∀id,v.arr=some id->a id:=by cases h;assumption
theorem Wf.kids(h:Wf f a v):∀x∈v.list,Wf f a x:=by cases h;assumption
end SV
def JI:List (Int×SV)->Int->Option SV
 | [],_=>none
 | (k,v)::r,key=>if k=key then some v else JI r key
def CQ:List (Int×SV)->Int->SV->List (Int×SV)
 | [],key,y=>[(key,y)]
 | (k,x)::r,key,y=>if k=key then(key,y)::r else(k,x)::CQ r key y
def CG(e:Int×SV):Value×A2:=(.int .i64 e.1,e.2.enc)
theorem kh(k l:Int):P8 (.int .i64 k) (.int .i64 l)=decide (k=l):=by
 simp[P8]
theorem zd(es:List (Int×SV))(k:Int):HC (es.map CG) (.int .i64 k)=(JI es k).map SV.enc:=by
 induction es with
 | nil=>rfl
 | cons p r ih =>
  obtain⟨a,v⟩:=p;simp only[Bc,CG,HC,JI,kh,Cp];split
  ·rfl
  exact ih
theorem eZ(es:List (Int×SV))(k:Int)(v:SV):Fa (es.map CG) (.int .i64 k) v.enc=(CQ es k v).map CG:=by
 induction es with
 | nil=>rfl
 | cons p r ih =>
  obtain⟨a,x⟩:=p;simp only[Bc,CG,Fa,CQ,kh,Cp];split
  ·rfl
  simp only[Bc,CG];rw[<-ih]
def Bq(es:List (Int×SV))(k:Int):SV:=(JI es k).getD .zero
theorem vb{es:List (Int×SV)}{k:Int}{v:SV}(h:JI es k=some v):∃e∈es,e.2=v:=by
 induction es with
 | nil=>simp[JI]at h
 | cons p r ih =>
  obtain⟨a,x⟩:=p;simp only[JI]at h;split at h
  ·exact⟨(a,x),A6,Aa⟩
  obtain⟨e,h1,h2⟩:=ih h;exact⟨e,Uc,h2⟩
theorem Xr{es:List (Int×SV)}{k:Int}{v:SV}{e:Int×SV}(h:e∈CQ es k v):e∈es∨e=(k,v):=by
 induction es with
 | nil=>simpa[CQ]using h
 | cons p r ih =>
  obtain⟨a,x⟩:=p;simp only[CQ]at h;split at h
  ·rcases List.mem_cons.1 h with h|h
   ·exact .inr h
   exact .inl WN
  rcases List.mem_cons.1 h with h|h
  ·exact .inl WN
  rcases ih h with h|h
  ·exact .inl WN
  exact .inr h
instance:Inhabited Ins:=⟨⟨0,0,0,[]⟩⟩
instance:Inhabited Edge:=⟨⟨0,[]⟩⟩
instance:Inhabited Term:=⟨⟨0,0,0,[],[]⟩⟩
instance:Inhabited Block:=⟨⟨[],[],default⟩⟩
instance:Inhabited Func:=⟨⟨0,[]⟩⟩
instance:Inhabited SV:=⟨.zero⟩
structure Fr where
 AW:Nat
 Ay:Nat
 fn:Int
 blk:Int
 pos:Nat
 to:Int
 vals:List (Int×SV)
structure MY where
 EI:Nat
 AS:Nat
 l:List SV
structure Mach where
 sid:Nat
 frames:List Fr
 heap:List MY
 next:Nat
 left:Int
 short:Bool
 over:Bool
 out:List Int
 fin:Int
 val:Int
def AB(u:Ad)(k:Int):Func:=u.fns[k.toNat]?.getD default
def A7(f:Func)(k:Int):Block:=f.blocks[k.toNat]?.getD default
def MD(n:Int):Int:=(n+1073741824) % 2147483648-1073741824
def Jb(op a b:Int):SV×Int :=
 if op=1 then(.word (MD (a+b)),0)
 else if op=2 then(.word (MD (a-b)),0)
 else if op=3 then(.word (MD (a*b)),0)
 else if op=6 then(.word (if a<b then 1 else 0),0)
 else if op=7 then(.word (if a=b then 1 else 0),0)
 else if b=0 then(.zero,1)
 else if op=4 then(.word (MD (a.tdiv b)),0)
 else(.word (a.tmod b),0)
def J1(l:List SV)(k:Int):Bool:=l.all fun v=>decide (v.kind=k)
def BS(l:List SV)(k:Nat):SV:=l[k]?.getD .zero
def I'(i:Ins)(args:List SV):SV×Int :=
 if i.op=11 then
  if((BS args 0).kind≠1∧(BS args 0).kind≠2)∨((BS args 0).list.length:Int)<=i.n then(.zero,5)else(BS (BS args 0).list i.n.toNat,0)
 else if(BS args 0).kind≠1 then(.zero,5)
 else if i.op=10 then(.word (BS args 0).n,0)
 else if i.op=12 then(.word (BS args 0).list.length,0)
 else if(BS args 1).kind≠0 then(.zero,5)
 else if(BS args 1).n<0∨((BS args 0).list.length:Int)<=(BS args 1).n then(.zero,2)
 else(BS (BS args 0).list (BS args 1).n.toNat,0)
def IT(op:Int):List SV->List SV->List SV
 | a::r,b::s=>(Jb op a.n b.n).1::IT op r s
 | _,_=>[]
def IM(i:Ins)(args:List SV):SV×Int :=
 if i.op=22 then
  if J1 args 0 then(.mk 4 0 args none,0)else(.zero,5)
 else if i.op=24 then
  if(BS args 0).kind≠4∨((BS args 0).list.length:Int)<=i.n then(.zero,5)else(BS (BS args 0).list i.n.toNat,0)
 else if !J1 args 4∨(BS args 0).list.length≠(BS args 1).list.length then(.zero,5)
 else(.mk 4 0 (IT i.n (BS args 0).list (BS args 1).list) none,0)
namespace Mach
def Ae(m:Mach)(n:Int):Mach:=if m.left<n then { m with short:=true,over:=true }else { m with left:=m.left-n }
def stop(m:Mach)(e n:Int):Mach:={ m with over:=true,fin:=e,val:=n }
def K8:List MY->Option Nat->List SV
 | [],_=>[]
 | a::r,id=>if id=some a.EI then a.l else K8 r id
def QF:List MY->Option Nat->List SV->List MY
 | [],_,_=>[]
 | a::r,id,l=>if id=some a.EI then⟨a.EI,a.AS,l⟩::r else a::QF r id l
def E6(m:Mach)(size fill:SV):Mach×SV×Int :=
 if size.kind≠0 then(m,.zero,5)
 else if size.n<0∨1024<size.n then(m,.zero,6)
 else if(m.Ae size.n).short then(m.Ae size.n,.zero,0)
 else({ m.Ae size.n with heap:=m.heap++[⟨m.next+8,m.next+7,List.replicate size.n.toNat fill⟩],next:=m.next+9 },.mk 3 0 [] (some (m.next+8)),0)
def effect(m:Mach)(i:Ins)(args:List SV):Mach×SV×Int :=
 if i.op=15 then
  if(BS args 0).kind≠0 then(m,.zero,5)
  else if m.out.length=1000 then(m,.zero,6)
  else({ m with out:=m.out++[(BS args 0).n] },.word 0,0)
 else if i.op=16 then m.E6 (BS args 0) (BS args 1)
 else if i.op=18 then
  if !J1 args 0 then(m,.zero,5)
  else if(BS args 0).n<0∨(BS args 1).n<=(BS args 0).n then(m,.zero,2)
  else(m,.word 0,0)
 else if(BS args 0).kind≠3∨(i.op≠17∧(BS args 1).kind≠0)then(m,.zero,5)
 else if i.op=17 then(m,.word (K8 m.heap (BS args 0).arr).length,0)
 else if(BS args 1).n<0∨((K8 m.heap (BS args 0).arr).length:Int)<=(BS args 1).n then(m,.zero,2)
 else if i.op=19 then(m,BS (K8 m.heap (BS args 0).arr) (BS args 1).n.toNat,0)
 else({ m with heap:=QF m.heap (BS args 0).arr ((K8 m.heap (BS args 0).arr).set (BS args 1).n.toNat (BS args 2)) },.word 0,0)
def exec(m:Mach)(i:Ins)(args:List SV):Mach×SV×Int :=
 if i.op=0 then(m,.word i.n,0)
 else if 1<=i.op∧i.op<=7 then
  if !J1 args 0 then(m,.zero,5)else(m,Jb i.op (BS args 0).n (BS args 1).n)
 else if i.op=8 then(m,.mk 1 i.n args none,0)
 else if i.op=9 then(m,.mk 2 i.n args none,0)
 else if i.op=10∨i.op=11∨i.op=12∨i.op=21 then(m,I' i args)
 else if i.op=22∨i.op=23∨i.op=24 then(m,IM i args)
 else if i.op=100 then(m,BS args 0,0)
 else m.effect i args
end Mach
def C7:List (Int×SV)->List Int->List SV->List (Int×SV)
 | es,p::ps,a::l=>C7 (CQ es p a) ps l
 | es,_,_=>es
def BV(es:List (Int×SV))(l:List Int):List SV:=l.map (Bq es)
def K3(t:Term)(n:Int):Nat :=
 if t.kind=2 then(if n≠0 then 0 else 1)else t.cases.findIdx (· == n)
namespace Mach
def enter(u:Ad)(m:Mach)(fn:Int)(args:List SV)(to:Int):Mach :=
 { m with sid:=m.next+2,next:=m.next+3,frames:=⟨m.next+1,m.next,fn,0,0,to,C7 [] (A7 (AB u fn) 0).params args⟩::m.frames }
def BW(m:Mach)(f:Fr):Mach:={ m with frames:=f::m.frames.tail }
def follow(u:Ad)(m:Mach)(f:Fr)(e:Edge):Mach :=
 m.BW { f with blk:=e.block,pos:=0,vals:=C7 f.vals (A7 (AB u f.fn) e.block).params (BV f.vals e.args) }
def leave(m:Mach)(f:Fr)(v:SV):Mach :=
 match m.frames.tail with
 | []=>{ m with frames:=[] }.stop 0 (if v.kind=0∨v.kind=1 then v.n else 0)
 | g::r=>{ m with frames:={ g with vals:=CQ g.vals f.to v }::r }
def finish(u:Ad)(m:Mach)(f:Fr)(t:Term):Mach :=
 if t.kind=4 then m.stop t.n 0
 else if t.kind=1 then m.follow u f (t.to[0]?.getD default)
 else if t.kind=0 then m.leave f (Bq f.vals t.arg)
 else if(Bq f.vals t.arg).kind≠0 then m.stop 5 0
 else m.follow u f (t.to[K3 t (Bq f.vals t.arg).n]?.getD default)
def settle(f:Fr)(to:Int)(r:Mach×SV×Int):Mach :=
 (if r.2.2≠0 then r.1.stop r.2.2 0 else r.1).BW { f with vals:=CQ f.vals to r.2.1 }
def act(u:Ad)(m:Mach)(f:Fr)(i:Ins)(args:List SV):Mach :=
 if i.op=13 then m.enter u i.n args i.to
 else if i.op=14 then
  if(BS args 0).kind=2∧(A7 (AB u (BS args 0).n) 0).params.length=args.length then m.enter u (BS args 0).n args i.to else m.stop 5 0
 else settle f i.to (m.exec i args)
def step(u:Ad)(m:Mach):Mach :=
 match m.frames with
 | []=>m
 | f::_ =>
  match (A7 (AB u f.fn) f.blk).ins[f.pos]? with
  | none=>m.finish u f (A7 (AB u f.fn) f.blk).term
  | some i=>(m.BW { f with pos:=f.pos+1 }).act u { f with pos:=f.pos+1 } i (BV f.vals i.args)
def start(fuel:Int):Mach:=⟨0,[],[],4,fuel,false,false,[],0,0⟩
def run(u:Ad):Nat->Mach->Mach
 | 0,m=>m
 | k+1,m=>if m.over then m else if(m.Ae 1).short then m.Ae 1 else run u k (step u (m.Ae 1))
end Mach
structure TX where
 out:List Int
 fin:Int
 val:Int
 n:Int
 e:Int
def D2(u:Ad)(fuel:Int):TX :=
 let m:=Mach.run u (fuel.toNat+2) ((Mach.start fuel).enter u u.main [] 0)
 if m.short then⟨[],0,0,0,13⟩else⟨m.out,m.fin,m.val,fuel-m.left,0⟩
def CR(n:Int):Prop:=-1073741824<=n∧n<=1073741823
structure nI(u:Ad)(i:Ins):Prop where
 op:(0<=i.op∧i.op<=24)∨i.op=100
 len:i.args.length<=4096
 fits:Bi i.to∧Bi i.n
 c0:i.op=0->CR i.n
 c2:(1<=i.op∧i.op<=7)∨i.op=16∨i.op=18∨i.op=19∨i.op=21∨i.op=23->i.args.length=2
 c1:i.op=10∨i.op=11∨i.op=12∨i.op=15∨i.op=17∨i.op=24∨i.op=100->i.args.length=1
 c3:i.op=20->i.args.length=3
 con:i.op=8->CR i.n∧i.args.length<=16
 qlt:i.op=9->0<=i.n∧i.n<u.fns.length∧i.args.length<=16
 call:i.op=13->0<=i.n∧i.n<u.fns.length∧(A7 (AB u i.n) 0).params.length=i.args.length
 app:i.op=14->1<=i.args.length
 sel:i.op=11∨i.op=24->0<=i.n
 pack:i.op=22->i.args.length<=16
 vec:i.op=23->i.n=1∨i.n=2∨i.n=3
structure fD(f:Func)(e:Edge):Prop where
 lo:0<=e.block
 hi:e.block<f.blocks.length
 args:e.args.length=(A7 f e.block).params.length
 len:e.args.length<=4096
structure fE(f:Func)(t:Term):Prop where
 kind:0<=t.kind∧t.kind<=4
 n:0<=t.n∧t.n<=6
 jump:t.kind=1->t.to.length=1
 cond:t.kind=2->t.to.length=2
 switch:t.kind=3->t.to.length=t.cases.length+1
 DN:∀e∈t.to,fD f e
 cl:t.cases.length<=2 ^ 40
structure qi1(u:Ad)(f:Func)(b:Block):Prop where
 ins:∀i∈b.ins,nI u i
 term:fE f b.term
 len:b.ins.length<=2 ^ 40
structure HL(u:Ad):Prop where
 main:0<=u.main∧u.main<u.fns.length
 few:u.fns.length<=256
 none:(A7 (AB u u.main) 0).params=[]
 ne:∀f∈u.fns,f.blocks≠[]∧f.blocks.length<=2 ^ 40
 blocks:∀f∈u.fns,∀b∈f.blocks,qi1 u f b
def CP(u:Ad)(m:Mach)(v:SV):Prop:=SV.Wf u.fns.length (fun id=>∃a∈m.heap,a.EI=id) v
structure J'(u:Ad)(m:Mach)(f:Fr):Prop where
 fn:0<=f.fn∧f.fn<u.fns.length
 blk:0<=f.blk∧f.blk<(AB u f.fn).blocks.length
 pos:f.pos<=(A7 (AB u f.fn) f.blk).ins.length
 vals:∀e∈f.vals,CP u m e.2
structure CY(u:Ad)(m:Mach):Prop where
 frames:∀f∈m.frames,J' u m f
 Fy:∀a∈m.heap,a.l.length<=1024∧∀v∈a.l,CP u m v
 left:0<=m.left
 depth:m.frames.length+m.left<=2 ^ 40
 out:m.out.length<=1000
 words:∀n∈m.out,CR n
 fin:0<=m.fin∧m.fin<=6
 val:CR m.val
 done:m.fin≠0->m.val=0
 over:m.over=false->m.frames≠[]∧m.short=false
def eB(b:Bool):A2:=.v (.bool b)
def AV(u:Ad)(m:Mach):List A2:=[C8 u.fns,aI u.main,.os m.sid m.frames.length 1,aI m.left,.v (.bool m.short),.v (.bool m.over),.A3 1 (m.out.map aI) (.tok 3),aI m.fin,aI m.val]
def BP(f:Fr):List A2:=[aI f.fn,aI f.blk,aI f.pos,aI f.to,.mm f.Ay]
def EM(l:List Fr):List A2:=l.reverse.map fun f=>.mp f.AW 0
theorem qgk(v:Int):KT.ok (.int .i64) (.int .i64 v)=True:=by simp[KT.ok]
variable {O:List A8}{k:Nat}{x:A8}
theorem DY{n:Nat}(h:∀o∈O,o.upto n)(hx:x.upto n):∀o∈O.set k x,o.upto n:=fun o ho=>by
 rcases KE ho with q|q
 ·exact h o q
 subst q;exact hx
theorem Zc{n:Nat}(h:∀o∈O,o.upto n)(hx:x.upto n):∀o∈O++[x],o.upto n:=fun o ho=>by
 rcases List.mem_append.1 ho with q|q
 ·exact h o q
 simp only[Fq]at q;subst q;exact hx
theorem LI:(O.set k x).take O.length=O.set k x:=Cb A6
theorem D8{X:List A8}(h:O[k]?=some x):(O++X)[k]?=some x:=by
 rw[EV (AE h),h]
theorem EY{j:Nat}{y:A8}(h:O[k]?=some x)(hj:j≠k):(O.set j y)[k]?=some x:=by
 rw[Ap hj,h]
theorem Wh{y:A8}(h:O[k]?=some x):(O.set k y)[k]?=some y:=Bb (AE h)
theorem W7{O X:List A8}{k:Nat}:(O++X)[O.length+k]?=X[k]?:=by
 rw[Dg I];simp
theorem wo{O X:List A8}:(O++X)[O.length]?=X[0]?:=W7 (k:=0)
theorem wZ{O X:List A8}{k:Nat}{y:A8}:(O++X).set (O.length+k) y=O++X.set k y:=by
 rw[OF _ _ I];simp
theorem qgQ{O X:List A8}{y:A8}:(O++X).set O.length y=O++X.set 0 y:=wZ (k:=0)
theorem qhV{a y:A8}{X:List A8}:(a::X).set 0 y=y::X:=rfl
theorem qhU{a y:A8}{k:Nat}{X:List A8}:(a::X).set (k+1) y=a::X.set k y:=rfl
theorem qhm{O X:List A8}:(O++X).take O.length=O:=by simp
end Go.Proofs.YtjdnhamngpafmaaGreat
namespace Go.Av
variable {P:Program}{kb:Nat}{c:Code}{Q:E7->St->Prop}{σ:St}
theorem qi5{F:Prop}(hf:∀base a g,Rel base σ a g->F)(h:F->AU P kb c Q σ):AU P kb c Q σ:=fun base a g hb hr=>h (hf base a g hr) base a g hb hr
variable {BG:List (Nat×A2)}{O:List A8}
theorem LN{n:Nat}(s:Nat){sz:Nat}{xs:List A2}{o:Ec}(hs:look BG s=some (.A3 sz xs o))
  (h:xs.length<=2 ^ 62->AU P kb c Q ⟨n,BG,O⟩):AU P kb c Q ⟨n,BG,O⟩ :=
 qi5 (fun _ _ _ hr=>by
  obtain⟨u,_,h2⟩:=hr.slot s _ hs;exact h2.wz) h
theorem l6:∀{l:List (Nat×A2)} {s:Nat} {x:A2},look l s=some x->(s,x)∈l
 | (k,y)::r,s,x,h=>by
  simp only[look]at h;split at h
  ·rename_i e;subst e;simp only[AM]at h;subst h;exact DQ
  exact Dw _ (l6 h)
theorem Ei{n:Nat}(k:Nat)(FH:List (Nat×A2))(hk:k<=O.length)(Lh:kb<=k)(O':List A8)(Xb:O.take k=O')(hb:∀o∈O',o.upto k)
  (hs:SX ⟨n,BG,O⟩ FH) (EH:∀p∈FH,p.2.upto k) (h:AU P kb c Q ⟨n,FH,O'⟩):AU P kb c Q ⟨n,BG,O⟩ :=
 tJ k hk Lh FH (by rw[Xb];exact hb) hs (fun s x hx=>EH _ (l6 hx)) (by rw[Xb];exact h)
theorem Se{α:Type}(l:List α)(x:α):(l++[x])[l.length]?=some x:=by simp
theorem ln{α:Type}(l:List α)(x y:α):(l++[x]).set l.length y=l++[y]:=by simp
variable {α:Type}
theorem vO(l m:List α):(l++m).take l.length=l:=by simp
theorem qdo(cs:List A2):As cs 0 []=cs:=by simp[As]
theorem qc7(c x:A2)(cs xs:List A2):As (c::cs) 0 (x::xs)=x::As cs 0 xs:=by simp[As]
theorem qc9(c:A2)(cs xs:List A2)(k:Nat):As (c::cs) (k+1) xs=c::As cs k xs:=by
 simp only[As,Ra,JR,WC,FA];rw[show k+1+xs.length=(k+xs.length)+1 from I,List.drop_succ_cons]
theorem qbK{α β:Type}(f:α->β)(l:List α):(l.map f).take l.length=l.map f:=Cb A6
mutual
theorem A2.IK{n m:Nat}(h:n<=m):∀x:A2,x.upto n->x.upto m
 | .v _,_=>trivial
 | .agg cs,hx=>P1 h cs hx
 | .A3 _ xs o,hx=>by
  refine⟨P1 h xs hx.1,?_⟩;have:=hx.2;cases o<;>first|trivial|exact L' this h
 | .ip _ cs,hx=>P1 h cs hx
 | .mp _ _,hx=>L' hx h
 | .ms _ _ _ _,hx=>L' hx h
 | .os _ _ _,hx=>L' hx h
 | .raw _ _ _,hx=>L' hx h
 | .mm _,hx=>L' hx h
 | .im _ es,hx=>sa h es hx
 | .fn _ fs cs,hx=>⟨P1 h fs hx.1,P1 h cs hx.2⟩
 | .Ab cs,hx=>P1 h cs hx
theorem P1{n m:Nat}(h:n<=m):∀l:List A2,AQ n l->AQ m l
 | [],_=>trivial
 | x::r,hx=>⟨A2.IK h x hx.1,P1 h r hx.2⟩
theorem sa{n m:Nat}(h:n<=m):∀l:List (Value×A2),My n l->My m l
 | [],_=>trivial
 | (k,x)::r,hx=>⟨A2.IK h x hx.1,sa h r hx.2⟩
end
theorem A8.IK{n m:Nat}(h:n<=m){o:A8}(ho:o.upto n):o.upto m:=by
 cases o with
 | cells cs=>exact P1 h cs ho
 | map kt es=>exact sa h es ho
 | _=>trivial
theorem sub_self(O:List A8)(x:A2):Sub O x x=True:=by simp[Sub.refl]
theorem Sub.int{k:IntKind}{a b:Int}(h:a=b):Sub O (.v (.int k a)) (.v (.int k b)):=.of_eq pg
theorem B4{p:Unit->Prop}{t:Tag p}(h:p ()):Yx p t:=h
theorem qhz(x:Value):A2.cells (.v x)=[.v x]:=rfl
theorem qkJ(x:Value):A2.flat (.v x)=True:=rfl
theorem qa8(x:Value):A2.share (.v x)=.v x:=rfl
theorem oh(x:Value):A2.Dd (.v x)=.v x:=rfl
theorem qeK(sz:Nat)(xs:List A2)(o:Ec):A2.cells (.A3 sz xs o)=[.A3 sz xs o]:=rfl
theorem qgF(sz:Nat)(xs:List A2)(o:Ec):A2.flat (.A3 sz xs o)=True:=rfl
theorem qfF(sz:Nat)(xs:List A2)(o:Ec):A2.share (.A3 sz xs o)=.A3 sz xs .sh:=rfl
theorem gf(sz:Nat)(xs:List A2)(o:Ec):A2.Dd (.A3 sz xs o)=.A3 sz xs .sh:=rfl
theorem qg5(oa:Option Addr)(cs:List A2):A2.cells (.ip oa cs)=[.ip oa cs]:=rfl
theorem qiM(oa:Option Addr)(cs:List A2):A2.flat (.ip oa cs)=True:=rfl
theorem qhY(oa:Option Addr)(cs:List A2):A2.share (.ip oa cs)=.ip oa cs:=rfl
theorem zY(oa:Option Addr)(cs:List A2):A2.Dd (.ip oa cs)=.ip oa cs:=rfl
theorem qg7(id off:Nat):A2.cells (.mp id off)=[.mp id off]:=rfl
theorem qiO(id off:Nat):A2.flat (.mp id off)=True:=rfl
theorem qha(id off:Nat):A2.share (.mp id off)=.mp id off:=rfl
theorem za(id off:Nat):A2.Dd (.mp id off)=.mp id off:=rfl
theorem qeL(sz n id:Nat):A2.cells (.raw sz n id)=[.raw sz n id]:=rfl
theorem qgG(sz n id:Nat):A2.flat (.raw sz n id)=True:=rfl
theorem qfG(sz n id:Nat):A2.share (.raw sz n id)=.raw sz n id:=rfl
theorem qaq(sz n id:Nat):A2.Dd (.raw sz n id)=.raw sz n id:=rfl
theorem qg8(id off len cap:Nat):A2.cells (.ms id off len cap)=[.ms id off len cap]:=rfl
theorem qiP(id off len cap:Nat):A2.flat (.ms id off len cap)=True:=rfl
theorem qhb(id off len cap:Nat):A2.share (.ms id off len cap)=.ms id off len cap:=rfl
theorem qbA(id off len cap:Nat):A2.Dd (.ms id off len cap)=.ms id off len cap:=rfl
theorem qg6(id:Nat):A2.cells (.mm id)=[.mm id]:=rfl
theorem qiN(id:Nat):A2.flat (.mm id)=True:=rfl
theorem qhZ(id:Nat):A2.share (.mm id)=.mm id:=rfl
theorem zZ(id:Nat):A2.Dd (.mm id)=.mm id:=rfl
theorem qg4(kt:KT)(es:List (Value×A2)):A2.cells (.im kt es)=[.im kt es]:=rfl
theorem qiL(kt:KT)(es:List (Value×A2)):A2.flat (.im kt es)=True:=rfl
theorem qhX(kt:KT)(es:List (Value×A2)):A2.share (.im kt es)=.im kt es:=rfl
theorem zX(kt:KT)(es:List (Value×A2)):A2.Dd (.im kt es)=.im kt es:=rfl
theorem qg3(f:Fn)(fs cs:List A2):A2.cells (.fn f fs cs)=[.fn f fs cs]:=rfl
theorem qiK(f:Fn)(fs cs:List A2):A2.flat (.fn f fs cs)=True:=rfl
theorem qhW(f:Fn)(fs cs:List A2):A2.share (.fn f fs cs)=.fn f fs cs:=rfl
theorem zW(f:Fn)(fs cs:List A2):A2.Dd (.fn f fs cs)=.fn f fs cs:=rfl
theorem qeJ(cs:List A2):A2.cells (.agg cs)=cs:=rfl
theorem flat_agg(cs:List A2):A2.flat (.agg cs)=True:=rfl
theorem qfE(cs:List A2):A2.share (.agg cs)=.agg (cs.map A2.Dd):=rfl
theorem qfH(cs:List A2):A2.share (.Ab cs)=.Ab cs:=rfl
def AG:=And.intro @G9.eq_1 <|
 And.intro @G9.eq_2 <|
 And.intro @cJ.eq_1 <|
 And.intro @bM.eq_1 <|
 And.intro @mZ <|
 And.intro @qbj <|
 And.intro @qcp <|
 And.intro @Nt <|
 And.intro @Np <|
 And.intro @nC.eq_1 <|
 And.intro @sJ.eq_1 <|
 And.intro @mI.eq_1 <|
 And.intro @nB.eq_1 <|
 And.intro @mL.eq_1 <|
 And.intro @sK.eq_1 <|
 And.intro @T9.eq_1 <|
 And.intro @T9.eq_2 <|
 And.intro @T9.eq_3 <|
 And.intro @T9.eq_4 <|
 And.intro @T9.eq_5 <|
 And.intro @T9.eq_6 <|
 And.intro @T9.eq_7 <|
 And.intro @y8.eq_1 <|
 And.intro @ZH.eq_1 <|
 And.intro @ZH.eq_2 <|
 And.intro @ZH.eq_3 <|
 And.intro @fk.eq_1 <|
 And.intro @cK.eq_1 <|
 And.intro @cK.eq_2 <|
 And.intro @cK.eq_3 <|
 And.intro @PX.eq_1 <|
 And.intro @PX.eq_2 <|
 And.intro @mK.eq_1 <|
 And.intro @bj.eq_1 <|
 And.intro @bj.eq_2 <|
 And.intro @mU.eq_1 <|
 And.intro @s8.eq_1 <|
 And.intro @sL.eq_1 <|
 And.intro @lu.eq_1 <|
 And.intro @cX.eq_1 <|
 And.intro @tT.eq_1 <|
 And.intro @mJ.eq_1 <|
 And.intro @mH.eq_1 <|
 And.intro @gD.eq_1 <|
 And.intro @gB.eq_1 <|
 And.intro @TD.maps.eq_1 <|
 And.intro @lO.eq_1 <|
 And.intro @nk.eq_1 <|
 And.intro @lr.eq_1 <|
 And.intro @nq.eq_1 <|
 And.intro @nh.eq_1 <|
 And.intro @mG.eq_1 <|
 And.intro @fU.eq_1 <|
 And.intro @fU.eq_2 <|
 And.intro @M3.eq_1 <|
 And.intro @M3.eq_2 <|
 And.intro @M3.eq_3 <|
 And.intro @M3.eq_4 <|
 And.intro @M3.eq_5 <|
 And.intro @M3.eq_6 <|
 And.intro @M3.eq_7 <|
 And.intro @M3.eq_8 <|
 And.intro @M3.eq_9 <|
 And.intro @M3.eq_10 <|
 And.intro @M3.eq_11 <|
 And.intro @M3.eq_12 <|
 And.intro @M3.eq_13 <|
 And.intro @M3.eq_14 <|
 And.intro @nr.eq_1 <|
 And.intro @nm.eq_1 <|
 And.intro @cY.eq_1 <|
 And.intro @cY.eq_2 <|
 @cY.eq_3
def qmH:=And.intro @ql2 <|
 And.intro @Uy.eq_1 <|
 And.intro @Uy.eq_2 <|
 And.intro @Uy.eq_3 <|
 And.intro @Uy.eq_4 <|
 And.intro @Uy.eq_5 <|
 And.intro @ed.eq_1 <|
 And.intro @ed.eq_2 <|
 And.intro @isNil.eq_1 <|
 And.intro @isNil.eq_2 <|
 And.intro @St.ev.eq_1 <|
 And.intro @St.ev.eq_2 <|
 And.intro @St.ev.eq_3 <|
 And.intro @St.ev.eq_4 <|
 And.intro @St.get.eq_1 <|
 And.intro @UF.eq_1 <|
 And.intro @UF.eq_2 <|
 And.intro @WB.eq_1 <|
 And.intro @WB.eq_2 <|
 And.intro @look.eq_1 <|
 And.intro @look.eq_2 <|
 And.intro @slotsOf.eq_1 <|
 And.intro @slotsOf.eq_2 <|
 And.intro @nN.eq_1 <|
 And.intro @nN.eq_2 <|
 And.intro @MR.eq_1 <|
 And.intro @MR.eq_2 <|
 And.intro @GY.eq_1 <|
 And.intro @Nn.eq_1 <|
 And.intro @Nn.eq_2 <|
 And.intro @V'.eq_1 <|
 And.intro @V'.eq_2 <|
 And.intro @Mode.post.eq_1 <|
 And.intro @Mode.post.eq_2 <|
 And.intro @Mode.post.eq_3 <|
 And.intro @Mode.post.eq_4 <|
 And.intro @Mode.kind.eq_1 <|
 And.intro @Mode.kind.eq_2 <|
 And.intro @Mode.kind.eq_3 <|
 And.intro @Mode.kind.eq_4 <|
 And.intro @Mode.kind.eq_5 <|
 And.intro @Mode.kind.eq_6 <|
 And.intro @qhz <|
 And.intro @qkJ <|
 And.intro @qa8 <|
 And.intro @oh <|
 And.intro @qeK <|
 And.intro @qgF <|
 And.intro @qfF <|
 And.intro @gf <|
 And.intro @qg5 <|
 And.intro @qiM <|
 And.intro @qhY <|
 And.intro @zY <|
 And.intro @qg7 <|
 And.intro @qiO <|
 And.intro @qha <|
 And.intro @za <|
 And.intro @qeL <|
 And.intro @qgG <|
 And.intro @qfG <|
 And.intro @qaq <|
 And.intro @qg8 <|
 And.intro @qiP <|
 And.intro @qhb <|
 And.intro @qbA <|
 And.intro @qg6 <|
 And.intro @qiN <|
 And.intro @qhZ <|
 And.intro @zZ <|
 And.intro @qg4 <|
 And.intro @qiL <|
 And.intro @qhX <|
 And.intro @zX <|
 And.intro @qg3 <|
 And.intro @qiK <|
 And.intro @qhW <|
 And.intro @zW <|
 And.intro @qeJ <|
 And.intro @flat_agg <|
 And.intro @qfE <|
 And.intro @qfH <|
 And.intro @bF.eq_1 <|
 And.intro @bF.eq_2 <|
 And.intro @bF.eq_3 <|
 And.intro @bF.eq_4 <|
 And.intro @RR.eq_1 <|
 And.intro @RR.eq_2 <|
 And.intro @RR.eq_3 <|
 And.intro @RR.eq_4 <|
 And.intro @RR.eq_5 <|
 And.intro @RR.eq_6 <|
 And.intro @RR.eq_7 <|
 And.intro @Mr.eq_1 <|
 And.intro @Mr.eq_2 <|
 And.intro @Mr.eq_3 <|
 And.intro @Mr.eq_4 <|
 And.intro @Mr.eq_5 <|
 And.intro @Mr.eq_6 <|
 And.intro @Mr.eq_7 <|
 And.intro @Mr.eq_8 <|
 And.intro @Mr.eq_9 <|
 And.intro @Nw.eq_1 <|
 And.intro @Jd.eq_1 <|
 And.intro @Jd.eq_2 <|
 And.intro @Jd.eq_3 <|
 And.intro @Jd.eq_4 <|
 And.intro @Jd.eq_5 <|
 And.intro @Jd.eq_6 <|
 And.intro @Jd.eq_7 <|
 And.intro @Jd.eq_8 <|
 And.intro @Jd.eq_9 <|
 And.intro @Jd.eq_10 <|
 And.intro @Jd.eq_11 <|
 And.intro @Jd.eq_12 <|
 And.intro @Jd.eq_13 <|
 And.intro @Jd.eq_14 <|
 And.intro @Jd.eq_15 <|
 And.intro @Jd.eq_16 <|
 And.intro @Jd.eq_17 <|
 And.intro @fC.eq_1 <|
 And.intro @fC.eq_2 <|
 And.intro @fC.eq_3 <|
 And.intro @eg.eq_1 <|
 And.intro @eg.eq_2 <|
 And.intro @eg.eq_3 <|
 And.intro @Bool.and_true <|
 And.intro @Bool.true_and <|
 And.intro @Bool.and_false <|
 And.intro @Bool.false_and <|
 And.intro @Bool.and_self <|
 And.intro @X4.eq_1 <|
 And.intro @X4.eq_2 <|
 And.intro @X4.eq_3 <|
 And.intro @X4.eq_4 <|
 And.intro @Sl.eq_1 <|
 And.intro @Sl.eq_2 <|
 And.intro @Sl.eq_3 <|
 And.intro @bt.eq_1 <|
 And.intro @bt.eq_2 <|
 And.intro @St.LB.eq_1 <|
 And.intro @St.LB.eq_2 <|
 And.intro @St.K4.eq_1 <|
 And.intro @St.K4.eq_2 <|
 And.intro @Y4.eq_1 <|
 And.intro @Y4.eq_2 <|
 And.intro @eV.eq_1 <|
 And.intro @eV.eq_2 <|
 And.intro @JH.eq_1 <|
 And.intro @JH.eq_2 <|
 And.intro @qdo <|
 And.intro @qc7 <|
 And.intro @qc9 <|
 And.intro @Q4.eq_1 <|
 And.intro @Q4.eq_2 <|
 And.intro @UD.eq_1 <|
 And.intro @UD.eq_2 <|
 And.intro @TD.agg.eq_1 <|
 And.intro @TD.agg.eq_2 <|
 And.intro @TD.agg.eq_3 <|
 And.intro @TD.elem.eq_1 <|
 And.intro @TD.elem.eq_2 <|
 And.intro @NN.eq_1 <|
 And.intro @NN.eq_2 <|
 And.intro @NN.eq_3 <|
 And.intro @W9.eq_1 <|
 And.intro @zeroOf.eq_1 <|
 And.intro @SA.eq_1 <|
 And.intro @SA.eq_2 <|
 And.intro @SA.eq_3 <|
 And.intro @SA.eq_4 <|
 And.intro @SA.eq_5 <|
 And.intro @Ow.eq_1 <|
 And.intro @Ow.eq_2 <|
 And.intro @Ow.eq_3 <|
 And.intro @Ow.eq_4 <|
 And.intro @Ow.eq_5 <|
 And.intro @Ow.eq_6 <|
 And.intro @Ow.eq_7 <|
 And.intro @Ow.eq_8 <|
 And.intro @and_self <|
 And.intro @true_and <|
 And.intro @and_true <|
 And.intro @not_false_eq_true <|
 And.intro @List.nil_append.{0} <|
 And.intro @List.cons_append.{0} <|
 And.intro @List.append_nil.{0} <|
 And.intro @List.length_nil.{0} <|
 And.intro @List.length_cons.{0} <|
 And.intro @List.getElem?_cons_zero.{0} <|
 And.intro @List.getElem?_cons_succ.{0} <|
 And.intro @List.getElem?_nil.{0} <|
 And.intro @List.take_succ_cons.{0} <|
 And.intro @List.take_zero.{0} <|
 And.intro @List.take_nil.{0} <|
 And.intro @List.drop_succ_cons.{0} <|
 And.intro @List.drop_zero.{0} <|
 And.intro @List.drop_nil.{0} <|
 And.intro @List.set_cons_zero.{0} <|
 And.intro @List.set_cons_succ.{0} <|
 And.intro @List.map_cons.{0,0} <|
 And.intro @List.map_nil.{0,0} <|
 And.intro @Option.map_none.{0,0} <|
 And.intro @Option.map_some.{0,0} <|
 And.intro @Option.isSome_some.{0} <|
 And.intro @Option.isSome_none.{0} <|
 And.intro @Option.bind_some.{0,0} <|
 And.intro @Bool.false_eq_true <|
 And.intro @Bool.not_true <|
 And.intro @Bool.not_false <|
 And.intro @beq_self_eq_true.{0} <|
 And.intro @List.getElem?_toArray.{0} <|
 And.intro @Nat.zero_add <|
 And.intro @Nat.add_zero <|
 And.intro @decide_true <|
 And.intro @decide_false <|
 And.intro @beq_true <|
 And.intro @beq_false <|
 And.intro @Bool.true_beq <|
 And.intro @Bool.false_beq <|
 And.intro @Bool.not_not <|
 And.intro @decide_eq_true_eq <|
 And.intro @decide_eq_false_iff_not <|
 And.intro @Bool.not_eq_true' <|
 And.intro @Bool.not_eq_false' <|
 And.intro @Bool.not_eq_true <|
 And.intro @Bool.not_eq_false <|
 And.intro @Int.toNat_natCast <|
 And.intro @Int.natCast_zero <|
 And.intro @Int.sub_zero <|
 And.intro @Int.add_zero <|
 And.intro @Int.zero_add <|
 And.intro @Int.toNat_zero <|
 And.intro @List.getElem?_map.{0,0} <|
 And.intro @Int.natCast_nonneg <|
 And.intro @List.length_map.{0,0} <|
 And.intro @List.not_mem_nil.{0} <|
 And.intro @false_implies <|
 And.intro @List.length_append.{0} <|
 And.intro @or_false <|
 And.intro @or_true <|
 And.intro @true_or <|
 And.intro @false_or <|
 And.intro @or_self <|
 And.intro @Se <|
 And.intro @ln <|
 And.intro @qbK <|
 @Nat.le_refl
def Mo:=And.intro @qb9 <|
 And.intro @qb8 <|
 And.intro @RE <|
 And.intro @qns <|
 And.intro @RG <|
 And.intro @qnt <|
 And.intro @qnf <|
 And.intro @qal <|
 And.intro @RF <|
 And.intro @qak <|
 @not_false_eq_true
def G.cut(g:G)(n:Nat):G:=⟨g.w,fun b off=>g.fr b off∨∃(id:Nat) (l:Loc) (o:A8),n<=id∧g.env[id]?=some (some l)∧g.objs[id]?=some o∧o.live∧l.block=b∧l.lo<=off,g.env.take n,g.objs.take n⟩
theorem EX{l:List α}{n i:Nat}{x:α}:(l.take n)[i]?=some x↔i<n∧l[i]?=some x:=by
 rw[GC];split
 ·rename_i h;simp[h]
 rename_i h;simp[h]
variable {g:G}{b off:Nat}
theorem lM{n:Nat}:HD (g.cut n) b off↔HD g b off:=by
 constructor
 ·rintro((h|⟨id,l,o,_,h1,h2,h3,h4,h5⟩)|⟨id,l,o,h1,h2,h3,h4,h5⟩)
  ·exact .inl h
  ·exact .inr ⟨id,l,o,h1,h2,h3,h4,h5⟩
  exact .inr ⟨id,l,o,(EX.1 h1).2,(EX.1 h2).2,h3,h4,h5⟩
 rintro(h|⟨id,l,o,h1,h2,h3,h4,h5⟩)
 ·exact .inl (.inl h)
 rcases T3 id n with AF|FM
 ·exact .inr ⟨id,l,o,EX.2 ⟨AF,h1⟩,EX.2 ⟨AF,h2⟩,h3,h4,h5⟩
 exact .inl (.inr ⟨id,l,o,FM,h1,h2,h3,h4,h5⟩)
theorem RV.cut{n:Nat}(Il:n<=g.objs.length){x:A2}{u:Value}(h:RV g x u)(hb:x.upto n):RV (g.cut n) x u:=by
 induction h with
 | v hx=>exact .v hx
 | agg hl B1 _ ih =>
  simp only[A2.upto,CF]at hb;exact .agg hl B1 fun i c u a b=>ih i c u a b (hb c (AK a))
 | nil ho Jw =>
  simp only[A2.upto]at hb;refine .nil (fun id e=>?_) Jw;subst e;have:=hb.2;simp only at this;simp only[G.cut,Dy];omega
 | A3 Ag B1 C1 Bm hs f hm hr ho ih =>
  rename_i sz xs o a cap;simp only[A2.upto,CF]at hb;refine .A3 Ag B1 C1 Bm hs f (fun j c hj=>⟨(hm j c hj).1,fun q=>(hm j c hj).2 (lM.1 q)⟩) (fun j c hj=>ih j c hj ?_) ?_
  ·have hc:=AK hj;simp only[AP,L0]at hc;obtain⟨x,hx,hc⟩:=hc;have:=hb.1 x hx;cases x with
   | agg cs =>
    simp only[A2.upto,CF]at this;exact this c hc
   | _=>simp only[A2.cells,Fq]at hc;subst hc;exact Cd
  cases o with
  | sh=>trivial
  | nn=>trivial
  | ex=>exact ho
  | loc a=>exact ho
  | tok id =>
   have BN:=hb.2;simp only at BN;refine⟨abD,fun m BX=>?_⟩;obtain⟨h1,h2⟩:=ho.2 m (EX.1 BX).2;refine⟨h1,fun e=>?_⟩;rcases h2 e with q|⟨l,arr,t,q1,q2⟩
   ·exact JV
   exact adT
 | ip ha B1 f hm hr ih =>
  simp only[A2.upto,CF]at hb;exact .ip ha B1 f (fun j c hj=>⟨(hm j c hj).1,fun q=>(hm j c hj).2 (lM.1 q)⟩) fun j c hj=>ih j c hj (hb c (AK hj))
 | mp he ho DA =>
  simp only[A2.upto]at hb;exact .mp (EX.2 ⟨hb,he⟩) (EX.2 ⟨hb,ho⟩) DA
 | ms he ho DA hc GU Bm =>
  simp only[A2.upto]at hb;exact .ms (EX.2 ⟨hb,he⟩) (EX.2 ⟨hb,ho⟩) DA hc GU Bm
 | os he ho DA hc GU Bm =>
  simp only[A2.upto]at hb;exact .os (EX.2 ⟨hb,he⟩) (EX.2 ⟨hb,ho⟩) DA hc GU Bm
 | raw Jw ho =>
  rename_i sz n0 id a cap;have BN:id<n:=hb;refine .raw Jw ⟨abD,fun m BX=>?_⟩;obtain⟨h1,h2⟩:=ho.2 m (EX.1 BX).2;refine⟨h1,fun e=>?_⟩;rcases h2 e with q|⟨l,arr,t,q1,q2⟩
  ·exact JV
  exact adT
 | mm he ho DA =>
  simp only[A2.upto]at hb;exact .mm (EX.2 ⟨hb,he⟩) (EX.2 ⟨hb,ho⟩) DA
 | im hh DA hl hk Ik R9 _ ih =>
  simp only[A2.upto,Zj]at hb;exact .im hh (fun off q=>DA off (lM.1 q)) hl hk Ik R9 fun i e kx a b=>ih i e kx a b (hb kx (AK b))
 | fn hl J9 _ _ ih Nk =>
  simp only[A2.upto,CF]at hb;exact .fn hl J9 (fun i c u a b=>ih i c u a b (hb.1 c (AK a))) fun i c u a b=>Nk i c u a b (hb.2 c (AK a))
 | Ab hl _ ih =>
  simp only[A2.upto,CF]at hb;exact .Ab hl fun i c u a b=>ih i c u a b (hb c (AK a))
theorem Good.cut(hg:Good g){n:Nat}(hn:n<=g.objs.length)(hb:∀o∈g.objs.take n,o.upto n):Good (g.cut n) where
 frlt:=fun b off h=>by
  rcases h with h|⟨id,l,o,_,h1,h2,h3,h4,_⟩
  ·exact hg.frlt b off h
  exact h4 ▸ hg.loc id l o h1 h2 h3
 HQ:=fun id l o h1 h2 h3 off h=>by
  obtain⟨q1,h1⟩:=EX.1 h1;obtain⟨_,h2⟩:=EX.1 h2;rcases h with h|⟨Da,l',o',k0,k1,k2,k3,k4,_⟩
  ·exact hg.HQ id l o h1 h2 h3 off h
  have:=hg.apart id Da l l' o o' h1 h2 h3 k1 k2 k3 k4.symm;omega
 len:=by simp[G.cut,hg.len]
 loc:=fun id l o h1 h2 h3=>hg.loc id l o (EX.1 h1).2 (EX.1 h2).2 h3
 apart:=fun id Da l l' o o' h1 h2 h3 k1 k2 k3=>hg.apart id Da l l' o o' (EX.1 h1).2 (EX.1 h2).2 h3 (EX.1 k1).2 (EX.1 k2).2 k3
 cells:=fun id cs h1=>by
  have Mh:=hb _ (AK h1);obtain⟨q,h1⟩:=EX.1 h1;obtain⟨l,arr,t,e1,e0,e2,e3,e4,e5⟩:=hg.cells id cs h1;simp only[A8.upto,CF]at Mh;exact⟨l,arr,t,EX.2 ⟨q,e1⟩,e0,e2,e3,fun j c u a b=>(e4 j c u a b).cut hn (Mh c (AK a)),e5⟩
 spare:=fun id m l h1 h2=>hg.spare id m l (EX.1 h1).2 (EX.1 h2).2
 map:=fun id kt es h1=>by
  have Mh:=hb _ (AK h1);obtain⟨q,h1⟩:=EX.1 h1;obtain⟨l,ob,e1,e0,e2,e3⟩:=hg.map id kt es h1;simp only[A8.upto,Zj]at Mh;exact⟨l,ob,EX.2 ⟨q,e1⟩,e0,e2,e3.imp (fun p hp u r=>r.cut hn (Mh p hp)) fun m clk arr q1 q2=>⟨q1,fun off q=>q2 off (lM.1 q)⟩⟩
def G.LR(g:G)(n:Nat)(g':G):G:=⟨g'.w,g.fr,g'.env++g.env.drop n,g'.objs++g.objs.drop n⟩
theorem DS{a l:List α}{n i:Nat}{x:α}(ha:a.length=n):(a++l.drop n)[i]?=some x↔(i<n∧a[i]?=some x)∨(n<=i∧l[i]?=some x):=by
 rw[Gt];split
 ·rename_i h;constructor
  ·intro e;exact .inl ⟨I,e⟩
  rintro(⟨_,e⟩|⟨q,_⟩)
  ·exact e
  omega
 rename_i h;rw[FC,show n+(i-a.length)=i from I];constructor
 ·intro e;exact .inr ⟨I,e⟩
 rintro(⟨q,_⟩|⟨_,e⟩)
 ·omega
 exact e
structure OO(g:G)(n:Nat)(g':G):Prop where
 good:Good g
 le:Le (g.cut n) g'
 V0:Good g'
 lt:n<=g.objs.length
 same:g'.objs.length=n
variable {g':G}
theorem OO.env{n:Nat}(h:OO g n g'):g'.env.length=n:=h.V0.len.trans h.same
theorem OO.qmE{n:Nat}(h:OO g n g')(hn:I1 (g.LR n g') b):I1 g' b∨∃(id:Nat) (l:Loc) (o:A8),n<=id∧g.env[id]?=some (some l)∧g.objs[id]?=some o∧o.live∧l.block=b:=by
 obtain⟨id,l,o,h1,h2,h3,h4⟩:=hn;rcases(DS h.env).1 h1 with⟨q1,h1⟩|⟨q1,h1⟩
 ·rcases(DS h.same).1 h2 with⟨q2,h2⟩|⟨q2,h2⟩
  ·exact .inl ⟨id,l,o,h1,h2,h3,h4⟩
  omega
 rcases(DS h.same).1 h2 with⟨q2,h2⟩|⟨q2,h2⟩
 ·omega
 exact .inr ⟨id,l,o,q1,h1,h2,h3,h4⟩
theorem OO.own{n:Nat}(h:OO g n g'):HD (g.LR n g') b off->HD g' b off:=by
 rintro(hf|⟨id,l,o,h1,h2,h3,h4,h5⟩)
 ·refine .inl ?_;rw[h.le.fr];exact .inl hf
 rcases(DS h.env).1 h1 with⟨q1,h1⟩|⟨q1,h1⟩
 ·rcases(DS h.same).1 h2 with⟨q2,h2⟩|⟨q2,h2⟩
  ·exact .inr ⟨id,l,o,h1,h2,h3,h4,h5⟩
  omega
 rcases(DS h.same).1 h2 with⟨q2,h2⟩|⟨q2,h2⟩
 ·omega
 refine .inl ?_;rw[h.le.fr];exact .inr ⟨id,l,o,q1,h1,h2,h3,h4,h5⟩
theorem qfl{n:Nat}(h:I1 (g.cut n) b):I1 g b:=by
 obtain⟨id,l,o,h1,h2,h3,h4⟩:=h;exact⟨id,l,o,(EX.1 h1).2,(EX.1 h2).2,h3,h4⟩
theorem qfm{n:Nat}(h:Hn (g.cut n) b off):Hn g b off:=by
 obtain⟨id,l,o,h1,h2,h3,h4,h5⟩:=h;exact⟨id,l,o,(EX.1 h1).2,(EX.1 h2).2,h3,h4,h5⟩
theorem OO.block{n:Nat}(h:OO g n g'){id:Nat}{l:Loc}{o:A8}(BN:n<=id)(h1:g.env[id]?=some (some l))(h2:g.objs[id]?=some o)(h3:o.live):g'.w.heap[l.block]?=g.w.heap[l.block]?:=by
 refine(h.le.block l.block (h.good.loc id l o h1 h2 h3) ?_).1;rintro⟨Da,l',o',k1,k2,k3,k4⟩;obtain⟨q,k1⟩:=EX.1 k1;have:=h.good.apart Da id l' l o' o k1 (EX.1 k2).2 k3 h1 h2 h3 k4;omega
theorem OO.le'{n:Nat}(h:OO g n g'):Le g (g.LR n g') where
 os:=h.le.os
 tape:=h.le.tape
 output:=h.le.output
 fr:=rfl
 size:=h.le.size
 block:=fun k hk hh=>by
  obtain⟨q1,q2⟩:=h.le.block k hk (fun q=>hh (qfl q));refine⟨q1,fun q=>?_⟩;rcases h.qmE q with q|⟨id,l,o,_,q⟩
  ·exact q2 q
  exact hh ⟨id,l,o,q⟩
 cell:=fun b off x hx hh=>by
  obtain⟨q1,q2⟩:=h.le.cell b off x hx (fun q=>hh (qfm q));refine⟨q1,fun q=>?_⟩;obtain⟨id,l,o,h1,h2,h3,h4,h5⟩:=q;rcases(DS h.env).1 h1 with⟨e1,h1⟩|⟨e1,h1⟩
  ·rcases(DS h.same).1 h2 with⟨e2,h2⟩|⟨e2,h2⟩
   ·exact q2 ⟨id,l,o,h1,h2,h3,h4,h5⟩
   omega
  rcases(DS h.same).1 h2 with⟨e2,h2⟩|⟨e2,h2⟩
  ·omega
  exact hh ⟨id,l,o,h1,h2,h3,h4,h5⟩
 len:=by
  simp only[G.LR,Bf,ND,h.same];omega
 spare:=fun id m hm=>by
  rcases T3 id n with q|q
  ·rcases h.le.spare id m (EX.2 ⟨q,hm⟩)with⟨m',k1,k2⟩|⟨o',k1,k2⟩
   ·exact .inl ⟨m',(DS h.same).2 (.inl ⟨q,k1⟩),k2⟩
   exact .inr ⟨o',(DS h.same).2 (.inl ⟨q,k1⟩),k2⟩
  exact .inl ⟨m,(DS h.same).2 (.inr ⟨q,hm⟩),B6 _⟩
 plain:=fun id o ho hs=>by
  have AF:=AE ho;have he:g.env[id]?=some (g.env[id]' abe):=AY _;rcases T3 id n with q|q
  ·obtain⟨⟨o',k1,k2⟩,k3⟩:=h.le.plain id o (EX.2 ⟨q,ho⟩) hs;refine⟨⟨o',(DS h.same).2 (.inl ⟨q,k1⟩),k2⟩,?_⟩;rw[he];refine(DS h.env).2 (.inl ⟨q,?_⟩);rw[k3];exact EX.2 ⟨q,he⟩
  refine⟨⟨o,(DS h.same).2 (.inr ⟨q,ho⟩),hs⟩,?_⟩;rw[he];exact(DS h.env).2 (.inr ⟨q,he⟩)
 gone:=fun id ho=>by
  rcases T3 id n with q|q
  ·exact(DS h.same).2 (.inl ⟨q,h.le.gone id (EX.2 ⟨q,ho⟩)⟩)
  exact(DS h.same).2 (.inr ⟨q,ho⟩)
 tok:=fun id m hm BX=>by
  have AF:=AE hm;have he:g.env[id]?=some (g.env[id]' abe):=AY _;rcases(DS h.same).1 BX with⟨q,BX⟩|⟨q,BX⟩
  ·obtain⟨k1,k2⟩:=h.le.tok id m (EX.2 ⟨q,hm⟩) BX;refine⟨?_,fun l hl=>k2 l (EX.2 ⟨q,hl⟩)⟩;rw[he];refine(DS h.env).2 (.inl ⟨q,?_⟩);rw[k1];exact EX.2 ⟨q,he⟩
  refine⟨?_,fun l hl=>h.block q hl hm trivial⟩;rw[he];exact(DS h.env).2 (.inr ⟨q,he⟩)
theorem RV.LR{n:Nat}(hc:OO g n g'){x:A2}{u:Value}(h:RV g' x u):RV (g.LR n g') x u:=by
 have AF:∀{id:Nat} {o:A8},g'.objs[id]?=some o->id<n:=fun ho=>by
  have:=AE ho;rw[hc.same]at this;exact Cd
 induction h with
 | v hx=>exact .v hx
 | agg hl B1 _ ih=>exact .agg hl B1 ih
 | nil ho Jw =>
  refine .nil (fun id e=>?_) Jw;have:=ho id e;simp only[G.LR,Bf];omega
 | A3 Ag B1 C1 Bm hs f hm hr ho ih =>
  rename_i sz xs o a cap;refine .A3 Ag B1 C1 Bm hs f (fun j c hj=>⟨(hm j c hj).1,fun q=>(hm j c hj).2 (hc.own q)⟩) ih ?_;cases o with
  | sh=>trivial
  | nn=>trivial
  | ex=>exact ho
  | loc a=>exact ho
  | tok id =>
   have BN:=ho.1;rw[hc.same]at BN;refine⟨aaa,fun m BX=>?_⟩;rcases(DS hc.same).1 BX with⟨q,BX⟩|⟨q,_⟩
   ·obtain⟨h1,h2⟩:=ho.2 m BX;refine⟨h1,fun e=>?_⟩;rcases h2 e with k|⟨l,arr,t,k1,k2⟩
    ·exact .inl k
    exact ad6
   omega
 | ip ha B1 f hm hr ih=>exact .ip ha B1 f (fun j c hj=>⟨(hm j c hj).1,fun q=>(hm j c hj).2 (hc.own q)⟩) ih
 | mp he ho DA=>exact .mp ((DS hc.env).2 (.inl ⟨AF ho,he⟩)) ((DS hc.same).2 (.inl ⟨AF ho,ho⟩)) DA
 | ms he ho DA Dp GU Bm=>exact .ms ((DS hc.env).2 (.inl ⟨AF ho,he⟩)) ((DS hc.same).2 (.inl ⟨AF ho,ho⟩)) DA Dp GU Bm
 | os he ho DA Dp GU Bm=>exact .os ((DS hc.env).2 (.inl ⟨AF ho,he⟩)) ((DS hc.same).2 (.inl ⟨AF ho,ho⟩)) DA Dp GU Bm
 | raw Jw ho =>
  rename_i sz n0 id a cap;have BN:=ho.1;rw[hc.same]at BN;refine .raw Jw ⟨aaa,fun m BX=>?_⟩;rcases(DS hc.same).1 BX with⟨q,BX⟩|⟨q,_⟩
  ·obtain⟨h1,h2⟩:=ho.2 m BX;refine⟨h1,fun e=>?_⟩;rcases h2 e with k|⟨l,arr,t,k1,k2⟩
   ·exact .inl k
   exact ad6
  omega
 | mm he ho DA=>exact .mm ((DS hc.env).2 (.inl ⟨AF ho,he⟩)) ((DS hc.same).2 (.inl ⟨AF ho,ho⟩)) DA
 | im hh DA hl hk Ik R9 _ ih=>exact .im hh (fun off q=>DA off (hc.own q)) hl hk Ik R9 ih
 | fn hl J9 _ _ ih Nk=>exact .fn hl J9 ih Nk
 | Ab hl _ ih=>exact .Ab hl ih
theorem OO.qkM{n:Nat}(h:OO g n g'):Good (g.LR n g') where
 frlt:=fun b off hf=>L' (h.good.frlt b off hf) h.le.size
 HQ:=fun id l o h1 h2 h3 off hf=>by
  rcases(DS h.env).1 h1 with⟨q,h1⟩|⟨q,h1⟩
  ·rcases(DS h.same).1 h2 with⟨_,h2⟩|⟨q2,_⟩
   ·refine h.V0.HQ id l o h1 h2 h3 off ?_;rw[h.le.fr];exact .inl hf
   omega
  rcases(DS h.same).1 h2 with⟨q2,_⟩|⟨_,h2⟩
  ·omega
  exact h.good.HQ id l o h1 h2 h3 off hf
 len:=by simp[G.LR,h.env,h.same,h.good.len]
 loc:=fun id l o h1 h2 h3=>by
  rcases(DS h.env).1 h1 with⟨q,h1⟩|⟨q,h1⟩
  ·rcases(DS h.same).1 h2 with⟨_,h2⟩|⟨q2,_⟩
   ·exact h.V0.loc id l o h1 h2 h3
   omega
  rcases(DS h.same).1 h2 with⟨q2,_⟩|⟨_,h2⟩
  ·omega
  exact L' (h.good.loc id l o h1 h2 h3) h.le.size
 apart:=fun id Da l l' o o' h1 h2 h3 k1 k2 k3 CN=>by
  have hx:∀{i:Nat} {l:Loc} {o:A8},(g.LR n g').env[i]?=some (some l)->(g.LR n g').objs[i]?=some o->(i<n∧g'.env[i]?=some (some l)∧g'.objs[i]?=some o)∨(n<=i∧g.env[i]?=some (some l)∧g.objs[i]?=some o):=by
   intro i l o h1 h2;rcases(DS h.env).1 h1 with⟨q,h1⟩|⟨q,h1⟩
   ·rcases(DS h.same).1 h2 with⟨_,h2⟩|⟨q2,_⟩
    ·exact .inl ⟨q,h1,h2⟩
    omega
   rcases(DS h.same).1 h2 with⟨q2,_⟩|⟨_,h2⟩
   ·omega
   exact .inr ⟨q,h1,h2⟩
  rcases hx h1 h2 with⟨q,e1,e2⟩|⟨q,e1,e2⟩
  ·rcases hx k1 k2 with⟨q',f1,f2⟩|⟨q',f1,f2⟩
   ·exact h.V0.apart id Da l l' o o' e1 e2 h3 f1 f2 k3 CN
   refine B3 ?_ (h.V0.HQ id l o e1 e2 h3 l'.lo);rw[h.le.fr];exact .inr ⟨Da,l',o',q',f1,f2,k3,CN.symm,B6 _⟩
  rcases hx k1 k2 with⟨q',f1,f2⟩|⟨q',f1,f2⟩
  ·refine B3 ?_ (h.V0.HQ Da l' o' f1 f2 k3 l.lo);rw[h.le.fr];exact .inr ⟨id,l,o,q,e1,e2,h3,CN,B6 _⟩
  exact h.good.apart id Da l l' o o' e1 e2 h3 f1 f2 k3 CN
 cells:=fun id cs h1=>by
  rcases(DS h.same).1 h1 with⟨q,h1⟩|⟨q,h1⟩
  ·obtain⟨l,arr,t,e1,e0,e2,e3,e4,e5⟩:=h.V0.cells id cs h1;exact⟨l,arr,t,(DS h.env).2 (.inl ⟨q,e1⟩),e0,e2,e3,fun j c u a b=>(e4 j c u a b).LR h,e5⟩
  obtain⟨l,arr,t,e1,e0,e2,e3,e4,e5⟩:=h.good.cells id cs h1;exact⟨l,arr,t,(DS h.env).2 (.inr ⟨q,e1⟩),e0,(h.block q e1 h1 trivial).trans e2,e3,fun j c u a b=>(e4 j c u a b).mono h.le',e5⟩
 spare:=fun id m l h1 h2=>by
  rcases(DS h.same).1 h1 with⟨q,h1⟩|⟨q,h1⟩
  ·rcases(DS h.env).1 h2 with⟨_,h2⟩|⟨q2,_⟩
   ·exact h.V0.spare id m l h1 h2
   omega
  rcases(DS h.env).1 h2 with⟨q2,_⟩|⟨_,h2⟩
  ·omega
  obtain⟨arr,t,e⟩:=h.good.spare id m l h1 h2;exact⟨arr,t,(h.block q h2 h1 trivial).trans e⟩
 map:=fun id kt es h1=>by
  rcases(DS h.same).1 h1 with⟨q,h1⟩|⟨q,h1⟩
  ·obtain⟨l,ob,e1,e0,e2,e3⟩:=h.V0.map id kt es h1;exact⟨l,ob,(DS h.env).2 (.inl ⟨q,e1⟩),e0,e2,e3.imp (fun p hp u r=>r.LR h) fun m clk arr q1 q2=>⟨q1,fun off q=>q2 off (h.own q)⟩⟩
  obtain⟨l,ob,e1,e0,e2,e3⟩:=h.good.map id kt es h1;exact⟨l,ob,(DS h.env).2 (.inr ⟨q,e1⟩),e0,(h.block q e1 h1 trivial).trans e2,e3.mono h.le'⟩
theorem Aq.frame{f:FuncId}{O':List A8}{args:List A2}{r:A2}(h:Aq P f O args fun r' O1=>r'=r∧O1=O')(hlen:O'.length=O.length)(hb:AQ O.length args)(hO:∀o∈O,o.upto O.length)(X:List A8) :
  Aq P f (O++X) args fun r' O1=>r'=r∧O1=O'++X:=by
 refine⟨h.1,?_⟩;intro g vs hg ho ha;have hn:O.length<=g.objs.length:=by simp[ho]
 have LQ:g.objs.take O.length=O:=by simp[ho]
 have Pe:Co (g.cut O.length) args vs:=⟨ha.1,fun j c u a b=>(ha.2 j c u a b).cut hn (CF.1 hb c (AK a))⟩
 refine(h.2 (g.cut O.length) vs (hg.cut hn (by rw[LQ];exact hO)) LQ Pe).mono ?_;rintro e w' ⟨g',v,r',h1,h2,h3,h4,h5,h6,h7⟩;subst h6;have hc:OO g O.length g':=⟨hg,h3,h4,hn,by rw[h7,hlen]⟩
 exact⟨g.LR O.length g',v,r',h1,h2,hc.le',hc.qkM,h5.LR hc,rfl,by simp[G.LR,h7,ho]⟩
open Go.ChangeShapes Go.WideShapes Go.RowKit
def g0(w:World):G:=⟨w,fun _ _=>False,[],[]⟩
theorem qkK{w:World}:¬HD (g0 w) b off:=by
 rintro(h|⟨id,l,o,h1,_⟩)
 ·exact h
 simp[g0]at h1
theorem qgH{w:World}:¬I1 (g0 w) b:=by
 rintro⟨id,l,o,h1,_⟩;simp[g0]at h1
theorem qiQ(w:World):Good (g0 w) where
 frlt:=fun _ _ h=>h.elim
 HQ:=fun _ _ _ h=>aM
 len:=rfl
 loc:=fun _ _ _ h=>aM
 apart:=fun _ _ _ _ _ _ h=>aM
 cells:=fun _ _ h=>aM
 spare:=fun _ _ _ h=>aM
 map:=fun _ _ _ h=>aM
def VC(P:Program)(t:TypeId):Bool :=
 match P.underlying t with
 | some (.struct _)=>true
 | some (.array _ _)=>true
 | _=>false
def NW(P:Program)(e:TypeId)(cs:List A2):A2:=if VC P e then .agg cs else cs.getD 0 (.v (.bool false))
def SF(S:TypeId->List A2->Prop):List TypeId->List A2->Prop
 | [],cs=>cs=[]
 | t::ts,cs=>∃a b,cs=a++b∧S t a∧SF S ts b
def Fe(P:Program):Nat->TypeId->List A2->Prop
 | 0,_,_=>False
 | n+1,t,cs=>match P.underlying t with
  | some .bool=>∃b,cs=[.v (.bool b)]
  | some (.int k)=>∃m:Int,cs=[.v (.int k m)]∧k.min<=m∧m<=k.max
  | some .string=>∃s:ByteArray,cs=[.v (.string s)]∧s.size<=reachBytes
  | some (.slice e)=>∃xs:List (List A2),cs=[.A3 (P.cellsOf e) (xs.map (NW P e)) .sh]∧(∀x∈xs,Fe P n e x)∧xs.length*P.bytesOf e<=reachBytes
  | some (.struct fs)=>SF (Fe P n) (fs.toList.map (·.type)) cs
  | _=>False
def ns(P:Program)(ts:List TypeId):Bool :=
 ts.all fun t=>decide (t<P.types.size)&&match P.underlying t with
  | some .bool=>true
  | some (.int _)=>true
  | some .string=>true
  | some (.slice e)=>ts.contains e&&decide (0<P.bytesOf e)&&decide (0<P.cellsOf e)&&(VC P e || decide (P.cellsOf e=1))
  | some (.struct fs)=>fs.toList.all fun f=>ts.contains f.type
  | _=>false
def PV(g:G)(BI:List A2)(us:List Value):Prop:=BI.length=us.length∧(∀c∈BI,c.scalar)∧∀(i:Nat) c u,BI[i]?=some c->us[i]?=some u->RV g c u
theorem PV.append{BI bs:List A2}{us vs:List Value}(h:PV g BI us)(k:PV g bs vs):PV g (BI++bs) (us++vs):=by
 obtain⟨h1,h2,h3⟩:=h;obtain⟨k1,k2,k3⟩:=k;refine⟨by simp[h1,k1],fun c hc=>(List.mem_append.1 hc).elim (h2 c) (k2 c),fun i c u hc hu=>?_⟩;rw[Gt]at hc hu;by_cases hi:i<BI.length
 ·rw[A9 hi]at hc;rw[A9 I]at hu;exact h3 i c u hc hu
 rw[A4 hi]at hc;rw[A4 I,<-h1]at hu;exact k3 _ c u hc hu
theorem PV.one{a:A2}{u:Value}(hs:a.scalar)(h:RV g a u):PV g [a] [u]:=by
 refine⟨rfl,a8,fun i c u' hc hu=>?_⟩;cases i with
 | zero =>
  simp at hc hu;subst hc;subst hu;exact h
 | succ i=>simp at hc
variable {e:TypeId}
section
variable {H:Type} {enc:TypeId×Value->H} {P:Program} {w:World} {sp:Nat->Bool} {held:Bool}
theorem aed{e:TypeId}:∀{ds:List (DataW H)} {d:DataW H},d∈ds->∀n∈d.weights P e,n∈DataW.weightsAll P e ds
 | d0::ds,d,hd,n,hn=>by
  simp only[DataW.weightsAll,HY];rcases List.mem_cons.1 hd with rfl|hd
  ·exact .inl hn
  exact .inr (aed hd n hn)
theorem vz{α β:Type}{f:α->Option β}:∀{l:List α} {r:List β},l.mapM f=some r->r.length=l.length∧∀(i:Nat) x y,l[i]?=some x->r[i]?=some y->f x=some y
 | [],r,h=>by
  simp at h;subst h;exact⟨rfl,fun i x y hx=>by simp at hx⟩
 | a::l,r,h=>by
  rw[pX]at h;obtain⟨b,hb,h⟩:=Option.bind_eq_some_iff.1 h;obtain⟨r',hr,h⟩:=Option.bind_eq_some_iff.1 h;cases h;obtain⟨h1,h2⟩:=vz hr;refine⟨Uc,fun i x y hx hy=>?_⟩;cases i with
  | zero =>
   simp at hx hy;subst hx;subst hy;exact hb
  | succ i=>exact h2 i x y jK (by simpa using hy)
theorem tL{base:Nat}{a:Addr}{n:Nat}{cs:List Value}(h:w.cells? base a n=some cs):cs.length=n∧∀(i:Nat) u,cs[i]?=some u->w.cell? (a.add i)=some u:=by
 unfold World.cells? at h;split at h
 ·obtain⟨h1,h2⟩:=vz h;have hl:cs.length=n:=JT
  refine⟨hl,fun i u hu=>?_⟩;have hi:=AE hu;exact h2 i i u (by simp[J3 (show i<n from I)]) hu
 cases h
theorem aej{α β:Type}{p:α->β->Prop}:∀n:Nat,∀f:Nat->α,(∀i,i<n->∃b,p (f i) b)->∃bs:List β,bs.length=n∧∀i b,bs[i]?=some b->p (f i) b
 | 0,_,_=>⟨[],rfl,fun i b h=>MI⟩
 | n+1,f,h=>by
  obtain⟨bs,h1,h2⟩:=aej n f (fun i hi=>h i I);obtain⟨b,hb⟩:=h n I;refine⟨bs++[b],Uc,fun i c hc=>?_⟩;rcases Eu hc with hc|⟨rfl,rfl⟩
  ·exact h2 i c hc
  rw[h1];exact hb
theorem qbX(EO:VC P e=true∨P.cellsOf e=1){xs:List (List A2)}(hx:∀x∈xs,x.length=P.cellsOf e∧∀c∈x,c.scalar):AP (xs.map (NW P e))=xs.flatten∧∀x∈xs,(NW P e x).cells=x:=by
 have key:∀x∈xs,(NW P e x).cells=x:=fun x KU=>by
  unfold NW;split
  ·rfl
  rename_i hn;rcases EO with h|h
  ·exact B3 h hn
  obtain⟨h1,h2⟩:=hx x KU;rw[h]at h1
  match x,h1 with
  | [c],_ =>
   have:=h2 c A6;cases c<;>first|rfl|exact this.elim
 refine⟨?_,key⟩;clear hx;induction xs with
 | nil=>rfl
 | cons x xs ih =>
  simp only[Bc,AP,GF,UW];rw[key x A6];congr 1;exact ih fun y hy=>key y jZ
theorem qa4{n:Nat}:∀{xs:List (List A2)} (_:∀x∈xs,x.length=n) {j:Nat} {c:A2},xs.flatten[j]?=some c->∃i k x,j=i*n+k∧k<n∧xs[i]?=some x∧x[k]?=some c
 | [],_,j,c,h=>by simp at h
 | x::xs,hx,j,c,h=>by
  have hl:=hx x A6;rw[UW,Gt]at h;split at h
  ·rename_i hj;exact⟨0,j,x,I,I,A6,h⟩
  rename_i hj;obtain⟨i,k,y,h1,h2,h3,h4⟩:=qa4 (fun y hy=>hx y jZ) h;refine⟨i+1,k,y,?_,h2,Ug,h4⟩;rw[LX,Nat.one_mul];omega
theorem tl{n:Nat}{cs:List Value}{S:TypeId->List A2->Prop}{ts:List TypeId}
  (ih:∀t cs' (x:DataW H×List MemPlace),t∈ts->DataW.trod enc P w 0 sp held n t cs'=some x->(∀m∈x.1.weights P t,m<=reachBytes)->∃BI,S t BI∧PV (g0 w) BI cs') :
  ∀(fl:List Field) (o:Nat) (xs:List (DataW H×List MemPlace)),(∀f∈fl,f.type∈ts)->(∀(j:Nat) f,fl[j]?=some f->f.offset=o+((fl.take j).map fun f=>P.cellsOf f.type).sum) ->
   o+(fl.map fun f=>P.cellsOf f.type).sum<=cs.length->xs.length=fl.length ->
   (∀(i:Nat) f,fl[i]?=some f->DataW.trod enc P w 0 sp held n f.type ((cs.drop f.offset).take (P.cellsOf f.type))=xs[i]?) ->
   (∀m∈DataW.weightsEach P (fl.map (·.type)) (xs.map (·.1)),m<=reachBytes) ->
   ∃BI,SF S (fl.map (·.type)) BI∧PV (g0 w) BI ((cs.drop o).take (fl.map fun f=>P.cellsOf f.type).sum)
 | [],o,xs,_,_,_,_,_,_=>⟨[],rfl,by simp[PV]⟩
 | f::fl,o,[],_,_,_,hx,_,_=>by simp at hx
 | f::fl,o,y::ys,Td,gV,hlen,hx,hm,hw=>by
  have ho:f.offset=o:=by simpa using gV 0 f rfl
  simp only[Bc,DataW.weightsEach,HY]at hw;simp only[Bc,KH]at hlen ⊢;obtain⟨BI,h1,h2⟩:=ih f.type _ y (Td f A6) (by simpa using hm 0 f rfl) (fun m hm=>hw m (.inl hm));obtain⟨bs,k1,k2⟩:=tl ih fl (o+P.cellsOf f.type) ys (fun g hg=>Td g (by simp[hg])) (fun j g hg=>by
   have:=gV (j+1) g YK;simp only[Ra,Bc,KH]at this;omega) (cs:=cs) I jK (fun i g hg=>by simpa using hm (i+1) g YK) (fun m hm=>hw m (.inr hm))
  refine⟨BI++bs,⟨BI,bs,rfl,h1,k1⟩,?_⟩;rw[List.take_add,WD];rw[ho]at h2;exact h2.append k2
theorem add_add{a:Addr}(hs:a.spot=none)(m k:Nat):(a.add m).add k=⟨a.block,a.off+(m+k),none⟩:=by
 cases a with
 | mk b off spot =>
  subst hs;unfold Addr.add;by_cases hm:m=0<;>by_cases hk:k=0<;>simp[hm,hk,Y6]
theorem qbI{a:Addr}{u:Value}(h:w.cell? a=some u):a.spot=none:=by
 unfold World.cell? at h;split at h
 ·split at h
  ·cases h
  rename_i hs;simpa using hs
 cases h
theorem qcN(hl:laidOutB P=true){ts:List TypeId}(hc:ns P ts=true)(n:Nat):∀(t:TypeId) (cs:List Value) (x:DataW H×List MemPlace),t∈ts ->
  DataW.trod enc P w 0 sp held n t cs=some x->(∀m∈x.1.weights P t,m<=reachBytes)->∃BI,Fe P n t BI∧PV (g0 w) BI cs:=by
 induction n with
 | zero=>intro _ _ _ _ h;simp[DataW.trod]at h
 | succ n ih =>
  intro t cs x ht h hw;have Ll:=List.all_eq_true.1 hc t ht;simp only[F0,Cp]at Ll;obtain⟨Ag,Ll⟩:=Ll;cases hu:P.underlying t with
  | none=>rw[hu]at Ll;cases Ll
  | some d =>
   rw[hu]at Ll;cases d with
   | bool =>
    obtain⟨b,rfl,rfl⟩:=DataW.trod_bool hu h;exact⟨[.v (.bool b)],by simp only[Fe,hu];exact⟨b,rfl⟩,.one trivial (.v trivial)⟩
   | int k =>
    obtain⟨m,rfl,rfl,hwf⟩:=DataW.trod_int hu h;simp only[Lit.wf,F0,Cp]at hwf;exact⟨[.v (.int k m)],by simp only[Fe,hu];exact⟨m,rfl,hwf⟩,.one trivial (.v hwf)⟩
   | string =>
    obtain⟨s,rfl,rfl,hs⟩:=DataW.trod_string hu h;have hb:s.size<=reachBytes:=by
     have:=hw s.data.toList.length (by simp[DataW.weights]);exact NI
    exact⟨[.v (.string s)],by simp only[Fe,hu];exact⟨s,rfl,hb⟩,.one trivial (.v trivial)⟩
   | slice e =>
    simp only[F0,Cp,Hq,aa9]at Ll;obtain⟨⟨⟨he,hb⟩,Hg⟩,EO⟩:=Ll;rcases DataW.trod_slice hu h with⟨rfl,rfl⟩|⟨a,len,cap,elems,rest,n',DA,rfl,rfl,_,Lp,FQ,IB,Br,_,_⟩
    ·exact⟨[.A3 (P.cellsOf e) [] .sh],by simp only[Fe,hu];exact⟨[],rfl,A6,by simp[reachBytes]⟩,.one trivial (.nil (fun id h=>NG) A6)⟩
    cases DA;simp only[DataW.weights,hu,CL,HY]at hw;have hlen:(len+rest.length)*P.bytesOf e<=reachBytes:=by
     have:=hw _ (.inl rfl);simpa[IB]using this
    have yD:len*P.bytesOf e<=reachBytes:=NC (OE _ I) hlen;have hle:len<=reachBytes:=NC (iK _ hb) yD;have TQ:∀i,i<len->∃BI:List A2,Fe P n e BI∧∃us,PV (g0 w) BI us∧w.cells? 0 (a.add (i*P.cellsOf e)) (P.cellsOf e)=some us:=fun i hi=>by
     have hy:elems[i]?=some elems[i]:=AY I;have h2:=Br i hi;rw[hy]at h2;obtain⟨us,h3,h4⟩:=Option.bind_eq_some_iff.1 h2;obtain⟨BI,k1,k2⟩:=ih e us elems[i] he h4 (fun m hm=>hw m (.inr (.inl (aed (List.mem_map.2 ⟨elems[i],MG _,rfl⟩) m hm))));exact⟨BI,k1,us,k2,h3⟩
    obtain⟨xs,JC,II⟩:=aej (p:=fun(i:Nat) (BI:List A2)=>Fe P n e BI∧∃us,PV (g0 w) BI us∧w.cells? 0 (a.add (i*P.cellsOf e)) (P.cellsOf e)=some us) len id TQ;have JB:∀y∈xs,y.length=P.cellsOf e∧∀c∈y,c.scalar:=fun y hy=>by
     obtain⟨i,hi⟩:=List.mem_iff_getElem?.1 hy;obtain⟨_,us,h2,h3⟩:=II i y hi;exact⟨h2.1.trans (tL h3).1,h2.2.1⟩
    obtain⟨hca,hcx⟩:=qbX (P:=P) qC JB;have bS:xs≠[]->a.spot=none:=fun AT=>by
     match xs,AT,II,JB with
     | y::ys,_,II,JB =>
      obtain⟨_,us,h2,h3⟩:=II 0 y rfl;obtain⟨h4,h5⟩:=tL h3;have h6:=h5 0 (us[0]' I) (AY _);have:=qbI h6;simpa[Addr.add]using this
    refine⟨[.A3 (P.cellsOf e) (xs.map (NW P e)) .sh],?_,.one trivial ?_⟩
    ·simp only[Fe,hu];refine⟨xs,rfl,fun y hy=>?_,by rw[JC];exact yD⟩;obtain⟨i,hi⟩:=List.mem_iff_getElem?.1 hy;exact(II i y hi).1
    have DO:∀(j:Nat) (c:A2),xs.flatten[j]?=some c->∃u,w.cell? ⟨a.block,a.off+j,none⟩=some u∧RV (g0 w) c u:=fun j c hj=>by
     obtain⟨i,k,y,h1,h2,h3,h4⟩:=qa4 (n:=P.cellsOf e) (fun y hy=>(JB y hy).1) hj;obtain⟨_,us,h5,h6⟩:=II i y h3;obtain⟨h7,h8⟩:=tL h6;have hk:us[k]?=some (us[k]' I):=AY _;have h9:=h8 k _ hk;have AT:xs≠[]:=fun e=>by rw[e]at h3;simp at h3
     have oR:(a.add (id i*P.cellsOf e)).add k=⟨a.block,a.off+(i*P.cellsOf e+k),none⟩:=add_add (bS AT) _ _;rw[oR,<-h1]at h9;exact⟨_,h9,h5.2.2 k c _ h4 hk⟩
    have key:=@RV.A3 (g0 w) (P.cellsOf e) (xs.map (NW P e)) .sh a cap (fun x hx=>by
     obtain⟨y,hy,rfl⟩:=List.mem_map.1 hx;rw[hcx y hy];exact(JB y hy).1) (fun x hx c hc=>by
     obtain⟨y,hy,rfl⟩:=List.mem_map.1 hx;rw[hcx y hy]at hc;exact(JB y hy).2 c hc) (by simp[JC];exact Lp) (by simp[JC];unfold reachBytes at hle;omega) (fun AT=>bS (fun e=>AT aK))
     (fun j=>(w.cell? ⟨a.block,a.off+j,none⟩).getD (.bool false)) (fun j c hj=>by
      rw[hca]at hj;obtain⟨u,h1,_⟩:=DO j c hj;refine⟨?_,qkK⟩;show w.cell? _=_;rw[h1];rfl) (fun j c hj=>by
      rw[hca]at hj;obtain⟨u,h1,h2⟩:=DO j c hj;rw[h1];exact h2) trivial
    rw[BE,JC]at key;exact key
   | struct fs =>
    simp only[OJ,aa9]at Ll;obtain⟨xs,n',DA,rfl,B8,JC,Br⟩:=DataW.trod_struct hu h;cases DA;obtain⟨k1,k2,k3⟩:=kid_struct hl Ag hu;simp only[DataW.weights,hu]at hw;obtain⟨BI,h1,h2⟩:=tl ih fs.toList 0 xs Ll (fun j f hj=>by rw[k3 j f hj];omega) (by rw[B8,k2];omega) (by simpa using JC) (fun i f hf=>Br i f (by simpa using hf)) hw;refine⟨BI,by simp only[Fe,hu];exact h1,?_⟩;rw[I7,<-k2,<-B8,Jk]at h2;exact h2
   | _=>cases Ll
theorem adX(hl:laidOutB P=true){W W':World}{sp':Nat->Bool}:∀{ts:List TypeId} {vs:List Value} {ds:List (DataW H)} {ps:List MemPlace},(∀t∈ts,P.readableRec t=true∧t<P.types.size) ->
  DataW.TrodAll enc P W 0 (fun _=>true) true ts vs ds ps->(∀p∈ps,W.sameAt W' p)->(∀p∈ps,sp' p.block=true)->DataW.TrodAll enc P W' 0 sp' true ts vs ds ps
 | [],vs,ds,ps,_,h,_,_=>by
  obtain⟨rfl,rfl,rfl⟩:=trodAll_nil h;rfl
 | t::ts,vs,ds,ps,Td,h,h1,h2=>by
  obtain⟨v,vs',d,ds',p,q,rfl,rfl,rfl,hd,hr⟩:=trodAll_cons h;obtain⟨k1,k2⟩:=Td t A6;exact⟨p,q,WideElems.Trod_stays hl k1 k2 hd (fun x hx=>h1 x (List.mem_append.2 (.inl hx))) (fun x hx=>h2 x (List.mem_append.2 (.inl hx))),
   adX hl (fun t ht=>Td t (by simp[ht])) hr (fun x hx=>h1 x (List.mem_append.2 (.inr hx))) (fun x hx=>h2 x (List.mem_append.2 (.inr hx))),rfl⟩
theorem qbQ(hl:laidOutB P=true){fn:Func}{s:ChangeSpec}{apart fresh handsOn again:Bool}{W:World}{args:Array Value}{ds gs:List (DataW H)}{before:List MemPlace}{f:FuncId}{xs:List A2}{tb:TypeId}
  (MO:∀t∈fn.params.toList,P.readableRec t=true∧t<P.types.size) (bT:s.vars=[]) (Df:fn.resultTypes = #[tb]) (htb:P.underlying tb=some .bool)
  (hW:DataW.Whole enc P fn.params.toList s.vars apart W args.toList ds gs before)
  (Cv:s.fn H (ds++gs) = { results:=[.lit (.bool true)],args:=ds })
  (Qm:BR P f xs (.v (.bool true))) (hRV:Co (g0 W) xs args) :
  Calls P f args W fun e W'=>∃v,e=.returned v∧s.post enc P fn apart fresh handsOn again W args v W':=by
 refine(Qm.2 (g0 W) args (qiQ W) rfl hRV).mono fun e W' ⟨g',v,r,h1,h2,h3,_,h5,h6,_⟩=>?_;subst h6;cases h5;subst h2;have mz:Below W.heap.size W g'.w:=⟨h3.os,h3.tape,h3.output,h3.size,fun k hk=>(h3.block k hk qgH).1⟩
 have AF:=hW.lt;obtain⟨p,q,hA,hV,rfl,hfz,Ic⟩:=id hW;have hq:gs=[]∧q=[]:=trodVars_none (by rw[bT]at hV;exact hV);obtain⟨rfl,rfl⟩:=hq;simp only[F9]at AF hfz Ic Cv;have FI:∀x∈p,W.sameAt g'.w x:=fun x hx=>mz.same (AF x hx);have GP:∀sp:Nat->Bool,(∀x∈p,sp x.block=true)->DataW.TrodAll enc P g'.w 0 sp true fn.params.toList args.toList ds p:=fun sp Bg=>adX hl MO hA FI Bg;have hR:∀(b:Nat) (sp:Nat->Bool) (hd:Bool),DataW.TrodAll enc P g'.w b sp hd fn.resultTypes.toList ((Value.bool true).resultList fn.resultTypes.size) [.lit (.bool true)] []:=fun b sp hd=>by
  rw[Df];exact trodAll_mk1 (shut_bool htb true)
 have hvn:∀sp:Nat->Bool,DataW.TrodVars enc P g'.w sp s.vars [] []:=fun sp=>by
  rw[bT];rfl
 refine⟨_,h1,ds,[],p++[],[],p,[],hW,?_,?_,?_,mz.frame _,fun _=>⟨?_,[.lit (.bool true)]++ds,[],([]++p)++[],⟨[]++p,[],?_,hvn _,rfl,?_,?_⟩,?_⟩⟩
 ·rw[F9,Cv];exact hR _ _ _
 ·rw[F9,Cv];exact GP _ fun x hx=>by simpa using AF x hx
 ·rw[F9,Cv];exact hvn _
 ·exact ok_one Df rfl (okWide_bool_mk htb true)
 ·exact trodAll_append (GP (fun _=>true) fun _ _=>rfl) (hR _ _ _)
 ·intro b off hx;simp only[HF,F9]at hx;rw[mz.frozen (p:=⟨b,off,none⟩) (AF _ hx)];exact hfz b off hx
 ·intro ha;simpa using Ic ha
 intro x hx _;simpa using hx
end
section
variable {P:Program} {n:Nat} {t:TypeId} {cs:List A2}
theorem Fe.int{k:IntKind}(hu:P.underlying t=some (.int k))(h:Fe P n t cs):∃m:Int,cs=[.v (.int k m)]∧k.min<=m∧m<=k.max:=by
 cases n with
 | zero=>exact h.elim
 | succ n =>
  simp only[Fe,hu]at h;exact h
theorem Fe.struct{fs:Array Field}(hu:P.underlying t=some (.struct fs))(h:Fe P n t cs):∃m,n=m+1∧SF (Fe P m) (fs.toList.map (·.type)) cs:=by
 cases n with
 | zero=>exact h.elim
 | succ n =>
  simp only[Fe,hu]at h;exact⟨n,rfl,h⟩
theorem Fe.slice(hu:P.underlying t=some (.slice e))(h:Fe P n t cs):∃m,n=m+1∧∃xs:List (List A2),cs=[.A3 (P.cellsOf e) (xs.map (NW P e)) .sh]∧(∀x∈xs,Fe P m e x)∧xs.length*P.bytesOf e<=reachBytes:=by
 cases n with
 | zero=>exact h.elim
 | succ n =>
  simp only[Fe,hu]at h;exact⟨n,rfl,h⟩
theorem w8{α:Type}{f:α->A2}{Q:α->Prop}{g:List A2->A2}:∀{xs:List (List A2)},(∀x∈xs,∃a,g x=f a∧Q a)->∃l:List α,xs.map g=l.map f∧∀a∈l,Q a
 | [],_=>⟨[],rfl,A6⟩
 | x::xs,h=>by
  obtain⟨a,ha,hq⟩:=h x A6;obtain⟨l,hl,hql⟩:=w8 (xs:=xs) fun y hy=>h y jZ;exact⟨a::l,by simp[ha,hl],by simpa using⟨hq,hql⟩⟩
theorem Fe.bU{f:α->A2}{Q:α->Prop}(hu:P.underlying t=some (.slice e))(h:Fe P n t cs)(hd:∀m,m<n->∀x,Fe P m e x->∃a,NW P e x=f a∧Q a) :
  ∃l:List α,cs=[.A3 (P.cellsOf e) (l.map f) .sh]∧l.length*P.bytesOf e<=reachBytes∧∀a∈l,Q a:=by
 obtain⟨m,rfl,xs,rfl,h1,h2⟩:=h.slice hu;obtain⟨l,hl,hq⟩:=w8 (f:=f) (Q:=Q) fun x hx=>hd m I x (h1 x hx);refine⟨l,by rw[hl],?_,hq⟩;have:xs.length=l.length:=by
  have:=Dj List.length hl;exact NI
 rw[<-this];exact h2
end
theorem No{n:Nat}(k off:Nat){sz:Nat}{cs xs:List A2}(EU:O[k]?=some (.cells cs))(cA:cs[off]?=some (.A3 sz xs .ex))
  (h:AU P kb c Q ⟨n,BG,(O++[A8.spare xs.length]).set k (.cells (cs.set off (.A3 sz xs (.tok O.length))))⟩):AU P kb c Q ⟨n,BG,O⟩ :=
 h.weaken fun base a g hb hr=>by
  have hO:g.objs=O:=hr.objs;have yk:=Le.mark hr.good (A8.spare xs.length);have hgk:=Good.mark hr.good xs.length;have hkO:g.objs[k]?=some (.cells cs):=qd
  have gW:(g.mark (A8.spare xs.length)).objs[k]?=some (.cells cs):=Xg hkO;obtain⟨l,arr,t,e1,e2,e3,e4,e5,e6⟩:=hgk.cells k cs gW;have ht2:N6 (g.mark (A8.spare xs.length)) k (.cells cs) (some l) (.cells (cs.set off (.A3 sz xs (.tok O.length)))) g.w:={
   obj:=gW
   os:=rfl
   tape:=rfl
   output:=rfl
   size:=B6 _
   block:=fun _ _ _=>rfl
   cell:=fun b off x hx _=>hx
   place:=fun l1 h1 _=>by
    simp only[AM]at h1;subst h1;exact .inr ⟨l,e1,trivial,rfl,B6 _⟩
   spare:=fun m h=>NG
   plain:=fun _=>⟨Bd,e1⟩
   gone:=A6}
  have VN:=Le.Am hgk ht2;have n6:=Good.Am hgk ht2 ⟨l,arr,t,rfl,e2,e3,by simpa using e4,fun j d u hd hu=>by
   rw[FD]at hd;split at hd
   ·rename_i hj;subst hj;split at hd
    ·simp only[AM]at hd;subst hd;have hv:=(e5 off _ u cA hu).mono VN;cases hv with
     | nil=>exact .nil (fun id e=>by
      simp only[Ec.tok.injEq]at e;subst e;simp[G.Am,G.mark,hO]) A6
     | A3 Ag B1 C1 Bm hs f hm hr ho =>
      refine .A3 Ag B1 C1 Bm hs f hm hr ⟨by simp[G.Am,G.mark,hO],fun m BX=>?_⟩;have AT:k≠O.length:=by
       have:=AE EU;omega
      have:((g.mark (A8.spare xs.length)).Am k (some l) (.cells (cs.set off (.A3 sz xs (.tok O.length)))) g.w).objs[O.length]?=some (.spare xs.length):=by
       simp only[G.Am];rw[Ap AT,<-hO];exact Nq
      rw[this]at BX;simp only[AM,A8.spare.injEq]at BX;exact⟨I,fun _=>.inl ho⟩
    cases hd
   ·exact(e5 j d u hd hu).mono VN,fun d hd=>by
   rcases KE hd with q|q
   ·exact e6.1 d q
   subst q;trivial,e6.2⟩ (fun l1 h1 _=>by
   simp only[AM]at h1;subst h1;exact Gq e3)
  exact⟨(g.mark (A8.spare xs.length)).Am k (some l) (.cells (cs.set off (.A3 sz xs (.tok O.length)))) g.w,rfl,{ le:=(hr.le.trans yk).trans VN,good:=n6,objs:=by simp[G.mark,G.Am,hO],size:=hr.size,defers:=hr.defers,slot:=fun s y hy=>(hr.slot s y hy).imp fun u hu=>⟨hu.1,(hu.2.mono yk).mono VN⟩ }⟩
def mX(τ:St)(Q:E7->St->Prop):E7->St->Prop
 | .norm,σ=>Hy σ τ
 | e,σ=>Q e σ
variable {x y:Code}
theorem LO(τ:St)(h1:AU P kb x (mX τ Q) σ)(h2:AU P kb y Q τ):AU P kb (.seq x y) Q σ :=
 DW (h1.mono fun e Bl h=>aae)
theorem qnz{z:Code}(τ:St)(h1:AU P kb x (mX τ (DX P kb z Q)) σ)(h2:AU P kb y (DX P kb z Q) τ):AU P kb (.seq (.seq x y) z) Q σ :=
 DW (LO τ h1 h2)
theorem Xy(τ:St)(h1:AU P kb x (mX τ Q) σ)(h2:AU P kb y Q τ):AU P kb x (DX P kb y Q) σ :=
 h1.mono fun e Bl h=>aae
def OS(A:List Nat)(N k:Nat):Nat:=if k<A.length then A.getD k 0 else N+(k-A.length)
def Kind.ET(A:List Nat)(N:Nat):Kind->Kind
 | .rd id=>.rd (OS A N id)
 | .wr n l=>.wr (OS A N n) (l.map (OS A N))
 | .new id=>.new (OS A N id)
 | k=>k
def Kind.fresh(m:Nat):Kind->Bool
 | .wr n _=>decide (m<=n)
 | _=>true
variable {A:List Nat}{N:Nat}
theorem wS(hn:A.Nodup)(hA:∀a∈A,a<N){i j:Nat}(h:OS A N i=OS A N j):i=j:=by
 unfold OS at h;have DO:∀k,k<A.length->A.getD k 0∈A:=fun k hk=>by
  rw[KC,AY hk];exact MG hk
 split at h<;>split at h
 ·rename_i h1 h2;rw[KC,AY h1,KC,AY h2]at h;exact(List.getElem_inj hn).1 h
 ·rename_i h1 h2;have:=hA _ (DO i h1);omega
 ·rename_i h1 h2;have:=hA _ (DO j h2);omega
 omega
theorem qjG(hA:∀a∈A,a<N){i n:Nat}(hn:A.length<=n)(h:i<n):OS A N i<OS A N n:=by
 unfold OS;have DO:∀k,k<A.length->A.getD k 0∈A:=fun k hk=>by
  rw[KC,AY hk];exact MG hk
 rw[A4 (show ¬n<A.length from I)];split
 ·rename_i h1;have:=hA _ (DO i h1);omega
 omega
theorem qaP(hn:A.Nodup)(hA:∀a∈A,a<N){k l:Kind}(hk:k.fresh A.length=true)(hl:l.fresh A.length=true)(h:Hz k l=true):Hz (k.ET A N) (l.ET A N)=true:=by
 have key:∀{id n:Nat} {L:List Nat},A.length<=n->id<n->id ∉ L->OS A N id<OS A N n∧OS A N id ∉ L.map (OS A N):=fun h1 h2 h3 =>
  ⟨qjG hA h1 h2,fun hm=>by
   obtain⟨x,hx,e⟩:=List.mem_map.1 hm;have:=wS hn hA e;subst this;exact h3 hx⟩
 cases k<;>cases l<;>first
  | exact h
  | (simp only[Hz]at h;cases h)
  | (simp only[Kind.ET,Hz,OI,Kf]at h ⊢;exact fun e=>h (wS hn hA e))
  | (simp only[Kind.fresh,Cp]at hk hl
     simp only[Kind.ET,Hz,F0,Cp,OI,aaD,Kf]at h ⊢;exact key I8 h.1 h.2)
theorem Vv{ops:Array Oper}{ks:List Kind}(A:List Nat)(N:Nat)(Hw:List Kind)(hn:A.Nodup)(hA:∀a∈A,a<N)(e:Hw.map (Kind.ET A N)=ks)(hf:Hw.all (Kind.fresh A.length)=true)(h:We ops Hw=true):We ops ks=true:=by
 subst e;simp only[We,F0,OJ,Hq,BE]at h ⊢;refine⟨h.1,fun i hi j hj=>?_⟩;rcases h.2 i hi j hj with q|q
 ·exact JV
 refine .inr ?_;have Du:∀i,(Hw.map (Kind.ET A N)).getD i .write=(Hw.getD i .write).ET A N:=fun i=>by
  rw[KC,KC,Bv];cases Hw[i]?<;>rfl
 have BK:∀i,(Hw.getD i .write).fresh A.length=true:=fun i=>by
  rw[KC];cases hi:Hw[i]? with
  | none=>rfl
  | some x=>exact List.all_eq_true.1 hf x (AK hi)
 rw[Du,Du];unfold indep at q ⊢;split at q
 ·rename_i oj oi h1 h2;simp only[F0]at q ⊢;exact⟨q.1,qaP hn hA (BK j) (BK i) q.2⟩
 cases q
theorem mQ{σ:St}:∀{l:List (Nat×A2)},(∀p∈l,∃x,σ.get p.1=some x∧Sub σ.objs x p.2)->SX σ l
 | [],_=>trivial
 | (s,y)::r,h=>⟨h (s,y) A6,mQ fun p hp=>h p de⟩
theorem qa5{n:Nat}{o:A8}(s:Nat){x:A2}(y:A2)(FH:List (Nat×A2))(hx:look BG s=some x)
  (hp:¬o.Hx) (hl:o.live) (hf:Eh (O++[o]) O.length x y) (Lh:kb<=O.length) (hs:∀p∈FH,look (GY s y BG) p.1=some p.2) (AN:∀o∈O,o.upto O.length) (EH:∀p∈FH,p.2.upto O.length)
  (h:AU P kb c Q ⟨n,FH,O⟩):AU P kb c Q ⟨n,BG,O++[o]⟩:=by
 refine Cz s O.length (o:=o) y (Se _ _) hp hl hx hf ?_;rw[ln];have ED:∀s x,look FH s=some x->(s,x)∈FH:=fun s x hl=>l6 hl;exact tJ O.length A6 Lh FH (by rw[vO];exact AN) (mQ fun p hp=>⟨p.2,hs p hp,Sub.refl _⟩) (fun k x hk=>EH (k,x) (ED k x hk)) (by rw[vO];exact h)
variable {cs:List A2}
theorem G4{n:Nat}(s:Nat)(ds:List A2)(FH:List (Nat×A2))(hx:look BG s=some (.mp O.length 0))
  (H6:cs.map A2.Dd=ds) (Lh:kb<=O.length) (hs:∀p∈FH,look (GY s (.ip none ds) BG) p.1=some p.2) (AN:∀o∈O,o.upto O.length) (EH:∀p∈FH,p.2.upto O.length)
  (h:AU P kb c Q ⟨n,FH,O⟩):AU P kb c Q ⟨n,BG,O++[.cells cs]⟩ :=
 qa5 s (.ip none ds) FH hx Bd trivial (Eh.mp (cs:=cs) (Se _ _) (by rw[I7,H6])) Lh hs AN EH h
theorem qd1{n:Nat}(s:Nat){len cap sz:Nat}(xs:List A2)(FH:List (Nat×A2))(hx:look BG s=some (.ms O.length 0 len cap))
  (Ag:∀x∈xs,x.cells.length=sz) (hlen:xs.length=len) (hd:(cs.take (len*sz)).map A2.Dd=AP xs) (Lh:kb<=O.length) (hs:∀p∈FH,look (GY s (.A3 sz xs .sh) BG) p.1=some p.2) (AN:∀o∈O,o.upto O.length) (EH:∀p∈FH,p.2.upto O.length)
  (h:AU P kb c Q ⟨n,FH,O⟩):AU P kb c Q ⟨n,BG,O++[.cells cs]⟩ :=
 qa5 s (.A3 sz xs .sh) FH hx Bd trivial (Eh.ms (cs:=cs) (Se _ _) Ag hlen (by rw[I7,hd])) Lh hs AN EH h
theorem U2{n:Nat}{X:List A8}(s k:Nat)(ds:List A2)(hX:X[k]?=some (.cells cs))(hx:look BG s=some (.mp (O.length+k) 0))
  (H6:cs.map A2.Dd=ds) (h:AU P kb c Q ⟨n,GY s (.ip none ds) BG,O++X.set k .gone⟩):AU P kb c Q ⟨n,BG,O++X⟩:=by
 have BN:(O++X)[O.length+k]?=some (.cells cs):=by
  rw[Dg I,Sz,hX]
 refine Cz s (O.length+k) (o:=.cells cs) (.ip none ds) BN Bd trivial hx (Eh.mp (cs:=cs) BN (by rw[I7,H6])) ?_;rw[OF _ _ I,Sz];exact h
theorem qi4{n:Nat}{X:List A8}(j:Nat)(Y:List A8)(FH:List (Nat×A2))(hY:X.take j=Y)(hj:j<=X.length)(Lh:kb<=O.length)(hs:∀p∈FH,look BG p.1=some p.2)
  (hO:∀o∈O,o.upto (O.length+j)) (hX:∀o∈Y,o.upto (O.length+j)) (EH:∀p∈FH,p.2.upto (O.length+j)) (h:AU P kb c Q ⟨n,FH,O++Y⟩):AU P kb c Q ⟨n,BG,O++X⟩:=by
 have e:(O++X).take (O.length+j)=O++Y:=by
  rw[YD,Cb I,Sz,hY]
 refine tJ (O.length+j) Ai I FH ?_ (mQ fun p hp=>⟨p.2,hs p hp,Sub.refl _⟩) (fun k x hk=>EH (k,x) (l6 hk)) (by rw[e];exact h);rw[e];intro o ho;rcases List.mem_append.1 ho with q|q
 ·exact hO o q
 exact hX o q
end Go.Av
namespace Go.Proofs.YtjdnhamngpafmaaGreat
open Go.Av Tryz
def qmI:=And.intro @qlj <|
 And.intro @qlk <|
 And.intro @qll <|
 And.intro @qlm <|
 And.intro @qln <|
 And.intro @qlo <|
 And.intro @ql8 <|
 And.intro @ql9 <|
 And.intro @qlA <|
 And.intro @bC <|
 And.intro @qlB <|
 And.intro @qkX <|
 And.intro @qkY <|
 And.intro @qkZ <|
 And.intro @qka <|
 And.intro @qkb <|
 And.intro @qkc <|
 And.intro @qkd <|
 And.intro @bB <|
 And.intro @qke <|
 And.intro @qkf <|
 And.intro @qkg <|
 And.intro @fS <|
 And.intro @fT <|
 And.intro @qkh <|
 And.intro @qki <|
 And.intro @qkj <|
 And.intro @qkk <|
 And.intro @qiu <|
 And.intro @qiv <|
 And.intro @qiw <|
 And.intro @qix <|
 And.intro @qiy <|
 And.intro @xF <|
 And.intro @qiV <|
 And.intro @qiW <|
 And.intro @xG <|
 And.intro @qiX <|
 And.intro @qiY <|
 And.intro @qiZ <|
 And.intro @qia <|
 And.intro @qib <|
 And.intro @qic <|
 And.intro @xH <|
 And.intro @qid <|
 And.intro @qjU <|
 And.intro @xI <|
 And.intro @qjV <|
 And.intro @qjW <|
 And.intro @qjX <|
 And.intro @qjY <|
 And.intro @qjZ <|
 And.intro @qja <|
 And.intro @qjb <|
 And.intro @qjc <|
 And.intro @qjd <|
 And.intro @qje <|
 And.intro @qjf <|
 And.intro @qjg <|
 And.intro @qjh <|
 And.intro @qji <|
 And.intro @Ins.D' <|
 And.intro @Ins.fold <|
 And.intro @Ins.E4 <|
 And.intro @Ins.M0 <|
 And.intro @Ins.Cr <|
 And.intro @Ins.AX <|
 And.intro @Ins.EK <|
 And.intro @Edge.D' <|
 And.intro @Edge.fold <|
 And.intro @Edge.E4 <|
 And.intro @Edge.M0 <|
 And.intro @Edge.Cr <|
 And.intro @Edge.AX <|
 And.intro @Edge.EK <|
 And.intro @Term.D' <|
 And.intro @Term.fold <|
 And.intro @Term.E4 <|
 And.intro @Term.M0 <|
 And.intro @Term.Cr <|
 And.intro @Term.AX <|
 And.intro @Term.EK <|
 And.intro @Block.D' <|
 And.intro @Block.fold <|
 And.intro @Block.E4 <|
 And.intro @Block.M0 <|
 And.intro @Block.Cr <|
 And.intro @Block.AX <|
 And.intro @Block.EK <|
 And.intro @Func.D' <|
 And.intro @Func.fold <|
 And.intro @Func.E4 <|
 And.intro @Func.M0 <|
 And.intro @Func.Cr <|
 And.intro @Func.AX <|
 And.intro @Func.EK <|
 And.intro @Ad.D' <|
 And.intro @Ad.fold <|
 And.intro @Ad.E4 <|
 And.intro @Ad.M0 <|
 And.intro @Ad.Cr <|
 And.intro @Ad.AX <|
 And.intro @Ad.EK <|
 And.intro @SV.QB <|
 And.intro @SV.D' <|
 And.intro @SV.fold <|
 And.intro @SV.E4 <|
 And.intro @SV.M0 <|
 And.intro @SV.EK <|
 And.intro @SV.qdy <|
 And.intro @gg <|
 And.intro @qeU <|
 And.intro @qfD <|
 And.intro @BU <|
 And.intro @qmD <|
 And.intro @qgk <|
 And.intro @W7 <|
 And.intro @wo <|
 And.intro @wZ <|
 And.intro @qgQ <|
 And.intro @qhV <|
 And.intro @qhU <|
 And.intro @qhm <|
 And.intro @List.take_length.{0} <|
 And.intro @List.append_assoc.{0} <|
 And.intro @List.cons_append.{0} <|
 @List.nil_append.{0}
def zp:=And.intro qmH <|And.intro @ne_eq.{1} <|And.intro @implies_true.{0} <|And.intro @implies_true.{1} <|qmI
def zt:=And.intro FW <|And.intro FA and_self
def zu:=And.intro @Ins.Cr <|And.intro @Ins.AX <|And.intro @Edge.Cr <|And.intro @Edge.AX <|And.intro @Term.Cr <|And.intro @Term.AX <|And.intro @Block.Cr <|And.intro @Block.AX <|And.intro @Func.Cr <|And.intro @Func.AX <|And.intro @Ad.Cr <|And.intro @Ad.AX <| @BU
variable {kb id:Nat}{l:List Oper}{draw:Bool}{Q:E7->St->Prop}{σ:St}
theorem Dn(h:G9 prog AD ⟨false,false⟩ l 0 [] σ [] fun τ ks=>IN draw (fun _=>Jc l.toArray ks.reverse)∧At τ (Q .norm)):AU prog kb (.region id l.toArray draw) Q σ:=cO _ hT hm h
variable {x:Code}
theorem B9(h:G9 prog AD ⟨false,false⟩ l 0 [] σ [] fun τ ks=>IN draw (fun _=>Jc l.toArray ks.reverse)∧At τ (DX prog kb x Q .norm)):AU prog kb (.seq (.region id l.toArray draw) x) Q σ:=DW (Dn h)
variable {y:Code}
theorem Ej(h:G9 prog AD ⟨false,false⟩ l 0 [] σ [] fun τ ks=>IN draw (fun _=>Jc l.toArray ks.reverse)∧At τ (DX prog kb x (DX prog kb y Q) .norm)):AU prog kb (.seq (.seq (.region id l.toArray draw) x) y) Q σ:=DW (B9 h)
variable {z:Code}
theorem zg3(h:G9 prog AD ⟨false,false⟩ l 0 [] σ [] fun τ ks=>IN draw (fun _=>Jc l.toArray ks.reverse)∧At τ (DX prog kb x (DX prog kb y (DX prog kb z Q)) .norm)):AU prog kb (.seq (.seq (.seq (.region id l.toArray draw) x) y) z) Q σ:=DW (Ej h)
theorem zm0(h:G9 prog AD ⟨true,false⟩ l 0 [] σ [] fun τ ks=>IN draw (fun _=>Jc l.toArray ks.reverse)∧At τ (Q .norm)):AU prog kb (.region id l.toArray draw) Q σ:=cO _ hT hm h
theorem zm1(h:G9 prog AD ⟨true,false⟩ l 0 [] σ [] fun τ ks=>IN draw (fun _=>Jc l.toArray ks.reverse)∧At τ (DX prog kb x Q .norm)):AU prog kb (.seq (.region id l.toArray draw) x) Q σ:=DW (zm0 h)
theorem zm2(h:G9 prog AD ⟨true,false⟩ l 0 [] σ [] fun τ ks=>IN draw (fun _=>Jc l.toArray ks.reverse)∧At τ (DX prog kb x (DX prog kb y Q) .norm)):AU prog kb (.seq (.seq (.region id l.toArray draw) x) y) Q σ:=DW (zm1 h)
theorem TW(h:G9 prog AD ⟨true,true⟩ l 0 [] σ [] fun τ ks=>IN draw (fun _=>Jc l.toArray ks.reverse)∧At τ (Q .norm)):AU prog kb (.region id l.toArray draw) Q σ:=cO _ hT hm h
theorem zs1(h:G9 prog AD ⟨true,true⟩ l 0 [] σ [] fun τ ks=>IN draw (fun _=>Jc l.toArray ks.reverse)∧At τ (DX prog kb x Q .norm)):AU prog kb (.seq (.region id l.toArray draw) x) Q σ:=DW (TW h)
theorem zs2(h:G9 prog AD ⟨true,true⟩ l 0 [] σ [] fun τ ks=>IN draw (fun _=>Jc l.toArray ks.reverse)∧At τ (DX prog kb x (DX prog kb y Q) .norm)):AU prog kb (.seq (.seq (.region id l.toArray draw) x) y) Q σ:=DW (zs1 h)
theorem zv0(h:G9 prog AD ⟨false,true⟩ l 0 [] σ [] fun τ ks=>IN draw (fun _=>Jc l.toArray ks.reverse)∧At τ (Q .norm)):AU prog kb (.region id l.toArray draw) Q σ:=cO _ hT hm h
theorem zv1(h:G9 prog AD ⟨false,true⟩ l 0 [] σ [] fun τ ks=>IN draw (fun _=>Jc l.toArray ks.reverse)∧At τ (DX prog kb x Q .norm)):AU prog kb (.seq (.region id l.toArray draw) x) Q σ:=DW (zv0 h)
theorem zv2(h:G9 prog AD ⟨false,true⟩ l 0 [] σ [] fun τ ks=>IN draw (fun _=>Jc l.toArray ks.reverse)∧At τ (DX prog kb x (DX prog kb y Q) .norm)):AU prog kb (.seq (.seq (.region id l.toArray draw) x) y) Q σ:=DW (zv1 h)
variable {b:Bool}
theorem AZ{c:Operand}(hc:σ.ev c=some (.v (.bool b)))(ht:b=true->AU prog kb x Q σ)(hf:b=false->AU prog kb y Q σ):AU prog kb (.cond c x y) Q σ:=eO hc ht hf
theorem Sd{c:Operand}(hc:σ.ev c=some (.v (.bool b)))(ht:b=true->AU prog kb x (DX prog kb z Q) σ)(hf:b=false->AU prog kb y (DX prog kb z Q) σ):AU prog kb (.seq (.cond c x y) z) Q σ:=DW (eO hc ht hf)
theorem zk2{c:Operand}{w:Code}(hc:σ.ev c=some (.v (.bool b)))(ht:b=true->AU prog kb x (DX prog kb z (DX prog kb w Q)) σ)(hf:b=false->AU prog kb y (DX prog kb z (DX prog kb w Q)) σ) :
  AU prog kb (.seq (.seq (.cond c x y) z) w) Q σ:=DW (DW (eO hc ht hf))
variable {c:Code}
theorem Ak(h:AU prog kb c Q σ):At σ (DX prog kb c Q .norm):=h
variable {VQ:Nat}
theorem Az(h:AU prog kb c Q σ):AU prog VQ .skip (DX prog kb c Q) σ:=Pv h
variable {b0:Nat}
theorem za1(h:AU prog kb c Q σ):At σ (GL b0 (DX prog kb c Q) .norm):=h
theorem H2(h:AU prog kb c Q σ):AU prog VQ .skip (GL b0 (DX prog kb c Q)) σ:=Pv h
variable {b1:Nat}
theorem za2(h:AU prog kb c Q σ):At σ (GL b1 (GL b0 (DX prog kb c Q)) .norm):=h
theorem zb2(h:AU prog kb c Q σ):AU prog VQ .skip (GL b1 (GL b0 (DX prog kb c Q))) σ:=Pv h
variable {b2:Nat}
theorem za3(h:AU prog kb c Q σ):At σ (GL b2 (GL b1 (GL b0 (DX prog kb c Q))) .norm):=h
theorem zb3(h:AU prog kb c Q σ):AU prog VQ .skip (GL b2 (GL b1 (GL b0 (DX prog kb c Q)))) σ:=Pv h
variable {ι:Type}{L:ι->St}{μ:ι->Nat}{i:ι}
theorem zV(h:∃j,μ j<μ i∧Hy σ (L j)):At σ (Q3 L μ i Q .norm):=h
theorem zn0(h:∃j,μ j<μ i∧Hy σ (L j)):AU prog VQ .skip (Q3 L μ i Q) σ:=Pv h
theorem zl1(h:∃j,μ j<μ i∧Hy σ (L j)):At σ (GL b0 (Q3 L μ i Q) .norm):=h
theorem zn1(h:∃j,μ j<μ i∧Hy σ (L j)):AU prog VQ .skip (GL b0 (Q3 L μ i Q)) σ:=Pv h
theorem zl2(h:∃j,μ j<μ i∧Hy σ (L j)):At σ (GL b1 (GL b0 (Q3 L μ i Q)) .norm):=h
theorem zn2(h:∃j,μ j<μ i∧Hy σ (L j)):AU prog VQ .skip (GL b1 (GL b0 (Q3 L μ i Q))) σ:=Pv h
theorem zl3(h:∃j,μ j<μ i∧Hy σ (L j)):At σ (GL b2 (GL b1 (GL b0 (Q3 L μ i Q))) .norm):=h
theorem zn3(h:∃j,μ j<μ i∧Hy σ (L j)):AU prog VQ .skip (GL b2 (GL b1 (GL b0 (Q3 L μ i Q)))) σ:=Pv h
end Go.Proofs.YtjdnhamngpafmaaGreat
section
/- Texts of the proof, bound together and shortened by a program of mine. -/
namespace Go.Proofs.YtjdnhamngpafmaaGreat
open Go.Av Tryz
theorem qeq (AD : Cn) (rv : List ResultVar) (sh : Bool) (k : Nat) (R : A2 -> List A8 -> Prop) (σ : St) : fc AD rv sh k R .ret σ = on (JG AD σ rv) fun rs => k <= σ.objs.length ∧ (∀ o ∈ σ.objs.take k, o.upto k) ∧ (Hl (if sh then rs.map A2.share else rs)).upto k ∧ R (Hl (if sh then rs.map A2.share else rs)) (σ.objs.take k) := rfl
theorem qdc (AD : Cn) (rv : List ResultVar) (sh : Bool) (k : Nat) (R : A2 -> List A8 -> Prop) (σ : St) : fc AD rv sh k R .norm σ = on (JG AD σ rv) fun rs => k <= σ.objs.length ∧ (∀ o ∈ σ.objs.take k, o.upto k) ∧ (Hl (if sh then rs.map A2.share else rs)).upto k ∧ R (Hl (if sh then rs.map A2.share else rs)) (σ.objs.take k) := rfl
theorem qeZ : Hl [] = .Ab [] := rfl
theorem qea (x y : A2) (r : List A2) : Hl (x :: y :: r) = .Ab (x :: y :: r) := rfl
theorem qoA (n : Nat) (x : Value) : A2.upto n (.v x) = True := rfl
def zr := And.intro @qeq <|And.intro @qdc <|And.intro @JG.eq_1 <|And.intro @JG.eq_2 <|And.intro @Mq.eq_1 <|And.intro @Mq.eq_2 <|And.intro @Hl.eq_1 <|And.intro @qeZ <|And.intro @qea <|
  And.intro @A2.upto.eq_1 <|And.intro @A2.upto.eq_2 <|And.intro @A2.upto.eq_3 <|And.intro @A2.upto.eq_4 <|And.intro @A2.upto.eq_5 <|And.intro @A2.upto.eq_6 <|And.intro @A2.upto.eq_7 <|And.intro @A2.upto.eq_8 <|And.intro @A2.upto.eq_9 <|And.intro @A2.upto.eq_10 <|And.intro @A2.upto.eq_11 <|And.intro @A2.upto.eq_12 <|And.intro @A2.upto.eq_13 <|
  And.intro @Nat.zero_le <|And.intro @Nat.le_refl <|And.intro @Nat.le_add_right <|And.intro @RE <|And.intro @RG @RF
def zc := And.intro @SX.eq_1 <|And.intro @SX.eq_2 <|And.intro @exists_eq_left'.{1} <|And.intro @Option.some.injEq.{0} <|And.intro @sub_self <|And.intro @and_assoc <|And.intro FA FW
variable {p q:Prop}
theorem ab  [Decidable p] (h : decide p = true) (n : ¬p) : q := B3 (T' h) n
theorem af  [Decidable p] (h : decide p = false) (n : p) : q := B3 n (G0 h)
theorem ob {a : Array Oper} {k : List Kind} (h : We a k = true) : Jc a k := h
theorem zf {f : FuncId} {fn : Go.Func} {c : Code} {O : List A8} {args : List A2} {R : A2 -> List A8 -> Prop} {m : Nat} (sh : Bool) (k : Nat) (hf : Tryz.prog.funcs[f]? = some fn) (hm : fn.ntmps = m) (h : AU prog O.length c (fc AD fn.results.toList sh k R) ⟨m, slotsOf 0 args, O⟩) (hb : fn.body = some c := by rfl)
    (Wv : (fn.name == "runtime.NumGoroutine") = false := by kernel_rfl) (hn : args.length <= m := by simp) (hk : O.length <= k := by simp) : Aq prog f O args R := by
  subst hm;exact Ly hT sh k hf hb Wv hn hk h
variable {σ:St}
theorem zq {τ:St} (h1 : σ.n = τ.n) (h3 : SX σ τ.BG) (h2 : σ.objs = τ.objs) : Hy σ τ := ⟨h1, h2, h3⟩
variable {kb id:Nat}{l:List Oper}{draw:Bool}{Q:E7 -> St -> Prop}
theorem HA        (h : q) (e : (G9 prog AD ⟨false, false⟩ l 0 [] σ [] fun τ ks => IN draw (fun _ => Jc l.toArray ks.reverse) ∧ At τ (Q .norm)) = q := by simp -dsimp only[simprocAttr, ↓AG, zp]; rfl) : AU prog kb (.region id l.toArray draw) Q σ := Dn (e ▸ h)
variable {x:Code}
theorem BM         (h : q) (e : (G9 prog AD ⟨false, false⟩ l 0 [] σ [] fun τ ks => IN draw (fun _ => Jc l.toArray ks.reverse) ∧ At τ (DX prog kb x Q .norm)) = q := by simp -dsimp only[simprocAttr, ↓AG, zp]; rfl) : AU prog kb (.seq (.region id l.toArray draw) x) Q σ := B9 (e ▸ h)
variable {y:Code}
theorem GX         (h : q) (e : (G9 prog AD ⟨false, false⟩ l 0 [] σ [] fun τ ks => IN draw (fun _ => Jc l.toArray ks.reverse) ∧ At τ (DX prog kb x (DX prog kb y Q) .norm)) = q := by simp -dsimp only[simprocAttr, ↓AG, zp]; rfl) : AU prog kb (.seq (.seq (.region id l.toArray draw) x) y) Q σ := Ej (e ▸ h)
variable {z:Code}
theorem zh3         (h : q) (e : (G9 prog AD ⟨false, false⟩ l 0 [] σ [] fun τ ks => IN draw (fun _ => Jc l.toArray ks.reverse) ∧ At τ (DX prog kb x (DX prog kb y (DX prog kb z Q)) .norm)) = q := by simp -dsimp only[simprocAttr, ↓AG, zp]; rfl) : AU prog kb (.seq (.seq (.seq (.region id l.toArray draw) x) y) z) Q σ := zg3 (e ▸ h)
variable {c:Operand}
theorem U1      (hc : σ.ev c = some (.v (.bool false))) (hf : AU prog kb y Q σ) : AU prog kb (.cond c x y) Q σ := eO hc (fun h => NG) fun _ => hf
theorem zu1      (hc : σ.ev c = some (.v (.bool false))) (hf : AU prog kb y (DX prog kb z Q) σ) : AU prog kb (.seq (.cond c x y) z) Q σ := DW (U1 hc hf)
theorem zu2   {w:Code}   (hc : σ.ev c = some (.v (.bool false))) (hf : AU prog kb y (DX prog kb z (DX prog kb w Q)) σ) : AU prog kb (.seq (.seq (.cond c x y) z) w) Q σ := DW (zu1 hc hf)
theorem ZL      (hc : σ.ev c = some (.v (.bool true))) (ht : AU prog kb x Q σ) : AU prog kb (.cond c x y) Q σ := eO hc (fun _ => ht) fun h => by cases h
theorem zw1      (hc : σ.ev c = some (.v (.bool true))) (ht : AU prog kb x (DX prog kb z Q) σ) : AU prog kb (.seq (.cond c x y) z) Q σ := DW (ZL hc ht)
theorem zw2   {w:Code}   (hc : σ.ev c = some (.v (.bool true))) (ht : AU prog kb x (DX prog kb z (DX prog kb w Q)) σ) : AU prog kb (.seq (.seq (.cond c x y) z) w) Q σ := DW (zw1 hc ht)
theorem zi {id : FuncId} {args : List A2} {r : A2} {K : A2 -> Prop} {B:Prop} (hc : BR prog id args r) (h : q) (hu : AQ 0 args := by simp only[AQ, A2.upto, zt, zu]) (e : K r = q := by simp -dsimp only[simprocAttr, ↓AG, zp]; rfl) : (∃ r, BR prog id args r ∧ AQ 0 args ∧ Yx fun _ => K r) ∨ B := .inl ⟨r, hc, hu, B4 (e ▸ h)⟩
theorem zj  (h : q) (e : p = q := by simp -dsimp only[simprocAttr, ↓AG, zp]; rfl) : p := e ▸ h
end Go.Proofs.YtjdnhamngpafmaaGreat
end
namespace Go.Av
section
variable {P:Program} {w:World} {H:Type} {enc:TypeId×Value->H} {sp:Nat->Bool} {held:Bool}
theorem qbm(hl:laidOutB P=true){ts:List TypeId}(hc:ns P ts=true){t:TypeId}(ht:t∈ts){v:Value}{d:DataW H}{ps:List MemPlace}(h:DataW.Trod enc P w 0 sp held t v d ps)
  (hv:∃vs,v=.agg vs) (hw:∀m∈d.weights P t,m<=reachBytes):∃n BI,Fe P n t BI∧RV (g0 w) (.agg BI) v:=by
 obtain⟨vs,rfl⟩:=hv;obtain⟨n,h⟩:=h;obtain⟨BI,h1,h3,h4,h5⟩:=qcN hl hc n t _ (d,ps) ht h hw;exact⟨n,BI,h1,.agg (by simpa[Value.cells]using h3.symm) h4 fun i c u hc hu=>h5 i c u hc (by simpa[Value.cells]using hu)⟩
theorem qdT{t:TypeId}{fs:Array Field}{r:Reach}{b:Nat}{v:Value}(hu:P.underlying t=some (.struct fs))(h:Value.okWide P w r b t v):∃vs,v=.agg vs:=by
 cases v<;>first|exact⟨_,rfl⟩|simp[Value.okWide,hu,Cell.okWide,Cell.ok]at h
end
end Go.Av
namespace Go.Proofs.YtjdnhamngpafmaaGreat
open Go.Av Tryz
theorem qjy:Tryz.prog.cellsOf 3=1:=by kernel_rfl
theorem qhx:Tryz.prog.cellsOf 65=4:=by kernel_rfl
theorem qhy:Tryz.prog.cellsOf 82=2:=by kernel_rfl
theorem qhw:Tryz.prog.cellsOf 50=7:=by kernel_rfl
theorem qhv:Tryz.prog.cellsOf 34=2:=by kernel_rfl
theorem qjx:Tryz.prog.bytesOf 3=8:=by kernel_rfl
theorem qht:Tryz.prog.bytesOf 65=48:=by kernel_rfl
theorem qhu:Tryz.prog.bytesOf 82=32:=by kernel_rfl
theorem qhs:Tryz.prog.bytesOf 50=120:=by kernel_rfl
theorem qhr:Tryz.prog.bytesOf 34=32:=by kernel_rfl
theorem qlq:VC prog 3=false:=by kernel_rfl
theorem qkV:VC prog 65=true:=by kernel_rfl
theorem qkW:VC prog 82=true:=by kernel_rfl
theorem qkU:VC prog 50=true:=by kernel_rfl
theorem qkT:VC prog 34=true:=by kernel_rfl
variable {x:List A2}
theorem Sj{n:Nat}(h:Fe prog n 3 x):∃m:Int,x=[aI m]∧Bi m:=by
 obtain⟨m,e,h1⟩:=h.int Tryz.underlying3;exact⟨m,e,h1⟩
theorem km{n:Nat}(h:Fe prog n 41 x):∃l:List Int,x=[AA l]∧It l∧l.length<=2 ^ 47:=by
 obtain⟨l,e,hb,hq⟩:=h.bU (f:=aI) (Q:=Bi) Tryz.underlying41 fun j hj y hy=>by
  obtain⟨m,rfl,hm⟩:=Sj hy;exact⟨m,by rw[NW,qlq];rfl,hm⟩
 rw[qjx,reachBytes]at hb;exact⟨l,by rw[e,qjy],hq,I⟩
theorem qgj{n:Nat}(h:Fe prog n 65 x):∃i:Ins,x=i.enc.cells∧i.fit:=by
 obtain⟨m,rfl,hc⟩:=h.struct Tryz.underlying65;simp only[Bc,Ed,SF]at hc;obtain⟨a,b,rfl,h1,c,d,rfl,h2,e,f,rfl,h3,g,k,rfl,h4,rfl⟩:=hc;obtain⟨x1,rfl,q1⟩:=Sj h1;obtain⟨x2,rfl,q2⟩:=Sj h2;obtain⟨x3,rfl,q3⟩:=Sj h3;obtain⟨x4,rfl,q4,q5⟩:=km h4;exact⟨⟨x1,x2,x3,x4⟩,rfl,q1,q2,q3,q4,q5⟩
theorem qeu{n:Nat}(h:Fe prog n 48 x):∃l:List Ins,x=[B7 l]∧(∀i∈l,i.fit)∧l.length<=2 ^ 47:=by
 obtain⟨l,e,hb,hq⟩:=h.bU (f:=Ins.enc) (Q:=Ins.fit) Tryz.underlying48 fun j hj y hy=>by
  obtain⟨m,rfl,hm⟩:=qgj hy;exact⟨m,by rw[NW,qkV];rfl,hm⟩
 rw[qht,reachBytes]at hb;exact⟨l,by rw[e,qhx],hq,I⟩
theorem qe4{n:Nat}(h:Fe prog n 82 x):∃i:Edge,x=i.enc.cells∧i.fit:=by
 obtain⟨m,rfl,hc⟩:=h.struct Tryz.underlying82;simp only[Bc,Ed,SF]at hc;obtain⟨a,b,rfl,h1,g,k,rfl,h4,rfl⟩:=hc;obtain⟨x1,rfl,q1⟩:=Sj h1;obtain⟨x4,rfl,q4,q5⟩:=km h4;exact⟨⟨x1,x4⟩,rfl,q1,q4,q5⟩
theorem qcr{n:Nat}(h:Fe prog n 45 x):∃l:List Edge,x=[An l]∧(∀i∈l,i.fit)∧l.length<=2 ^ 47:=by
 obtain⟨l,e,hb,hq⟩:=h.bU (f:=Edge.enc) (Q:=Edge.fit) Tryz.underlying45 fun j hj y hy=>by
  obtain⟨m,rfl,hm⟩:=qe4 hy;exact⟨m,by rw[NW,qkW];rfl,hm⟩
 rw[qhu,reachBytes]at hb;exact⟨l,by rw[e,qhy],hq,I⟩
theorem qfS{n:Nat}(h:Fe prog n 47 x):∃t:Term,x=t.enc.cells∧t.fit:=by
 obtain⟨m,rfl,hc⟩:=h.struct Tryz.underlying47;simp only[Bc,Ed,SF]at hc;obtain⟨a,b,rfl,h1,c,d,rfl,h2,e,f,rfl,h3,g,k,rfl,h4,g',k',rfl,h5,rfl⟩:=hc;obtain⟨x1,rfl,q1⟩:=Sj h1;obtain⟨x2,rfl,q2⟩:=Sj h2;obtain⟨x3,rfl,q3⟩:=Sj h3;obtain⟨x4,rfl,q4,q5⟩:=km h4;obtain⟨x5,rfl,q6,q7⟩:=qcr h5;exact⟨⟨x1,x2,x3,x4,x5⟩,rfl,q1,q2,q3,q4,q5,q7,q6⟩
theorem qd7{n:Nat}(h:Fe prog n 50 x):∃b:Block,x=b.enc.cells∧b.fit:=by
 obtain⟨m,rfl,hc⟩:=h.struct Tryz.underlying50;simp only[Bc,Ed,SF]at hc;obtain⟨a,b,rfl,h1,c,d,rfl,h2,e,f,rfl,h3,rfl⟩:=hc;obtain⟨x1,rfl,q1,q2⟩:=km h1;obtain⟨x2,rfl,q3,q4⟩:=qeu h2;obtain⟨x3,rfl,q5⟩:=qfS h3;exact⟨⟨x1,x2,x3⟩,rfl,q1,q2,q4,q3,q5⟩
theorem qeA{n:Nat}(h:Fe prog n 34 x):∃f:Func,x=f.enc.cells∧f.fit:=by
 obtain⟨m,rfl,hc⟩:=h.struct Tryz.underlying34;simp only[Bc,Ed,SF]at hc;obtain⟨a,b,rfl,h1,c,d,rfl,h2,rfl⟩:=hc;obtain⟨x1,rfl,q1⟩:=Sj h1;obtain⟨l,rfl,hb,hq⟩:=h2.bU (f:=Block.enc) (Q:=Block.fit) Tryz.underlying32 fun j hj y hy=>by
  obtain⟨m,rfl,hm⟩:=qd7 hy;exact⟨m,by rw[NW,qkU];rfl,hm⟩
 rw[qhs,reachBytes]at hb;exact⟨⟨x1,l⟩,by rw[qhw];rfl,q1,abX,hq⟩
theorem qfT{n:Nat}(h:Fe prog n 24 x):∃u:Ad,.agg x=u.enc∧u.fit:=by
 obtain⟨m,rfl,hc⟩:=h.struct Tryz.underlying24;simp only[Bc,Ed,SF]at hc;obtain⟨a,b,rfl,h1,c,d,rfl,h2,rfl⟩:=hc;obtain⟨l,rfl,hb,hq⟩:=h1.bU (f:=Func.enc) (Q:=Func.fit) Tryz.underlying22 fun j hj y hy=>by
  obtain⟨m,rfl,hm⟩:=qeA hy;exact⟨m,by rw[NW,qkT];rfl,hm⟩
 obtain⟨x1,rfl,q1⟩:=Sj h2;rw[qhr,reachBytes]at hb;exact⟨⟨l,x1⟩,by rw[qhv];rfl,q1,abX,hq⟩
def yo:List TypeId:=[3,22,24,32,34,41,45,47,48,50,65,82]
theorem cov:ns prog yo=true:=by kernel_rfl
theorem laid:laidOutB prog=true:=by kernel_rfl
end Go.Proofs.YtjdnhamngpafmaaGreat
namespace Go.Av
theorem cS{P:Program}{ops all:Array Oper}{k:Nat}(hk:∀i o,ops[i]?=some o->all[k+i]?=some o)(hg:∀o∈all.toList,o.guard=none):∀{l:List (Nat×Kind)} {σ τ:St},Gy P ops l σ τ->Gy P all (l.map fun p=>(k+p.1,p.2)) σ τ
 | [],_,_,h=>h
 | (i,q)::r,_,_,h=>by
  obtain⟨Bl,⟨o,ho,h1⟩,h2⟩:=h;refine⟨Bl,⟨o,hk i o ho,?_⟩,cS hk hg h2⟩;have CO:=hk i o ho;have Qi:o.guard=none:=hg o (by
   rw[<-pL]at CO;exact AK CO)
  have w1:∀(a:Array Oper) (σ:St),JF a o σ=some true:=fun a σ=>jX
  rcases h1 with⟨_,h1⟩|⟨h1,_⟩
  ·exact .inl ⟨w1 _ _,h1⟩
  rw[w1]at h1;cases h1
def nJ(P:Program)(AD:Cn)(md:Md)(o:Oper)(l2:List Oper)(Q:E7->St->Prop)(τ:St):Prop:=∃x m,Cert P o τ x m∧G9 P AD md l2 0 [] ⟨τ.n,MR o.dst x τ.BG,m.post τ.objs⟩ [] fun ρ _=>At ρ (Q .norm)
variable {P:Program}{kb:Nat}
theorem gq{AD:Cn}(md:Md)(hT:CH P AD){id:Nat}{l l1 l2:List Oper}{o:Oper}{Q:E7->St->Prop}{σ:St}(k:Nat)(h1:l.take k=l1)(h2:l[k]?=some o)(h3:l.drop (k+1)=l2)(hg:∀o∈l,o.guard=none)
  (h:G9 P AD md l1 0 [] σ [] fun τ _=>nJ P AD md o l2 Q τ):AU P kb (.region id l.toArray false) Q σ:=by
 have AF:=AE h2;obtain⟨τ,K',c1,n1,x,m,hc,h⟩:=Sc (all:=l1.toArray) hT l1 0 [] σ [] (fun j=>A6) (fun j t hj=>aL) h;obtain⟨ρ,Vu,c2,n2,hQ⟩:=Sc (all:=l2.toArray) hT l2 0 [] _ [] (fun j=>A6) (fun j t hj=>aL) h;intro base a g hb hr;have Qi:o.guard=none:=hg o (AK h2);have l1n:l1.length=k:=by rw[<-h1,Dy];omega
 have l2n:l2.length=l.length-(k+1):=by rw[<-h3,ND]
 have d1:=cS (all:=l.toArray) (k:=0) (fun i o' hi=>by
  have Bo:l1[i]?=some o':=T5
  have:=AE Bo;rw[<-h1,GC]at Bo;split at Bo
  ·simpa using Bo
  cases Bo) YK c1
 have d2:=cS (all:=l.toArray) (k:=k+1) (fun i o' hi=>by
  have Bo:l2[i]?=some o':=T5
  rw[<-h3,FC]at Bo;simpa using Bo) YK c2
 have dm:Gy P l.toArray [(k,m.kind)] τ ⟨τ.n,MR o.dst x τ.BG,m.post τ.objs⟩:=⟨_,⟨o,KI,.inl ⟨jX,x,m,hc,rfl,rfl⟩⟩,GQ.refl _⟩
 have F5:=pB d1 (pB dm d2);obtain⟨ks,hks⟩:∃ks,ks=K'++m.kind::Vu:=⟨_,rfl⟩
 have e:(List.range l.toArray.size).map (fun i=>(i,ks.getD i .write))=(List.map (fun p=>(0+p.1,p.2)) (List.map (fun p=>(p.2,p.1)) (K'.zipIdx 0))++([(k,m.kind)]++List.map (fun p=>(k+1+p.1,p.2)) (List.map (fun p=>(p.2,p.1)) (Vu.zipIdx 0)))):=by
  have Ag:l.toArray.size=ks.length:=by
   rw[hks];simp only[Jj,Bf,CE];omega
  rw[Ag];apply Gg;intro i;rw[hks];simp only[Bv];by_cases q1:i<K'.length
  ·rw[EV (by simpa using q1),J3 Ai];simp[q1,EV]
  rw[Dg Ai];simp only[BE,aa3];by_cases q2:i=K'.length
  ·subst q2;rw[J3 A6];simp[n1,l1n]
  rw[Dg Ai];obtain⟨j,hj⟩:∃j,i=K'.length+1+j:=⟨i-K'.length-1,I⟩
  subst hj;simp only[CE,GD,show K'.length+1+j-K'.length-(0+1)=j from I,Bv,pM];by_cases q3:j<Vu.length
  ·rw[J3 Ai];simp only[FV,AY q3,AM,NB];refine⟨I,?_⟩;rw[KC,Dg I,show K'.length+1+j-K'.length=j+1 from I,LY,AY q3];rfl
  rw[H3 (l:=List.range _) Ai,H3 (l:=Vu) I];rfl
 rw[<-e]at F5;exact oz F5 hr fun a g Mn=>⟨g,ρ,rfl,Mn,hQ⟩
variable {o:Oper}{x:Operand}
theorem qax{σ:St}{t t':TypeId}{y:Operand}{k:IntKind}{m n:Int}
  (ho:o.op=.binOp .add t x y t') (hd:∀d,o.dst=some d->d<σ.n) (hx:σ.ev x=some (.v (.int k m))) (hy:σ.ev y=some (.v (.int k n))) :
  Cert P o σ (.v (.int k (k.wrap (m+n)))) .pure :=
 Cert.EL .pure (.inl rfl) hd fun a g _ h _=>by
  have ex:=(h x CM _ hx).D0.1;have ey:=(h y CM _ hy).D0.1;have hg:=U3 (P:=P) .add t x y (.int k m) (.int k n) g.w A6 A6;refine⟨.int k (k.wrap (m+n)),?_,.v (wrap_within k _)⟩;have hb:(binOp .add t (.int k m) (.int k n)).run P g.w=.ok (.int k (k.wrap (m+n))) g.w:=by
   simp[binOp,Op.intArith]
  simp[execOp,ho,ex,ey,hg,hb]
variable {Q:E7->St->Prop}
theorem aea{AD:Cn}{md:Md}{l2:List Oper}{τ:St}{t t':TypeId}{y:Operand}{k:IntKind}{m n:Int}{d:Nat}
  (ho:o.op=.binOp .add t x y t') (IS:o.dst=some d) (hd:d<τ.n) (hx:τ.ev x=some (.v (.int k m))) (hy:τ.ev y=some (.v (.int k n)))
  (h:G9 P AD md l2 0 [] ⟨τ.n,MR o.dst (.v (.int k (k.wrap (m+n)))) τ.BG,τ.objs⟩ [] fun ρ _=>At ρ (Q .norm)):nJ P AD md o l2 Q τ :=
 ⟨_,.pure,qax ho (fun d' e=>ab7) hx hy,h⟩
def nH(P:Program)(o:Oper)(H5:St)(R:A2->List A8->Prop):Prop :=
 ∀(base:G) (σ:St) (a:Act) (g:G),Rel base σ a g->σ.n=H5.n->(∀x∈o.op.operands,∀y,H5.ev x=some y->σ.ev x=some y)->σ.objs=H5.objs ->
  ∀(K:Act->World->Prop) (Q:Exit->Act->World->Prop),(∀r u g',R r g'.objs->Rel base ⟨σ.n,MR o.dst r σ.BG,g'.objs⟩ (a.put o.dst u) g'->K (a.put o.dst u) g'.w)->o.wp P a g.w K Q
theorem ZS{σ:St}{args:Array Operand}{HI:Array TypeId}{f:FuncId}{fs cs BI:List A2}{R:A2->List A8->Prop}
  (ho:o.op=.call ⟨.value x,args,HI⟩) (hd:∀d,o.dst=some d->d<σ.n) (hx:σ.ev x=some (.fn (.func f) fs cs)) (ha:σ.LB args.toList=some BI)
  (FJ:Aq P f σ.objs (fs++BI++cs) R):nH P o σ R:=by
 intro base τ a g Ax hn Er hm K Q hK;have Lu:σ.ev x=some (.fn (.func f) fs cs):=hx;have h1:=Ax.eval (Er x Gh _ hx);obtain⟨us,vs,e1,l1,l2,r1,r2⟩:=h1.xc;have h2:=ep (σ:=σ) (a:=a) (g:=g) (xs:=args.toList) (fun z hz y hy=>Ax.eval (Er z (by
  rw[ho];simp only[Op.operands,Call.operands,ij];exact .inr (Array.mem_toList_iff.1 hz)) y hy)) ha
 have Qz:Co g BI (args.map a.eval):=by
  have e:args.map a.eval=(args.toList.map a.eval).toArray:=Zx jW;rw[e];exact h2
 have Br:=(Co.iA (Co.iA ⟨l1,r1⟩ Qz) ⟨l2,r2⟩)
 have Aj:=vJ (P:=P) (w:=g.w) ho e1 FJ.1;unfold Oper.wp;rw[Aj,Oper.upon_enter];refine(FJ.2 g _ Ax.good (Ax.objs.trans hm) Br).mono ?_;rintro e w' ⟨g',v,r',q1,q2,q3,q4,q5,q6⟩;subst q1;subst q2;refine hK r' v g' q6 ?_;cases IS:o.dst with
 | none=>exact Ax.step q3 q4
 | some d=>exact Ax.put q3 q4 (d:=d) j6 q5
theorem gk{P:Program}{ops:Array Oper}{base:G}{ρ:St}{Q:Exit->Act->World->Prop}{rest:List Nat}(hQ:∀a g,Rel base ρ a g->wpOps P ops Q rest a g.w) :
  ∀(l:List (Nat×Kind)) (σ:St) (a:Act) (g:G),Gy P ops l σ ρ->Rel base σ a g->wpOps P ops Q (l.map (·.1)++rest) a g.w
 | [],σ,a,g,F5,Ax=>hQ a g (GQ.rel F5 Ax)
 | (i,k)::r,σ,a,g,F5,Ax=>by
  obtain⟨Bl,⟨o,ho,BD⟩,D3⟩:=F5;simp only[Bc,JR,wpOps,ho];rcases BD with⟨hw,r',m,bY,hk,RC⟩|⟨hw,_,RC⟩
  ·rw[A9 (cL Ax hw)];refine .inl (bY.2 base σ a g Ax rfl (fun x _ y hy=>hy) (Mode.kr (.inr rfl)) _ _ fun u g' TB=>?_);subst RC;exact gk hQ r _ _ _ D3 TB
  rw[A4 qJ];subst RC;refine gk hQ r _ _ g D3 ?_;cases IS:o.dst with
  | none=>exact Ax
  | some d=>exact Ax.skip d
theorem xL(ks:List Kind)(s:Nat):(((ks.zipIdx 0).map fun p=>(p.2,p.1)).map fun p=>(s+p.1,p.2)).map (·.1)=(List.range ks.length).map (s + ·):=by
 apply Gg;intro i;simp only[Bv,pM];by_cases h:i<ks.length
 ·simp[h]
 rw[H3 I,H3 Ai];rfl
theorem qeo{n k:Nat}(h:k<n):List.range n=(List.range k).map (0 + ·)++(k::(List.range (n-(k+1))).map (k+1 + ·)):=by
 apply Gg;intro i;by_cases h1:i<k
 ·rw[EV JT];simp[h1,show i<n from I]
 rw[Dg Ai];simp only[BE,N7];by_cases h2:i=k
 ·subst h2;simp[h]
 rw[show i-k=(i-k-1)+1 from I,LY,Bv];by_cases h3:i<n
 ·rw[J3 h3,J3 I,FV];congr 1;omega
 rw[H3 Ai,H3 Ai];rfl
theorem cN{AD:Cn}(md:Md)(hT:CH P AD){id:Nat}{l l1 l2:List Oper}{o:Oper}{Q:E7->St->Prop}{σ:St}(k:Nat)(h1:l.take k=l1)(h2:l[k]?=some o)(h3:l.drop (k+1)=l2)(hg:∀o∈l,o.guard=none)
  (h:G9 P AD md l1 0 [] σ [] fun τ _=>∃R,nH P o τ R∧∀r O',R r O'->G9 P AD md l2 0 [] ⟨τ.n,MR o.dst r τ.BG,O'⟩ [] fun ρ _=>At ρ (Q .norm)):AU P kb (.region id l.toArray false) Q σ:=by
 have AF:=AE h2;obtain⟨τ,K',c1,n1,R,hc,h⟩:=Sc (all:=l1.toArray) hT l1 0 [] σ [] (fun j=>A6) (fun j t hj=>aL) h;intro base a g hb hr;have Qi:o.guard=none:=hg o (AK h2);have l1n:l1.length=k:=by rw[<-h1,Dy];omega
 have l2n:l2.length=l.length-(k+1):=by rw[<-h3,ND]
 have d1:=cS (all:=l.toArray) (k:=0) (fun i o' hi=>by
  have Bo:l1[i]?=some o':=T5
  have:=AE Bo;rw[<-h1,GC]at Bo;split at Bo
  ·simpa using Bo
  cases Bo) YK c1
 refine wp_region ?_;rw[show l.toArray.size=l.length from Jj,qeo AF];have e1:=xL K' 0;rw[n1,l1n]at e1;rw[<-e1];refine gk (ρ:=τ) (fun a g hr=>?_) _ _ _ _ d1 hr;have ho:l.toArray[k]?=some o:=KI
 simp only[wpOps,ho];have hw:JF l.toArray o τ=some true:=jX
 rw[A9 (cL hr hw)];refine .inl (hc base τ a g hr rfl (fun x _ y hy=>hy) rfl _ _ fun r u g' hR TB=>?_);obtain⟨ρ,Vu,c2,n2,hQ⟩:=Sc (all:=l2.toArray) hT l2 0 [] _ [] (fun j=>A6) (fun j t hj=>aL) (h r g'.objs hR);have d2:=cS (all:=l.toArray) (k:=k+1) (fun i o' hi=>by
  have Bo:l2[i]?=some o':=T5
  rw[<-h3,FC]at Bo;simpa using Bo) YK c2
 have e2:=xL Vu (k+1);rw[n2,l2n]at e2;rw[<-e2];have:=gk (rest:=[]) (Q:=nu base Q) (P:=P) (ops:=l.toArray) (base:=base) (ρ:=ρ) (fun a g hr=>⟨g,ρ,rfl,hr,hQ⟩) _ _ _ _ d2 TB;rw[F9]at this;exact Cd
def Sf(AD:Cn)(rv:List ResultVar)(R:A2->List A8->Prop):E7->St->Prop
 | .exit _,_=>False
 | _,σ=>on (JG AD σ rv) fun rs=>R (Hl rs) σ.objs
theorem U5{AD:Cn}(hT:CH P AD){f:FuncId}{fn:Func}{c:Code}{O:List A8}{args:List A2}{R:A2->List A8->Prop}(hf:P.funcs[f]?=some fn)(hb:fn.body=some c)
  (Wv : (fn.name == "runtime.NumGoroutine") = false) (hn : args.length <= fn.ntmps) (h : AU P O.length c (Sf AD fn.results.toList R) ⟨fn.ntmps, slotsOf 0 args, O⟩) : Aq P f O args R := by
 refine⟨⟨fn,hf,Wv,YP⟩,fun g vs hg ho ha=>?_⟩;refine calls_of_wp hf hb ?_;have Ax:Rel g ⟨fn.ntmps,slotsOf 0 args,O⟩ { tmps:=vs++Array.replicate (fn.ntmps-vs.size) undef,defers:=[] } g:={
  le:=Le.refl g
  good:=hg
  objs:=ho
  size:=by
   have:=ha.1;simp only[RX,aaF];omega
  defers:=rfl
  slot:=fun s x hx=>by
   obtain⟨_,h1⟩:=p8 args 0 s x hx;simp only[Zw]at h1;have AF:=AE h1;have HR:s<vs.size:=by rw[ha.1];exact AF
   refine⟨vs[s],?_,ha.2 s x _ h1 (by simp[HR])⟩;simp only;rw[iR,A9 HR];simp[HR] }
 refine wp_mono (h g _ g abQ Ax) fun e a w hp=>?_;have key:∀g' Bl,g'.w=w->Rel g Bl a g'->(on (JG AD Bl fn.results.toList) fun rs=>R (Av.Hl rs) Bl.objs) ->
   a.defers=[]∧∃v,(results fn a.tmps).run P w=.ok v w∧∃g' v' r,Ending.returned v=.returned v'∧g'.w=w∧Le g g'∧Good g'∧RV g' r v'∧R r g'.objs:=by
  intro g' Bl hw hr hq;subst hw;obtain⟨rs,Ie,h4⟩:=Aw hq;obtain⟨us,q1,q2⟩:=qo hT hr Ie;have hO:g'.objs=Bl.objs:=hr.objs;refine⟨hr.defers,(if h:us.toArray.size=1 then us.toArray[0]else .tuple us.toArray),?_,g',_,_,rfl,rfl,hr.le,hr.good,RV.Hl q2,by rw[hO];exact h4⟩;have hm:fn.results.mapM (Sq a)=Functor.map List.toArray (fn.results.toList.mapM (Sq a)):=zv;have Df:results fn a.tmps=(do
   let vs <-fn.results.mapM (Sq a)
   pure (if h:vs.size=1 then vs[0]else .tuple vs)):=rfl
  rw[Df,hm];exact adH q1
 cases e with
 | normal =>
  obtain⟨g',Bl,h1,h2,h3⟩:=hp;exact key g' Bl h1 h2 h3
 | ret =>
  obtain⟨g',Bl,h1,h2,h3⟩:=hp;exact key g' Bl h1 h2 h3
 | exit id =>
  obtain⟨g',Bl,h1,h2,h3⟩:=hp;exact h3.elim
 | goto l=>exact hp.elim
 | panic c=>exact hp.elim
 | outgrown=>exact hp.elim
variable {O:List A8}
theorem qfy{c:Code}{n:Nat}{BG:List (Nat×A2)}(s:Nat){sz:Nat}{xs:List A2}{o:Ec}(hs:look BG s=some (.A3 sz xs o))
  (h1:xs=[]->AU P kb c Q ⟨n,GY s (.v (.slice none 0 0)) BG,O⟩) (h2:AU P kb c Q ⟨n,GY s (.A3 sz xs .nn) BG,O⟩):AU P kb c Q ⟨n,BG,O⟩:=by
 intro base a g hb hr;obtain⟨u,e1,e2⟩:=hr.slot s _ hs;have key:∀y,RV g y u->Rel base ⟨n,GY s y BG,O⟩ a g:=fun y hy =>
  {le:=hr.le,good:=hr.good,objs:=hr.objs,size:=hr.size,defers:=hr.defers,slot:=fun k x hx=>by
    simp only[St.get,RL]at hx;split at hx
    ·rename_i e;subst e;simp only[AM]at hx;subst hx;exact⟨u,e1,hy⟩
    exact hr.slot k x hx }
 cases e2 with
 | nil ho hn=>exact h1 rfl base a g hb (key _ (.v trivial))
 | A3 Ag B1 C1 Bm hs f hm hr ho=>exact h2 base a g hb (key _ (.A3 Ag B1 C1 Bm hs f hm hr trivial))
theorem Lz{c:Code}{n:Nat}{BG:List (Nat×A2)}(k:Nat){cs:List A2}(ds:List A2)(EU:O[k]?=some (.cells cs))(hl:ds.length=cs.length)(B1:∀d∈ds,d.scalar)
  (hs:∀(j:Nat) (c d:A2),cs[j]?=some c->ds[j]?=some d->Sub O c d) (h:AU P kb c Q ⟨n,BG,O.set k (.cells ds)⟩):AU P kb c Q ⟨n,BG,O⟩ :=
 AU.weaken h fun base a g hb hr=>by
  have hO:g.objs=O:=hr.objs;have yP:g.objs[k]?=some (.cells cs):=qd
  obtain⟨l,arr,t,e1,e2,e3,e4,e5,e6⟩:=hr.good.cells k cs yP;have ht:N6 g k (.cells cs) (some l) (.cells ds) g.w:={
   obj:=yP
   os:=rfl
   tape:=rfl
   output:=rfl
   size:=B6 _
   block:=fun _ _ _=>rfl
   cell:=fun b off x hx _=>hx
   place:=fun l1 h1 _=>by
    simp only[AM]at h1;subst h1;exact .inr ⟨l,e1,trivial,rfl,B6 _⟩
   spare:=fun m h=>NG
   plain:=fun _=>⟨Bd,e1⟩
   gone:=A6}
  have hle:=Le.Am hr.good ht;have EA:=Good.Am hr.good ht ⟨l,arr,t,rfl,e2,e3,I,fun j d u hd hu=>by
   have AF:=AE hd;have hc:cs[j]?=some cs[j]:=AY I;exact(hs j _ d hc hd g u hO (e5 j _ u hc hu)).mono hle,B1,e6.2⟩ (fun l1 h1 _=>by
    simp only[AM]at h1;subst h1;exact Gq e3)
  refine⟨g.Am k (some l) (.cells ds) g.w,rfl,{ le:=hr.le.trans hle,good:=EA,objs:=by simp[G.Am,hO],size:=hr.size,defers:=hr.defers,slot:=fun s y hy=>?_ }⟩;have H8:(St.mk n BG O).get s=some y:=hy;obtain⟨u,h3,h4⟩:=hr.slot s y H8;exact⟨u,h3,h4.mono hle⟩
theorem Sub.x9(sz:Nat):Sub O (.v (.slice none 0 0)) (.A3 sz [] .ex):=fun g u _ h=>by
 obtain⟨e,_⟩:=h.D0;rw[e];exact .nil (fun id q=>je) A6
end Go.Av
namespace Go.Proofs.YtjdnhamngpafmaaGreat
open Go.Av Tryz
def within(n low high:Int):Bool:=decide (low<=n)&&decide (n<=high)
theorem SW(n low high:Int):BR prog 30 [aI n,aI low,aI high] (.v (.bool (within n low high))):=by
 refine zf true 0 func30 ntmps30 ?_;refine LZ ?_;refine qdY (fun h=>?_) (fun h=>?_)
 ·refine Gi h ?_;refine E9 ?_;simp -dsimp only[simprocAttr,↓AG,zp,zr,results30]
  simp_all [within]
 refine Gi h ?_;refine E9 ?_;simp -dsimp only[simprocAttr,↓AG,zp,zr,results30]
 simp_all [within]
 omega
theorem cR(n:Int):-1073741824<=MD n∧MD n<=1073741823:=by
 unfold MD;omega
theorem qi3(x:Int):bitsOf .i64 (fun x y=>x&&& y) x 2147483647=x % 2147483648:=by
 have h:(BitVec.ofInt 64 x&&& BitVec.ofInt 64 2147483647).toNat=(x % 2147483648).toNat:=by
  rw[BitVec.toNat_and,show(BitVec.ofInt 64 2147483647).toNat=2 ^ 31-1 from EW,Nat.and_two_pow_sub_one_eq_mod,BitVec.toNat_ofInt];omega
 show IntKind.i64.wrap (((BitVec.ofInt 64 x&&& BitVec.ofInt 64 2147483647).toNat:Nat):Int)=_;rw[h,Yk .i64 _ aaO pn];omega
theorem Sh(n:Int)(h1:-9223372036854775808<=n)(h2:n<=9223372035781033983):BR prog 155 [aI n] (aI (MD n)):=by
 have q:=cR n;have e:bitsOf .i64 (fun x y=>x&&& y) (n+1073741824) 2147483647=MD n+1073741824:=by
  rw[qi3];unfold MD;omega
 refine zf true 0 func155 ntmps155 ?_;refine LZ ?_;refine⟨I,I,?_⟩;simp -dsimp only[simprocAttr,↓AG,zp,e];refine⟨I,I,I,I,?_⟩;refine E9 ?_;simp -dsimp only[simprocAttr,↓AG,zp,zr,results155];rw[Int.add_sub_cancel]
theorem Zn{n:Int}(h:CR n):MD n=n:=by
 unfold CR at h;unfold MD;omega
theorem qfv(a b:Int)(ha:CR a)(hb:CR b):BR prog 148 [aI a,aI b] (aI (MD (a+b))):=by
 unfold CR at ha hb;refine zf true 0 func148 ntmps148 ?_;refine LZ ?_;refine⟨I,I,?_⟩;refine .inl ⟨_,(Sh (a+b) I I),Kh,B4 ?_⟩;refine E9 ?_;simp -dsimp only[simprocAttr,↓AG,zp,zr,results148]
theorem qhl(a b:Int)(ha:CR a)(hb:CR b):BR prog 149 [aI a,aI b] (aI (MD (a-b))):=by
 unfold CR at ha hb;refine zf true 0 func149 ntmps149 ?_;refine LZ ?_;refine⟨I,I,?_⟩;refine .inl ⟨_,(Sh (a-b) I I),Kh,B4 ?_⟩;refine E9 ?_;simp -dsimp only[simprocAttr,↓AG,zp,zr,results149]
variable {a b:Int}
theorem qdF(ha:CR a)(hb:CR b):-1152921504606846976<=a*b∧a*b<=1152921504606846976:=by
 unfold CR at ha hb;have h:(a*b).natAbs<=1152921504606846976:=by
  rw[Int.natAbs_mul];have:=pW (show a.natAbs<=1073741824 from I) (show b.natAbs<=1073741824 from I);omega
 omega
theorem qgy(a b:Int)(ha:CR a)(hb:CR b):BR prog 150 [aI a,aI b] (aI (MD (a*b))):=by
 have q:=qdF ha hb;have ea:=Zn ha;have eb:=Zn hb;have wa:=Sh a aE aE;have wb:=Sh b aF aF;have wc:=Sh (a*b) I I;rw[ea]at wa;rw[eb]at wb;generalize hc:a*b=c at *;refine zf true 0 func150 ntmps150 ?_;refine LZ ?_;refine .inl ⟨_,wa,Kh,B4 ?_⟩;refine .inl ⟨_,wb,Kh,B4 ?_⟩;refine Gi hc ?_;refine⟨I,I,?_⟩;refine .inl ⟨_,wc,Kh,B4 ?_⟩;refine E9 ?_;simp -dsimp only[simprocAttr,↓AG,zp,zr,results150]
theorem qds(ha:CR a):-1073741824<=a.tdiv b∧a.tdiv b<=1073741824:=by
 unfold CR at ha;have h:(a.tdiv b).natAbs<=a.natAbs:=by
  rw[Int.natAbs_tdiv];exact Nat.div_le_self _ _
 omega
theorem uE(hb:CR b)(h0:b≠0):CR (a.tmod b):=by
 unfold CR at *;have h:(a.tmod b).natAbs<b.natAbs:=by
  rw[Int.natAbs_tmod];exact dH _ I
 omega
theorem qfo(a b:Int)(ha:CR a)(hb:CR b)(h0:b≠0):BR prog 152 [aI a,aI b] (.Ab [aI (MD (a.tdiv b)),aI 0]):=by
 have q:=qds (b:=b) ha;have wa:=Sh a aE aE;have wb:=Sh b aF aF;have wc:=Sh (a.tdiv b) I I;rw[Zn ha]at wa;rw[Zn hb]at wb;have h1:(b=0)=False:=jG
 generalize hc:a.tdiv b=c at *;refine zf true 0 func152 ntmps152 ?_;refine Cw ?_;refine ac4 h0 h1 hc ?_;refine .inl ⟨_,wc,Kh,B4 ?_⟩;refine E9 ?_;simp -dsimp only[simprocAttr,↓AG,zp,zr,results152];exact WZ
theorem qgx(a b:Int)(ha:CR a)(hb:CR b)(h0:b≠0):BR prog 153 [aI a,aI b] (.Ab [aI (a.tmod b),aI 0]):=by
 have q:=uE (a:=a) hb h0;unfold CR at q;have wa:=Sh a aE aE;have wb:=Sh b aF aF;rw[Zn ha]at wa;rw[Zn hb]at wb;have h1:(b=0)=False:=jG
 generalize hc:a.tmod b=c at *;refine zf true 0 func153 ntmps153 ?_;refine Cw ?_;refine ac4 h0 h1 hc ?_;refine E9 ?_;simp -dsimp only[simprocAttr,↓AG,zp,zr,results153];exact WZ
structure Bs where
 a:Nat
 b:Nat
 deriving DecidableEq
namespace Bs
def enc(s:Bs):A2:=.agg [.v (.int .u64 s.a),.v (.int .u64 s.b)]
def fit(s:Bs):Prop:=s.a<2 ^ 64∧s.b<2 ^ 64
def has(s:Bs)(k:Nat):Bool:=if k<64 then s.a.testBit k else s.b.testBit (k-64)
def add(s:Bs)(k:Nat):Bs:=if k<64 then⟨s.a |||1 <<< k,s.b⟩else⟨s.a,s.b |||1 <<< (k-64)⟩
def meet(s t:Bs):Bs:=⟨s.a&&& t.a,s.b&&& t.b⟩
def none:Bs:=⟨0,0⟩
theorem E4(s:Bs):s.enc.share=s.enc:=rfl
theorem EK(s:Bs):s.enc.flat:=trivial
theorem D'(s:Bs):s.enc.cells=[.v (.int .u64 s.a),.v (.int .u64 s.b)]:=rfl
theorem Cr(n:Nat)(s:Bs):s.enc.upto n:=⟨trivial,trivial,trivial⟩
end Bs
theorem wrap_u64{n:Nat}(h:n<2 ^ 64):IntKind.u64.wrap (n:Int)=(n:Int):=by
 rw[Yk .u64 _ (by simp[IntKind.min,IntKind.signed]) pn]
variable {m:Nat}
theorem ly{n:Nat}(hm:m<2 ^ 64)(hn:n<2 ^ 64):bitsOf .u64 (fun x y=>x&&& y) (m:Int) (n:Int)=((m&&& n:Nat):Int):=by
 have h:(BitVec.ofInt 64 (m:Int)&&& BitVec.ofInt 64 (n:Int)).toNat=m&&& n:=by
  rw[BitVec.toNat_and,BitVec.toNat_ofInt,BitVec.toNat_ofInt];congr 1<;>omega
 show IntKind.u64.wrap (((BitVec.ofInt 64 (m:Int)&&& BitVec.ofInt 64 (n:Int)).toNat:Nat):Int)=_;rw[h];exact wrap_u64 (Zr dG hm)
theorem xe{n:Nat}(hm:m<2 ^ 64)(hn:n<2 ^ 64):bitsOf .u64 (fun x y=>x |||y) (m:Int) (n:Int)=((m |||n:Nat):Int):=by
 have h:(BitVec.ofInt 64 (m:Int) |||BitVec.ofInt 64 (n:Int)).toNat=m |||n:=by
  rw[BitVec.toNat_or,BitVec.toNat_ofInt,BitVec.toNat_ofInt];congr 1<;>omega
 show IntKind.u64.wrap (((BitVec.ofInt 64 (m:Int) |||BitVec.ofInt 64 (n:Int)).toNat:Nat):Int)=_;rw[h];exact wrap_u64 (dC hm hn)
theorem qio(m k:Nat)(hk:k<64):Nw .u64 .shr (m:Int) (k:Int)=((m >>> k:Nat):Int):=by
 simp only[Nw,BH,IntKind.bits];rw[Nat.min_eq_left I,pd,Int.fdiv_eq_ediv_of_nonneg _ (by exact Int.le_of_lt (Int.pow_pos I))];simp
theorem qin(k:Nat)(hk:k<64):Nw .u64 .shl 1 (k:Int)=((1 <<< k:Nat):Int):=by
 simp only[Nw,BH,IntKind.bits];have AF:1 <<< k<2 ^ 64:=by
  rw[YC];exact iS I hk
 have he:(1:Int)*(2:Int) ^ k=((1 <<< k:Nat):Int):=by
  rw[YC];simp
 rw[Nat.min_eq_left I,he];exact wrap_u64 AF
theorem qi6(m k:Nat):decide (((m >>> k&&& 1:Nat):Int)=1)=m.testBit k:=by
 rw[Nat.testBit_eq_decide_div_mod_eq,Nat.and_one_is_mod,pd];congr 1;apply propext;omega
variable {k:Nat}
theorem ql5(h:m<2 ^ 64):m >>> k<2 ^ 64:=by
 rw[pd];exact Zr (Nat.div_le_self _ _) h
theorem xx:(k:Int).tdiv 64=((k / 64:Nat):Int):=by
 rw[Int.tdiv_eq_ediv_of_nonneg I];omega
theorem xy:(k:Int).tmod 64=((k % 64:Nat):Int):=by
 rw[Int.tmod_eq_emod_of_nonneg I];omega
theorem qga:((1:Nat):Int)=1:=rfl
theorem lF(s:Bs)(hs:s.fit)(k:Nat)(hk:k<128):BR prog 90 [s.enc,aI k] (.v (.bool (s.has k))):=by
 obtain⟨ha,hb⟩:=hs;have z64:((64:Int)=0)=False:=A6
 have gU:k % 64<64:=dH _ I;have q1:=xx (k:=k);have q2:=xy (k:=k);obtain⟨x,hx,Lu⟩:∃x:Nat,x<2 ^ 64∧x=if k<64 then s.a else s.b:=by
  split
  ·exact⟨_,ha,rfl⟩
  exact⟨_,hb,rfl⟩
 have hr:s.has k=x.testBit (k % 64):=by
  rw[Lu];unfold Bs.has;split
  ·rw[pT I8]
  rw[show k % 64=k-64 from I]
 have e1:=qio x (k % 64) gU;have EH:=ql5 (k:=k % 64) hx;have e2:=ly (m:=x >>> (k % 64)) (n:=1) EH I;have e3:=qi6 x (k % 64);rw[qga]at e2;have DK:x >>> (k % 64)&&& 1<=1:=Nat.and_le_right;rw[hr,<-e3];generalize hy:x >>> (k % 64)=y at *;generalize hw:y&&& 1=w at *;rcases(show k / 64=0∧x=s.a∨k / 64=1∧x=s.b by
  by_cases h:k<64
  ·exact .inl ⟨I,by rw[Lu,A9 h]⟩
  exact .inr ⟨I,by rw[Lu,A4 h]⟩)with⟨hq,II⟩|⟨hq,II⟩
 all_goals
  rw[hq]at q1;subst II;refine zf true 0 func90 ntmps90 ?_;refine jx ?_;refine B9 ?_;simp -dsimp only[simprocAttr,↓AG,zp,q1,q2,z64,Gf,e1,e2]
  refine D1 ?_;refine F3 ?_;simp -dsimp only[simprocAttr,↓AG,zp,zr,results90]
theorem qeH(s t:Bs)(hs:s.fit)(ht:t.fit):BR prog 120 [s.enc,t.enc] (s.meet t).enc:=by
 obtain⟨ha,hb⟩:=hs;obtain⟨hc,hd⟩:=ht;have e1:=ly ha hc;have e2:=ly hb hd;have l1:s.a&&& t.a<2 ^ 64:=Zr dG ha;have l2:s.b&&& t.b<2 ^ 64:=Zr dG hb;unfold Bs.meet;generalize s.a&&& t.a=p at *;generalize s.b&&& t.b=q at *;refine zf true 0 func120 ntmps120 ?_;refine jx ?_;refine L6 e1 e2 ?_;refine F3 ?_;simp -dsimp only[simprocAttr,↓AG,zp,zr,results120];exact⟨⟨trivial,trivial,trivial⟩,rfl⟩
theorem qfX(s:Bs)(hs:s.fit)(k:Nat)(hk:k<128):BR prog 119 [s.enc,aI k] (s.add k).enc:=by
 obtain⟨ha,hb⟩:=hs;have z64:((64:Int)=0)=False:=A6
 have gU:k % 64<64:=dH _ I;have q1:=xx (k:=k);have q2:=xy (k:=k);have e1:=qin (k % 64) gU;have AF:1 <<< (k % 64)<2 ^ 64:=by
  rw[YC];exact iS I gU
 rcases(show k<64∨64<=k from I)with h|h
 ·have hq:k / 64=0:=I
  have hr:s.add k=⟨s.a |||1 <<< (k % 64),s.b⟩:=by
   simp[Bs.add,h,pT h]
  have e2:=xe ha AF;have l1:s.a |||1 <<< (k % 64)<2 ^ 64:=dC ha AF;rw[hr];rw[hq]at q1;generalize hy:1 <<< (k % 64)=y at *;generalize hw:s.a |||y=w at *;refine zf true 0 func119 ntmps119 ?_;refine jx ?_;refine B9 ?_;simp -dsimp only[simprocAttr,↓AG,zp,q1,q2,z64,Gf,e1,e2]
  exact ac8
 have hq:k / 64=1:=I
 have hr:s.add k=⟨s.a,s.b |||1 <<< (k % 64)⟩:=by
  have AT:¬k<64:=I
  simp[Bs.add,AT,show k % 64=k-64 from I]
 have e2:=xe hb AF;have l1:s.b |||1 <<< (k % 64)<2 ^ 64:=dC hb AF;rw[hr];rw[hq]at q1;generalize hy:1 <<< (k % 64)=y at *;generalize hw:s.b |||y=w at *;refine zf true 0 func119 ntmps119 ?_;refine jx ?_;refine B9 ?_;simp -dsimp only[simprocAttr,↓AG,zp,q1,q2,z64,Gf,e1,e2]
 exact ac8
namespace Bs
theorem th(s t:Bs)(k:Nat):(s.meet t).has k=(s.has k&&t.has k):=by
 unfold has meet;split<;>simp[Nat.testBit_and]
theorem has_add(s:Bs)(j k:Nat)(hj:j<128)(hk:k<128):(s.add j).has k=(s.has k ||decide (k=j)):=by
 unfold has add;by_cases h1:j<64<;>by_cases h2:k<64
 ·simp only[h1,h2,L4,Nat.testBit_or,YC,Nat.testBit_two_pow];congr 1;apply decide_eq_decide.2;omega
 ·simp only[h1,h2,L4,Gf];have:¬k=j:=I
  simp[this]
 ·simp only[h1,h2,L4,Gf];have:¬k=j:=I
  simp[this]
 simp only[h1,h2,Gf,Nat.testBit_or,YC,Nat.testBit_two_pow];congr 1;apply decide_eq_decide.2;omega
variable {s t:Bs}
theorem wD(h:s.fit):(s.meet t).fit:=⟨Zr dG h.1,Zr dG h.2⟩
theorem b8(h:s.fit){k:Nat}(hk:k<128):(s.add k).fit:=by
 unfold add;split
 ·refine⟨dC h.1 ?_,h.2⟩;rw[YC];exact iS I I8
 refine⟨h.1,dC h.2 ?_⟩;rw[YC];exact iS I I
theorem eU:none.fit:=⟨EW,EW⟩
theorem ext(hs:s.fit)(ht:t.fit)(h:∀k,k<128->s.has k=t.has k):s=t:=by
 obtain⟨a,b⟩:=s;obtain⟨c,d⟩:=t;obtain⟨s1,s2⟩:=hs;obtain⟨t1,t2⟩:=ht;simp only at s1 s2 t1 t2;have AF:∀{m k:Nat},m<2 ^ 64->64<=k->m.testBit k=false:=fun hm hk=>Nat.testBit_lt_two_pow (L' hm (Nat.pow_le_pow_right I hk));congr 1
 ·apply aaA;intro k;by_cases hk:k<64
  ·have:=h k I;simpa[has,hk]using this
  rw[AF s1 I,AF t1 I]
 apply aaA;intro k;by_cases hk:k<64
 ·have:=h (k+64) I;simpa[has,show ¬k+64<64 from I]using this
 rw[AF s2 I,AF t2 I]
def size(s:Bs):Nat:=(List.range 128).countP s.has
theorem countP_le{p q:Nat->Bool}(h:∀k,k<128->p k=true->q k=true):∀n≤128,(List.range n).countP p<=(List.range n).countP q
 | 0,_=>by simp
 | n+1,hn=>by
  have ih:=countP_le h n I;rw[Zu,Zt,Zt];have:[n].countP p<=[n].countP q:=by
   simp only[pK];by_cases hp:p n=true
   ·simp[hp,h n I hp]
   simp[hp]
  omega
theorem sy{p q:Nat->Bool}(h:∀k,k<128->p k=true->q k=true){j:Nat}(hq:q j=true)(hp:p j=false):∀n≤128,j<n->(List.range n).countP p<(List.range n).countP q
 | 0,_,hj=>by omega
 | n+1,hn,hj=>by
  rw[Zu,Zt,Zt];by_cases e:j=n
  ·subst e;have:=countP_le h j I;simp only[pK,hq,hp];exact KM
  have ih:=sy h hq hp n I I;have:[n].countP p<=[n].countP q:=by
   simp only[pK];by_cases Li:p n=true
   ·simp[Li,h n I Li]
   simp[Li]
  omega
theorem qip(hs:s.fit)(ht:t.fit)(h:∀k,k<128->s.has k=true->t.has k=true)(AT:s≠t):s.size<t.size:=by
 by_cases Br:∀k,k<128->t.has k=true->s.has k=true
 ·exfalso;apply AT;apply ext hs ht;intro k hk;cases h1:s.has k<;>cases h2:t.has k
  ·rfl
  ·exact B3 (Br k hk h2) Uc
  ·exact B3 (h k hk h1) Ud
  rfl
 obtain⟨j,hj,h2,h1⟩:∃j,j<128∧t.has j=true∧¬s.has j=true:=by
  refine N8 fun q=>Br fun k hk h2=>?_;refine N8 fun h1=>q ⟨k,hk,h2,h1⟩
 exact sy h h2 JT 128 (B6 _) hj
theorem aes(s:Bs):s.size<=128:=by
 have:=PC (p:=s.has) (l:=List.range 128);simpa[size]using this
end Bs
structure Ds where
 over:List Bs
 seen:Bs
 again:Bool
def Ds.at_(S:Ds)(k:Nat):Bs:=S.over[k]?.getD .none
def Gd(k:Nat)(S:Ds)(e:Edge):Ds :=
 let next:=((S.at_ e.block.toNat).meet (S.at_ k)).add e.block.toNat
 if next≠S.at_ e.block.toNat∨S.seen.has e.block.toNat=false then⟨S.over.set e.block.toNat next,S.seen.add e.block.toNat,true⟩else S
def OU(k:Nat)(S:Ds)(b:Block):Ds:=if S.seen.has k=false then S else b.term.to.foldl (Gd k) S
def Jg:Nat->Ds->List Block->Ds
 | _,S,[]=>S
 | k,S,b::r=>Jg (k+1) (OU k S b) r
def HE(f:Func):Nat->Ds->Ds
 | 0,S=>S
 | n+1,S=>if S.again then HE f n (Jg 0 ⟨S.over,S.seen,false⟩ f.blocks)else S
def S8:Nat->Bs
 | 0=>.none
 | n+1=>(S8 n).add n
def JN(f:Func):Ds:=⟨(List.replicate f.blocks.length (S8 f.blocks.length)).set 0 (Bs.none.add 0),Bs.none.add 0,true⟩
def JM(f:Func):List Bs×Bs:=((HE f 20000 (JN f)).over,(HE f 20000 (JN f)).seen)
structure JL(n:Nat)(S:Ds):Prop where
 few:n<=128
 len:S.over.length=n
 fit:∀s∈S.over,s.fit
 seen:S.seen.fit
 self:∀k,k<n->(S.at_ k).has k=true
def Ds.weight(S:Ds):Nat:=(S.over.map Bs.size).sum+(128-S.seen.size)
variable {S:Ds}
theorem JL.fN{n:Nat}(h:JL n S)(k:Nat):(S.at_ k).fit:=by
 unfold Ds.at_;cases hk:S.over[k]? with
 | none=>exact Bs.eU
 | some s=>exact h.fit s (AK hk)
theorem qit{l:List Nat}{x y:Nat}(h:l[k]?=some y):(l.set k x).sum+y=l.sum+x:=by
 induction l generalizing k with
 | nil=>simp at h
 | cons a r ih =>
  cases k with
  | zero =>
   simp only[Dh,AM]at h;simp only[OH,KH];omega
  | succ k =>
   have:=ih (k:=k) Aa;simp only[US,KH];omega
theorem we{n:Nat}(h:JL n S){k:Nat}{e:Edge}(SP:0<=e.block)(Gw:e.block.toNat<n):JL n (Gd k S e)∧(Gd k S e).weight<=S.weight∧((Gd k S e).again=true->S.again=true∨(Gd k S e).weight<S.weight):=by
 have hj:e.block.toNat<128:=L' Gw h.few;unfold Gd;simp only;generalize e.block.toNat=j at *;have hfj:=h.fN j;have Cv:(((S.at_ j).meet (S.at_ k)).add j).fit:=Bs.b8 (Bs.wD hfj) hj;have HS:∀i,i<128->(((S.at_ j).meet (S.at_ k)).add j).has i=true->(S.at_ j).has i=true:=fun i hi q=>by
  rw[Bs.has_add _ _ _ hj hi,Bs.th]at q;by_cases e:i=j
  ·subst e;exact h.self i Gw
  simp[e]at q;exact q.1
 have FP:S.over[j]?=some (S.at_ j):=by
  have:j<S.over.length:=by rw[h.len];exact Gw
  simp[Ds.at_,this]
 split
 ·rename_i hc;refine⟨⟨h.few,by simp[h.len],fun s hs=>?_,Bs.b8 h.seen hj,fun i hi=>?_⟩,?_⟩
  ·rcases KE hs with q|q
   ·exact h.fit s q
   rw[q];exact Cv
  ·unfold Ds.at_;by_cases e:i=j
   ·subst e;rw[Bb (by rw[h.len];exact hi)];simp only[Fp];rw[Bs.has_add _ _ _ hj hj];simp
   rw[Ap (Ne.symm e)];exact h.self i hi
  have Ha:=qit (l:=S.over.map Bs.size) (k:=j) (x:=(((S.at_ j).meet (S.at_ k)).add j).size) (y:=(S.at_ j).size) (by simp[FP]);rw[<-QM]at Ha;have hle:(((S.at_ j).meet (S.at_ k)).add j).size<=(S.at_ j).size:=Bs.countP_le HS 128 (B6 _);have EH:S.seen.size<=(S.seen.add j).size:=Bs.countP_le (fun i hi q=>abG) 128 (B6 _);have ha:=Bs.aes (S.seen.add j);have AF:(((S.at_ j).meet (S.at_ k)).add j).size<(S.at_ j).size∨S.seen.size<(S.seen.add j).size:=by
   rcases hc with hc|hc
   ·exact .inl (Bs.qip Cv hfj HS hc)
   refine .inr (Bs.sy (fun i hi q=>abG) (j:=j) ?_ hc 128 (B6 _) hj);rw[Bs.has_add _ _ _ hj hj];simp
  simp only[Ds.weight];refine⟨I,fun _=>.inr I⟩
 exact re
theorem wg{n:Nat}{k:Nat}:∀(l:List Edge) {S:Ds},JL n S->(∀e∈l,0<=e.block∧e.block.toNat<n)->JL n (l.foldl (Gd k) S)∧(l.foldl (Gd k) S).weight<=S.weight∧((l.foldl (Gd k) S).again=true->S.again=true∨(l.foldl (Gd k) S).weight<S.weight)
 | [],S,h,_=>⟨h,B6 _,fun q=>.inl q⟩
 | e::r,S,h,he=>by
  obtain⟨a1,a2,a3⟩:=we (k:=k) h (he e A6).1 (he e A6).2;obtain⟨b1,b2,b3⟩:=wg r a1 (fun x hx=>he x QQ);simp only[HG];refine⟨b1,I,fun q=>?_⟩;rcases b3 q with q|q
  ·rcases a3 q with q|q
   ·exact JV
   exact .inr I
  exact .inr I
theorem wy{n:Nat}{b:Block}(h:JL n S)(he:∀e∈b.term.to,0<=e.block∧e.block.toNat<n):JL n (OU k S b)∧(OU k S b).weight<=S.weight∧((OU k S b).again=true->S.again=true∨(OU k S b).weight<S.weight):=by
 unfold OU;split
 ·exact re
 exact wg _ h he
theorem eo{n:Nat}:∀(l:List Block) {k:Nat} {S:Ds},JL n S->(∀b∈l,∀e∈b.term.to,0<=e.block∧e.block.toNat<n)->JL n (Jg k S l)∧(Jg k S l).weight<=S.weight∧((Jg k S l).again=true->S.again=true∨(Jg k S l).weight<S.weight)
 | [],k,S,h,_=>⟨h,B6 _,fun q=>.inl q⟩
 | b::r,k,S,h,he=>by
  obtain⟨a1,a2,a3⟩:=wy (k:=k) h (he b A6);obtain⟨b1,b2,b3⟩:=eo r (k:=k+1) a1 (fun x hx=>he x QQ);simp only[Jg];refine⟨b1,I,fun q=>?_⟩;rcases b3 q with q|q
  ·rcases a3 q with q|q
   ·exact JV
   exact .inr I
  exact .inr I
end Go.Proofs.YtjdnhamngpafmaaGreat
