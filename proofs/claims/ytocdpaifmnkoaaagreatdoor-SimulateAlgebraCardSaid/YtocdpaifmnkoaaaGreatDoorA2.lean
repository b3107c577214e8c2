/-
  Texts bound together by a program of mine: YtocdpaifmnkoaaaGreatDoorAvy, YtocdpaifmnkoaaaGreatDoorAvr, YtocdpaifmnkoaaaGreatDoorAvu, YtocdpaifmnkoaaaGreatDoorAvya, YtocdpaifmnkoaaaGreatDoorAvyb, YtocdpaifmnkoaaaGreatDoorAvl, YtocdpaifmnkoaaaGreatDoorAvm, YtocdpaifmnkoaaaGreatDoorAvn, YtocdpaifmnkoaaaGreatDoorAvo, YtocdpaifmnkoaaaGreatDoorAvq, YtocdpaifmnkoaaaGreatDoorAvp, YtocdpaifmnkoaaaGreatDoorQe, YtocdpaifmnkoaaaGreatDoorTab, YtocdpaifmnkoaaaGreatDoorPa, YtocdpaifmnkoaaaGreatDoorQf, YtocdpaifmnkoaaaGreatDoorQg, YtocdpaifmnkoaaaGreatDoorQi, YtocdpaifmnkoaaaGreatDoorPb, YtocdpaifmnkoaaaGreatDoorPm, YtocdpaifmnkoaaaGreatDoorPr, YtocdpaifmnkoaaaGreatDoorAvs, YtocdpaifmnkoaaaGreatDoorAvt, YtocdpaifmnkoaaaGreatDoorAvz, YtocdpaifmnkoaaaGreatDoorAvw, YtocdpaifmnkoaaaGreatDoorPd.
-/
import Derived.Test.YtocdpaifmnkoaaaGreatDoorA1
import Derived.ChangeKeysEq
import Derived.Laws.StructEq
import Derived.Laws.IdiomRangeMap
import Derived.ProofKit
import Derived.Carry
import Derived.SizedLaws
import Derived.Deep.Slices
import Derived.JoinedOf
import Derived.Test.YtocdpaifmnkoaaaGreatDoorChecked
import Derived.Shelf.Strconv.Itoa3
import Derived.KernelRfl
set_option linter.all false

namespace Go.Av
def G.mo(g:G)(id:Nat)(l:Loc)(o:aq):G:=⟨g.w,g.fr,g.env++[some l],g.objs.set id .gone++[o]⟩
theorem oM{g:G}{id:Nat}{l:Loc}{o:aq}(hg:Good g)(hid:id<g.objs.length){i:Nat}{l':Loc}{o':aq}(h1:(g.mo id l o).env[i]?=some (some l'))(h2:(g.mo id l o).objs[i]?=some o')(h3:o'.live) :
  (i≠id∧g.env[i]?=some (some l')∧g.objs[i]?=some o')∨(i=g.objs.length∧l'=l∧o'=o):=by
 have hlen:=hg.len;rcases aV h1 with q1|⟨q1,O7⟩
 ·rcases aV h2 with q2|⟨q2,_⟩
  ·by_cases e:id=i
   ·subst e;rw[List.getElem?_set_self hid]at q2;simp only[Option.some.injEq]at q2;subst q2;exact h3.elim
   rw[List.getElem?_set_ne e]at q2;exact .inl ⟨Ne.symm e,q1,q2⟩
  have:=ag q1;simp only[List.length_set]at q2;omega
 rcases aV h2 with q2|⟨q2,Dh⟩
 ·have:=ag q2;simp only[List.length_set]at this;omega
 simp only[Option.some.injEq]at O7;exact .inr ⟨by omega,O7,Dh⟩
theorem jS.mo{g:G}{id:Nat}{l:Loc}{o o1:aq}(hg:Good g)(he:g.env[id]?=some (some l))(ho:g.objs[id]?=some o1)(hl:o1.live){b off:Nat}(h:jS (g.mo id l o) b off):jS g b off:=by
 obtain⟨i,l',o',h1,h2,h3,h4,h5⟩:=h;rcases oM hg (ag ho) h1 h2 h3 with⟨_,q1,q2⟩|⟨_,q1,_⟩
 ·exact⟨i,l',o',q1,q2,h3,h4,h5⟩
 subst q1;exact⟨id,l',o1,he,ho,hl,h4,h5⟩
theorem fY.mo{g:G}{id:Nat}{l:Loc}{o o1:aq}(hg:Good g)(he:g.env[id]?=some (some l))(ho:g.objs[id]?=some o1)(hl:o1.live){b:Nat}(h:fY (g.mo id l o) b):fY g b:=by
 obtain⟨i,l',o',h1,h2,h3,h4⟩:=h;exact(jS.mo hg he ho hl ⟨i,l',o',h1,h2,h3,h4,Nat.le_refl _⟩).block
theorem yY{g:G}{id i:Nat}{l:Loc}{o o':aq}(da:id≠i)(h:g.objs[i]?=some o'):(g.mo id l o).objs[i]?=some o':=by
 have:=ag h;simp only[G.mo];rw[List.getElem?_append,if_pos (by simpa using this),List.getElem?_set_ne da];exact h
theorem Be{g:G}{id:Nat}{l:Loc}{o:aq}(h:id<g.objs.length):(g.mo id l o).objs[id]?=some .gone:=by
 simp only[G.mo];rw[List.getElem?_append,if_pos (by simpa using h),List.getElem?_set_self h]
theorem q8{g:G}{id i:Nat}{l:Loc}{o:aq}(h:i<g.env.length):(g.mo id l o).env[i]?=g.env[i]?:=by
 simp only[G.mo];rw[List.getElem?_append,if_pos h]
theorem Le.mo{g:G}{id:Nat}{l:Loc}{o o1:aq}(hg:Good g)(he:g.env[id]?=some (some l))(ho:g.objs[id]?=some o1)(hl:o1.live)(hs:¬o1.aJ):Le g (g.mo id l o) where
 os:=rfl
 tape:=rfl
 output:=rfl
 fr:=rfl
 size:=Nat.le_refl _
 block:=fun k _ h=>⟨rfl,fun q=>h (fY.mo hg he ho hl q)⟩
 cell:=fun b off x hx hn=>⟨hx,fun q=>hn (jS.mo hg he ho hl q)⟩
 len:=by simp[G.mo]
 spare:=fun i m hm=>by
  have da:id≠i:=by
   intro e;subst e;rw[ho]at hm;simp only[Option.some.injEq]at hm;subst hm;exact hs trivial
  exact .inl ⟨m,yY da hm,Nat.le_refl _⟩
 plain:=fun i o' gW hn=>by
  refine⟨?_,q8 (by have:=ag gW;have:=hg.len;omega)⟩;by_cases e:id=i
  ·subst e;exact⟨.gone,Be (ag ho),by simp[aq.aJ]⟩
  exact⟨o',yY e gW,hn⟩
 gone:=fun i hi=>by
  by_cases e:id=i
  ·subst e;exact Be (ag ho)
  exact yY e hi
 tok:=fun i m hm _=>⟨q8 (by have:=ag hm;have:=hg.len;omega),fun _ _=>rfl⟩
theorem Good.mo{g:G}{id:Nat}{l:Loc}{cs:List aa}(hg:Good g)(he:g.env[id]?=some (some l))(ho:g.objs[id]?=some (.cells cs)):Good (g.mo id l (.cells cs)):=by
 have bd:=ag ho;have hle:=Le.mo (o:=.cells cs) hg he ho trivial (by simp[aq.aJ]);have yF:(g.mo id l (.cells cs)).env[g.objs.length]?=some (some l):=by
  simp only[G.mo];rw[<-hg.len];simp
 refine⟨hg.frlt,?_,by simp[G.mo,hg.len],?_,?_,?_,?_,?_,hg.glob.mono hle⟩
 ·intro i l' o' h1 h2 h3;rcases oM hg bd h1 h2 h3 with⟨_,q1,q2⟩|⟨_,q1,_⟩
  ·exact hg.fj i l' o' q1 q2 h3
  subst q1;exact hg.fj id l' _ he ho trivial
 ·intro i l' o' h1 h2 h3;rcases oM hg bd h1 h2 h3 with⟨_,q1,q2⟩|⟨_,q1,_⟩
  ·exact hg.loc i l' o' q1 q2 h3
  subst q1;exact hg.loc id l' _ he ho trivial
 ·intro i j l1 l2 o1 o2 h1 h2 h3 k1 k2 k3 hb;rcases oM hg bd h1 h2 h3 with⟨n1,q1,q2⟩|⟨n1,q1,_⟩
  ·rcases oM hg bd k1 k2 k3 with⟨_,r1,r2⟩|⟨m1,r1,_⟩
   ·exact hg.apart i j l1 l2 o1 o2 q1 q2 h3 r1 r2 k3 hb
   subst r1;exact absurd (hg.apart i id l1 l2 o1 _ q1 q2 h3 he ho trivial hb) n1
  rcases oM hg bd k1 k2 k3 with⟨m1,r1,r2⟩|⟨m1,r1,_⟩
  ·subst q1;exact absurd (hg.apart j id l2 l1 o2 _ r1 r2 k3 he ho trivial hb.symm) m1
  omega
 ·intro i ds h;have lB:(aq.cells ds).live:=trivial;rcases aV h with q|⟨q,q'⟩
  ·have da:id≠i:=by
    intro e;subst e;rw[List.getElem?_set_self bd]at q;cases q
   rw[List.getElem?_set_ne da]at q;obtain⟨l',arr,t,e1,e0,e2,e3,e4,e5⟩:=hg.cells i ds q;exact⟨l',arr,t,(q8 (by have:=ag q;have:=hg.len;omega)).trans e1,e0,e2,e3,fun j c u a b=>(e4 j c u a b).mono hle,e5⟩
  simp only[aq.cells.injEq]at q';subst q';obtain⟨l',arr,t,e1,e0,e2,e3,e4,e5⟩:=hg.cells id _ ho;rw[he]at e1;simp only[Option.some.injEq]at e1;subst e1;refine⟨l,arr,t,?_,e0,e2,e3,fun j c u a b=>(e4 j c u a b).mono hle,e5⟩;rw[q,List.length_set];exact yF
 ·intro i m l' h h1;rcases aV h with q|⟨q,q'⟩
  ·have da:id≠i:=by
    intro e;subst e;rw[List.getElem?_set_self bd]at q;cases q
   rw[List.getElem?_set_ne da]at q;rw[q8 (by have:=ag q;have:=hg.len;omega)]at h1;exact hg.spare i m l' q h1
  cases q'
 intro i kt es h;rcases aV h with q|⟨q,q'⟩
 ·have da:id≠i:=by
   intro e;subst e;rw[List.getElem?_set_self bd]at q;cases q
  rw[List.getElem?_set_ne da]at q;obtain⟨l',ob,e1,e0,e2,e3⟩:=hg.map i kt es q;exact⟨l',ob,(q8 (by have:=ag q;have:=hg.len;omega)).trans e1,e0,e2,e3.mono hle⟩
 cases q'
theorem qz{P:Program}{aP:ee}(hT:b8 P aP){o:Oper}{σ:St}{t e:TypeId}{x i:Operand}{ti te:cr}{id len sz:Nat}{k:IntKind}{n:Int}
  (ho:o.op=.indexAddr t x i) (hd:∀d,o.dst=some d->d<σ.n) (ht:aP t=some ti) (aT:ti.desc=.slice e) (he:aP e=some te)
  (hx:σ.ev x=some (.os id len sz)) (hi:σ.ev i=some (.v (.int k n))) (h0:0<=n) (hn:n<len):Cert P o σ (.mp id (n.toNat*te.size)) .pure :=
 Cert.bW .pure (.inl rfl) hd fun a g _ h _=>by
  have ei:=(h i (by simp[ho,Op.operands]) _ hi).b6.1;have hu:=bY hT ht aT;obtain⟨l,o1,cap,h1,h2,h3,_,_,_,eu⟩:=(h x (by simp[ho,Op.operands]) _ hx).vg;exact⟨.pointer (some ⟨l.block,n.toNat*te.size,none⟩),by simp[execOp,ho,ei,eu,Instr.indexAt,asIntOf,run_underlying hu,h0,hn,(hT e te he).sizeOf,addr_add],.mp h1 h2 h3⟩
theorem wE{P:Program}{aP:ee}(hT:b8 P aP){o:Oper}{σ:St}{t e:TypeId}{x:Operand}{ti te:cr}{id len sz:Nat}{lo hi:Option Operand}{h:Nat}
  (ho:o.op=.slice t x lo hi none) (hd:∀d,o.dst=some d->d<σ.n) (ht:aP t=some ti) (aT:ti.desc=.slice e) (he:aP e=some te) (hx:σ.ev x=some (.os id len sz))
  (gy:nK σ lo 0 0) (o7:nK σ hi len h) (h2:h<=len) (h3:0<len):Cert P o σ (.os id h sz) .pure :=
 Cert.bW .pure (.inl rfl) hd fun a g _ hh _=>by
  have hu:=bY hT ht aT;have iA:=hh x (by cases lo<;>cases hi<;>simp[ho,Op.operands]) _ hx;have hl:(lo=none∧(0:Nat)=0)∨∃q k,lo=some q∧a.eval q=.int k ((0:Nat):Int):=by
   rcases gy with q|⟨q,k,e1,e2⟩
   ·exact .inl q
   exact .inr ⟨q,k,e1,(hh q (by subst e1;cases hi<;>simp[ho,Op.operands]) _ e2).b6.1⟩
  have jt:(hi=none∧h=len)∨∃q k,hi=some q∧a.eval q=.int k (h:Int):=by
   rcases o7 with q|⟨q,k,e1,e2⟩
   ·exact .inl q
   exact .inr ⟨q,k,e1,(hh q (by subst e1;cases lo<;>simp[ho,Op.operands]) _ e2).b6.1⟩
  have dh:execOp a.eval o=(do pure (.value (<-Instr.sliceAt t (a.eval x) (lo.map a.eval) (hi.map a.eval) none))):=by
   simp[execOp,ho]
  clear gy o7 ho;obtain⟨lc,o1,iw,q1,q2,q3,Oy,PG,cW,eu⟩:=iA.vg;have bounds:(Instr.sliceBounds true len iw (lo.map a.eval) (hi.map a.eval) none).run P g.w=.ok (0,h,iw) g.w:=by
   rcases hl with⟨e1,e2⟩|⟨p,k,e1,hk⟩
   ·rcases jt with⟨e3,e4⟩|⟨q,k',e3,nD⟩
    ·subst e1 e3 e4;simp[Instr.sliceBounds]
    subst e1 e3;have:=run_sliceBound (P:=P) k' h iw .sliceAcap g.w (by omega) (by omega);simp[Instr.sliceBounds,nD,this]
   rcases jt with⟨e3,e4⟩|⟨q,k',e3,nD⟩
   ·subst e1 e3 e4;have:=run_sliceBound (P:=P) k 0 h .sliceB g.w (by omega) (by omega);simp[Instr.sliceBounds,hk,this]
   subst e1 e3;have e1:=run_sliceBound (P:=P) k' h iw .sliceAcap g.w (by omega) (by omega);have e2:=run_sliceBound (P:=P) k 0 h .sliceB g.w (by omega) (by omega);simp[Instr.sliceBounds,hk,nD,e1,e2]
  have eG:=(hT e te he).sizeOf g.w;refine⟨.slice (some ((⟨lc.block,0,none⟩:Addr).add (0*te.size))) (h-0) (iw-0),?_,?_⟩
  ·rw[dh];simp[Instr.sliceAt,run_underlying hu,Instr.slice,eu,bounds,eG,show iw≠0 by omega]
  rw[addr_add];simp only[Nat.zero_mul,Nat.add_zero,Nat.sub_zero];exact .os q1 q2 q3 (by omega) PG (by omega)
theorem qv{P:Program}{aP:ee}(hT:b8 P aP){o:Oper}{σ:St}{t e:TypeId}{x y:Operand}{ti te:cr}{sz:Nat}{xs ys:List aa}{ow:oV}
  (ho:o.op=.call ⟨.builtin .append,#[x,y],#[t,t]⟩) (hd:∀d,o.dst=some d->d<σ.n) (ht:aP t=some ti) (aT:ti.desc=.slice e) (he:aP e=some te) (c7:te.size=sz) (hx:σ.ev x=some (.aB sz xs .ex)) (hy:σ.ev y=some (.aB sz ys ow))
  (hn:ys.length≠0) (hlen:xs.length+ys.length<=2 ^ 62) (hb:(xs.length+ys.length)*te.bytes<=2 ^ 47) :
  Cert P o σ (.os σ.objs.length (xs.length+ys.length) sz) (.write (σ.objs++[.cells (aw (xs++ys.map aa.share))])) :=
 Cert.gG hd fun base fL a g bV h gW=>by
  have hO:g.objs=σ.objs:=gW.resolve_left (by simp);have hg:=bV.good;have hu:=bY hT ht aT;subst c7;have iA:=h x (by simp[ho,Op.operands,Call.operands]) _ hx;have BN:=h y (by simp[ho,Op.operands,Call.operands]) _ hy;obtain⟨BL,lM,iB,ex,H0,Ec,Lq,H3,Lr,Ed⟩:=iA.gv (P:=P);obtain⟨Sj,GP,news,ey,AR,AS,AT,Gy,Ef,tC⟩:=BN.gv (P:=P);obtain⟨⟨i,z,h1,h2,h3,h4,h5,h6,h7,h8,h9⟩,_⟩:=hT e te he;have qM:lM=xs.length:=by
   rcases iA.fH with⟨q1,q2⟩|⟨ad,cap,f,q1,_,_,_,_,_,_,_,q2⟩
   ·rw[ex]at q1;cases q2;simp at q1;simp[q1]
   rw[ex]at q1;simp only[Value.slice.injEq]at q1;rw[q1.2.2];exact q2
  subst qM;have dh:=cY (P:=P) ho a g.w;simp only[builtin,List.map_toArray,List.map_cons,List.map_nil]at dh;have bL:=gP (P:=P) g.w t o.type e i z hu h1 h4 BL xs.length xs.length ys.length (a.eval y) iB news AR (by rw[h2];exact AS g.w.drew rfl) (by rw[h2,<-ex];exact Ec g.w.drew rfl) (by omega) hlen (by rw[h3];exact hb);rw[<-ex]at bL;obtain⟨cap,dv⟩:∃cap,cap=grownCap g.w (xs.length+ys.length) xs.length e:=⟨_,rfl⟩
  obtain⟨rest,gq⟩:∃rest,rest=Builtin.zeroCells z.cells (cap-(xs.length+ys.length)):=⟨_,rfl⟩
  have qj:=grownCap_ge g.w (xs.length+ys.length) xs.length e;rw[<-dv]at bL qj;rw[<-gq]at bL;have xy:rest.size=(cap-(xs.length+ys.length))*te.size:=by rw[gq,size_zeroCells,h5,h6]
  obtain⟨arr,fP⟩:∃arr,arr=iB.toArray++news.toArray++rest:=⟨_,rfl⟩
  rw[<-fP]at bL;have mB:=hg.heap (w':=g.w.drew) rfl rfl rfl rfl;have nR:=Le.heap (g:=g) (w':=g.w.drew) rfl rfl rfl rfl;obtain⟨g1,k8⟩:∃g1:G,g1=⟨g.w.drew,g.fr,g.env,g.objs⟩:=⟨_,rfl⟩
  rw[<-k8]at mB nR;have lD:g1.w=g.w.drew:=by rw[k8]
  have qk:g1.objs=σ.objs:=by rw[k8];exact hO
  have kd:=Lq.append AT.jI;rw[<-dd]at kd;have kB:(aw (xs++ys.map aa.share)).length=(xs.length+ys.length)*te.size:=by
   rw[cj (sz:=te.size) (fun x hx=>by
    rcases List.mem_append.1 hx with q|q
    ·exact H3 x q
    exact dV Gy x q)]
   simp
  have wI:arr.size=cap*te.size:=by
   rw[fP];simp only[Array.size_append,List.size_toArray,Ed,tC,xy,<-Nat.add_mul];rw[show xs.length+ys.length+(cap-(xs.length+ys.length))=cap by omega]
  have hle:=nR.trans (Le.alloc mB (.cells arr e) 0 (.cells (aw (xs++ys.map aa.share))));have ia:Fits (g1.alloc (.cells arr e) 0 (.cells (aw (xs++ys.map aa.share)))) (.cells arr e) (.cells (aw (xs++ys.map aa.share))):=by
   refine⟨arr,e,rfl,by rw[kB,wI];exact Nat.mul_le_mul_right _ qj,fun j c u hj hu=>?_,fun c hc=>?_⟩
   ·have bd:=ag hj;rw[kB]at bd;rw[fP]at hu;have wQ:=eJ hu (by simp only[List.size_toArray,Ed,tC,<-Nat.add_mul];exact bd);exact(kd.2 j c u hj (by simpa using wQ)).mono hle
   rw[dd]at hc;rcases List.mem_append.1 hc with q|q
   ·exact Lr c q
   exact dG Ef c q
  have dx:=Good.alloc mB (.cells arr e) 0 (.cells (aw (xs++ys.map aa.share))) (.inr rfl) ia;refine⟨.slice (some ⟨g.w.heap.size,0,none⟩) (xs.length+ys.length) cap,_,.inl ?_,hle,dx,?_,?_⟩
  ·rw[dh];simp[bL,G.alloc,lD]
  ·simp[G.alloc,qk,Mode.post]
  rw[<-qk];have e1:(g.w.heap.size)=g1.w.heap.size:=by rw[lD];rfl
  rw[e1];exact .os (l:=⟨g1.w.heap.size,0,arr.size⟩) (gZ mB) eS (by simp[aq.aJ]) qj (by rw[wI];exact Nat.le_refl _) hlen
theorem uo{P:Program}{aP:ee}(hT:b8 P aP){o:Oper}{σ:St}{t e:TypeId}{x y:Operand}{ti te:cr}{id len sz:Nat}{cs ys:List aa}{ow:oV}
  (ho:o.op=.call ⟨.builtin .append,#[x,y],#[t,t]⟩) (hd:∀d,o.dst=some d->d<σ.n) (ht:aP t=some ti) (aT:ti.desc=.slice e) (he:aP e=some te) (c7:te.size=sz) (hx:σ.ev x=some (.os id len sz)) (lC:σ.objs[id]?=some (.cells cs)) (hy:σ.ev y=some (.aB sz ys ow))
  (Ov:len*sz<=cs.length) (hn:ys.length≠0) (hlen:len+ys.length<=2 ^ 62) (hb:(len+ys.length)*te.bytes<=2 ^ 47) :
  Cert P o σ (.os σ.objs.length (len+ys.length) sz) (.write (σ.objs.set id .gone++[.cells (cs.take (len*sz)++aw (ys.map aa.share))])) :=
 Cert.gG hd fun base fL a g bV h gW=>by
  have hO:g.objs=σ.objs:=gW.resolve_left (by simp);have hg:=bV.good;have hu:=bY hT ht aT;subst c7;have iA:=h x (by simp[ho,Op.operands,Call.operands]) _ hx;have BN:=h y (by simp[ho,Op.operands,Call.operands]) _ hy;obtain⟨l,o1,cap,q1,q2,q3,Oy,PG,cW,eu⟩:=iA.vg;obtain⟨Sj,GP,news,ey,AR,AS,AT,Gy,Ef,tC⟩:=BN.gv (P:=P);obtain⟨⟨i,z,h1,h2,h3,h4,h5,h6,h7,h8,h9⟩,_⟩:=hT e te he;have jh:g.objs[id]?=some (.cells cs):=by rw[hO];exact lC
  have D5:=ag jh;obtain⟨arr,t',gy,di,Wy,iq,o4,Li⟩:=hg.row jh q1;have dh:=cY (P:=P) ho a g.w;simp only[builtin,List.map_toArray,List.map_cons,List.map_nil]at dh;have lT:=AT.jI;have kB:(aw (ys.map aa.share)).length=ys.length*te.size:=by
   rw[cj (dV Gy)];simp
  obtain⟨m,hm⟩:∃m,m=len*te.size:=⟨_,rfl⟩
  obtain⟨iB,OH⟩:∃iB,iB=arr.toList.take m:=⟨_,rfl⟩
  obtain⟨ds,tw⟩:∃ds,ds=cs.take (len*te.size)++aw (ys.map aa.share):=⟨_,rfl⟩
  rw[<-hm]at tw Ov;have HS:iB.length=m:=by rw[OH];simp;omega
  have holds:jq g (cs.take m) iB.toArray:=by
   refine⟨by simp[HS];omega,fun j c u hj hu=>?_⟩;have bd:=ag hj;simp only[List.length_take]at bd;rw[List.getElem?_take,if_pos (by omega)]at hj;refine iq j c u hj ?_;simp only[List.getElem?_toArray,OH]at hu;rw[List.getElem?_take,if_pos (by omega)]at hu;simpa using hu
  have dt:jq g ds (iB++news).toArray:=by
   rw[tw];exact holds.append lT
  have nu:ds.length=m+ys.length*te.size:=by
   rw[tw,List.length_append,List.length_take,kB];omega
  have SM:∀c∈ds,c.scalar:=fun c hc=>by
   rw[tw]at hc;rcases List.mem_append.1 hc with hc|hc
   ·exact o4 c (List.mem_of_mem_take hc)
   exact dG Ef c hc
  have RZ:(len+ys.length)*te.size=m+ys.length*te.size:=by rw[Nat.add_mul,hm]
  rw[<-hm,<-tw];by_cases kr:len+ys.length<=cap
  ·have fU:m+ys.length*te.size<=arr.size:=by
    have:=Nat.mul_le_mul_right te.size kr;omega
   obtain⟨b7,iX⟩:∃b7,b7=(arr.toList.take m++news++arr.toList.drop (m+news.length)).toArray:=⟨_,rfl⟩
   have dD:=run_storeCells_at P l.block m t' news 0 arr g.w di (by rw[tC];omega) (fun u hu=>by
    obtain⟨j,hj⟩:=List.getElem?_of_mem hu;have bd:=ag hj;have c7:=AT.1;simp only[List.size_toArray]at c7;rw[c7]at bd;have hc:=List.getElem?_eq_getElem bd;exact((AT.2 j _ u hc (by simpa using hj)).iZ (Ef _ (List.mem_of_getElem? hc))).1)
   simp only[Nat.add_zero]at dD;rw[<-iX]at dD;have bL:=iN (P:=P) g.w (g.w.setRow l.block b7) t o.type e i hu h1 ⟨l.block,0,none⟩ len cap ys.length (a.eval y) news AR (by rw[h2];exact AS g.w rfl) (by omega) (by rw[addr_add,h2,Nat.zero_add,<-hm];exact dD);rw[<-eu]at bL;have eH:=lH (cs':=ds) jh q1 gy b7;have hle:=Le.bo hg eH;have wI:b7.size=arr.size:=by
    rw[iX];simp only[List.size_toArray,List.length_append,List.length_take,List.length_drop,Array.length_toList,tC];omega
   have dx:=Good.bo hg eH (by
    refine⟨l,b7,t',rfl,gy,setRow_heap g.w l.block arr b7 t' (0,0) di,by rw[nu,wI];exact fU,fun j c u hj oI=>?_,SM,by rw[wI];exact Li⟩;have bd:=ag hj;rw[nu]at bd;have e1:b7=iB.toArray++news.toArray++(arr.toList.drop (m+news.length)).toArray:=by
     rw[iX,OH];simp
    rw[e1]at oI;have wQ:=eJ oI (by simp only[List.size_toArray,HS,tC];exact bd);exact(dt.2 j c u hj (by simpa using wQ)).mono hle) (fun l1 h1 _=>by
    simp only[Option.some.injEq]at h1;subst h1;rw[setRow_size];exact aO di)
   obtain⟨g1,k8⟩:∃g1:G,g1=g.bo id (some l) (.cells ds) (g.w.setRow l.block b7):=⟨_,rfl⟩
   rw[<-k8]at hle dx;have o6:g1.env[id]?=some (some l):=by
    rw[k8];simp only[G.bo];rw[List.getElem?_set_self (iU hg jh)]
   have qk:g1.objs[id]?=some (.cells ds):=by
    rw[k8];simp only[G.bo];rw[List.getElem?_set_self D5]
   have eF:g1.objs.length=σ.objs.length:=by
    rw[k8,<-hO];simp[G.bo]
   refine⟨.slice (some ⟨l.block,0,none⟩) (len+ys.length) cap,g1.mo id l (.cells ds),.inl ?_,hle.trans (Le.mo dx o6 qk trivial (by simp[aq.aJ])),Good.mo dx o6 qk,?_,?_⟩
   ·rw[dh,k8];simp[bL,G.bo,G.mo]
   ·simp only[G.mo,k8,G.bo,Mode.post,List.set_set,hO]
   refine .os (l:=l) (o:=.cells ds) ?_ ?_ (by simp[aq.aJ]) kr PG hlen
   ·simp only[G.mo];rw[<-eF,<-dx.len];simp
   simp only[G.mo];rw[<-eF];simp
  have bL:=gP (P:=P) g.w t o.type e i z hu h1 h4 (some ⟨l.block,0,none⟩) len cap ys.length (a.eval y) iB news AR (by rw[h2];exact AS g.w.drew rfl) (by
   rw[h2];simp only[Builtin.firstCells];rw[<-hm];have:=run_loadCells (P:=P) g.w.drew ⟨l.block,0,none⟩ m (fun j=>arr.getD j undef) (fun j hj=>by
    rw[addr_add,Nat.zero_add];have:g.w.drew.cell? ⟨l.block,j,none⟩=arr[j]?:=cell_of_row (w:=g.w.drew) di j;rw[this];simp[Array.getD_eq_getD_getElem?,show j<arr.size by omega])
   rw[wS iB m _ HS (fun j hj=>by
    rw[OH,List.getElem?_take,if_pos hj];simp[Array.getD_eq_getD_getElem?,show j<arr.size by omega])]at this
   exact this) (by omega) hlen (by rw[h3];exact hb)
  rw[<-eu]at bL;obtain⟨wh,dv⟩:∃wh,wh=grownCap g.w (len+ys.length) cap e:=⟨_,rfl⟩
  obtain⟨rest,gq⟩:∃rest,rest=Builtin.zeroCells z.cells (wh-(len+ys.length)):=⟨_,rfl⟩
  have qj:=grownCap_ge g.w (len+ys.length) cap e;rw[<-dv]at bL qj;rw[<-gq]at bL;have xy:rest.size=(wh-(len+ys.length))*te.size:=by rw[gq,size_zeroCells,h5,h6]
  obtain⟨tW,fP⟩:∃tW,tW=iB.toArray++news.toArray++rest:=⟨_,rfl⟩
  rw[<-fP]at bL;have mB:=hg.heap (w':=g.w.drew) rfl rfl rfl rfl;have nR:=Le.heap (g:=g) (w':=g.w.drew) rfl rfl rfl rfl;obtain⟨g1,k8⟩:∃g1:G,g1=⟨g.w.drew,g.fr,g.env,g.objs⟩:=⟨_,rfl⟩
  rw[<-k8]at mB nR;have lD:g1.w=g.w.drew:=by rw[k8]
  have qk:g1.objs=σ.objs:=by rw[k8];exact hO
  have wI:tW.size=wh*te.size:=by
   rw[fP];simp only[Array.size_append,List.size_toArray,HS,tC,xy];have:(len+ys.length)*te.size+(wh-(len+ys.length))*te.size=wh*te.size:=by
    rw[<-Nat.add_mul,show len+ys.length+(wh-(len+ys.length))=wh by omega]
   omega
  have hle:=nR.trans (Le.alloc mB (.cells tW e) 0 (.cells ds));have ia:Fits (g1.alloc (.cells tW e) 0 (.cells ds)) (.cells tW e) (.cells ds):=by
   refine⟨tW,e,rfl,by rw[nu,wI,<-RZ];exact Nat.mul_le_mul_right _ qj,fun j c u hj hu=>?_,SM⟩;have bd:=ag hj;rw[nu]at bd;rw[fP]at hu;have wQ:=eJ hu (by simp only[List.size_toArray,HS,tC];exact bd);exact(dt.2 j c u hj (by simpa using wQ)).mono hle
  have dx:=Good.alloc mB (.cells tW e) 0 (.cells ds) (.inr rfl) ia;obtain⟨g2,PX⟩:∃g2:G,g2=g1.alloc (.cells tW e) 0 (.cells ds):=⟨_,rfl⟩
  rw[<-PX]at hle dx;have SU:g2.env[id]?=some (some l):=by
   rw[PX];simp only[G.alloc];rw[List.getElem?_append,if_pos (by rw[k8];exact iU hg jh),k8];exact q1
  have Tm:g2.objs[id]?=some (.cells cs):=by
   rw[PX];simp only[G.alloc];rw[List.getElem?_append,if_pos (by rw[k8];exact D5),k8];exact jh
  have eH:=qd Tm SU (by simp[aq.aJ]) trivial;have R5:g2.w=g.w.drew.alloc (.cells tW e):=by rw[PX,<-lD];rfl
  refine⟨.slice (some ⟨g.w.heap.size,0,none⟩) (len+ys.length) wh,g2.bo id (some l) .gone g2.w,.inl ?_,hle.trans (Le.bo dx eH),Good.bo dx eH trivial (fun _ _ hh=>hh.elim),?_,?_⟩
  ·rw[dh];simp[bL,G.bo,R5]
  ·simp only[G.bo,PX,G.alloc,qk,Mode.post];rw[List.set_append,if_pos (by rw[<-hO];exact D5)]
  have e1:(g.w.heap.size)=g1.w.heap.size:=by rw[lD];rfl
  have Vc:id<g1.objs.length:=by rw[k8];exact D5
  rw[e1,<-qk];refine .os (l:=⟨g1.w.heap.size,0,tW.size⟩) (o:=.cells ds) ?_ ?_ (by simp[aq.aJ]) qj (by rw[wI];exact Nat.le_refl _) hlen
  ·simp only[G.bo,PX,G.alloc];rw[List.getElem?_set_ne (by omega)];exact gZ mB
  simp only[G.bo,PX,G.alloc];rw[List.getElem?_set_ne (by omega)];exact eS
theorem wu{P:Program}{o:Oper}{σ:St}{op:BinOp}{t t' e:TypeId}{x y:Operand}{x':aa}{b r:Bool}
  (ho:o.op=.binOp op t x y t') (hd:∀d,o.dst=some d->d<σ.n) (ht:P.underlying t=some (.pointer e)) (hx:σ.ev x=some x') (hy:σ.ev y=some (.v (.pointer none)))
  (hb:(x'=.v (.pointer none)∧b=true)∨(∃oa cs,x'=.ip oa cs∧b=false)∨(∃id off,x'=.mp id off∧b=false))
  (hr:(op=.eql∧r=b)∨(op=.neq∧r=!b)):Cert P o σ (.v (.bool r)) .pure :=
 Cert.bW .pure (.inl rfl) hd fun a g _ h _=>by
  have iA:=h x (by simp[ho,Op.operands]) _ hx;have ey:=(h y (by simp[ho,Op.operands]) _ hy).b6.1;have ex:∃q:Option Addr,a.eval x=.pointer q∧b=q.isNone:=by
   rcases hb with⟨e1,e2⟩|⟨oa,cs,e1,e2⟩|⟨id,off,e1,e2⟩
   ·subst e1;exact⟨none,iA.b6.1,e2⟩
   ·subst e1;obtain⟨bb,off,_,e3,_⟩:=iA.nV;exact⟨some ⟨bb,off,none⟩,e3,e2⟩
   subst e1;obtain⟨l,o1,_,_,_,e3⟩:=iA.jG;exact⟨_,e3,e2⟩
  obtain⟨q,ex,eb⟩:=ex;have hg:=cZ (P:=P) op t x y (.pointer q) (.pointer none) g.w (by simp) (by simp);refine⟨.bool r,?_,.v trivial⟩;have he:(Op.equal t (.pointer q) (.pointer none)).run P g.w=.ok q.isNone g.w:=by
   have e:∃d,Op.equal t (.pointer q) (.pointer none)=Op.equalIn (d+1) t (.pointer q) (.pointer none):=⟨9999,rfl⟩
   obtain⟨d,e⟩:=e;rw[e];cases q<;>simp[Op.equalIn,Sem.run_bind,run_underlying ht]
  rcases hr with⟨e1,e2⟩|⟨e1,e2⟩<;>subst e1<;>subst e2<;>simp[execOp,ho,ex,ey,hg,binOp,he,eb]
def qA:BinOp->Addr->Addr->Option Bool
 | .eql,a,b=>some (decide (a=b))
 | .neq,a,b=>some (!decide (a=b))
 | _,_,_=>none
theorem zY{P:Program}{o:Oper}{σ:St}{op:BinOp}{t t' e:TypeId}{n:Nat}{x y:Operand}{a b:Addr}{cs ds:List aa}{r:Bool}
  (ho:o.op=.binOp op t x y t') (hd:∀d,o.dst=some d->d<σ.n) (ht:P.underlying t=some (.pointer e)) (hn:∀w,(sizeOf e).run P w=.ok n w) (vW:n≠0) (hx:σ.ev x=some (.ip (some a) cs)) (hy:σ.ev y=some (.ip (some b) ds)) (tu:a.block=b.block)
  (hr:qA op a b=some r):Cert P o σ (.v (.bool r)) .pure :=
 Cert.bW .pure (.inl rfl) hd fun ac g _ h _=>by
  have ex:ac.eval x=.pointer (some a):=by
   obtain⟨b1,off,f,e1,e2,_⟩:=(h x (by simp[ho,Op.operands]) _ hx).nV;rcases e2 with e2|e2
   ·cases e2
   rw[e1,e2]
  have ey:ac.eval y=.pointer (some b):=by
   obtain⟨b1,off,f,e1,e2,_⟩:=(h y (by simp[ho,Op.operands]) _ hy).nV;rcases e2 with e2|e2
   ·cases e2
   rw[e1,e2]
  have hg:=cZ (P:=P) op t x y (.pointer (some a)) (.pointer (some b)) g.w (by simp) (by simp);refine⟨.bool r,?_,.v trivial⟩;have he:(Op.equal t (.pointer (some a)) (.pointer (some b))).run P g.w=.ok (decide (a=b)) g.w:=by
   have e0:∃d,Op.equal t (.pointer (some a)) (.pointer (some b))=Op.equalIn (d+1) t (.pointer (some a)) (.pointer (some b)):=⟨9999,rfl⟩
   obtain⟨d,e0⟩:=e0;rw[e0];simp[Op.equalIn,Sem.run_bind,run_underlying ht,hn,vW,sameAddr,tu]
   first
    | rfl
    | exact beq_eq_decide
    | (rw[Bool.eq_iff_iff]
       simp)
  have AM:(op=.eql∧r=decide (a=b))∨(op=.neq∧r=!decide (a=b)):=by
   cases op<;>simp[qA]at hr<;>simp[hr]
  rcases AM with⟨e1,e2⟩|⟨e1,e2⟩<;>subst e1<;>subst e2<;>simp[execOp,ho,ex,ey,hg,binOp,he]
theorem pw{P:Program}{aP:ee}(hT:b8 P aP){t e:TypeId}{n:Nat}{ti:cr}(ht:aP t=some ti)(aT:ti.desc=.array n e):P.underlying t=some (.array n e):=by
 obtain⟨_,d,h1,h2⟩:=hT t ti ht;rw[aT]at h2;simp only[rI]at h2;rw[h1,h2]
theorem pD{P:Program}{aP:ee}(hT:b8 P aP){o:Oper}{σ:St}{t e:TypeId}{x i:Operand}{ti te:cr}{id off len:Nat}{k:IntKind}{n:Int}
  (ho:o.op=.indexAddr t x i) (hd:∀d,o.dst=some d->d<σ.n) (ht:aP t=some ti) (aT:ti.desc=.array len e) (he:aP e=some te)
  (hx:σ.ev x=some (.mp id off)) (hi:σ.ev i=some (.v (.int k n))) (h0:0<=n) (hn:n<len):Cert P o σ (.mp id (off+n.toNat*te.size)) .pure :=
 Cert.bW .pure (.inl rfl) hd fun a g _ h _=>by
  have ei:=(h i (by simp[ho,Op.operands]) _ hi).b6.1;have hu:=pw hT ht aT;obtain⟨l,o1,h1,h2,h3,eu⟩:=(h x (by simp[ho,Op.operands]) _ hx).jG;exact⟨.pointer (some ⟨l.block,off+n.toNat*te.size,none⟩),by simp[execOp,ho,ei,eu,Instr.indexAt,Instr.sureAddr,asIntOf,run_underlying hu,h0,hn,(hT e te he).sizeOf,addr_add],.mp h1 h2 h3⟩
theorem ns{P:Program}{aP:ee}(hT:b8 P aP){o:Oper}{σ:St}{t e:TypeId}{x i:Operand}{ti te:cr}{len:Nat}{oa:Option Addr}{cs:List aa}{k:IntKind}{n:Int}
  (ho:o.op=.indexAddr t x i) (hd:∀d,o.dst=some d->d<σ.n) (ht:aP t=some ti) (aT:ti.desc=.array len e) (he:aP e=some te)
  (hx:σ.ev x=some (.ip oa cs)) (hi:σ.ev i=some (.v (.int k n))) (h0:0<=n) (hn:n<len):Cert P o σ (.ip none (cs.drop (n.toNat*te.size))) .pure :=
 Cert.bW .pure (.inl rfl) hd fun a g _ h _=>by
  have ei:=(h i (by simp[ho,Op.operands]) _ hi).b6.1;have hu:=pw hT ht aT;obtain⟨b,off,f,eu,_,dI,hm,hr⟩:=(h x (by simp[ho,Op.operands]) _ hx).nV;refine⟨.pointer (some ⟨b,off+n.toNat*te.size,none⟩),by simp[execOp,ho,ei,eu,Instr.indexAt,Instr.sureAddr,asIntOf,run_underlying hu,h0,hn,(hT e te he).sizeOf,addr_add],
   .ip (.inl rfl) (fun c hc=>dI c (List.mem_of_mem_drop hc)) (fun j=>f (n.toNat*te.size+j)) (fun j c hj=>?_) (fun j c hj=>?_)⟩
  ·rw[List.getElem?_drop]at hj;have:=hm _ c hj;rw[<-Nat.add_assoc]at this;exact this
  rw[List.getElem?_drop]at hj;exact hr _ c hj
theorem uq{P:Program}{aP:ee}(hT:b8 P aP){o:Oper}{σ:St}{t e:TypeId}{parts:Array (Nat×Operand)}{n:Nat}{ti te:cr}{ps:List (Nat×aa)}{cs:List aa}
  (ho:o.op=.build t parts) (hd:∀d,o.dst=some d->d<σ.n) (ht:aP t=some ti) (aT:ti.desc=.array n e) (he:aP e=some te) (vV:σ.fh parts.toList=some ps) (ix:∀p∈ps,p.2.flat)
  (iq:jg (fun i=>some (i*te.size,te.size)) ti.zero ps=some cs):Cert P o σ (.agg cs) .pure :=
 Cert.bW .pure (.inl rfl) hd fun a g _ h _=>by
  have bV:=jX (a:=a) (g:=g) (fun x hx y hy=>h x (by simpa[ho,Op.operands]using hx) y hy) vV ix;obtain⟨⟨i,z,h1,h2,h3,h4,h5,h6,h7,h8,h9⟩,d,KW,UJ⟩:=hT t ti ht;have hu:=pw hT ht aT;obtain⟨⟨ie,ze,k1,k2,_⟩,_⟩:=hT e te he;obtain⟨b7,q1,q2,q3⟩:=oE (fun i=>some (i*te.size,te.size)) bV (cs:=ti.zero) (arr:=z.cells) ⟨h5,h8 g⟩ iq;have hb:P.built t (parts.map fun(i,x)=>(i,a.eval x)).toList=some b7:=by
   unfold Program.built;simp only[h1,hu,h4,k1,k2];rw[Array.toList_map];simpa using q1
  have bL:=run_build g.w t _ b7 hb;exact⟨.agg b7,by simp[execOp,ho,bL],q2.agg (q3 h9)⟩
def pv(P:Program)(t:TypeId)(k:IntKind):Prop:=P.eqGuardType P.depth t=false∧∀(w:World) (a0 a1 b0 b1:Int),(Op.equal t (.agg #[.int k a0,.int k a1]) (.agg #[.int k b0,.int k b1])).run P w=.ok (decide (a0=b0)&&decide (a1=b1)) w
theorem rf{P:Program}{e:TypeId}{k:IntKind}(he:P.underlying e=some (.int k))(xs:Array Value)(i:Nat)(u:Value)(hu:xs[i]?=some u)(w:World):(part e xs i).run P w=.ok u w:=by
 simp[part,Go.isAgg,run_underlying he,hu]
theorem qU{P:Program}{t:TypeId}{k:IntKind}(h:∃e i,P.underlying t=some (.array 2 e)∧P.info? e=some i∧i.size=1∧P.underlying e=some (.int k)∧P.eqGuardType P.depth t=false):pv P t k:=by
 obtain⟨e,ie,Py,k1,c7,hu,mB⟩:=h;refine⟨mB,fun w a0 a1 b0 b1=>?_⟩;have hc:P.cellsOf e=1:=by
  simp[Program.cellsOf,k1,c7]
 have e0:∃d,Op.equal t (.agg #[.int k a0,.int k a1]) (.agg #[.int k b0,.int k b1])=Op.equalIn (d+2) t (.agg #[.int k a0,.int k a1]) (.agg #[.int k b0,.int k b1]):=⟨9998,rfl⟩
 obtain⟨d,e0⟩:=e0;rw[e0,run_equalIn_array w (d+1) _ _ Py k1,hc];have hi:∀(p q:Int),(Op.equalIn (d+1) e (.int k p) (.int k q)).run P w=.ok (decide (p=q)) w:=fun p q=>by
  have Yd:(p == q)=decide (p=q):=by
   by_cases hq:p=q
   ·simp[hq]
   simp[hq]
  simp[Op.equalIn,run_underlying hu,Yd]
 have p0:=rf hu #[.int k a0,.int k a1] 0 (.int k a0) rfl w;have p1:=rf hu #[.int k a0,.int k a1] 1 (.int k a1) rfl w;have s0:=rf hu #[.int k b0,.int k b1] 0 (.int k b0) rfl w;have s1:=rf hu #[.int k b0,.int k b1] 1 (.int k b1) rfl w;show(Op.eqItems (d+1) e 1 _ _ [0,1]).run P w=_;simp only[Op.eqItems,Sem.run_bind,Nat.zero_mul,Nat.one_mul,p0,s0,p1,s1,hi,Result.andThen_ok];by_cases q0:a0=b0
 ·subst q0;simp only[decide_true,Bool.not_true,Bool.false_eq_true,if_false,Bool.true_and,Sem.run_bind,p1,s1,hi,Result.andThen_ok];by_cases q1:a1=b1<;>simp[q1]
 simp[q0]
theorem z6{P:Program}{o:Oper}{σ:St}{op:BinOp}{t t':TypeId}{x y:Operand}{k:IntKind}{a0 a1 b0 b1:Int}{r:Bool}
  (ho:o.op=.binOp op t x y t') (hd:∀d,o.dst=some d->d<σ.n) (hP:pv P t k)
  (hx:σ.ev x=some (.agg [.v (.int k a0),.v (.int k a1)])) (hy:σ.ev y=some (.agg [.v (.int k b0),.v (.int k b1)]))
  (hr:(op=.eql∧r=(decide (a0=b0)&&decide (a1=b1)))∨(op=.neq∧r=!(decide (a0=b0)&&decide (a1=b1)))):Cert P o σ (.v (.bool r)) .pure :=
 Cert.bW .pure (.inl rfl) hd fun ac g _ h _=>by
  obtain⟨mB,dt⟩:=hP;have cells:∀{z:Operand} {c0 c1:Int},z∈o.op.operands->σ.ev z=some (.agg [.v (.int k c0),.v (.int k c1)])->ac.eval z=.agg #[.int k c0,.int k c1]:=fun {z c0 c1} hz vV=>by
   obtain⟨vs,e1,e2,e3⟩:=(h z hz _ vV).xZ;rw[e1];congr 1;have e2:vs.size=2:=e2;have h0:vs[0]?=some (vs[0]'(by omega)):=by simp[e2]
   have h1:vs[1]?=some (vs[1]'(by omega)):=by simp[e2]
   have q0:=(e3.2 0 _ _ rfl h0).b6.1;have q1:=(e3.2 1 _ _ rfl h1).b6.1;apply Array.ext
   ·simp[e2]
   intro i Ki Gs;have:i=0∨i=1:=by
    simp at Gs;omega
   rcases this with rfl|rfl
   ·simpa using q0
   simpa using q1
  have ex:=cells (by simp[ho,Op.operands]) hx;have ey:=cells (by simp[ho,Op.operands]) hy;have hg:=run_eqGuard_agg (P:=P) g.w op t x y #[.int k a0,.int k a1] #[.int k b0,.int k b1] mB;refine⟨.bool r,?_,.v trivial⟩;have SN:=dt g.w a0 a1 b0 b1;rcases hr with⟨e1,e2⟩|⟨e1,e2⟩<;>subst e1<;>subst e2<;>simp[execOp,ho,ex,ey,hg,binOp,SN]
theorem RV.Lt{g:G}{kt:KT}{es:List (Value×aa)}{u:Value}(h:RV g (.im kt es) u):∃(r clk:Nat) (arr:Array MapEntry),u=.map (some r)∧g.w.heap[r]?=some (.map arr clk)∧(∀off,¬ja g r off)∧arr.size=es.length ∧
  (∀(i:Nat) (e:MapEntry) (kx:Value×aa),arr[i]?=some e->es[i]?=some kx->e.key=kx.1∧RV g kx.2 e.val)∧iv arr clk:=by
 cases h with
 | im hh hn hl hk wK hb hr=>exact⟨_,_,_,rfl,hh,hn,hl,fun i e kx a b=>⟨hk i e kx a b,hr i e kx a b⟩,hb⟩
theorem wB{P:Program}{aP:ee}(hT:b8 P aP){o:Oper}{σ:St}{t k e:TypeId}{x:Operand}{ti:cr}{kt:KT}{es:List (Value×aa)}
  (ho:o.op=.range t x) (hd:∀d,o.dst=some d->d<σ.n) (ht:aP t=some ti) (aT:ti.desc=.map k e) (hx:σ.ev x=some (.im kt es)) (hf:∀p∈es,iV p.1∧∃y,p.2=.v y) :
  Cert P o σ (.mp σ.objs.length 0) (.write (σ.objs++[.map (.iter none) es])) :=
 Cert.gG hd fun base fL a g bV h gW=>by
  have hO:g.objs=σ.objs:=gW.resolve_left (by simp);have hg:=bV.good;obtain⟨r,clk,arr,ex,hh,hn,hl,hr,hb⟩:=(h x (by simp[ho,Op.operands]) _ hx).Lt;have hle:=Le.alloc hg (.mapIter (some r) clk #[] clk) 0 (.map (.iter none) es);obtain⟨q1,q2⟩:=hle.stay hh hn;have oZ:∀(i:Nat) (e:MapEntry),arr[i]?=some e->∃kx,es[i]?=some kx∧iV e.key∧iV e.val∧kx=(e.key,aa.v e.val):=fun i e hi=>by
   have bd:=aO hi;have Kg:es[i]?=some (es[i]'(by omega)):=List.getElem?_eq_getElem (by omega);obtain⟨f1,y,f2⟩:=hf _ (List.mem_of_getElem? Kg);obtain⟨r1,r2⟩:=hr i e _ hi Kg;rw[f2]at r2;obtain⟨v1,v2⟩:=r2.b6;refine⟨_,Kg,by rw[r1];exact f1,by rw[v1];exact v2,?_⟩;rw[r1,v1,<-f2]
  refine⟨.pointer (some ⟨g.w.heap.size,0,none⟩),g.alloc (.mapIter (some r) clk #[] clk) 0 (.map (.iter none) es),.inl ?_,hle,Good.alloc hg _ 0 _ (.inr rfl) ?_,?_,?_⟩
  ·have eo:(getObj r).run P g.w=.ok (.map arr clk) g.w:=by simp[Go.getObj,Sem.run,hh]
   simp[execOp,ho,ex,Instr.range,run_underlying (gw hT ht aT),eo,G.alloc]
  ·show GC _ none es _;refine⟨r,clk,clk,#[],arr,rfl,q1,q2,hb,fun h=>absurd rfl h,fun i e hi=>?_,?_,fun k x q=>by cases q⟩
   ·obtain⟨_,_,f1,f2,_⟩:=oZ i e hi;exact⟨f1,f2⟩
   rw[List.filter_eq_self.2 (fun e _=>by simp)];apply List.ext_getElem?;intro i;have e0:arr.toList[i]?=arr[i]?:=by simp
   rw[List.getElem?_map,e0];cases hi:arr[i]? with
   | none =>
    rw[Option.map_none,List.getElem?_eq_none];have:=Array.getElem?_eq_none_iff.1 hi;omega
   | some e =>
    obtain⟨kx,f1,_,_,f2⟩:=oZ i e hi;rw[f1,f2];rfl
  ·simp[G.alloc,hO,Mode.post]
  rw[<-hO];exact .mp (l:=⟨g.w.heap.size,0,_⟩) (gZ hg) eS (by simp[aq.aJ])
theorem B8{arr:Array MapEntry}{clk:Nat}(h:iv arr clk):(arr.toList.map (·.born)).Nodup:=by
 unfold List.Nodup;rw[List.pairwise_map,List.pairwise_iff_getElem];intro i j hi hj Kj;have:=h.Xf i j arr.toList[i] arr.toList[j] Kj (by simp) (by simp);omega
theorem Ce{P:Program}{o:Oper}{σ:St}{x:Operand}{id:Nat}{k v:Value}{es:List (Value×aa)}
  (ho:o.op=.entry x) (hd:∀d,o.dst=some d->d<σ.n) (hx:σ.ev x=some (.mp id 0)) (lC:σ.objs[id]?=some (.map (.iter (some (k,v))) es)) :
  Cert P o σ (.cN [.v k,.v v]) (.rd id) :=
 Cert.Io hd fun a g hg h hO=>by
  obtain⟨l,o1,o6,h1,_,ex⟩:=(h x (by simp[ho,Op.operands]) _ hx).jG;obtain⟨l',ob,e1,gy,hh,hm⟩:=hg.map id _ es (by rw[hO];exact lC);rw[o6]at e1;simp only[Option.some.injEq]at e1;subst e1;obtain⟨m,clk,last,seen,arr,rfl,XV,hn,hb,S8,ix,Kg,U4⟩:=hm;obtain⟨i,e,hi,xq,hk,hv⟩:=U4 k v rfl;have Km:last=clk:=S8 (fun q=>by rw[q]at xq;simp at xq);have hf:arr.find? (·.born == e.born)=some e:=by
   rw[<-Array.find?_toList];exact find_born e arr.toList (B8 hb) (by
    have:=Array.mem_of_getElem? hi;simpa using this)
  obtain⟨f1,f2⟩:=ix i e hi;refine⟨.tuple #[e.key,e.val],?_,.cN rfl fun i c u hc hu=>?_⟩
  ·have HI:(getObj l.block).run P g.w=.ok (.mapIter (some m) clk seen last) g.w:=by simp[Go.getObj,Sem.run,hh]
   have HJ:(getObj m).run P g.w=.ok (.map arr clk) g.w:=by simp[Go.getObj,Sem.run,XV]
   simp[execOp,ho,ex,Instr.entry,HI,HJ,xq,Km,hf]
  match i,hc,hu with
  | 0,hc,hu =>
   simp at hc hu;subst hc;subst hu;rw[hk];exact .v (by rw[<-hk];exact f1)
  | 1,hc,hu =>
   simp at hc hu;subst hc;subst hu;rw[hv];exact .v (by rw[<-hv];exact f2)
  | i+2,hc,hu=>simp at hc
def Found(es:List (Value×aa))(key:Value)(arr:List MapEntry)(fr:Option (Nat×Value)):Prop :=
 (fr=none∧bC es key=none∧∀y,cB es key y=es++[(key,y)]) ∨
 ∃(j:Nat) (e:MapEntry) (x:aa) (k0:Value),fr=some (j,e.val)∧arr[j]?=some e∧es[j]?=some (k0,x)∧(fZ k0 key=true∧j=kT es key)∧bC es key=some x∧∀y,cB es key y=es.set j (key,y)
structure lj(P:Program)(k:TypeId)(kt:KT):Prop where
 plain:kt.plain
 find:∀(key:Value),kt.ok key->∀(arr:List MapEntry) (es:List (Value×aa)),arr.length=es.length->(∀(j:Nat) (e:MapEntry) (kx:Value×aa),arr[j]?=some e->es[j]?=some kx->e.key=kx.1)->(∀p∈es,kt.ok p.1) ->
  ∃fr,(∀w,(Instr.findKey k key arr).run P w=.ok fr w)∧Found es key arr fr
 check:∀(key:Value),kt.ok key->∀b w,(Instr.checkKey b 10000 k key).run P w=.ok () w
theorem lj.of{P:Program}{k:TypeId}{kt:KT}{d:TypeDesc}(hk:P.underlying k=some d)(hd:kt.desc d):lj P k kt where
 plain:=KT.mJ hd
 find:=fun key fk arr es h1 h2 h3=>by
  obtain⟨fr,f1,f2⟩:=findNow_spec hd fk arr es 0 h1 h2 h3;refine⟨fr,fun w=>by simp[Instr.findKey,run_underlying hk,f1],?_⟩;rcases f2 with q|⟨j,e,x,k0,q1,q⟩
  ·exact .inl q
  exact .inr ⟨j,e,x,k0,by rw[q1,Nat.zero_add],q⟩
 check:=fun key _ b w=>run_checkKey hk hd w b 9999
theorem Cj{P:Program}{k e:TypeId}(hk:P.underlying k=some (.array 2 e))(he:P.underlying e=some (.int .i64))(hz:∀w,(Go.sizeOf e).run P w=.ok 1 w)(ha:∀w,(isAgg e).run P w=.ok false w)(b:Bool)(n:Nat)(a0 a1:Int)(w:World) :
  (Instr.checkKey b (n+1+1) k (.agg #[.int .i64 a0,.int .i64 a1])).run P w=.ok () w:=by
 have hc:∀(x:Int) w,(Instr.checkKey b (n+1) e (.int .i64 x)).run P w=.ok () w:=fun x w=>run_checkKey (kt:=.int .i64) he rfl w b n;rw[Instr.checkKey];simp[run_underlying hk,part,hz,ha,hc,List.range']
theorem lj.pair{P:Program}{k e:TypeId}(hk:P.underlying k=some (.array 2 e))(he:P.underlying e=some (.int .i64))(hz:∀w,(Go.sizeOf e).run P w=.ok 1 w)(ha:∀w,(isAgg e).run P w=.ok false w)(hp:pv P k .i64):lj P k .pair where
 plain:=trivial
 find:=fun key fk arr es h1 h2 h3=>by
  have ask:∀(arr:List MapEntry) (es:List (Value×aa)) (i:Nat),arr.length=es.length->(∀(j:Nat) (e:MapEntry) (kx:Value×aa),arr[j]?=some e->es[j]?=some kx->e.key=kx.1)->(∀p∈es,KT.pair.ok p.1) ->
    ∃fr,(∀w,(Instr.findAsking k key arr i).run P w=.ok fr w)∧((fr=none∧bC es key=none∧∀y,cB es key y=es++[(key,y)]) ∨
     ∃(j:Nat) (e:MapEntry) (x:aa) (k0:Value),fr=some (i+j,e.val)∧arr[j]?=some e∧es[j]?=some (k0,x)∧(fZ k0 key=true∧j=kT es key)∧bC es key=some x∧∀y,cB es key y=es.set j (key,y)):=by
   intro arr;induction arr with
   | nil =>
    intro es i hl _ _;obtain rfl:es=[]:=List.length_eq_zero_iff.1 hl.symm;exact⟨none,fun w=>rfl,.inl ⟨rfl,rfl,fun _=>rfl⟩⟩
   | cons a arr ih =>
    intro es i hl lR iy
    match es,hl,lR,iy with
    | (k0,x)::es,hl,lR,iy =>
     have ha:a.key=k0:=lR 0 a (k0,x) rfl rfl;obtain⟨c0,c1,hc⟩:=iy (k0,x) (by simp);simp only at hc;obtain⟨d0,d1,hd⟩:=fk;have hq:∀w,(Op.equal k key a.key).run P w=.ok (fZ k0 key) w:=fun w=>by
      rw[ha,hc,hd,hp.2 w d0 d1 c0 c1];simp only[fZ,List.map_cons,List.map_nil,Lv,List.cons.injEq,and_true,Result.ok.injEq];rw[Bool.eq_iff_iff];simp only[Bool.and_eq_true,decide_eq_true_eq];constructor<;>rintro⟨h1,h2⟩<;>exact⟨h1.symm,h2.symm⟩
     cases hb:fZ k0 key with
     | true =>
      refine⟨some (i,a.val),fun w=>by simp[Instr.findAsking,hq,hb],.inr ⟨0,a,x,k0,by simp,rfl,rfl,⟨hb,by simp[kT,hb]⟩,by simp[bC,hb],fun y=>by simp[cB,hb]⟩⟩
     | false =>
      obtain⟨fr,f1,f2⟩:=ih es (i+1) (by simpa using hl) (fun j e' kx p q=>lR (j+1) e' kx (by simpa using p) (by simpa using q)) (fun p hp=>iy p (by simp[hp]));refine⟨fr,fun w=>by simp[Instr.findAsking,hq,hb,f1],?_⟩;rcases f2 with⟨q1,q2,q3⟩|⟨j,e',x',k',q1,q2,q3,q4,q5,q6⟩
      ·exact .inl ⟨q1,by simp[bC,hb,q2],fun y=>by simp[cB,hb,q3]⟩
      refine .inr ⟨j+1,e',x',k',?_,by simpa using q2,by simpa using q3,⟨q4.1,by simp[kT,hb,<-q4.2]⟩,by simp[bC,hb,q5],fun y=>by simp[cB,hb,q6]⟩;rw[q1];simp only[Option.some.injEq,Prod.mk.injEq,and_true];omega
  match arr,es,h1 with
  | [],[],_=>exact⟨none,fun w=>by simp[Instr.findKey,run_underlying hk,Instr.findNow],.inl ⟨rfl,rfl,fun _=>rfl⟩⟩
  | a::arr,(k0,x)::es,h1 =>
   obtain⟨fr,f1,f2⟩:=ask (a::arr) ((k0,x)::es) 0 h1 h2 h3;refine⟨fr,fun w=>?_,?_⟩
   ·obtain⟨d0,d1,hd⟩:=fk;have hn:Instr.sameNow (.array 2 e) key a.key=none:=by
     rw[hd];rfl
    simp[Instr.findKey,run_underlying hk,Instr.findNow,hn,f1]
   rcases f2 with q|⟨j,e',x',k',q1,q⟩
   ·exact .inl q
   exact .inr ⟨j,e',x',k',by rw[q1,Nat.zero_add],q⟩
 check:=fun key fk b w=>by
  obtain⟨a0,a1,rfl⟩:=fk;exact Cj hk he hz ha b 9998 a0 a1 w
def keyOf:aa->Option Value
 | .v x=>some x
 | .agg [.v (.int .i64 a),.v (.int .i64 b)]=>some (.agg #[.int .i64 a,.int .i64 b])
 | _=>none
theorem pT{g:G}{y:aa}{key u:Value}(h:keyOf y=some key)(hr:RV g y u):u=key∧lF key:=by
 unfold keyOf at h;split at h
 ·rename_i x;simp only[Option.some.injEq]at h;subst h;obtain⟨e,hf⟩:=hr.b6;refine⟨e,?_⟩;cases x<;>first|exact hf|exact hf.elim
 ·rename_i a b;simp only[Option.some.injEq]at h;subst h;cases hr with
  | agg hl dI hh =>
   rename_i vs;simp only[List.length_cons,List.length_nil]at hl;have h0:=hh 0 _ (vs[0]'(by omega)) rfl (Array.getElem?_eq_getElem _);have h1:=hh 1 _ (vs[1]'(by omega)) rfl (Array.getElem?_eq_getElem _);obtain⟨e0,f0⟩:=h0.b6;obtain⟨e1,f1⟩:=h1.b6;refine⟨?_,fun x hx=>?_⟩
   ·congr 1;apply Array.ext
    ·simpa using hl
    intro i Ki Gs;simp at Gs
    match i,Gs with
    | 0,_=>simpa using e0
    | 1,_=>simpa using e1
   simp at hx;rcases hx with rfl|rfl
   ·exact f0
   exact f1
 cases h
theorem vb{g:G}(hg:Good g){id:Nat}{l:Loc}{kt:KT}{es J':List (Value×aa)}{arr b7:Array MapEntry}{clk ld:Nat}(hp:kt.plain)(o6:g.env[id]?=some (some l))(lC:g.objs[id]?=some (.map kt es))(gy:l.lo=0)
  (hh:g.w.heap[l.block]?=some (.map arr clk)) (hm:kq g kt J' (.map b7 ld)) :
  ∃g':G,g'.w = { g.w with heap:=g.w.heap.setIfInBounds l.block (.map b7 ld) }∧Le g g'∧Good g'∧g'.objs=g.objs.set id (.map kt J'):=by
 have bd:=aO hh;have uT:∀k,k≠l.block->(g.w.heap.setIfInBounds l.block (.map b7 ld))[k]?=g.w.heap[k]?:=fun k hk=>Array.getElem?_setIfInBounds_ne (fun e=>hk e.symm);have eH:jT g id (.map kt es) (some l) (.map kt J') { g.w with heap:=g.w.heap.setIfInBounds l.block (.map b7 ld) }:={
  obj:=lC
  os:=rfl
  tape:=rfl
  output:=rfl
  size:=by simp
  block:=fun k _ hk=>uT k (fun e=>hk l o6 trivial e.symm)
  cell:=fun b off x hx _=>by
   by_cases e:b=l.block
   ·subst e;simp only[G.cell,World.cell?,hh]at hx;cases hx
   simp only[World.cell?,uT b e];exact hx
  place:=fun l1 h1 _=>by
   simp only[Option.some.injEq]at h1;subst h1;exact .inr ⟨l,o6,trivial,rfl,Nat.le_refl _⟩
  spare:=fun m h=>by cases h
  plain:=fun _=>⟨by simp[aq.aJ],o6⟩
  gone:=by simp }
 have hle:=Le.bo hg eH;refine⟨_,rfl,hle,Good.bo hg eH ?_ ?_,rfl⟩
 ·refine⟨l,.map b7 ld,rfl,gy,?_,(hm.Uv hp).mono hle⟩;simp only[G.bo];rw[Array.getElem?_setIfInBounds_self_of_lt bd]
 intro l1 h1 _;simp only[Option.some.injEq]at h1;subst h1;simpa using bd
theorem qQ{g:G}(hg:Good g){id:Nat}{kt:KT}{es:List (Value×aa)}(hp:kt.plain)(lC:g.objs[id]?=some (.map kt es)){u:Value}(hu:RV g (.mm id) u) :
  ∃(l:Loc) (arr:Array MapEntry) (clk:Nat),u=.map (some l.block)∧g.env[id]?=some (some l)∧l.lo=0∧g.w.heap[l.block]?=some (.map arr clk)∧arr.size=es.length∧(∀p∈es,kt.ok p.1) ∧
   (∀(i:Nat) (e:MapEntry) (kx:Value×aa),arr[i]?=some e->es[i]?=some kx->e.key=kx.1∧lF kx.1∧RV g kx.2 e.val)∧iv arr clk:=by
 obtain⟨l,o1,o6,h1,_,ex⟩:=hu.vd;obtain⟨l',ob,e1,gy,hh,sA⟩:=hg.map id kt es lC;obtain⟨arr,clk,e2,hl,iy,hr,js⟩:=sA.map hp;subst e2;rw[o6]at e1;simp only[Option.some.injEq]at e1;subst e1;exact⟨l,arr,clk,ex,o6,gy,hh,hl,iy,hr,js⟩
theorem yj{P:Program}{aP:ee}(hT:b8 P aP){o:Oper}{σ:St}{t k e:TypeId}{x y:Operand}{ok:Bool}{ti te:cr}{kt:KT}{es:List (Value×aa)}{id:Nat}{key:Value}{yk:aa}
  (ho:o.op=.lookup t x y ok) (hd:∀d,o.dst=some d->d<σ.n) (ht:aP t=some ti) (aT:ti.desc=.map k e) (hk:lj P k kt) (he:aP e=some te) (c7:te.desc.agg=true∨te.size=1)
  (hx:σ.ev x=some (.mm id)) (lC:σ.objs[id]?=some (.map kt es)) (hy:σ.ev y=some yk) (Gz:keyOf yk=some key) (fk:kt.ok key):Cert P o σ (jM ok (bC es key) (zeroOf te)) (.rd id) :=
 Cert.Io hd fun a g hg h hO=>by
  have hu:=h x (by simp[ho,Op.operands]) _ hx;obtain⟨ey,_⟩:=pT Gz (h y (by simp[ho,Op.operands]) _ hy);obtain⟨l,arr,clk,ex,_,_,hh,hl,iy,hr,_⟩:=qQ hg hk.plain (by rw[hO];exact lC) hu;obtain⟨z,hz,vZ⟩:=kc (hT e te he) c7;obtain⟨fr,f1,f2⟩:=hk.find key fk arr.toList es (by simpa using hl) (fun j e kx a b=>(hr j e kx (by simpa using a) b).1) iy;have eo:(getObj l.block).run P g.w=.ok (.map arr clk) g.w:=by simp[Go.getObj,Sem.run,hh]
  have CU:∃u,(Instr.lookup t (.map (some l.block)) key ok).run P g.w=.ok (if ok then .tuple #[u,.bool (bC es key).isSome]else u) g.w∧RV g ((bC es key).getD (zeroOf te)) u:=by
   rcases f2 with⟨q1,q2,_⟩|⟨j,e',x,k0,q1,q2,q3,_,q5,_⟩
   ·subst q1;refine⟨z,?_,by rw[q2];exact vZ g⟩;simp only[Instr.lookup,Sem.run_bind,run_underlying (gw hT ht aT),Result.andThen_ok,eo,Sem.run_pure,hk.check key fk,f1,hz,q2];cases ok<;>rfl
   subst q1;refine⟨e'.val,?_,by rw[q5];exact(hr j e' (k0,x) (by simpa using q2) q3).2.2⟩;simp only[Instr.lookup,Sem.run_bind,run_underlying (gw hT ht aT),Result.andThen_ok,eo,Sem.run_pure,hk.check key fk,f1,q5];cases ok<;>rfl
  obtain⟨u,h1,h2⟩:=CU;exact⟨_,by simp only[execOp,ho,ex,ey,Sem.run_bind,h1,Result.andThen_ok,Sem.run_pure],kG h2⟩
theorem uI{g:G}{kt:KT}{es:List (Value×aa)}{key:Value}{arr:Array MapEntry}{clk:Nat}{y:aa}{v:Value}{fr:Option (Nat×Value)}(hf:Found es key arr.toList fr)(fk:kt.ok key)(PY:lF key)(hl:arr.size=es.length)(iy:∀p∈es,kt.ok p.1)
  (hr:∀(i:Nat) (e:MapEntry) (kx:Value×aa),arr[i]?=some e->es[i]?=some kx->e.key=kx.1∧lF kx.1∧RV g kx.2 e.val) (js:iv arr clk) (hv:RV g y v) :
  (fr=none->kq g kt (cB es key y) (.map (arr.push { key,val:=v,born:=clk }) (clk+1))∧kT es key=clk) ∧
  ∀j x,fr=some (j,x)->kq g kt (cB es key y) (.map (arr.modify j fun e=>{ e with key,val:=v }) clk)∧kT es key=j∧∃e,arr[j]?=some e∧e.key=key∧e.born=j∧e.val=x:=by
 have D':∀(es:List (Value×aa)),bC es key=none->kT es key=es.length:=fun es=>by
  induction es with
  | nil=>intro _;rfl
  | cons p r ih =>
   intro h;obtain⟨k,x⟩:=p;simp only[bC]at h;split at h
   ·cases h
   rename_i hq;simp only[Bool.not_eq_true]at hq;simp[kT,hq,ih h]
 refine⟨fun e=>?_,fun j x e=>?_⟩
 ·rcases hf with⟨_,q2,q3⟩|⟨j,e',x',k0,q1,_⟩
  ·refine⟨⟨_,_,rfl,by rw[q3];simp[hl],yX iy fk,fun i e kx a1 a2=>?_,js.push rfl⟩,by rw[D' es q2,js.1,hl]⟩;rw[q3]at a2;rcases aV a2 with b|⟨b1,b2⟩
   ·have hi:=ag b;rw[Array.getElem?_push,if_neg (by omega)]at a1;exact hr i e kx a1 b
   subst b2;rw[Array.getElem?_push,if_pos (by omega)]at a1;simp only[Option.some.injEq]at a1;subst a1;exact⟨rfl,PY,hv⟩
  rw[e]at q1;cases q1
 rcases hf with⟨q1,_⟩|⟨j',e',x',k0,q1,q2,q3,q4,q5,q6⟩
 ·rw[e]at q1;cases q1
 rw[e]at q1;simp only[Option.some.injEq,Prod.mk.injEq]at q1;obtain⟨rfl,rfl⟩:=q1;have Kk:k0=key:=Ap (iy (k0,x') (List.mem_of_getElem? q3)) fk q4.1;have Dh:arr[j]?=some e':=by simpa using q2
 have PL:e'.key=key:=(hr j e' (k0,x') Dh q3).1.trans Kk;refine⟨⟨_,_,rfl,by rw[q6];simp[hl],yX iy fk,fun i e kx a1 a2=>?_,js.modify j fun _=>rfl⟩,q4.2.symm,e',Dh,PL,js.2 j e' Dh,rfl⟩;rw[q6]at a2;rw[Array.getElem?_modify]at a1;by_cases e:j=i
 ·subst e;rw[if_pos rfl,Dh]at a1;rw[List.getElem?_set_self (by rw[<-hl];exact aO Dh)]at a2;simp only[Option.map_some,Option.some.injEq]at a1 a2;subst a1;subst a2;exact⟨rfl,PY,hv⟩
 rw[if_neg e]at a1;rw[List.getElem?_set_ne e]at a2;exact hr i _ kx a1 a2
theorem sZ{P:Program}{aP:ee}(hT:b8 P aP){o:Oper}{σ:St}{t k e:TypeId}{x y v:Operand}{ti:cr}{kt:KT}{es:List (Value×aa)}{id:Nat}{key:Value}{yk val:aa}
  (ho:o.op=.mapUpdate t x y v) (iJ:o.dst=none) (ht:aP t=some ti) (aT:ti.desc=.map k e) (hk:lj P k kt)
  (hx:σ.ev x=some (.mm id)) (lC:σ.objs[id]?=some (.map kt es)) (hy:σ.ev y=some yk) (Gz:keyOf yk=some key) (fk:kt.ok key) (hv:σ.ev v=some val) :
  Cert P o σ (.v (.bool false)) (.write (σ.objs.set id (.map kt (cB es key val)))) :=
 Cert.gG (by simp[iJ]) fun base fL a g bV h gW=>by
  have zD:g.objs=σ.objs:=gW.resolve_left (by simp);have hg:=bV.good;obtain⟨ey,PY⟩:=pT Gz (h y (by simp[ho,Op.operands]) _ hy);have xA:=h v (by simp[ho,Op.operands]) _ hv;have jh:g.objs[id]?=some (.map kt es):=by rw[zD];exact lC
  obtain⟨l,arr,clk,ex,o6,gy,hh,hl,iy,hr,js⟩:=qQ hg hk.plain jh (h x (by simp[ho,Op.operands]) _ hx);obtain⟨fr,f1,f2⟩:=hk.find key fk arr.toList es (by simpa using hl) (fun j e kx a b=>(hr j e kx (by simpa using a) b).1) iy;obtain⟨n1,n2⟩:=uI f2 fk PY hl iy hr js xA;have eo:(getObj l.block).run P g.w=.ok (.map arr clk) g.w:=by simp[Go.getObj,Sem.run,hh]
  have fQ:∀o',(setObj l.block o').run P g.w=.ok () { g.w with heap:=g.w.heap.setIfInBounds l.block o' }:=fun o'=>by simp[Go.setObj,Sem.run,hh]
  have CU:∃b7 ld,(Instr.mapUpdate t (.map (some l.block)) key (a.eval v)).run P g.w=.ok () { g.w with heap:=g.w.heap.setIfInBounds l.block (.map b7 ld) }∧kq g kt (cB es key val) (.map b7 ld):=by
   match fr,f1,n1,n2 with
   | none,f1,n1,_ =>
    refine⟨_,_,?_,(n1 rfl).1⟩;simp only[Instr.mapUpdate,Sem.run_bind,run_underlying (gw hT ht aT),Result.andThen_ok,eo,hk.check key fk,f1,fQ]
   | some (j,x),f1,_,n2 =>
    obtain⟨m1,_,e',q2,PL,_⟩:=n2 j x rfl;refine⟨_,_,?_,m1⟩;have AO:∀w,(Instr.keyThatStays key key).run P w=.ok key w:=fun w=>by simp[Instr.keyThatStays,sameBits_self fk]
    simp only[Instr.mapUpdate,Sem.run_bind,run_underlying (gw hT ht aT),Result.andThen_ok,eo,hk.check key fk,f1,q2,Option.map_some,Option.getD_some,PL,AO,fQ]
  obtain⟨b7,ld,bL,hm⟩:=CU;obtain⟨g',e1,e2,e3,e4⟩:=vb hg hk.plain o6 jh gy hh hm;refine⟨.bool false,g',.inr ⟨iJ,?_⟩,e2,e3,by rw[e4,zD];rfl,.v trivial⟩;simp only[execOp,ho,ex,ey,Sem.run_bind,bL,Result.andThen_ok,Sem.run_pure,e1]
theorem wA{P:Program}{aP:ee}(hT:b8 P aP){o:Oper}{σ:St}{t k e:TypeId}{x y:Operand}{ti te:cr}{kt:KT}{es:List (Value×aa)}{id:Nat}{key:Value}{yk:aa}
  (ho:o.op=.mapEntry t x y) (hd:∀d,o.dst=some d->d<σ.n) (ht:aP t=some ti) (aT:ti.desc=.map k e) (hk:lj P k kt) (he:aP e=some te) (c7:te.desc.agg=true∨te.size=1)
  (hx:σ.ev x=some (.mm id)) (lC:σ.objs[id]?=some (.map kt es)) (hy:σ.ev y=some yk) (Gz:keyOf yk=some key) (fk:kt.ok key) (hlen:es.length<=2 ^ 62) :
  Cert P o σ (.cN [(bC es key).getD (zeroOf te),.v (.int .i64 (kT es key))]) (.write (σ.objs.set id (.map kt (cB es key ((bC es key).getD (zeroOf te)))))) :=
 Cert.gG hd fun base fL a g bV h gW=>by
  have zD:g.objs=σ.objs:=gW.resolve_left (by simp);have hg:=bV.good;obtain⟨ey,PY⟩:=pT Gz (h y (by simp[ho,Op.operands]) _ hy);have jh:g.objs[id]?=some (.map kt es):=by rw[zD];exact lC
  obtain⟨l,arr,clk,ex,o6,gy,hh,hl,iy,hr,js⟩:=qQ hg hk.plain jh (h x (by simp[ho,Op.operands]) _ hx);obtain⟨fr,f1,f2⟩:=hk.find key fk arr.toList es (by simpa using hl) (fun j e kx a b=>(hr j e kx (by simpa using a) b).1) iy;obtain⟨z,hz,vZ⟩:=kc (hT e te he) c7;have eo:(getObj l.block).run P g.w=.ok (.map arr clk) g.w:=by simp[Go.getObj,Sem.run,hh]
  have fQ:∀o',(setObj l.block o').run P g.w=.ok () { g.w with heap:=g.w.heap.setIfInBounds l.block o' }:=fun o'=>by simp[Go.setObj,Sem.run,hh]
  have CU:∃b7 ld v,(Instr.mapEntry t (.map (some l.block)) key).run P g.w=.ok (.tuple #[v,.int .i64 (kT es key)]) { g.w with heap:=g.w.heap.setIfInBounds l.block (.map b7 ld) }∧RV g ((bC es key).getD (zeroOf te)) v ∧
    kq g kt (cB es key ((bC es key).getD (zeroOf te))) (.map b7 ld):=by
   match fr,f1,f2 with
   | none,f1,f2 =>
    have q2:bC es key=none:=by
     rcases f2 with⟨_,q2,_⟩|⟨j,e',x',k0,q1,_⟩
     ·exact q2
     cases q1
    obtain⟨n1,_⟩:=uI f2 fk PY hl iy hr js (vZ g);obtain⟨m1,m2⟩:=n1 rfl;rw[q2];refine⟨_,_,z,?_,vZ g,m1⟩;rw[m2];simp only[Instr.mapEntry,Sem.run_bind,run_underlying (gw hT ht aT),Result.andThen_ok,eo,hk.check key fk,f1,hz,fQ,Sem.run_pure,goInt]
   | some (j,x),f1,f2 =>
    obtain⟨x',q5,iA⟩:∃x',bC es key=some x'∧RV g x' x:=by
     rcases f2 with⟨q1,_⟩|⟨j',e',x',k0,q1,q2,q3,q4,q5,q6⟩
     ·cases q1
     simp only[Option.some.injEq,Prod.mk.injEq]at q1;obtain⟨rfl,rfl⟩:=q1;exact⟨x',q5,(hr j e' (k0,x') (by simpa using q2) q3).2.2⟩
    obtain⟨_,n2⟩:=uI f2 fk PY hl iy hr js iA;obtain⟨m1,m2,e',q2,PL,Uh,vV⟩:=n2 j x rfl;have ir:(arr.modify j fun e=>{ e with key })=arr.modify j fun e=>{ e with key,val:=x }:=by
     apply Array.ext
     ·simp
     intro i Ki Gs;rw[Array.getElem_modify,Array.getElem_modify];split
     ·rename_i e;subst e;have hi:j<arr.size:=by simpa using Ki
      rw[Array.getElem?_eq_getElem hi,Option.some.injEq]at q2;rw[q2,<-vV]
     rfl
    rw[q5];refine⟨_,_,x,?_,iA,m1⟩;have AO:∀w,(Instr.keyThatStays key key).run P w=.ok key w:=fun w=>by simp[Instr.keyThatStays,sameBits_self fk]
    rw[m2,<-ir];simp only[Instr.mapEntry,Sem.run_bind,run_underlying (gw hT ht aT),Result.andThen_ok,eo,hk.check key fk,f1,q2,Option.map_some,Option.getD_some,PL,AO,fQ,Uh,Sem.run_pure,goInt]
  obtain⟨b7,ld,v,bL,hv,hm⟩:=CU;obtain⟨g',e1,e2,e3,e4⟩:=vb hg hk.plain o6 jh gy hh hm;have Vd:∀es:List (Value×aa),kT es key<=es.length:=fun es=>by
   induction es with
   | nil=>exact Nat.le_refl _
   | cons p r ih =>
    obtain⟨k,x⟩:=p;simp only[kT,List.length_cons];split
    ·omega
    omega
  refine⟨.tuple #[v,.int .i64 (kT es key)],g',.inl ?_,e2,e3,by rw[e4,zD];rfl,.cN rfl fun i c u hc hu=>?_⟩
  ·simp only[execOp,ho,ex,ey,Sem.run_bind,bL,Result.andThen_ok,Sem.run_pure,e1]
  match i,hc,hu with
  | 0,hc,hu =>
   simp at hc hu;subst hc;subst hu;exact hv.mono e2
  | 1,hc,hu =>
   simp at hc hu;subst hc;subst hu;have:=Vd es;exact .v ⟨by show(-9223372036854775808:Int)<=_;omega,by show _<=(9223372036854775807:Int);omega⟩
  | i+2,hc,hu=>simp at hc
def Bm(es:List (Value×aa))(j:Nat)(y:aa):List (Value×aa):=es.modify j fun kx=>(kx.1,y)
theorem Bn(key:Value)(z y:aa):∀es:List (Value×aa),Bm (cB es key z) (kT es key) y=cB es key y
 | []=>rfl
 | (k,x)::r=>by
  have ih:=Bn key z y r;simp only[cB,kT];split
  ·rfl
  simp only[Bm,List.modify_succ_cons]at ih ⊢;rw[ih]
theorem sW{P:Program}{o:Oper}{σ:St}{t:TypeId}{x s v:Operand}{kt:KT}{es:List (Value×aa)}{id:Nat}{n:Int}{val:aa}
  (ho:o.op=.entryStore t x s v) (iJ:o.dst=none) (hp:kt.plain) (hx:σ.ev x=some (.mm id)) (lC:σ.objs[id]?=some (.map kt es)) (hs:σ.ev s=some (.v (.int .i64 n))) (h0:0<=n) (hn:n.toNat<es.length) (hv:σ.ev v=some val) :
  Cert P o σ (.v (.bool false)) (.write (σ.objs.set id (.map kt (Bm es n.toNat val)))) :=
 Cert.gG (by simp[iJ]) fun base fL a g bV h gW=>by
  have zD:g.objs=σ.objs:=gW.resolve_left (by simp);have hg:=bV.good;have J':=(h s (by simp[ho,Op.operands]) _ hs).b6.1;have xA:=h v (by simp[ho,Op.operands]) _ hv;have jh:g.objs[id]?=some (.map kt es):=by rw[zD];exact lC
  obtain⟨l,arr,clk,ex,o6,gy,hh,hl,iy,hr,js⟩:=qQ hg hp jh (h x (by simp[ho,Op.operands]) _ hx);obtain⟨m,rfl⟩:=Int.eq_ofNat_of_zero_le h0;simp only[Int.toNat_natCast]at hn ⊢;have hm:m<arr.size:=by omega
  have uP:arr.findIdx? (fun e=>(e.born:Int) == (m:Int))=some m:=by
   rw[Array.findIdx?_eq_some_iff_getElem];refine⟨hm,?_,fun j hj=>?_⟩
   ·rw[js.2 m _ (Array.getElem?_eq_getElem hm)];simp
   rw[js.2 j _ (Array.getElem?_eq_getElem (by omega))];simp;omega
  have eo:(getObj l.block).run P g.w=.ok (.map arr clk) g.w:=by simp[Go.getObj,Sem.run,hh]
  have fQ:∀o',(setObj l.block o').run P g.w=.ok () { g.w with heap:=g.w.heap.setIfInBounds l.block o' }:=fun o'=>by simp[Go.setObj,Sem.run,hh]
  have bL:(Instr.entryStore t (.map (some l.block)) (.int .i64 m) (a.eval v)).run P g.w=.ok () { g.w with heap:=g.w.heap.setIfInBounds l.block (.map (arr.modify m fun e=>{ e with val:=a.eval v }) clk) }:=by
   simp only[Instr.entryStore,Sem.run_bind,eo,Result.andThen_ok,asInt,asIntOf,Sem.run_pure,uP,fQ]
  have sA:kq g kt (Bm es m val) (.map (arr.modify m fun e=>{ e with val:=a.eval v }) clk):=by
   refine⟨_,_,rfl,by simp[Bm,hl],fun p hp=>?_,fun i e kx a1 a2=>?_,js.modify m fun _=>rfl⟩
   ·obtain⟨i,hi⟩:=List.getElem?_of_mem hp;simp only[Bm,List.getElem?_modify]at hi;cases h0:es[i]? with
    | none=>rw[h0]at hi;cases hi
    | some kx =>
     rw[h0]at hi;simp only[Option.map_eq_map,Option.map_some,Option.some.injEq]at hi;have:=iy kx (List.mem_of_getElem? h0);split at hi<;>(rw[<-hi];exact this)
   simp only[Bm,List.getElem?_modify]at a2;rw[Array.getElem?_modify]at a1;cases h0:es[i]? with
   | none=>rw[h0]at a2;cases a2
   | some Yu =>
    rw[h0]at a2;have hi:i<arr.size:=by rw[hl];exact ag h0
    obtain⟨r1,r2,r3⟩:=hr i _ Yu (Array.getElem?_eq_getElem hi) h0;simp only[Option.map_eq_map,Option.map_some,Option.some.injEq]at a2;split at a2
    ·rename_i e0;rw[if_pos e0,Array.getElem?_eq_getElem hi,Option.map_some,Option.some.injEq]at a1;rw[<-a1,<-a2];exact⟨r1,r2,xA⟩
    rename_i e0;rw[if_neg e0,Array.getElem?_eq_getElem hi,Option.some.injEq]at a1;rw[<-a1,<-a2];exact⟨r1,r2,r3⟩
  obtain⟨g',e1,e2,e3,e4⟩:=vb hg hp o6 jh gy hh sA;refine⟨.bool false,g',.inr ⟨iJ,?_⟩,e2,e3,by rw[e4,zD];rfl,.v trivial⟩;simp only[execOp,ho,ex,J',Sem.run_bind,bL,Result.andThen_ok,Sem.run_pure,e1]
def BS(P:Program):Prop:=∀w,(Go.zeroValue GA).run P w=.ok (.agg #[.pointer none,.slice none 0 0]) w
theorem wi{P:Program}{o:Oper}{σ:St}(ho:o.op=.alloc GA)(hd:∀d,o.dst=some d->d<σ.n)(hz:BS P) :
  Cert P o σ (.mp (σ.objs.length+1) 0) (.write (σ.objs++[.spare 0,.map (.sb σ.objs.length 0 []) [(.bool false,.mp (σ.objs.length+1) 0)]])) :=
 Cert.gG hd fun base fL a g bV h gW=>by
  have hO:g.objs=σ.objs:=gW.resolve_left (by simp);have hg:=bV.good;have D7:=Le.mark hg (.spare 0);have k8:=Good.mark hg 0;obtain⟨g1,e1⟩:∃g1,g1=g.mark (.spare 0):=⟨_,rfl⟩
  rw[<-e1]at D7 k8;have qk:g1.objs=σ.objs++[.spare 0]:=by rw[e1,<-hO];rfl
  have lD:g1.w=g.w:=by rw[e1];rfl
  have hlen:g1.objs.length=σ.objs.length+1:=by rw[qk];simp
  have hle:=Le.alloc k8 (.cells #[.pointer none,.slice none 0 0] GA) 0 (.map (.sb σ.objs.length 0 []) [(.bool false,.mp (σ.objs.length+1) 0)]);refine⟨.pointer (some ⟨g.w.heap.size,0,none⟩),g1.alloc (.cells #[.pointer none,.slice none 0 0] GA) 0 (.map (.sb σ.objs.length 0 []) [(.bool false,.mp (σ.objs.length+1) 0)]),.inl ?_,D7.trans hle,Good.alloc k8 _ 0 _ (.inr rfl) ?_,?_,?_⟩
  ·simp[execOp,ho,Instr.alloc,hz g.w,Go.newVar,Go.newRow,G.alloc,lD,Value.cells]
  ·refine⟨_,_,rfl,.inl rfl,?_,fun m0 _=>⟨Nat.zero_le _,fun _=>⟨World.ownsRowF_nil _ _ _ _,fun k hk=>by simp[Value.ownBlock]at hk⟩⟩⟩;simp only[G.alloc,List.length_append,hlen,List.length_singleton];omega
  ·simp[G.alloc,qk,Mode.post,hO]
  have hn:=gZ k8 (l:=some ⟨g1.w.heap.size,0,jx (.cells #[.pointer none,.slice none 0 0] GA)⟩);have lC:=eS (g:=g1) (o:=.map (.sb σ.objs.length 0 []) [(.bool false,.mp (σ.objs.length+1) 0)]);rw[hlen]at hn lC;rw[lD]at hn;refine .mp (l:=⟨g.w.heap.size,0,jx (.cells #[.pointer none,.slice none 0 0] GA)⟩) ?_ lC (by simp[aq.aJ]);simp only[G.alloc];rw[lD];exact hn
structure Tag{α:Type}(a:α):Type where
def on{α:Type}(x:Option α)(f:α->Prop)(_t:Tag f:={}):Prop :=
 match x with
 | some y=>f y
 | none=>False
theorem yR{α:Type}(y:α)(f:α->Prop)(t:Tag f):on (some y) f t=f y:=rfl
theorem aE{α:Type}{x:Option α}{f:α->Prop}{t:Tag f}(h:on x f t):∃y,x=some y∧f y:=by
 cases x with
 | none=>exact h.elim
 | some y=>exact⟨y,rfl,h⟩
def w8(p:Unit->Prop)(_t:Tag p:={}):Prop:=p ()
def At(σ:St)(f:St->Prop)(_t:Tag f:={}):Prop:=f σ
theorem aY{σ:St}{f:St->Prop}{t:Tag f}(h:f σ):At σ f t:=h
def na(b:Bool)(X Y:Unit->Prop)(_t:Tag X:={})(YQ:Tag Y:={}):Prop:=if b then X ()else Y ()
theorem dn(X Y:Unit->Prop)(t:Tag X)(t':Tag Y):na true X Y t t'=X ():=rfl
theorem cV(X Y:Unit->Prop)(t:Tag X)(t':Tag Y):na false X Y t t'=Y ():=rfl
theorem DF{b:Bool}{X Y:Unit->Prop}{t:Tag X}{t':Tag Y}(h:b=true->X ())(k:b=false->Y ()):na b X Y t t':=by
 cases b
 ·exact k rfl
 exact h rfl
abbrev fC:=aa->Mode->Prop
def isNil:Operand->Bool
 | .const (.slice none 0 0)=>true
 | _=>false
def vN(aP:ee)(ty:TypeId)(x:Operand)(σ:St)(K:fC):Prop :=
 match isNil x with
 | true=>on (aP ty) fun ti=>match ti.desc with
  | .slice e=>on (aP e) fun te=>K (.aB te.size [] .ex) .pure
  | _=>False
 | false=>on (σ.ev x) fun y=>K y .pure
def DH(σ:St)(c x z:Operand)(K:fC):Prop :=
 on (σ.ev c) fun
  | .v (.bool b)=>na b (fun _=>on (σ.ev x) fun y=>K y .pure) (fun _=>on (σ.ev z) fun y=>K y .pure)
  | _=>False
def oo(aP:ee)(s:TypeId)(k:Nat)(x:aa)(K:fC):Prop :=
 on (aP s) fun ti=>match ti.desc with
  | .struct fs=>on fs[k]? fun f=>on (aP f.2) fun tf=>tf.size≠0 ∧
   match x with
   | .ip oa cs=>K (.ip (oa.map (·.add f.1)) (cs.drop f.1)) .pure
   | .mp id off=>K (.mp id (off+f.1)) .pure
   | _=>False
  | _=>False
def zw(aP:ee)(s:TypeId)(k:Nat)(x:aa)(K:fC):Prop :=
 on (aP s) fun ti=>match ti.desc with
  | .struct fs=>on fs[k]? fun f=>on (aP f.2) fun tf=>match x with
   | .agg cs=>na tf.desc.agg (fun _=>K (.agg ((cs.drop f.1).take tf.size)) .pure) (fun _=>on cs[f.1]? fun r=>K r .pure)
   | _=>False
  | _=>False
def DG(aP:ee)(O:List aq)(t:TypeId)(x:aa)(K:fC):Prop :=
 on (aP t) fun ti =>
  match x with
  | .ip _ cs=>na ti.desc.agg (fun _=>ti.size<=cs.length∧K (.agg (cs.take ti.size)) .pure) (fun _=>on cs[0]? fun c=>K c .pure)
  | .mp id off=>on O[id]? fun
   | .cells os=>na ti.desc.agg (fun _=>off+ti.size<=os.length∧K (.agg ((os.drop off).take ti.size)) (.rd id)) (fun _=>on os[off]? fun c=>K c (.rd id))
   | _=>False
  | _=>False
def zA(aP:ee)(O:List aq)(t:TypeId)(x y:aa)(K:fC):Prop :=
 on (aP t) fun ti =>
  match x with
  | .mp id off=>on O[id]? fun
   | .cells os=>y.flat∧y.cells.length=ti.size∧off+ti.size<=os.length∧K (.v (.bool false)) (.wr O.length [id] (O.set id (.cells (bz os off y.cells))))
   | _=>False
  | _=>False
def oq(aP:ee)(t:TypeId)(x i:aa)(K:fC):Prop :=
 on (aP t) fun ti=>match ti.desc with
  | .slice e=>on (aP e) fun te =>
   match i with
   | .v (.int _ n) =>
    (match x with
    | .aB sz xs ow=>te.size=sz∧0<=n∧on xs[n.toNat]? fun y=>K (.ip (qT ow (n.toNat*te.size)) y.cells) .pure
    | .ms id off len _=>0<=n∧n<len∧K (.mp id (off+n.toNat*te.size)) .pure
    | .os id len _=>0<=n∧n<len∧K (.mp id (n.toNat*te.size)) .pure
    | _=>False)
   | _=>False
  | .array len e=>on (aP e) fun te =>
   match i with
   | .v (.int _ n) =>
    (match x with
    | .mp id off=>0<=n∧n<len∧K (.mp id (off+n.toNat*te.size)) .pure
    | .ip _ cs=>0<=n∧n<len∧K (.ip none (cs.drop (n.toNat*te.size))) .pure
    | _=>False)
   | _=>False
  | _=>False
def uz:BinOp->ByteArray->ByteArray->Option Bool
 | .eql,a,b=>some (decide (a=b))
 | .neq,a,b=>some (!decide (a=b))
 | _,_,_=>none
def qB:BinOp->Bool->Bool->Option Bool
 | .eql,a,b=>some (a == b)
 | .neq,a,b=>some (!(a == b))
 | _,_,_=>none
def Ez(op:BinOp)(k:IntKind)(m n:Int)(K:fC):Prop :=
 na (kR op m n).isSome (fun _=>on (kR op m n) fun b=>K (.v (.bool b)) .pure) (fun _=>on (eO k op m n) fun r=>Ks k<=r∧r<=Fg k∧K (.v (.int k r)) .pure)
def jO:BinOp->Bool->Option Bool
 | .eql,b=>some b
 | .neq,b=>some (!b)
 | _,_=>none
def FR:aa->Option Bool
 | .v (.pointer none)=>some true
 | .ip _ _=>some false
 | .mp _ _=>some false
 | _=>none
theorem FT{x:aa}{b:Bool}(h:FR x=some b):(x=.v (.pointer none)∧b=true)∨(∃oa cs,x=.ip oa cs∧b=false)∨(∃id off,x=.mp id off∧b=false):=by
 unfold FR at h;split at h
 ·exact .inl ⟨rfl,by simpa using h.symm⟩
 ·exact .inr (.inl ⟨_,_,rfl,by simpa using h.symm⟩)
 ·exact .inr (.inr ⟨_,_,rfl,by simpa using h.symm⟩)
 cases h
def Pb(P:Program)(op:BinOp)(t:TypeId)(x:aa)(K:fC):Prop :=
 (∃e,P.underlying t=some (.pointer e))∧on (FR x) fun b=>on (jO op b) fun r=>K (.v (.bool r)) .pure
def pq(P:Program)(op:BinOp)(t:TypeId)(x y:aa)(K:fC):Prop :=
 match x,y with
 | .v (.int k m),.v (.int k' n)=>na (dM op) (fun _=>0<=n∧Ks k<=fp k op m n∧fp k op m n<=Fg k∧K (.v (.int k (fp k op m n))) .pure) (fun _=>k=k'∧Ez op k m n K)
 | .v (.string a),.v (.string b)=>on (uz op a b) fun r=>K (.v (.bool r)) .pure
 | .v (.bool a),.v (.bool b)=>P.underlying t=some .bool∧on (qB op a b) fun r=>K (.v (.bool r)) .pure
 | x,.v (.pointer none)=>Pb P op t x K
 | .ip (some a) _,.ip (some b) _=>(∃e n,P.underlying t=some (.pointer e)∧(∀w,(sizeOf e).run P w=.ok n w)∧n≠0)∧a.block=b.block∧on (qA op a b) fun r=>K (.v (.bool r)) .pure
 | .agg [.v (.int k a0),.v (.int k1 a1)],.agg [.v (.int k2 b0),.v (.int k3 b1)]=>(k1=k∧k2=k∧k3=k∧pv P t k)∧on (jO op (decide (a0=b0)&&decide (a1=b1))) fun r=>K (.v (.bool r)) .pure
 | _,_=>False
def TD.elem:TD->Option TypeId
 | .slice e=>some e
 | _=>none
theorem TD.l9{d:TD}{e:TypeId}(h:d.elem=some e):d=.slice e:=by
 cases d<;>simp[TD.elem]at h;rw[h]
def C3:aa->Option Bool
 | .v (.slice none 0 0)=>some true
 | .aB _ _ .nn=>some false
 | .ms _ _ _ _=>some false
 | _=>none
def J3(aP:ee)(op:BinOp)(t:TypeId)(x:aa)(K:fC):Prop :=
 on (aP t) fun ti=>on ti.desc.elem fun _=>on (C3 x) fun b=>on (jO op b) fun r=>K (.v (.bool r)) .pure
def J6(op:UnOp)(x:aa)(K:fC):Prop :=
 match op,x with
 | .not,.v (.bool b)=>K (.v (.bool !b)) .pure
 | .neg,.v (.int k n)=>Ks k<=-n∧-n<=Fg k∧K (.v (.int k (-n))) .pure
 | _,_=>False
def Gm(σ:St)(p:Option Operand)(Cq:Nat)(K:Nat->Prop):Prop :=
 match p with
 | none=>K Cq
 | some q=>on (σ.ev q) fun
  | .v (.int _ n)=>0<=n∧K n.toNat
  | _=>False
def BF(sz:Nat)(xs:List aa)(o:oV)(l h:Nat)(K:fC):Prop :=
 match o with
 | .ex=>na (decide (l=0)&&decide (h=xs.length)) (fun _=>K (.aB sz xs .ex) .pure) (fun _=>K (.aB sz ((xs.take h).drop l) .sh) .pure)
 | _=>K (.aB sz ((xs.take h).drop l) .sh) .pure
theorem DE{sz:Nat}{xs:List aa}{o:oV}{l h:Nat}{K:fC}(k:BF sz xs o l h K):(o=.ex∧l=0∧h=xs.length∧K (.aB sz xs .ex) .pure)∨K (.aB sz ((xs.take h).drop l) .sh) .pure:=by
 unfold BF at k;split at k
 ·by_cases hf:(decide (l=0)&&decide (h=xs.length))=true
  ·rw[hf,dn]at k;simp only[Bool.and_eq_true,decide_eq_true_eq]at hf;exact .inl ⟨rfl,hf.1,hf.2,k⟩
  rw[show(decide (l=0)&&decide (h=xs.length))=false by simpa using hf,cV]at k;exact .inr k
 exact .inr k
def zz(aP:ee)(σ:St)(t:TypeId)(x:aa)(lo hi mx:Option Operand)(K:fC):Prop :=
 on (aP t) fun ti=>match ti.desc with
  | .slice e=>on (aP e) fun te =>
   match x,mx with
   | .aB sz xs ow,none=>te.size=sz∧Gm σ lo 0 fun l=>Gm σ hi xs.length fun h=>l<=h∧h<=xs.length∧BF sz xs ow l h K
   | .ms id off len cap,none=>Gm σ lo 0 fun l=>Gm σ hi len fun h=>l<=h∧h<=cap∧l<cap∧h<=2 ^ 62∧K (.ms id (off+l*te.size) (h-l) (cap-l)) .pure
   | .raw sz len id,none=>0<len∧Gm σ lo 0 fun l=>Gm σ hi len fun h=>l=0∧h=0∧K (.aB sz [] (.tok id)) .pure
   | .os id len sz,none=>Gm σ lo 0 fun l=>Gm σ hi len fun h=>l=0∧h<=len∧0<len∧K (.os id h sz) .pure
   | _,_=>False
  | _=>False
def mD:List (Nat×aa)->Prop
 | []=>True
 | p::r=>p.2.flat∧mD r
def qn(n:Nat):List aa->Prop
 | []=>True
 | x::r=>x.cells.length=n∧qn n r
def zm(aP:ee)(σ:St)(t:TypeId)(parts:Array (Nat×Operand))(K:fC):Prop :=
 on (aP t) fun ti=>match ti.desc with
  | .struct fs=>on (jm aP fs) fun pl=>on (σ.fh parts.toList) fun ps=>mD ps∧on (jg (fun i=>pl[i]?) ti.zero ps) fun cs=>K (.agg cs) .pure
  | .array _ e=>on (aP e) fun te=>on (σ.fh parts.toList) fun ps=>mD ps∧on (jg (fun i=>some (i*te.size,te.size)) ti.zero ps) fun cs=>K (.agg cs) .pure
  | _=>False
def mY(aP:ee)(σ:St)(t:TypeId)(len:Nat)(parts:Array (Nat×Operand))(K:fC):Prop :=
 on (aP t) fun ti=>match ti.desc with
  | .slice e=>on (aP e) fun te=>on (σ.fh parts.toList) fun ps=>mD ps∧on (gQ 0 ps) fun xs=>0<te.size∧xs.length=len∧qn te.size xs∧len*te.size<=2 ^ 24∧K (.aB te.size (xs.map aa.share) .ex) .pure
  | _=>False
structure Md where
 app:Bool
 made:Bool
def ot(mk:Bool)(aP:ee)(O:List aq)(t:TypeId)(x y:aa)(K:fC):Prop :=
 on (aP t) fun ti=>match ti.desc with
  | .slice e=>on (aP e) fun te =>
   match x,y with
   | .v (.int _ n),.v (.int _ n')=>n'=n∧0<=n∧te.bytes*n.toNat<=2 ^ 48∧n.toNat<=2 ^ 62∧0<te.size ∧
     na mk (fun _=>(te.desc.agg=true∨te.size=1)∧K (.aB te.size (List.replicate n.toNat (zeroOf te).share) .ex) .pure)
      (fun _=>K (.ms O.length 0 n.toNat n.toNat) (.wr O.length [] (O++[.cells (List.replicate n.toNat te.zero).flatten])))
   | _,_=>False
  | _=>False
def rQ(P:Program)(k:TypeId):Option KT :=
 match P.underlying k with
 | some .string=>some .str
 | some (.int k)=>some (.int k)
 | _=>none
def vM(P:Program)(aP:ee)(O:List aq)(t:TypeId)(x y:aa)(ok:Bool)(K:fC):Prop :=
 on (aP t) fun ti=>match ti.desc with
  | .map k e=>on (rQ P k) fun kt=>on (aP e) fun te=>(te.desc.agg=true∨te.size=1) ∧
   match y with
   | .v key=>kt.ok key ∧
    (match x with
    | .im TN es=>TN=kt∧K (jM ok (bC es key) (zeroOf te)) .pure
    | .mm id=>on O[id]? fun
     | .map TN es=>TN=kt∧K (jM ok (bC es key) (zeroOf te)) (.rd id)
     | _=>False
    | .v (.map none)=>K (jM ok none (zeroOf te)) .pure
    | _=>False)
   | _=>False
  | _=>False
def j8(P:Program)(aP:ee)(O:List aq)(t:TypeId)(x y v:aa)(K:fC):Prop :=
 on (aP t) fun ti=>match ti.desc with
  | .map k _=>on (rQ P k) fun kt =>
   match x,y with
   | .mm id,.v key=>kt.ok key∧on O[id]? fun
    | .map TN es=>TN=kt∧K (.v (.bool false)) (.wr O.length [id] (O.set id (.map kt (cB es key v))))
    | _=>False
   | _,_=>False
  | _=>False
def r9(P:Program)(aP:ee)(O:List aq)(t:TypeId)(K:fC):Prop :=
 on (aP t) fun ti=>match ti.desc with
  | .map k _=>on (some ((rQ P k).getD .pair)) fun kt=>kt.plain∧K (.mm O.length) (.wr O.length [] (O++[.map kt []]))
  | _=>False
theorem FN:KT.plain .str=True:=rfl
theorem FM(k:IntKind):KT.plain (.int k)=True:=rfl
theorem Dc:KT.plain .pair=True:=rfl
def nW:aa->Bool
 | .agg [.v (.int .i64 _),.v (.int .i64 _)]=>true
 | _=>false
theorem sC{y:aa}(h:nW y=true):∃a b,y=.agg [.v (.int .i64 a),.v (.int .i64 b)]:=by
 unfold nW at h;split at h
 ·exact⟨_,_,rfl⟩
 cases h
def B1:aa->Option Nat
 | .mm id=>some id
 | _=>none
theorem oz{x:aa}{id:Nat}(h:B1 x=some id):x=.mm id:=by
 unfold B1 at h;split at h
 ·simp only[Option.some.injEq]at h;rw[h]
 cases h
def TD.maps:TD->Option (TypeId×TypeId)
 | .map k e=>some (k,e)
 | _=>none
theorem TD.oJ{d:TD}{p:TypeId×TypeId}(h:d.maps=some p):d=.map p.1 p.2:=by
 unfold TD.maps at h;split at h
 ·simp only[Option.some.injEq]at h;subst h;rfl
 cases h
def r8(P:Program)(aP:ee)(O:List aq)(t:TypeId)(x y:aa)(ok:Bool)(K:fC):Prop :=
 on (aP t) fun ti=>on ti.desc.maps fun ke=>on (aP ke.2) fun te=>on (keyOf y) fun key=>on (B1 x) fun id=>on O[id]? fun
  | .map .pair es=>lj P ke.1 .pair∧(te.desc.agg=true∨te.size=1)∧K (jM ok (bC es key) (zeroOf te)) (.rd id)
  | _=>False
def DI(P:Program)(aP:ee)(O:List aq)(t:TypeId)(x y v:aa)(K:fC):Prop :=
 on (aP t) fun ti=>on ti.desc.maps fun ke=>on (keyOf y) fun key=>on (B1 x) fun id=>on O[id]? fun
  | .map .pair es=>lj P ke.1 .pair∧K (.v (.bool false)) (.wr O.length [id] (O.set id (.map .pair (cB es key v))))
  | _=>False
def qe(P:Program)(aP:ee)(O:List aq)(t:TypeId)(x y:aa)(K:fC):Prop :=
 on (aP t) fun ti=>on ti.desc.maps fun ke=>on (aP ke.2) fun te=>on (keyOf y) fun key=>on (B1 x) fun id=>on O[id]? fun
  | .map kt es=>lj P ke.1 kt∧kt.ok key∧(te.desc.agg=true∨te.size=1)∧es.length<=2 ^ 62 ∧
    K (.cN [(bC es key).getD (zeroOf te),.v (.int .i64 (kT es key))]) (.wr O.length [id] (O.set id (.map kt (cB es key ((bC es key).getD (zeroOf te))))))
  | _=>False
def mZ(O:List aq)(x s v:aa)(K:fC):Prop :=
 on (B1 x) fun id=>on O[id]? fun
  | .map kt es=>(match s with
   | .v (.int .i64 n)=>kt.plain∧0<=n∧n.toNat<es.length∧K (.v (.bool false)) (.wr O.length [id] (O.set id (.map kt (Bm es n.toNat v))))
   | _=>False)
  | _=>False
def zl(P:Program)(aP:ee)(O:List aq)(t:TypeId)(K:fC):Prop :=
 na (t == 212) (fun _=>BS P∧K (.mp (O.length+1) 0) (.wr O.length [] (O++[.spare 0,.map (.sb O.length 0 []) [(.bool false,.mp (O.length+1) 0)]])))
  (fun _=>on (aP t) fun ti=>K (.mp O.length 0) (.wr O.length [] (O++[.cells ti.zero])))
def FC:aa->Option Nat
 | .aB _ xs _=>some xs.length
 | .ms _ _ len _=>some len
 | .os _ len _=>some len
 | _=>none
def J1(aP:ee)(t:TypeId)(x:aa)(K:fC):Prop :=
 on (aP t) fun ti=>on ti.desc.elem fun _=>on (FC x) fun n=>K (.v (.int .i64 n)) .pure
theorem FD{x:aa}{n:Nat}(h:FC x=some n):(∃sz xs ow,x=.aB sz xs ow∧n=xs.length)∨(∃id off cap,x=.ms id off n cap)∨∃id sz,x=.os id n sz:=by
 cases x<;>simp[FC]at h
 ·exact .inl ⟨_,_,_,rfl,h.symm⟩
 ·subst h;exact .inr (.inl ⟨_,_,_,rfl⟩)
 subst h;exact .inr (.inr ⟨_,_,rfl⟩)
def vK(P:Program)(mk:Bool)(md:Bool)(aP:ee)(O:List aq)(t t':TypeId)(x y:aa)(K:fC):Prop :=
 on (aP t) fun ti=>on ti.desc.elem fun e=>on (aP e) fun te =>
   match x,y with
   | .aB sz xs .ex,.aB TU ys _=>t'=t∧te.size=sz∧TU=sz∧xs.length+ys.length<=2 ^ 62∧(xs.length+ys.length)*te.bytes<=2 ^ 47 ∧
     na md (fun _=>ys.length≠0∧na mk (fun _=>K (.os O.length (xs.length+ys.length) sz) (.wr O.length [] (O++[.cells (aw (xs++ys.map aa.share))])))
       (fun _=>K (.ms O.length 0 (xs.length+ys.length) (xs.length+ys.length)) (.wr O.length [] (O++[.cells (aw (xs++ys.map aa.share))]))))
      (fun _=>K (.aB sz (xs++ys.map aa.share) (.tok O.length)) (.wr O.length [] (O++[.spare (xs.length+ys.length)])))
   | .aB sz xs (.tok id),.aB TU ys _=>t'=t∧te.size=sz∧TU=sz∧O[id]?=some (.spare xs.length)∧xs.length+ys.length<=2 ^ 62∧(xs.length+ys.length)*te.bytes<=2 ^ 47 ∧
     K (.aB sz (xs++ys.map aa.share) (.tok id)) (.wr O.length [id] (O.set id (.spare (xs.length+ys.length))))
   | .aB _ xs .ex,.v (.int k n)=>xs=[]∧k=.i64∧P.underlying t'=some (.int .i64)∧0<n∧n.toNat<=2 ^ 62∧n.toNat*te.bytes<=2 ^ 47∧0<te.size ∧
     na md (fun _=>K (.raw te.size n.toNat O.length) (.wr O.length [] (O++[.spare 0])))
      (fun _=>K (.ms O.length 0 n.toNat n.toNat) (.wr O.length [] (O++[.cells (List.replicate n.toNat te.zero).flatten])))
   | .ms id off len cap,.aB sz ys _=>t'=t∧te.size=sz∧on O[id]? fun
    | .cells cs=>len+ys.length<=cap∧len+ys.length<=2 ^ 62∧off+(len+ys.length)*sz<=cs.length ∧
     K (.ms id off (len+ys.length) cap) (.wr O.length [id] (O.set id (.cells (bz cs (off+len*sz) (aw (ys.map aa.share))))))
    | _=>False
   | .os id len sz,.aB TU ys _=>t'=t∧te.size=sz∧TU=sz∧on O[id]? fun
    | .cells cs=>len*sz<=cs.length∧ys.length≠0∧len+ys.length<=2 ^ 62∧(len+ys.length)*te.bytes<=2 ^ 47 ∧
     K (.os O.length (len+ys.length) sz) (.wr O.length [id] (O.set id .gone++[.cells (cs.take (len*sz)++aw (ys.map aa.share))]))
    | _=>False
   | _,_=>False
def GN:aa->Option Nat
 | .aB _ xs .ex=>some xs.length
 | _=>none
theorem EK{x:aa}{n:Nat}(h:GN x=some n):∃sz xs,x=.aB sz xs .ex∧n=xs.length:=by
 unfold GN at h;split at h
 ·exact⟨_,_,rfl,by simpa using h.symm⟩
 cases h
def J0(aP:ee)(t:TypeId)(x:aa)(K:fC):Prop :=
 on (aP t) fun ti=>on ti.desc.elem fun _=>on (GN x) fun n=>K (.v (.int .i64 n)) .pure
def zo(aP:ee)(O:List aq)(t:TypeId)(x:aa)(K:fC):Prop :=
 on (aP t) fun ti=>on ti.desc.elem fun e=>on (aP e) fun te=>match x with
  | .ms id off len _=>on O[id]? fun
   | .cells cs=>0<len∧0<te.size∧off+len*te.size<=cs.length∧K (.cN []) (.wr O.length [id] (O.set id (.cells (bz cs off (List.replicate len te.zero).flatten))))
   | _=>False
  | _=>False
def J5(x y:aa)(K:fC):Prop :=
 match x,y with
 | .v (.int .i64 m),.v (.int .i64 n)=>K (.v (.int .i64 (max m n))) .pure
 | _,_=>False
def J2(x y:aa)(K:fC):Prop :=
 match x,y with
 | .v (.int .i64 m),.v (.int .i64 n)=>K (.v (.int .i64 (min m n))) .pure
 | _,_=>False
theorem G3{P:Program}{o:Oper}{σ:St}{pc:Array TypeId}{x y:Operand}{m n:Int}
  (ho:o.op=.call ⟨.builtin .max,#[x,y],pc⟩) (hd:∀d,o.dst=some d->d<σ.n) (hx:σ.ev x=some (.v (.int .i64 m))) (hy:σ.ev y=some (.v (.int .i64 n))):Cert P o σ (.v (.int .i64 (max m n))) .pure :=
 Cert.bW .pure (.inl rfl) hd fun a g _ h _=>by
  obtain⟨ex,fx⟩:=(h x (by simp[ho,Op.operands,Call.operands]) _ hx).b6;obtain⟨ey,fy⟩:=(h y (by simp[ho,Op.operands,Call.operands]) _ hy).b6;refine⟨.int .i64 (max m n),?_,.v ?_⟩
  ·rw[cY ho];have e:(if n > m then n else m)=max m n:=by
    split<;>omega
   simp[builtin,Builtin.max_,Builtin.max2,ex,ey,e]
  rcases Int.le_total m n with q|q
  ·rw[Int.max_eq_right q];exact fy
  rw[Int.max_eq_left q];exact fx
theorem GZ{P:Program}{o:Oper}{σ:St}{pc:Array TypeId}{x y:Operand}{m n:Int}
  (ho:o.op=.call ⟨.builtin .min,#[x,y],pc⟩) (hd:∀d,o.dst=some d->d<σ.n) (hx:σ.ev x=some (.v (.int .i64 m))) (hy:σ.ev y=some (.v (.int .i64 n))):Cert P o σ (.v (.int .i64 (min m n))) .pure :=
 Cert.bW .pure (.inl rfl) hd fun a g _ h _=>by
  obtain⟨ex,fx⟩:=(h x (by simp[ho,Op.operands,Call.operands]) _ hx).b6;obtain⟨ey,fy⟩:=(h y (by simp[ho,Op.operands,Call.operands]) _ hy).b6;refine⟨.int .i64 (min m n),?_,.v ?_⟩
  ·rw[cY ho];have e:(if n<m then n else m)=min m n:=by
    split<;>omega
   simp[builtin,Builtin.min_,Builtin.min2,ex,ey,e]
  rcases Int.le_total m n with q|q
  ·rw[Int.min_eq_left q];exact fx
  rw[Int.min_eq_right q];exact fy
def zn(P:Program)(O:List aq)(f:aa)(gg:List aa)(K:fC):Prop :=
 match f with
 | .fn (.func id) fs cs =>
  (∃r,bw P id ((fs++gg++cs).map aa.share) r∧av 0 ((fs++gg++cs).map aa.share)∧w8 fun _=>K r .pure) ∨
  (∃r O',(aK P id O (fs++gg++cs) fun r' O1=>r'=r∧O1=O')∧((w8 fun _=>K r (.write O'))∨∃n l,(∀i,i<n->i ∉ l->O'[i]?=O[i]?)∧w8 fun _=>K r (.wr n l O'))) ∨
  (∃r,(aK P id O (fs++gg++cs) fun r' O1=>r'=r∧O1=O)∧w8 fun _=>K r .read)
 | _=>False
def ew(P:Program)(aP:ee)(md:Md)(dst:Option Nat)(σ:St)(callee:Callee)(args:List Operand)(pc:List TypeId)(K:fC):Prop :=
 match callee with
 | .value f=>on (σ.ev f) fun f=>on (σ.yw args) fun gg=>zn P σ.objs f gg K
 | .builtin .len =>
  (match args,pc with
  | [x],[t]=>on (σ.ev x) fun x=>J1 aP t x K
  | _,_=>False)
 | .builtin .append =>
  (match args,pc with
  | [x,y],[t,t']=>on (σ.ev x) fun x=>on (σ.ev y) fun y=>vK P md.made md.app aP σ.objs t t' x y K
  | _,_=>False)
 | .builtin .cap =>
  (match args,pc with
  | [x],[t]=>on (σ.ev x) fun x=>J0 aP t x K
  | _,_=>False)
 | .builtin .clear =>
  (match args,pc with
  | [x],[t]=>dst=none∧on (σ.ev x) fun x=>zo aP σ.objs t x K
  | _,_=>False)
 | .builtin .max =>
  (match args with
  | [x,y]=>on (σ.ev x) fun x=>on (σ.ev y) fun y=>J5 x y K
  | _=>False)
 | .builtin .min =>
  (match args with
  | [x,y]=>on (σ.ev x) fun x=>on (σ.ev y) fun y=>J2 x y K
  | _=>False)
 | _=>False
def k6(y:aa)(K:fC):Prop :=
 match y with
 | .mp id off=>K (.mp id off) .pure
 | .ip oa cs=>K (.ip oa cs) .pure
 | _=>False
def KD:aa->Option (List (Value×aa))
 | .im _ es=>some es
 | _=>none
theorem EG{x:aa}{es:List (Value×aa)}(h:KD x=some es):∃kt,x=.im kt es:=by
 unfold KD at h;split at h
 ·simp only[Option.some.injEq]at h;subst h;exact⟨_,rfl⟩
 cases h
def zy(aP:ee)(O:List aq)(t:TypeId)(x:aa)(K:fC):Prop :=
 on (aP t) fun ti=>on ti.desc.maps fun _=>on (KD x) fun es=>(∀p∈es,iV p.1∧∃y,p.2=.v y)∧K (.mp O.length 0) (.wr O.length [] (O++[.map (.iter none) es]))
def tD:aq->Option (Value×Value)
 | .map (.iter c) _=>c
 | _=>none
theorem yK{o:aq}{c:Value×Value}(h:tD o=some c):∃es,o=.map (.iter (some c)) es:=by
 unfold tD at h;split at h
 ·subst h;exact⟨_,rfl⟩
 cases h
def KE:aa->Option Nat
 | .mp id 0=>some id
 | _=>none
theorem EH{x:aa}{id:Nat}(h:KE x=some id):x=.mp id 0:=by
 unfold KE at h;split at h
 ·simp only[Option.some.injEq]at h;rw[h]
 cases h
def zv(O:List aq)(x:aa)(K:fC):Prop:=on (KE x) fun id=>on O[id]? fun ob=>on (tD ob) fun c=>K (.cN [.v c.1,.v c.2]) (.rd id)
def J4(P:Program)(aP:ee)(md:Md)(o:Oper)(σ:St)(K:fC):Prop :=
 match o.op with
 | .move x=>vN aP o.type x σ K
 | .assign x=>vN aP o.type x σ K
 | .pick c x z=>DH σ c x z K
 | .fieldAddr s x k=>on (σ.ev x) fun x=>oo aP s k x K
 | .field s x k=>on (σ.ev x) fun x=>zw aP s k x K
 | .load t x=>on (σ.ev x) fun x=>DG aP σ.objs t x K
 | .store t x y=>o.dst=none∧on (σ.ev x) fun x=>on (σ.ev y) fun y=>zA aP σ.objs t x y K
 | .indexAddr t x i=>on (σ.ev x) fun x=>on (σ.ev i) fun i=>oq aP t x i K
 | .binOp op t x y _=>na (isNil y) (fun _=>on (σ.ev x) fun x=>J3 aP op t x K) (fun _=>on (σ.ev x) fun x=>on (σ.ev y) fun y=>pq P op t x y K)
 | .unOp op _ x=>on (σ.ev x) fun x=>J6 op x K
 | .slice t x lo hi mx=>on (σ.ev x) fun x=>zz aP σ t x lo hi mx K
 | .build t parts=>zm aP σ t parts K
 | .buildSlice t len parts=>mY aP σ t len parts K
 | .alloc t=>zl P aP σ.objs t K
 | .box _ x=>on (σ.ev x) fun y=>y.flat∧K (.mp σ.objs.length 0) (.wr σ.objs.length [] (σ.objs++[.cells y.cells]))
 | .makeMap t none=>r9 P aP σ.objs t K
 | .makeSlice t x y=>on (σ.ev x) fun x=>on (σ.ev y) fun y=>ot md.made aP σ.objs t x y K
 | .makeFunc f first captured=>on (σ.yw first.toList) fun fs=>on (σ.yw captured.toList) fun cs=>K (.fn f fs cs) .pure
 | .lookup t x y ok=>on (σ.ev x) fun x=>on (σ.ev y) fun y=>na (nW y) (fun _=>r8 P aP σ.objs t x y ok K) (fun _=>vM P aP σ.objs t x y ok K)
 | .mapUpdate t x y v=>o.dst=none∧on (σ.ev x) fun x=>on (σ.ev y) fun y=>on (σ.ev v) fun v=>na (nW y) (fun _=>DI P aP σ.objs t x y v K) (fun _=>j8 P aP σ.objs t x y v K)
 | .insert t x y v=>o.dst=none∧on (σ.ev x) fun x=>on (σ.ev y) fun y=>on (σ.ev v) fun v=>j8 P aP σ.objs t x y v K
 | .extract x k=>on (σ.ev x) fun
  | .cN cs=>on cs[k]? fun r=>K r .pure
  | _=>False
 | .call c=>ew P aP md o.dst σ c.callee c.args.toList c.argTypes.toList K
 | .nilCheck x=>on (σ.ev x) fun y=>k6 y K
 | .range t x=>on (σ.ev x) fun x=>zy aP σ.objs t x K
 | .entry x=>on (σ.ev x) fun x=>zv σ.objs x K
 | .mapEntry t x y=>on (σ.ev x) fun x=>on (σ.ev y) fun y=>qe P aP σ.objs t x y K
 | .entryStore _ x s v=>o.dst=none∧on (σ.ev x) fun x=>on (σ.ev s) fun s=>on (σ.ev v) fun v=>mZ σ.objs x s v K
 | _=>False
theorem dU{O X:List aq}:∀i,i<O.length->i ∉ ([]:List Nat)->(O++X)[i]?=O[i]?:=fun _ hi _=>List.getElem?_append_left hi
theorem ji{O:List aq}{id:Nat}{x:aq}:∀i,i<O.length->i ∉ [id]->(O.set id x)[i]?=O[i]?:=fun i _ hl=>List.getElem?_set_ne (fun e=>hl (by simp[e]))
theorem Fz{O:List aq}{id:Nat}{x y:aq}:∀i,i<O.length->i ∉ [id]->(O.set id x++[y])[i]?=O[i]?:=fun i hi hl=>by
 rw[List.getElem?_append_left (by simpa using hi)];exact List.getElem?_set_ne (fun e=>hl (by simp[e]))
theorem CS{x:Operand}(hn:isNil x=true):x=.const (.slice none 0 0):=by
 unfold isNil at hn;split at hn
 ·rfl
 cases hn
theorem FJ{y:aa}{b:Bool}(h:C3 y=some b):(y=.v (.slice none 0 0)∧b=true)∨(∃sz xs,y=.aB sz xs .nn∧b=false)∨(∃id off len cap,y=.ms id off len cap∧b=false):=by
 unfold C3 at h;split at h
 ·exact .inl ⟨rfl,by simpa using h.symm⟩
 ·exact .inr (.inl ⟨_,_,rfl,by simpa using h.symm⟩)
 ·exact .inr (.inr ⟨_,_,_,_,rfl,by simpa using h.symm⟩)
 cases h
theorem mQ{op:BinOp}{b r:Bool}(h:jO op b=some r):(op=.eql∧r=b)∨(op=.neq∧r=!b):=by
 unfold jO at h;split at h
 ·exact .inl ⟨rfl,by simpa using h.symm⟩
 ·exact .inr ⟨rfl,by simpa using h.symm⟩
 cases h
theorem rp{P:Program}{aP:ee}{o:Oper}{σ:St}{x:Operand}{K:fC}(ho:o.op=.move x∨o.op=.assign x)(hd:∀d,o.dst=some d->d<σ.n)(h:vN aP o.type x σ K):∃r m,Cert P o σ r m∧K r m:=by
 unfold vN at h;cases hn:isNil x with
 | true =>
  have hx:x=.const (.slice none 0 0):=by
   unfold isNil at hn;split at hn
   ·rfl
   cases hn
  subst hx;simp only[hn]at h;obtain⟨ti,_,h⟩:=aE h;split at h
  ·obtain⟨te,_,h⟩:=aE h;exact⟨_,_,G1 te.size ho hd,h⟩
  exact h.elim
 | false =>
  simp only[hn]at h;obtain⟨y,hy,h⟩:=aE h;exact⟨_,_,EO ho hd hy,h⟩
theorem rR{P:Program}{k:TypeId}{kt:KT}(h:rQ P k=some kt):∃d,P.underlying k=some d∧kt.desc d:=by
 unfold rQ at h;split at h
 ·simp only[Option.some.injEq]at h;subst h;exact⟨_,by assumption,rfl⟩
 ·simp only[Option.some.injEq]at h;subst h;exact⟨_,by assumption,rfl⟩
 cases h
theorem ky:∀{l:List (Nat×aa)},mD l->∀p∈l,p.2.flat
 | [],_,p,hp=>by cases hp
 | q::r,h,p,hp=>by
  rcases List.mem_cons.1 hp with e|e
  ·subst e;exact h.1
  exact ky h.2 p e
theorem qo{n:Nat}:∀{l:List aa},qn n l->∀x∈l,x.cells.length=n
 | [],_,p,hp=>by cases hp
 | q::r,h,p,hp=>by
  rcases List.mem_cons.1 hp with e|e
  ·subst e;exact h.1
  exact qo h.2 p e
theorem jW{σ:St}{p:Option Operand}{Cq:Nat}{K:Nat->Prop}(h:Gm σ p Cq K):∃n,nK σ p Cq n∧K n:=by
 unfold Gm at h;split at h
 ·exact⟨Cq,.inl ⟨rfl,rfl⟩,h⟩
 rename_i q;obtain⟨y,hy,h⟩:=aE h;split at h
 ·rename_i k n;obtain⟨h1,h2⟩:=h;exact⟨n.toNat,.inr ⟨q,k,rfl,by rw[Int.toNat_of_nonneg h1];exact hy⟩,h2⟩
 exact h.elim
theorem BG{P:Program}{o:Oper}{σ:St}{op:BinOp}{t t':TypeId}{x y:Operand}{k:IntKind}{m n:Int}{K:fC}(ho:o.op=.binOp op t x y t')(hd:∀d,o.dst=some d->d<σ.n)(hx:σ.ev x=some (.v (.int k m)))(hy:σ.ev y=some (.v (.int k n)))
  (h:Ez op k m n K):∃r m,Cert P o σ r m∧K r m:=by
 unfold Ez at h;cases PH:kR op m n with
 | some b =>
  simp only[PH,Option.isSome_some,dn,yR]at h;exact⟨_,_,zX ho hd hx hy PH,h⟩
 | none =>
  simp only[PH,Option.isSome_none,cV]at h;obtain⟨r,hr,h1,h2,h⟩:=aE h;rw[yL]at h1;rw[yE]at h2;exact⟨_,_,wj ho hd hx hy hr h1 h2,h⟩
theorem vO{P:Program}{aP:ee}{md:Md}(hT:b8 P aP){o:Oper}{σ:St}{K:fC}(hd:∀d,o.dst=some d->d<σ.n)(h:J4 P aP md o σ K):∃r m,Cert P o σ r m∧K r m:=by
 unfold J4 at h;split at h
 case h_1 x ho=>exact rp (.inl ho) hd h
 case h_2 x ho=>exact rp (.inr ho) hd h
 case h_3 c x z ho =>
  unfold DH at h;obtain⟨y,hy,h⟩:=aE h;split at h
  ·rename_i b;cases b
   ·rw[cV]at h;obtain⟨r,hr,h⟩:=aE h;exact⟨_,_,xd ho hd hy (by simp) (fun _=>hr),h⟩
   rw[dn]at h;obtain⟨r,hr,h⟩:=aE h;exact⟨_,_,xd ho hd hy (fun _=>hr) (by simp),h⟩
  exact h.elim
 case h_4 s x k ho =>
  obtain⟨y,hy,h⟩:=aE h;unfold oo at h;obtain⟨ti,ht,h⟩:=aE h;split at h
  ·rename_i fs aT;obtain⟨f,hf,h⟩:=aE h;obtain⟨tf,TH,hz,h⟩:=aE h;split at h
   ·exact⟨_,_,qw hT ho hd ht aT hf TH hz hy,h⟩
   ·exact⟨_,_,qx hT ho hd ht aT hf TH hz hy,h⟩
   exact h.elim
  exact h.elim
 case h_5 s x k ho =>
  obtain⟨y,hy,h⟩:=aE h;unfold zw at h;obtain⟨ti,ht,h⟩:=aE h;split at h
  ·rename_i fs aT;obtain⟨f,hf,h⟩:=aE h;obtain⟨tf,TH,h⟩:=aE h;split at h
   ·cases fO:tf.desc.agg with
    | true =>
     simp only[fO,dn]at h;exact⟨_,_,uu hT ho hd ht aT hf TH hy (by rw[if_pos fO]),h⟩
    | false =>
     simp only[fO,cV]at h;obtain⟨r,hr,h⟩:=aE h;exact⟨_,_,uu hT ho hd ht aT hf TH hy (by rw[if_neg (by simp[fO])];exact hr),h⟩
   exact h.elim
  exact h.elim
 case h_6 t x ho =>
  obtain⟨y,hy,h⟩:=aE h;unfold DG at h;obtain⟨ti,ht,h⟩:=aE h;split at h
  ·cases fO:ti.desc.agg with
   | true =>
    simp only[fO,dn]at h;exact⟨_,_,yh hT ho hd ht hy fO h.1,h.2⟩
   | false =>
    simp only[fO,cV]at h;obtain⟨c,hc,h⟩:=aE h;exact⟨_,_,wx hT ho hd ht hy fO hc,h⟩
  ·obtain⟨os,OJ,h⟩:=aE h;split at h
   ·cases fO:ti.desc.agg with
    | true =>
     simp only[fO,dn]at h;exact⟨_,_,yi hT ho hd ht hy OJ fO h.1,h.2⟩
    | false =>
     simp only[fO,cV]at h;obtain⟨c,hc,h⟩:=aE h;exact⟨_,_,wy hT ho hd ht hy OJ fO hc,h⟩
   exact h.elim
  exact h.elim
 case h_7 t x y ho =>
  obtain⟨iJ,h⟩:=h;obtain⟨x',hx,h⟩:=aE h;obtain⟨y',hy,h⟩:=aE h;unfold zA at h;obtain⟨ti,ht,h⟩:=aE h;split at h
  ·obtain⟨os,OJ,h⟩:=aE h;split at h
   ·obtain⟨h1,h2,h3,h⟩:=h;exact⟨_,_,(Ci hT ho iJ ht hx OJ hy h1 h2 h3).close ji,h⟩
   exact h.elim
  exact h.elim
 case h_8 t x i ho =>
  obtain⟨x',hx,h⟩:=aE h;obtain⟨i',hi,h⟩:=aE h;unfold oq at h;obtain⟨ti,ht,h⟩:=aE h;split at h
  ·rename_i e aT;obtain⟨te,he,h⟩:=aE h;split at h
   ·split at h
    ·obtain⟨h1,h2,h⟩:=h;obtain⟨y,h3,h⟩:=aE h;exact⟨_,_,pE hT ho hd ht aT he h1 hx hi h2 h3,h⟩
    ·obtain⟨h1,h2,h⟩:=h;exact⟨_,_,qy hT ho hd ht aT he hx hi h1 h2,h⟩
    ·obtain⟨h1,h2,h⟩:=h;exact⟨_,_,qz hT ho hd ht aT he hx hi h1 h2,h⟩
    exact h.elim
   exact h.elim
  ·rename_i len e aT;obtain⟨te,he,h⟩:=aE h;split at h
   ·split at h
    ·obtain⟨h1,h2,h⟩:=h;exact⟨_,_,pD hT ho hd ht aT he hx hi h1 h2,h⟩
    ·obtain⟨h1,h2,h⟩:=h;exact⟨_,_,ns hT ho hd ht aT he hx hi h1 h2,h⟩
    exact h.elim
   exact h.elim
  exact h.elim
 case h_9 op t x y t' ho =>
  cases hn:isNil y with
  | true =>
   simp only[hn,dn]at h;have hy:=CS hn;subst hy;obtain⟨x',hx,h⟩:=aE h;unfold J3 at h;obtain⟨ti,ht,h⟩:=aE h;obtain⟨e,aT,h⟩:=aE h;obtain⟨b,hb,h⟩:=aE h;obtain⟨r,hr,h⟩:=aE h;exact⟨_,_,z7 hT ho hd ht (TD.l9 aT) hx (FJ hb) (mQ hr),h⟩
  | false =>
  simp only[hn,cV]at h;obtain⟨x',hx,h⟩:=aE h;obtain⟨y',hy,h⟩:=aE h;unfold pq at h;split at h
  ·cases hs:dM op with
   | true =>
    simp only[hs,dn]at h;obtain⟨h0,h1,h2,h⟩:=h;rw[yL]at h1;rw[yE]at h2;exact⟨_,_,wC ho hd hx hy hs h0 h1 h2,h⟩
   | false =>
    simp only[hs,cV]at h;obtain⟨hk,h⟩:=h;subst hk;exact BG ho hd hx hy h
  ·obtain⟨r,hr,h⟩:=aE h;refine⟨_,_,wv ho hd hx hy ?_,h⟩;cases op<;>simp[uz]at hr<;>simp[hr]
  ·obtain⟨hb,h⟩:=h;obtain⟨r,hr,h⟩:=aE h;refine⟨_,_,zZ ho hd hb hx hy ?_,h⟩;cases op<;>simp[qB]at hr<;>simp[hr]
  ·obtain⟨⟨e,he⟩,h⟩:=h;obtain⟨b,hb,h⟩:=aE h;obtain⟨r,hr,h⟩:=aE h;exact⟨_,_,wu ho hd he hx hy (FT hb) (mQ hr),h⟩
  ·obtain⟨⟨e,n,he,hn,vW⟩,tu,h⟩:=h;obtain⟨r,hr,h⟩:=aE h;exact⟨_,_,zY ho hd he hn vW hx hy tu hr,h⟩
  ·obtain⟨⟨k1,k2,k3,hP⟩,h9⟩:=h;obtain⟨r,hr,h8⟩:=aE h9;subst k1;subst k2;subst k3;exact⟨_,_,z6 ho hd hP hx hy (mQ hr),h8⟩
  exact h.elim
 case h_10 op t x ho =>
  obtain⟨x',hx,h⟩:=aE h;unfold J6 at h;split at h
  ·exact⟨_,_,G2 ho hd hx,h⟩
  ·obtain⟨h1,h2,h⟩:=h;rw[yL]at h1;rw[yE]at h2;exact⟨_,_,G0 ho hd hx h1 h2,h⟩
  exact h.elim
 case h_11 t x lo hi mx ho =>
  obtain⟨x',hx,h⟩:=aE h;unfold zz at h;obtain⟨ti,ht,h⟩:=aE h;split at h
  ·rename_i e aT;obtain⟨te,he,h⟩:=aE h;split at h
   ·obtain⟨h1,h⟩:=h;obtain⟨l,hl,h⟩:=jW h;obtain⟨hh,o7,h2,h3,h⟩:=jW h;rcases DE h with⟨e1,e2,e3,hq⟩|hq
    ·subst e1;subst e2;subst e3;exact⟨_,_,s6 hT ho hd ht aT he hx hl o7,hq⟩
    exact⟨_,_,Ch hT ho hd ht aT he h1 hx hl o7 h2 h3,hq⟩
   ·obtain⟨l,hl,h⟩:=jW h;obtain⟨hh,o7,h2,h3,h4,h5,h⟩:=jW h;exact⟨_,_,wD hT ho hd ht aT he hx hl o7 h2 h3 h4 h5,h⟩
   ·obtain⟨h1,h⟩:=h;obtain⟨l,hl,hq⟩:=jW h;obtain⟨hh,o7,h2,h3,hz⟩:=jW hq;subst h2;subst h3;exact⟨_,_,uy hT ho hd ht aT he hx hl o7 h1,hz⟩
   ·obtain⟨l,hl,hq⟩:=jW h;obtain⟨hh,o7,h2,h3,h4,hz⟩:=jW hq;subst h2;exact⟨_,_,wE hT ho hd ht aT he hx hl o7 h3 h4,hz⟩
   exact h.elim
  exact h.elim
 case h_12 t parts ho =>
  unfold zm at h;obtain⟨ti,ht,h⟩:=aE h;split at h
  ·rename_i fs aT;obtain⟨pl,uW,h⟩:=aE h;obtain⟨ps,nE,ix,h⟩:=aE h;obtain⟨cs,iq,h⟩:=aE h;exact⟨_,_,Cc hT ho hd ht aT uW nE (ky ix) iq,h⟩
  ·rename_i n e aT;obtain⟨te,he,h⟩:=aE h;obtain⟨ps,nE,ix,h⟩:=aE h;obtain⟨cs,iq,h⟩:=aE h;exact⟨_,_,uq hT ho hd ht aT he nE (ky ix) iq,h⟩
  exact h.elim
 case h_13 t len parts ho =>
  unfold mY at h;obtain⟨ti,ht,h⟩:=aE h;split at h
  ·rename_i e aT;obtain⟨te,he,h⟩:=aE h;obtain⟨ps,nE,ix,h⟩:=aE h;obtain⟨xs,Gx,h1,h2,h3,h4,h⟩:=aE h;exact⟨_,_,sV hT ho hd ht aT he h1 nE (ky ix) Gx h2 (qo h3) h4,h⟩
  exact h.elim
 case h_14 t ho =>
  unfold zl at h;cases hb:t == 212 with
  | true =>
   rw[hb,dn]at h;obtain rfl:t=212:=by simpa using hb
   exact⟨_,_,(wi ho hd h.1).close dU,h.2⟩
  | false =>
   rw[hb,cV]at h;obtain⟨ti,ht,h⟩:=aE h;exact⟨_,_,(Cb hT ho hd ht).close dU,h⟩
 case h_15 t x ho =>
  obtain⟨y,hy,hf,h⟩:=aE h;exact⟨_,_,(GX ho hd hy hf).close dU,h⟩
 case h_16 t ho =>
  unfold r9 at h;obtain⟨ti,ht,h⟩:=aE h;split at h
  ·obtain⟨kt,_,hp,h⟩:=aE h;exact⟨_,_,(yl kt hp ho hd).close dU,h⟩
  exact h.elim
 case h_17 t x y ho =>
  obtain⟨x',hx,h⟩:=aE h;obtain⟨y',hy,h⟩:=aE h;unfold ot at h;obtain⟨ti,ht,h⟩:=aE h;split at h
  ·rename_i e aT;obtain⟨te,he,h⟩:=aE h;split at h
   ·obtain⟨e1,h1,h2,h3,h4,hq⟩:=h;subst e1;by_cases P1:md.made=true
    ·rw[P1,dn]at hq;exact⟨_,_,sY hT ho hd ht aT he hx hy h1 h2 h3 h4 hq.1,hq.2⟩
    rw[show md.made=false by simpa using P1,cV]at hq;exact⟨_,_,(ux hT ho hd ht aT he hx hy h1 h2 h3 h4).close dU,hq⟩
   exact h.elim
  exact h.elim
 case h_18 f first captured ho =>
  obtain⟨fs,Va,h⟩:=aE h;obtain⟨cs,iq,h⟩:=aE h;exact⟨_,_,wz ho hd Va iq,h⟩
 case h_19 t x y ok ho =>
  obtain⟨x',hx,h⟩:=aE h;obtain⟨y',hy,h⟩:=aE h;cases hb:nW y' with
  | true =>
   rw[hb,dn]at h;unfold r8 at h;obtain⟨ti,ht,h⟩:=aE h;obtain⟨ke,gV,h⟩:=aE h;obtain⟨te,he,h⟩:=aE h;obtain⟨key,lR,h⟩:=aE h;obtain⟨id,hid,h⟩:=aE h;obtain⟨ob,lC,h⟩:=aE h;rw[oz hid]at hx;obtain⟨a,b,rfl⟩:=sC hb;rcases ob with cs|n|⟨kt,es⟩|_
   ·exact h.elim
   ·exact h.elim
   ·cases kt with
    | pair =>
     obtain⟨hk,c7,h⟩:=h;exact⟨_,_,yj hT ho hd ht (TD.oJ gV) hk he c7 hx lC hy lR (by simp only[keyOf,Option.some.injEq]at lR;exact⟨a,b,lR.symm⟩),h⟩
    | str=>exact h.elim
    | int k=>exact h.elim
    | sb a b c=>exact h.elim
    | iter c=>exact h.elim
   exact h.elim
  | false =>
   rw[hb,cV]at h;unfold vM at h;obtain⟨ti,ht,h⟩:=aE h;split at h
   ·rename_i k e aT;obtain⟨kt,wK,h⟩:=aE h;obtain⟨d,hk,xv⟩:=rR wK;obtain⟨te,he,c7,h⟩:=aE h;split at h
    ·obtain⟨fk,h⟩:=h;split at h
     ·obtain⟨e1,hq⟩:=h;subst e1;exact⟨_,_,uv hT ho hd ht aT hk xv he c7 hx hy fk,hq⟩
     ·obtain⟨es,Kg,h⟩:=aE h;split at h
      case h_2=>exact h.elim
      obtain⟨e1,hq⟩:=h;subst e1;exact⟨_,_,uw hT ho hd ht aT hk xv he c7 hx Kg hy fk,hq⟩
     ·exact⟨_,_,sX hT ho hd ht aT hk xv he c7 hx hy,h⟩
     exact h.elim
    exact h.elim
   exact h.elim
 case h_20 t x y v ho =>
  obtain⟨iJ,h⟩:=h;obtain⟨x',hx,h⟩:=aE h;obtain⟨y',hy,h⟩:=aE h;obtain⟨v',hv,h⟩:=aE h;cases hb:nW y' with
  | true =>
   rw[hb,dn]at h;unfold DI at h;obtain⟨ti,ht,h⟩:=aE h;obtain⟨ke,gV,h⟩:=aE h;obtain⟨key,lR,h⟩:=aE h;obtain⟨id,hid,h⟩:=aE h;obtain⟨ob,lC,h⟩:=aE h;rw[oz hid]at hx;obtain⟨a,b,rfl⟩:=sC hb;rcases ob with cs|n|⟨kt,es⟩|_
   ·exact h.elim
   ·exact h.elim
   ·cases kt with
    | pair =>
     obtain⟨hk,h⟩:=h;exact⟨_,_,(sZ hT ho iJ ht (TD.oJ gV) hk hx lC hy lR (by simp only[keyOf,Option.some.injEq]at lR;exact⟨a,b,lR.symm⟩) hv).close ji,h⟩
    | str=>exact h.elim
    | int k=>exact h.elim
    | sb a b c=>exact h.elim
    | iter c=>exact h.elim
   exact h.elim
  | false =>
   rw[hb,cV]at h;unfold j8 at h;obtain⟨ti,ht,h⟩:=aE h;split at h
   ·rename_i k e aT;obtain⟨kt,wK,h⟩:=aE h;obtain⟨d,hk,xv⟩:=rR wK;split at h
    ·obtain⟨fk,h⟩:=h;obtain⟨es,Kg,h⟩:=aE h;split at h
     ·obtain⟨e1,hq⟩:=h;subst e1;exact⟨_,_,(nL hT (.inl ho) iJ ht aT hk xv hx Kg hy fk hv).close ji,hq⟩
     exact h.elim
    exact h.elim
   exact h.elim
 case h_21 t x y v ho =>
  obtain⟨iJ,h⟩:=h;obtain⟨x',hx,h⟩:=aE h;obtain⟨y',hy,h⟩:=aE h;obtain⟨v',hv,h⟩:=aE h;unfold j8 at h;obtain⟨ti,ht,h⟩:=aE h;split at h
  ·rename_i k e aT;obtain⟨kt,wK,h⟩:=aE h;obtain⟨d,hk,xv⟩:=rR wK;split at h
   ·obtain⟨fk,h⟩:=h;obtain⟨es,Kg,h⟩:=aE h;split at h
    ·obtain⟨e1,hq⟩:=h;subst e1;exact⟨_,_,(nL hT (.inr ho) iJ ht aT hk xv hx Kg hy fk hv).close ji,hq⟩
    exact h.elim
   exact h.elim
  exact h.elim
 case h_22 x k ho =>
  obtain⟨x',hx,h⟩:=aE h;split at h
  ·obtain⟨r,hr,h⟩:=aE h;exact⟨_,_,yg ho hd hx hr,h⟩
  exact h.elim
 case h_23 c ho =>
  obtain⟨callee,args,pc⟩:=c;simp only at h;unfold ew at h;split at h
  ·obtain⟨f',hf,h⟩:=aE h;obtain⟨gg,has,h⟩:=aE h;unfold zn at h;split at h
   ·rcases h with⟨r,h1,h2,h⟩|⟨r,O',h1,h|⟨n,l,hk,h⟩⟩|⟨r,h1,h⟩
    ·exact⟨_,_,Cf ho hd hf has h1 h2,h⟩
    ·exact⟨_,_,ur ho hd hf has h1,h⟩
    ·exact⟨_,_,(ur ho hd hf has h1).close hk,h⟩
    exact⟨_,_,Cg ho hd hf has h1,h⟩
   exact h.elim
  ·split at h
   ·rename_i x t e1 e2;have ea:args = #[x]:=Array.toList_inj.1 e1;have et:pc = #[t]:=Array.toList_inj.1 e2;subst ea;subst et;obtain⟨x',hx,h⟩:=aE h;unfold J1 at h;obtain⟨ti,ht,h⟩:=aE h;obtain⟨e,aT,h⟩:=aE h;obtain⟨n,hn,h⟩:=aE h;exact⟨_,_,GY hT ho hd ht (TD.l9 aT) hx (FD hn),h⟩
   exact h.elim
  ·split at h
   ·rename_i x y t t' e1 e2;have ea:args = #[x,y]:=Array.toList_inj.1 e1;have et:pc = #[t,t']:=Array.toList_inj.1 e2;subst ea;subst et;obtain⟨x',hx,h⟩:=aE h;obtain⟨y',hy,h⟩:=aE h;unfold vK at h;obtain⟨ti,ht,h⟩:=aE h;obtain⟨e,aT,h⟩:=aE h;have aT:=TD.l9 aT;obtain⟨te,he,h⟩:=aE h;split at h
    ·obtain⟨h0,h1,h2,h3,h4,hq⟩:=h;subst h0;subst h2;by_cases Tg:md.app=true
     ·rw[Tg,dn]at hq;obtain⟨Kp,Fs⟩:=hq;cases P1:md.made with
      | true =>
       rw[P1,dn]at Fs;exact⟨_,_,(qv hT ho hd ht aT he h1 hx hy Kp h3 h4).close dU,Fs⟩
      | false =>
       rw[P1,cV]at Fs;exact⟨_,_,(sS hT ho hd ht aT he h1 hx hy Kp h3 h4).close dU,Fs⟩
     rw[show md.app=false by simpa using Tg,cV]at hq;exact⟨_,_,(uk hT ho hd ht aT he h1 hx hy h3 h4).close dU,hq⟩
    ·obtain⟨h0,h1,h2,h3,h4,h5,hq⟩:=h;subst h0;subst h2;exact⟨_,_,(sU hT ho hd ht aT he h1 hx hy h3 h4 h5).close ji,hq⟩
    ·obtain⟨h0,h1,h2,h3,h4,h5,h6,hq⟩:=h;subst h0;subst h1;cases Tg:md.app with
     | true =>
      rw[Tg,dn]at hq;exact⟨_,_,(sT hT ho hd ht aT he h2 hx hy h3 h4 h5 h6).close dU,hq⟩
     | false =>
      rw[Tg,cV]at hq;exact⟨_,_,(rD hT ho hd ht aT he h2 hx hy h3 h4 h5 h6).close dU,hq⟩
    ·obtain⟨h0,h1,hq⟩:=h;subst h0;obtain⟨o1,qk,hq⟩:=aE hq;split at hq
     ·obtain⟨h2,h3,h4,hq⟩:=hq;exact⟨_,_,(um hT ho hd ht aT he h1 hx qk hy h2 h3 h4).close ji,hq⟩
     exact hq.elim
    ·obtain⟨h0,h1,h2,hq⟩:=h;subst h0;subst h2;obtain⟨o1,qk,hq⟩:=aE hq;split at hq
     ·obtain⟨h3,h4,h5,h6,hq⟩:=hq;exact⟨_,_,(uo hT ho hd ht aT he h1 hx qk hy h3 h4 h5 h6).close Fz,hq⟩
     exact hq.elim
    exact h.elim
   exact h.elim
  ·split at h
   ·rename_i x t e1 e2;have ea:args = #[x]:=Array.toList_inj.1 e1;have et:pc = #[t]:=Array.toList_inj.1 e2;subst ea;subst et;obtain⟨x',hx,h⟩:=aE h;unfold J0 at h;obtain⟨ti,ht,h⟩:=aE h;obtain⟨e,aT,h⟩:=aE h;obtain⟨n,hn,h⟩:=aE h;obtain⟨sz,xs,e3,e4⟩:=EK hn;subst e3;subst e4;exact⟨_,_,Cd hT ho hd ht (TD.l9 aT) hx,h⟩
   exact h.elim
  ·split at h
   ·rename_i x t e1 e2;have ea:args = #[x]:=Array.toList_inj.1 e1;have et:pc = #[t]:=Array.toList_inj.1 e2;subst ea;subst et;obtain⟨iJ,h⟩:=h;obtain⟨x',hx,h⟩:=aE h;unfold zo at h;obtain⟨ti,ht,h⟩:=aE h;obtain⟨e,aT,h⟩:=aE h;obtain⟨te,he,h⟩:=aE h;split at h
    ·obtain⟨o1,qk,h⟩:=aE h;split at h
     ·obtain⟨h2,h3,h4,h⟩:=h;exact⟨_,_,(wq hT ho iJ ht (TD.l9 aT) he hx qk h2 h3 h4).close ji,h⟩
     exact h.elim
    exact h.elim
   exact h.elim
  ·split at h
   ·rename_i x y e1;have ea:args = #[x,y]:=Array.toList_inj.1 e1;subst ea;obtain⟨x',hx,h⟩:=aE h;obtain⟨y',hy,h⟩:=aE h;unfold J5 at h;split at h
    ·exact⟨_,_,G3 ho hd hx hy,h⟩
    exact h.elim
   exact h.elim
  ·split at h
   ·rename_i x y e1;have ea:args = #[x,y]:=Array.toList_inj.1 e1;subst ea;obtain⟨x',hx,h⟩:=aE h;obtain⟨y',hy,h⟩:=aE h;unfold J2 at h;split at h
    ·exact⟨_,_,GZ ho hd hx hy,h⟩
    exact h.elim
   exact h.elim
  exact h.elim
 case h_24 x ho =>
  obtain⟨y,hy,h⟩:=aE h;unfold k6 at h;split at h
  ·exact⟨_,_,pe ho hd hy (.inl ⟨_,_,rfl⟩),h⟩
  ·exact⟨_,_,pe ho hd hy (.inr ⟨_,_,rfl⟩),h⟩
  exact h.elim
 case h_25 t x ho =>
  obtain⟨y,hy,h⟩:=aE h;unfold zy at h;obtain⟨ti,ht,h⟩:=aE h;obtain⟨p,hp,h⟩:=aE h;obtain⟨es,he,h⟩:=aE h;obtain⟨kt,rfl⟩:=EG he;exact⟨_,_,(wB hT ho hd ht (TD.oJ hp) hy h.1).close dU,h.2⟩
 case h_26 x ho =>
  obtain⟨y,hy,h⟩:=aE h;unfold zv at h;obtain⟨id,hid,h⟩:=aE h;obtain⟨os,OJ,h⟩:=aE h;obtain⟨c,hc,h⟩:=aE h;obtain⟨es,rfl⟩:=yK hc;rw[EH hid]at hy;exact⟨_,_,Ce ho hd hy OJ,h⟩
 case h_27 t x y ho =>
  obtain⟨x',hx,h⟩:=aE h;obtain⟨y',hy,h⟩:=aE h;unfold qe at h;obtain⟨ti,ht,h⟩:=aE h;obtain⟨ke,gV,h⟩:=aE h;obtain⟨te,he,h⟩:=aE h;obtain⟨key,lR,h⟩:=aE h;obtain⟨id,hid,h⟩:=aE h;obtain⟨ob,lC,h⟩:=aE h;rw[oz hid]at hx;split at h
  ·obtain⟨hk,fk,c7,hl,h⟩:=h;exact⟨_,_,(wA hT ho hd ht (TD.oJ gV) hk he c7 hx lC hy lR fk hl).close ji,h⟩
  exact h.elim
 case h_28 t x s v ho =>
  obtain⟨iJ,h⟩:=h;obtain⟨x',hx,h⟩:=aE h;obtain⟨s',hs,h⟩:=aE h;obtain⟨v',hv,h⟩:=aE h;unfold mZ at h;obtain⟨id,hid,h⟩:=aE h;obtain⟨ob,lC,h⟩:=aE h;rw[oz hid]at hx;split at h
  ·split at h
   ·obtain⟨hp,h0,hn,h⟩:=h;exact⟨_,_,(sW ho iJ hp hx lC hs h0 hn hv).close ji,h⟩
   exact h.elim
  exact h.elim
 case h_29=>exact h.elim
def Hf(d:Option Nat)(n:Nat):Prop :=
 match d with
 | some d=>d<n
 | none=>True
def kn:List (Nat×Nat)->Nat->Option Nat
 | [],_=>none
 | (k,d)::r,j=>if k=j then some d else kn r j
def lk(i:Nat)(d:Option Nat)(ds:List (Nat×Nat)):List (Nat×Nat) :=
 match d with
 | some d=>(i,d)::ds
 | none=>ds
def Se(σ:St)(f:St->Prop)(_t:Tag f:={}):Prop:=f σ
theorem Qx(n:Nat)(s:List (Nat×aa))(O:List aq)(f:St->Prop)(t:Tag f):Se ⟨n,s,O⟩ f t=f ⟨n,s,O⟩:=rfl
def fq(P:Program)(aP:ee)(md:Md):List Oper->Nat->List (Nat×Nat)->St->List Kind->(St->List Kind->Prop)->Prop
 | [],_,_,σ,ks,K=>K σ ks
 | o::r,i,ds,σ,ks,K=>Hf o.dst σ.n ∧
  match o.guard with
  | none=>J4 P aP md o σ fun x m=>Se ⟨σ.n,qW o.dst x σ.bt,m.post σ.objs⟩ fun τ=>fq P aP md r (i+1) (lk i o.dst ds) τ (m.kind::ks) K
  | some (j,want)=>on (kn ds j) fun t=>on (σ.get t) fun
   | .v (.bool b)=>na (b == want)
    (fun _=>J4 P aP md o ⟨σ.n,cd t (.v (.bool want)) σ.bt,σ.objs⟩ fun x m=>Se ⟨σ.n,qW o.dst x (cd t (.v (.bool want)) σ.bt),m.post σ.objs⟩ fun τ=>fq P aP md r (i+1) (lk i o.dst ds) τ (m.kind::ks) K)
    (fun _=>Se ⟨σ.n,qD σ.n o.dst (cd t (.v (.bool !want)) σ.bt),σ.objs⟩ fun τ=>fq P aP md r (i+1) (lk i o.dst ds) τ (.pure::ks) K)
   | .cN []=>Se ⟨σ.n,qD σ.n o.dst σ.bt,σ.objs⟩ fun τ=>fq P aP md r (i+1) (lk i o.dst ds) τ (.pure::ks) K
   | _=>False
theorem BU{all:Array Oper}{i:Nat}{o:Oper}(ho:all[i]?=some o){ds:List (Nat×Nat)}(h:∀j t,kn ds j=some t->(all[j]?).bind (·.dst)=some t):∀j t,kn (lk i o.dst ds) j=some t->(all[j]?).bind (·.dst)=some t:=by
 intro j t hj;cases hd:o.dst with
 | none =>
  rw[hd]at hj;exact h j t hj
 | some d =>
  rw[hd]at hj;simp only[lk,kn]at hj;split at hj
  ·rename_i e;subst e;simp only[Option.some.injEq]at hj;subst hj;simp[ho,hd]
  exact h j t hj
theorem Bj{σ:St}{t:Nat}{x:aa}(h:σ.get t=some x):iS ⟨σ.n,cd t x σ.bt,σ.objs⟩ σ:=by
 refine⟨rfl,rfl,fun s=>?_⟩;simp only[St.get,ig];split
 ·rename_i e;subst e;exact h.symm
 rfl
theorem mI{P:Program}{ops:Array Oper}:∀{l l':List (Nat×Kind)} {σ τ ρ:St},fB P ops l σ τ->fB P ops l' τ ρ->fB P ops (l++l') σ ρ
 | [],_,_,_,_,h,k=>k.same h.symm
 | (i,q)::r,_,_,_,_,h,k=>by
  obtain⟨fL,h1,h2⟩:=h;exact⟨fL,h1,mI h2 k⟩
theorem gd{P:Program}{aP:ee}{md:Md}(hT:b8 P aP){all:Array Oper}{K:St->List Kind->Prop}:∀(l:List Oper) (k:Nat) (ds:List (Nat×Nat)) (σ:St) (ks:List Kind),(∀j,l[j]?=all[k+j]?)->(∀j t,kn ds j=some t->(all[j]?).bind (·.dst)=some t)->fq P aP md l k ds σ ks K ->
  ∃(τ:St) (sE:List Kind),fB P all (sE.zipIdx k |>.map fun p=>(p.2,p.1)) σ τ∧sE.length=l.length∧K τ (sE.reverse++ks)
 | [],k,_,σ,ks,_,_,h=>⟨σ,[],iS.refl σ,rfl,h⟩
 | o::r,k,ds,σ,ks,hl,tw,h=>by
  obtain⟨hd,h⟩:=h;have SH:∀d,o.dst=some d->d<σ.n:=fun d e=>by
   rw[e]at hd;exact hd
  have ho:all[k]?=some o:=by
   have:=hl 0;simpa using this.symm
  have K7:=BU ho tw;have hr:∀j,r[j]?=all[k+1+j]?:=fun j=>by
   have:=hl (j+1);rw[show k+1+j=k+(j+1) by omega];simpa using this
  cases hg:o.guard with
  | none =>
   simp only[hg]at h;obtain⟨x,m,hc,h⟩:=vO hT SH h;obtain⟨τ,sE,h1,h2,h3⟩:=gd hT r (k+1) _ _ _ hr K7 h;refine⟨τ,m.kind::sE,?_,by simp[h2],by simpa using h3⟩;simp only[List.zipIdx_cons,List.map_cons];exact⟨_,⟨o,ho,.inl ⟨by simp[dy,hg],x,m,hc,rfl,rfl⟩⟩,h1⟩
  | some p =>
   obtain⟨j,want⟩:=p;simp only[hg]at h;obtain⟨t,R3,h⟩:=aE h;have ht:=tw j t R3;obtain⟨y,hy,h⟩:=aE h;split at h
   ·rename_i b;by_cases hb:b=want
    ·rw[show(b == want)=true by simp[hb],dn]at h;have hs:=Bj (hb ▸ hy);obtain⟨x,m,hc,h⟩:=vO hT (σ:=⟨σ.n,cd t (.v (.bool want)) σ.bt,σ.objs⟩) SH h;obtain⟨τ,sE,h1,h2,h3⟩:=gd hT r (k+1) _ _ _ hr K7 h;refine⟨τ,m.kind::sE,?_,by simp[h2],by simpa using h3⟩;simp only[List.zipIdx_cons,List.map_cons];have dD:lK P all k m.kind ⟨σ.n,cd t (.v (.bool want)) σ.bt,σ.objs⟩ (St.put ⟨σ.n,cd t (.v (.bool want)) σ.bt,σ.objs⟩ o.dst x (m.post σ.objs)) :=
      ⟨o,ho,.inl ⟨by simp[dy,hg,ht,St.get,ig],x,m,hc,rfl,rfl⟩⟩
     obtain⟨fL,q1,q2⟩:=dD.same hs;exact⟨fL,q1,h1.same q2⟩
    rw[show(b == want)=false by simp[hb],cV]at h;have wJ:b=!want:=by cases b<;>cases want<;>simp_all
    have hs:=Bj (wJ ▸ hy);obtain⟨τ,sE,h1,h2,h3⟩:=gd hT r (k+1) _ _ _ hr K7 h;refine⟨τ,.pure::sE,?_,by simp[h2],by simpa using h3⟩;simp only[List.zipIdx_cons,List.map_cons];have dD:lK P all k .pure ⟨σ.n,cd t (.v (.bool !want)) σ.bt,σ.objs⟩ (St.skip ⟨σ.n,cd t (.v (.bool !want)) σ.bt,σ.objs⟩ o.dst) :=
     ⟨o,ho,.inr ⟨by cases want<;>simp[dy,hg,ht,St.get,ig],rfl,rfl⟩⟩
    obtain⟨fL,q1,q2⟩:=dD.same hs;exact⟨fL,q1,h1.same q2⟩
   ·obtain⟨τ,sE,h1,h2,h3⟩:=gd hT r (k+1) _ _ _ hr K7 h;refine⟨τ,.pure::sE,?_,by simp[h2],by simpa using h3⟩;simp only[List.zipIdx_cons,List.map_cons];exact⟨_,⟨o,ho,.inr ⟨by simp[dy,hg,ht,hy],rfl,rfl⟩⟩,h1⟩
   exact h.elim
def eA(ops:Array Oper)(ks:List Kind):Prop:=n6 ops ks=true
def ik(draw:Bool)(p:Unit->Prop)(_t:Tag p:={}):Prop:=draw=true->p ()
theorem Ag(p:Unit->Prop)(t:Tag p):ik false p t=True:=by simp[ik]
theorem Cr(p:Unit->Prop)(t:Tag p):ik true p t=p ():=by simp[ik]
theorem gK{P:Program}{kb:Nat}{aP:ee}(md:Md)(hT:b8 P aP)(hm:P.follows .mixedOrders=true){id:Nat}{l:List Oper}{draw:Bool}{Q:dT->St->Prop}{σ:St}
  (h:fq P aP md l 0 [] σ [] fun τ ks=>ik draw (fun _=>eA l.toArray ks.reverse)∧At τ (Q .norm)):cG P kb (.region id l.toArray draw) Q σ:=by
 obtain⟨ops,P7⟩:∃ops,ops=l.toArray:=⟨_,rfl⟩
 have hl:l=ops.toList:=by rw[P7]
 rw[<-P7]at h ⊢;rw[hl]at h;clear P7 hl;obtain⟨τ,ks,h1,h2,h3,h4⟩:=gd (all:=ops) hT ops.toList 0 [] σ [] (fun j=>by simp) (fun j t hj=>by simp[kn]at hj) h;intro base a g hb hr;have sw:fB P ops ((List.range ops.size).map fun i=>(i,ks.getD i .write)) σ τ:=by
  have e:(ks.zipIdx 0).map (fun p=>(p.2,p.1))=(List.range ops.size).map fun i=>(i,ks.getD i .write):=by
   apply List.ext_getElem?;intro i;simp only[List.getElem?_map];have hlen:ks.length=ops.size:=by simpa using h2
   by_cases hi:i<ops.size
   ·rw[List.getElem?_range hi];simp[hlen,hi]
   rw[List.getElem?_eq_none (by simp only[List.length_zipIdx];omega),List.getElem?_eq_none (by simp only[List.length_range];omega)];rfl
  rw[<-e];exact h1
 cases draw with
 | false=>exact lX sw hr fun a g AM=>⟨g,τ,rfl,AM,h4⟩
 | true =>
  have hB:=h3 rfl;simp only[List.append_nil,List.reverse_reverse]at hB;exact nq hm hB sw hr fun a g AM=>⟨g,τ,rfl,AM,h4⟩
theorem dw{P:Program}{kb:Nat}{aP:ee}(hT:b8 P aP)(hm:P.follows .mixedOrders=true){id:Nat}{l:List Oper}{draw:Bool}{Q:dT->St->Prop}{σ:St}
  (h:fq P aP ⟨false,false⟩ l 0 [] σ [] fun τ ks=>ik draw (fun _=>eA l.toArray ks.reverse)∧At τ (Q .norm)):cG P kb (.region id l.toArray draw) Q σ:=gK ⟨false,false⟩ hT hm h
theorem zR{P:Program}{kb:Nat}{aP:ee}(hT:b8 P aP)(hm:P.follows .mixedOrders=true){id:Nat}{l:List Oper}{draw:Bool}{Q:dT->St->Prop}{σ:St}
  (h:fq P aP ⟨true,false⟩ l 0 [] σ [] fun τ ks=>ik draw (fun _=>eA l.toArray ks.reverse)∧At τ (Q .norm)):cG P kb (.region id l.toArray draw) Q σ:=gK ⟨true,false⟩ hT hm h
def slotsOf:Nat->List aa->List (Nat×aa)
 | _,[]=>[]
 | k,x::r=>(k,x)::slotsOf (k+1) r
theorem mO:∀(l:List aa) (k s:Nat) (x:aa),look (slotsOf k l) s=some x->k<=s∧l[s-k]?=some x
 | [],k,s,x,h=>by cases h
 | y::r,k,s,x,h=>by
  simp only[slotsOf,look]at h;split at h
  ·rename_i e;subst e;simp only[Option.some.injEq]at h;subst h;simp
  obtain⟨h1,h2⟩:=mO r (k+1) s x h;refine⟨by omega,?_⟩;rw[show s-k=(s-(k+1))+1 by omega];simpa using h2
def kV(aP:ee)(σ:St):ResultVar->Option aa
 | .tmp t=>σ.get t
 | .cell a ty =>
  match σ.get a,aP ty with
  | some (.mp id off),some ti =>
   match σ.objs[id]? with
   | some (.cells cs)=>if ti.desc.agg then(if off+ti.size<=cs.length then some (.agg ((cs.drop off).take ti.size))else none)else cs[off]?
   | _=>none
  | _,_=>none
def eV(aP:ee)(σ:St):List ResultVar->Option (List aa)
 | []=>some []
 | v::r =>
  match kV aP σ v,eV aP σ r with
  | some x,some xs=>some (x::xs)
  | _,_=>none
def iu:List aa->aa
 | [x]=>x
 | xs=>.cN xs
def kU(a:Act):ResultVar->Sem Value
 | .tmp t=>pure (a.tmps.getD t undef)
 | .cell c t=>do loadVar t (<-asAddr (a.tmps.getD c undef))
theorem Bg{P:Program}{aP:ee}(hT:b8 P aP){σ:St}{base:G}{a:Act}{g:G}(hr:Rel base σ a g){v:ResultVar}{x:aa}(h:kV aP σ v=some x) :
  ∃u,(kU a v).run P g.w=.ok u g.w∧RV g x u:=by
 cases v with
 | tmp t =>
  obtain⟨u,h1,h2⟩:=hr.slot t x h;exact⟨u,by simp[kU,Array.getD_eq_getD_getElem?,h1],h2⟩
 | cell c ty =>
  simp only[kV]at h;split at h
  ·rename_i id off ti hc WY;obtain⟨u,h1,h2⟩:=hr.slot c _ hc;obtain⟨l,o1,he,ho,_,eu⟩:=h2.jG;split at h
   ·rename_i cs iq;have CI:g.objs[id]?=some (.cells cs):=by rw[hr.objs];exact iq
    obtain⟨arr,t',_,di,hlen,tA,dI,_⟩:=hr.good.row CI he;subst eu;split at h
    ·rename_i fO;split at h
     ·rename_i hs;simp only[Option.some.injEq]at h;subst h;obtain⟨f,hf⟩:∃f:Nat->Value,∀j,off+j<arr.size->arr[off+j]?=some (f j):=⟨fun j=>arr.getD (off+j) undef,fun j hj=>by simp[Array.getD_eq_getD_getElem?,hj]⟩
      have bL:=(hT ty ti WY).nX fO g.w l.block off f (fun j hj=>by
       rw[cell_of_row di];exact hf j (by omega))
      refine⟨.agg ((List.range ti.size).map f).toArray,by simp[kU,Array.getD_eq_getD_getElem?,h1,asAddr,bL],?_⟩;have hl:((cs.drop off).take ti.size).length=ti.size:=by simp;omega
      have:=RV.ofRow (g:=g) ((cs.drop off).take ti.size) f (fun c hc=>dI c (List.mem_of_mem_drop (List.mem_of_mem_take hc))) (fun j c hj=>by
       have jo:=mu hj;rw[List.getElem?_drop]at jo;have bd:=ag jo;exact tA (off+j) c _ jo (hf j (by omega)))
      rw[hl]at this;exact this
     cases h
    rename_i fO;have bd:=ag h;have AE:g.w.cell? ⟨l.block,off,none⟩=some arr[off]:=by
     rw[cell_of_row di];simp[show off<arr.size by omega]
    have bL:=(hT ty ti WY).mN (by simpa using fO) g.w ⟨l.block,off,none⟩ _ AE;exact⟨arr[off],by simp[kU,Array.getD_eq_getD_getElem?,h1,asAddr,bL],tA off x _ h (by simp[show off<arr.size by omega])⟩
   cases h
  cases h
theorem mT{P:Program}{aP:ee}(hT:b8 P aP){σ:St}{base:G}{a:Act}{g:G}(hr:Rel base σ a g):∀{vs:List ResultVar} {xs:List aa},eV aP σ vs=some xs ->
  ∃us:List Value,(vs.mapM (kU a)).run P g.w=.ok us g.w∧jq g xs us.toArray
 | [],xs,h=>by
  simp only[eV,Option.some.injEq]at h;subst h;exact⟨[],by simp,⟨rfl,by simp⟩⟩
 | v::r,xs,h=>by
  simp only[eV]at h;cases hv:kV aP σ v with
  | none=>simp[hv]at h
  | some x =>
   cases xy:eV aP σ r with
   | none=>simp[hv,xy]at h
   | some ys =>
    simp only[hv,xy,Option.some.injEq]at h;subst h;obtain⟨u,h1,h2⟩:=Bg hT hr hv;obtain⟨us,h3,h4,h5⟩:=mT hT hr xy;refine⟨u::us,?_,by simpa using h4,fun j c w e1 e2=>?_⟩
    ·rw[List.mapM_cons];simp only[Sem.run_bind,h1,Result.andThen_ok,h3,Sem.run_pure]
    cases j with
    | zero =>
     simp at e1 e2;subst e1;subst e2;exact h2
    | succ j=>exact h5 j c w (by simpa using e1) (by simpa using e2)
def DO(aP:ee)(rv:List ResultVar)(sh:Bool)(k:Nat)(R:aa->List aq->Prop):dT->St->Prop
 | .exit _,_=>False
 | _,σ=>on (eV aP σ rv) fun rs=>k<=σ.objs.length∧(∀o∈σ.objs.take k,o.upto k)∧(iu (if sh then rs.map aa.share else rs)).upto k∧R (iu (if sh then rs.map aa.share else rs)) (σ.objs.take k)
theorem RV.iu{g:G}{xs:List aa}{us:List Value}(h:jq g xs us.toArray):RV g (iu xs) (if h:us.toArray.size=1 then us.toArray[0]else .tuple us.toArray):=by
 obtain⟨h1,h2⟩:=h
 match xs,us,h1,h2 with
 | [],[],_,h2=>exact .cN rfl (by simp)
 | [x],[u],_,h2 =>
  simp only[List.size_toArray,List.length_singleton,dite_true];exact h2 0 x u rfl rfl
 | x::y::r,u0::u1::s,h1,h2 =>
  rw[dif_neg (by simp)];exact .cN h1 h2
 | [],_::_,h1,_=>simp at h1
 | _::_,[],h1,_=>simp at h1
 | [_],_::_::_,h1,_=>simp at h1
 | _::_::_,[_],h1,_=>simp at h1
theorem dE{P:Program}{aP:ee}(hT:b8 P aP){f:FuncId}{fn:Func}{c:Code}{O:List aq}{args:List aa}{R:aa->List aq->Prop}(sh:Bool)(k:Nat)(hf:P.funcs[f]?=some fn)(hb:fn.body=some c)
  (AI : (fn.name == "runtime.NumGoroutine") = false) (hn : args.length <= fn.ntmps) (hk : O.length <= k) (h : cG P O.length c (DO aP fn.results.toList sh k R) ⟨fn.ntmps, slotsOf 0 args, O⟩) : aK P f O args R := by
 refine⟨⟨fn,hf,AI,by simp[hb]⟩,fun g vs hg ho ha=>?_⟩;refine calls_of_wp hf hb ?_;have bV:Rel g ⟨fn.ntmps,slotsOf 0 args,O⟩ { tmps:=vs++Array.replicate (fn.ntmps-vs.size) undef,defers:=[] } g:={
  le:=Le.refl g
  good:=hg
  objs:=ho
  size:=by
   have:=ha.1;simp only[Array.size_append,Array.size_replicate];omega
  defers:=rfl
  slot:=fun s x hx=>by
   obtain⟨_,h1⟩:=mO args 0 s x hx;simp only[Nat.sub_zero]at h1;have bd:=ag h1;have kg:s<vs.size:=by rw[ha.1];exact bd
   refine⟨vs[s],?_,ha.2 s x _ h1 (by simp[kg])⟩;simp only;rw[Array.getElem?_append,if_pos kg];simp[kg] }
 refine wp_mono (h g _ g (by rw[ho];exact Nat.le_refl _) bV) fun e a w hp=>?_;have key:∀g' fL,g'.w=w->Rel g fL a g'->(on (eV aP fL fn.results.toList) fun rs=>k<=fL.objs.length∧(∀o∈fL.objs.take k,o.upto k)∧(Av.iu (if sh then rs.map aa.share else rs)).upto k∧R (Av.iu (if sh then rs.map aa.share else rs)) (fL.objs.take k)) ->
   a.defers=[]∧∃v,(results fn a.tmps).run P w=.ok v w∧∃g' v' r,Ending.returned v=.returned v'∧g'.w=w∧Le g g'∧Good g'∧RV g' r v'∧R r g'.objs:=by
  intro g' fL hw hr hq;subst hw;obtain⟨rs,xy,h1,h2,h3,h4⟩:=aE hq;obtain⟨us,q1,q2⟩:=mT hT hr xy;have hO:g'.objs=fL.objs:=hr.objs;refine⟨hr.defers,(if h:us.toArray.size=1 then us.toArray[0]else .tuple us.toArray),?_,g'.cy k,_,_,rfl,rfl,hr.le.cy (by rw[ho];exact hk),hr.good.cy (by rw[hO];exact h1) (by rw[hO];exact h2),?_,by simp only[G.cy,hO];exact h4⟩
  ·have hm:fn.results.mapM (kU a)=Functor.map List.toArray (fn.results.toList.mapM (kU a)):=Array.mapM_eq_mapM_toList;have eK:results fn a.tmps=(do
    let vs <-fn.results.mapM (kU a)
    pure (if h:vs.size=1 then vs[0]else .tuple vs)):=rfl
   rw[eK,hm];simp only[Sem.run_bind,Sem.run_map,q1,Result.andThen_ok,Sem.run_pure]
  have lT:jq g' (if sh then rs.map aa.share else rs) us.toArray:=by
   cases sh
   ·exact q2
   exact q2.share
  exact(RV.iu lT).cy (by rw[hO];exact h1) h3
 cases e with
 | normal =>
  obtain⟨g',fL,h1,h2,h3⟩:=hp;exact key g' fL h1 h2 h3
 | ret =>
  obtain⟨g',fL,h1,h2,h3⟩:=hp;exact key g' fL h1 h2 h3
 | exit id =>
  obtain⟨g',fL,h1,h2,h3⟩:=hp;exact h3.elim
 | goto l=>exact hp.elim
 | panic c=>exact hp.elim
 | outgrown=>exact hp.elim
theorem y7(P:Program)(kb:Nat)(c:Code)(Q:dT->St->Prop)(σ:St):bP P kb c Q .norm σ=cG P kb c Q σ:=rfl
theorem gR(P:Program)(kb:Nat)(c:Code)(Q:dT->St->Prop)(σ:St):bP P kb c Q .ret σ=Q .ret σ:=rfl
theorem y6(P:Program)(kb:Nat)(c:Code)(Q:dT->St->Prop)(σ:St)(id:Nat):bP P kb c Q (.exit id) σ=Q (.exit id) σ:=rfl
theorem ub(id:Nat)(Q:dT->St->Prop)(σ:St):bO id Q .norm σ=Q .norm σ:=rfl
theorem fv(id:Nat)(Q:dT->St->Prop)(σ:St):bO id Q .ret σ=Q .ret σ:=rfl
theorem uc(id:Nat)(Q:dT->St->Prop)(σ:St):bO id Q (.exit id) σ=Q .norm σ:=by simp[bO]
theorem sQ{id nT:Nat}(h:nT≠id)(Q:dT->St->Prop)(σ:St):bO id Q (.exit nT) σ=Q (.exit nT) σ:=by simp[bO,h]
theorem wV{ι:Type}(L:ι->St)(μ:ι->Nat)(i:ι)(Q:dT->St->Prop)(σ:St):gu L μ i Q .norm σ = ∃j,μ j<μ i∧bn σ (L j):=rfl
theorem gk{ι:Type}(L:ι->St)(μ:ι->Nat)(i:ι)(Q:dT->St->Prop)(σ:St):gu L μ i Q .ret σ=Q .ret σ:=rfl
theorem wU{ι:Type}(L:ι->St)(μ:ι->Nat)(i:ι)(Q:dT->St->Prop)(σ:St)(id:Nat):gu L μ i Q (.exit id) σ=Q (.exit id) σ:=rfl
def DM:aa->Value->Bool
 | .v (.int k n),.int k' n'=>decide (k=k')&&decide (n=n')&&decide (k.min<=n)&&decide (n<=k.max)
 | .v (.bool b),.bool b'=>b == b'
 | .v (.string s),.string s'=>decide (s=s')
 | .v (.pointer none),.pointer none=>true
 | .v (.map none),.map none=>true
 | .v .nilFunc,.nilFunc=>true
 | .v .nilIface,.nilIface=>true
 | .aB _ [] .ex,.slice none 0 0=>true
 | _,_=>false
theorem BK{x:aa}{u:Value}(h:DM x u=true):(∀g:G,RV g x u)∧x.scalar:=by
 unfold DM at h;split at h
 ·simp only[Bool.and_eq_true,decide_eq_true_eq]at h;obtain⟨⟨⟨h1,h2⟩,h3⟩,h4⟩:=h;subst h1;subst h2;exact⟨fun g=>.v ⟨h3,h4⟩,trivial⟩
 ·simp only[beq_iff_eq]at h;subst h;exact⟨fun g=>.v trivial,trivial⟩
 ·simp only[decide_eq_true_eq]at h;subst h;exact⟨fun g=>.v trivial,trivial⟩
 ·exact⟨fun g=>.v trivial,trivial⟩
 ·exact⟨fun g=>.v trivial,trivial⟩
 ·exact⟨fun g=>.v trivial,trivial⟩
 ·exact⟨fun g=>.v trivial,trivial⟩
 ·exact⟨fun g=>.nil (fun id e=>by cases e) (by simp),trivial⟩
 cases h
def oS:List aa->List Value->Bool
 | [],[]=>true
 | x::xs,u::us=>DM x u&&oS xs us
 | _,_=>false
theorem rq:∀{xs:List aa} {us:List Value},oS xs us=true->us.length=xs.length∧(∀g:G,∀(j:Nat) (c:aa) (u:Value),xs[j]?=some c->us[j]?=some u->RV g c u)∧∀c∈xs,c.scalar
 | [],[],_=>⟨rfl,by simp,by simp⟩
 | x::xs,u::us,h=>by
  simp only[oS,Bool.and_eq_true]at h;obtain⟨h1,h2⟩:=BK h.1;obtain⟨h3,h4,h5⟩:=rq h.2;refine⟨by simp[h3],fun g j c w a b=>?_,fun c hc=>?_⟩
  ·cases j with
   | zero =>
    simp at a b;subst a;subst b;exact h1 g
   | succ j=>exact h4 g j c w (by simpa using a) (by simpa using b)
  rcases List.mem_cons.1 hc with e|e
  ·subst e;exact h2
  exact h5 c e
 | [],_::_,h=>by simp[oS]at h
 | _::_,[],h=>by simp[oS]at h
def oD:List Field->List (Nat×TypeId)->Bool
 | [],[]=>true
 | f::r,p::q=>decide (f.offset=p.1)&&decide (f.type=p.2)&&oD r q
 | _,_=>false
theorem qG:∀{fs:List Field} {ps:List (Nat×TypeId)},oD fs ps=true->fs.map (fun f=>(f.offset,f.type))=ps
 | [],[],_=>rfl
 | f::r,p::q,h=>by
  simp only[oD,Bool.and_eq_true,decide_eq_true_eq]at h;obtain⟨⟨h1,h2⟩,h3⟩:=h;rw[List.map_cons,qG h3,h1,h2]
 | [],_::_,h=>by simp[oD]at h
 | _::_,[],h=>by simp[oD]at h
def G9:TypeDesc->TD->Bool
 | .struct fields,.struct fs=>oD fields.toList fs
 | .slice e,.slice e'=>decide (e=e')
 | .array n e,.array n' e'=>decide (n=n')&&decide (e=e')
 | .map k e,.map k' e'=>decide (k=k')&&decide (e=e')
 | .struct _,.other=>false
 | .array _ _,.other=>false
 | _,.other=>true
 | _,_=>false
theorem Cp{d:TypeDesc}{td:TD}(h:G9 d td=true):rI d td:=by
 unfold G9 at h;split at h
 ·exact⟨_,rfl,qG h⟩
 ·simp only[decide_eq_true_eq]at h;subst h;rfl
 ·simp only[Bool.and_eq_true,decide_eq_true_eq]at h;obtain⟨h1,h2⟩:=h;subst h1;subst h2;rfl
 ·simp only[Bool.and_eq_true,decide_eq_true_eq]at h;obtain⟨h1,h2⟩:=h;subst h1;subst h2;rfl
 ·cases h
 ·cases h
 ·rename_i h1 h2;cases d<;>first|trivial|exact(h1 _ rfl).elim|exact(h2 _ _ rfl).elim
 cases h
def Dr(agg:Bool):Value->Bool
 | .agg _=>agg
 | _=>!agg
def bD(P:Program)(t:TypeId)(ti:cr):Bool :=
 match P.info? t,P.underlying t with
 | some i,some d=>decide (i.size=ti.size)&&decide (i.bytes=ti.bytes)&&G9 d ti.desc&&decide (ti.zero.length=ti.size) &&
  (match i.zero with
  | some z=>oS ti.zero z.cells.toList&&Dr ti.desc.agg z
  | none=>false)
 | _,_=>false
theorem aC{P:Program}{t:TypeId}{ti:cr}(h:bD P t ti=true):DP P t ti:=by
 unfold bD at h;split at h
 ·rename_i i d hi hd;split at h
  ·rename_i z hz;simp only[Bool.and_eq_true,decide_eq_true_eq]at h;obtain⟨⟨⟨⟨h1,h2⟩,h3⟩,h4⟩,h5,h6⟩:=h;obtain⟨q1,q2,q3⟩:=rq h5;refine⟨⟨i,z,hi,h1,h2,hz,by simpa using q1,h4,⟨fun ha=>?_,fun ha=>?_⟩,fun g j c u a b=>q2 g j c u a (by simpa using b),q3⟩,d,hd,Cp h3⟩
   ·cases z with
    | agg cs=>exact⟨cs,rfl⟩
    | _=>simp[Dr,ha]at h6
   cases z with
   | agg cs=>simp[Dr,ha]at h6
   | _=>rfl
  simp at h
 cases h
theorem KG{P:Program}{kb:Nat}{c:Code}{Q:dT->St->Prop}{σ:St}{F:Prop}(hf:∀base a g,Rel base σ a g->F)(h:F->cG P kb c Q σ):cG P kb c Q σ:=fun base a g hb hr=>h (hf base a g hr) base a g hb hr
theorem gF{P:Program}{kb:Nat}{c:Code}{Q:dT->St->Prop}{n:Nat}{bt:List (Nat×aa)}{O:List aq}(s:Nat){sz:Nat}{xs:List aa}{o:oV}(hs:look bt s=some (.aB sz xs o))
  (h:xs.length<=2 ^ 62->cG P kb c Q ⟨n,bt,O⟩):cG P kb c Q ⟨n,bt,O⟩ :=
 KG (fun _ _ _ hr=>by
  obtain⟨u,_,h2⟩:=hr.slot s _ hs;exact h2.Em) h
theorem nY:∀{l:List (Nat×aa)} {s:Nat} {x:aa},look l s=some x->(s,x)∈l
 | (k,y)::r,s,x,h=>by
  simp only[look]at h;split at h
  ·rename_i e;subst e;simp only[Option.some.injEq]at h;subst h;exact List.mem_cons_self
  exact List.mem_cons_of_mem _ (nY h)
theorem cK{P:Program}{kb:Nat}{c:Code}{Q:dT->St->Prop}{n:Nat}{bt:List (Nat×aa)}{O:List aq}(k:Nat)(cF:List (Nat×aa))(hk:k<=O.length)(Lf:kb<=k)(O':List aq)(zD:O.take k=O')(hb:∀o∈O',o.upto k)
  (hs:jw ⟨n,bt,O⟩ cF) (xz:∀p∈cF,p.2.upto k) (h:cG P kb c Q ⟨n,cF,O'⟩):cG P kb c Q ⟨n,bt,O⟩ :=
 rA k hk Lf cF (by rw[zD];exact hb) hs (fun s x hx=>xz _ (nY hx)) (by rw[zD];exact h)
theorem j4{α:Type}(l:List α)(x:α):(l++[x])[l.length]?=some x:=by simp
theorem oh{α:Type}(l:List α)(x y:α):(l++[x]).set l.length y=l++[y]:=by simp
theorem xP{α:Type}(l m:List α):(l++m).take l.length=l:=by simp
theorem rj{α:Type}{l:List α}{i:Nat}{y:α}(h:l[i]?=some y)(m:List α):(l++m)[i]?=some y:=by
 rw[List.getElem?_append,if_pos (ag h)];exact h
theorem Du(cs:List aa):bz cs 0 []=cs:=by simp[bz]
theorem Bt(c x:aa)(cs xs:List aa):bz (c::cs) 0 (x::xs)=x::bz cs 0 xs:=by simp[bz]
theorem Bv(c:aa)(cs xs:List aa)(k:Nat):bz (c::cs) (k+1) xs=c::bz cs k xs:=by
 simp only[bz,List.take_succ_cons,List.cons_append,List.cons.injEq,true_and];rw[show k+1+xs.length=(k+xs.length)+1 by omega,List.drop_succ_cons]
theorem zk{α β:Type}(f:α->β)(l:List α):(l.map f).take l.length=l.map f:=List.take_of_length_le (by simp)
mutual
theorem aa.cR{n m:Nat}(h:n<=m):∀x:aa,x.upto n->x.upto m
 | .v _,_=>trivial
 | .agg cs,hx=>gp h cs hx
 | .aB _ xs o,hx=>by
  refine⟨gp h xs hx.1,?_⟩;have:=hx.2;cases o<;>first|trivial|exact Nat.lt_of_lt_of_le this h
 | .ip _ cs,hx=>gp h cs hx
 | .mp _ _,hx=>Nat.lt_of_lt_of_le hx h
 | .ms _ _ _ _,hx=>Nat.lt_of_lt_of_le hx h
 | .os _ _ _,hx=>Nat.lt_of_lt_of_le hx h
 | .raw _ _ _,hx=>Nat.lt_of_lt_of_le hx h
 | .mm _,hx=>Nat.lt_of_lt_of_le hx h
 | .im _ es,hx=>gT h es hx
 | .fn _ fs cs,hx=>⟨gp h fs hx.1,gp h cs hx.2⟩
 | .cN cs,hx=>gp h cs hx
theorem gp{n m:Nat}(h:n<=m):∀l:List aa,av n l->av m l
 | [],_=>trivial
 | x::r,hx=>⟨aa.cR h x hx.1,gp h r hx.2⟩
theorem gT{n m:Nat}(h:n<=m):∀l:List (Value×aa),ba n l->ba m l
 | [],_=>trivial
 | (k,x)::r,hx=>⟨aa.cR h x hx.1,gT h r hx.2⟩
end
theorem aq.cR{n m:Nat}(h:n<=m){o:aq}(ho:o.upto n):o.upto m:=by
 cases o with
 | cells cs=>exact gp h cs ho
 | map kt es =>
  cases kt with
  | sb a b c=>exact ho
  | str=>exact gT h es ho
  | int k=>exact gT h es ho
  | pair=>exact gT h es ho
  | iter c=>exact gT h es ho
 | _=>trivial
theorem sub_self(O:List aq)(x:aa):Sub O x x=True:=by simp[Sub.refl]
theorem Sub.int{O:List aq}{k:IntKind}{a b:Int}(h:a=b):Sub O (.v (.int k a)) (.v (.int k b)):=.of_eq (by rw[h])
theorem ae{p:Unit->Prop}{t:Tag p}(h:p ()):w8 p t:=h
theorem KI(x:Value):aa.cells (.v x)=[.v x]:=rfl
theorem Pp(x:Value):aa.flat (.v x)=True:=rfl
theorem ri(x:Value):aa.share (.v x)=.v x:=rfl
theorem cT(x:Value):aa.br (.v x)=.v x:=rfl
theorem EM(sz:Nat)(xs:List aa)(o:oV):aa.cells (.aB sz xs o)=[.aB sz xs o]:=rfl
theorem Hq(sz:Nat)(xs:List aa)(o:oV):aa.flat (.aB sz xs o)=True:=rfl
theorem F6(sz:Nat)(xs:List aa)(o:oV):aa.share (.aB sz xs o)=.aB sz xs .sh:=rfl
theorem cq(sz:Nat)(xs:List aa)(o:oV):aa.br (.aB sz xs o)=.aB sz xs .sh:=rfl
theorem GS(oa:Option Addr)(cs:List aa):aa.cells (.ip oa cs)=[.ip oa cs]:=rfl
theorem KP(oa:Option Addr)(cs:List aa):aa.flat (.ip oa cs)=True:=rfl
theorem IH(oa:Option Addr)(cs:List aa):aa.share (.ip oa cs)=.ip oa cs:=rfl
theorem dP(oa:Option Addr)(cs:List aa):aa.br (.ip oa cs)=.ip oa cs:=rfl
theorem GV(id off:Nat):aa.cells (.mp id off)=[.mp id off]:=rfl
theorem KR(id off:Nat):aa.flat (.mp id off)=True:=rfl
theorem IJ(id off:Nat):aa.share (.mp id off)=.mp id off:=rfl
theorem dR(id off:Nat):aa.br (.mp id off)=.mp id off:=rfl
theorem EN(sz n id:Nat):aa.cells (.raw sz n id)=[.raw sz n id]:=rfl
theorem Hr(sz n id:Nat):aa.flat (.raw sz n id)=True:=rfl
theorem F7(sz n id:Nat):aa.share (.raw sz n id)=.raw sz n id:=rfl
theorem w6(sz n id:Nat):aa.br (.raw sz n id)=.raw sz n id:=rfl
theorem GW(id off len cap:Nat):aa.cells (.ms id off len cap)=[.ms id off len cap]:=rfl
theorem KS(id off len cap:Nat):aa.flat (.ms id off len cap)=True:=rfl
theorem IK(id off len cap:Nat):aa.share (.ms id off len cap)=.ms id off len cap:=rfl
theorem y9(id off len cap:Nat):aa.br (.ms id off len cap)=.ms id off len cap:=rfl
theorem GU(id:Nat):aa.cells (.mm id)=[.mm id]:=rfl
theorem KQ(id:Nat):aa.flat (.mm id)=True:=rfl
theorem II(id:Nat):aa.share (.mm id)=.mm id:=rfl
theorem dQ(id:Nat):aa.br (.mm id)=.mm id:=rfl
theorem GR(kt:KT)(es:List (Value×aa)):aa.cells (.im kt es)=[.im kt es]:=rfl
theorem KO(kt:KT)(es:List (Value×aa)):aa.flat (.im kt es)=True:=rfl
theorem IG(kt:KT)(es:List (Value×aa)):aa.share (.im kt es)=.im kt es:=rfl
theorem dO(kt:KT)(es:List (Value×aa)):aa.br (.im kt es)=.im kt es:=rfl
theorem GQ(f:Fn)(fs cs:List aa):aa.cells (.fn f fs cs)=[.fn f fs cs]:=rfl
theorem KN(f:Fn)(fs cs:List aa):aa.flat (.fn f fs cs)=True:=rfl
theorem IF(f:Fn)(fs cs:List aa):aa.share (.fn f fs cs)=.fn f fs cs:=rfl
theorem dN(f:Fn)(fs cs:List aa):aa.br (.fn f fs cs)=.fn f fs cs:=rfl
theorem EL(cs:List aa):aa.cells (.agg cs)=cs:=rfl
theorem flat_agg(cs:List aa):aa.flat (.agg cs)=True:=rfl
theorem F5(cs:List aa):aa.share (.agg cs)=.agg (cs.map aa.br):=rfl
theorem F8(cs:List aa):aa.share (.cN cs)=.cN cs:=rfl
def I:=And.intro @fq.eq_1 <|
 And.intro @fq.eq_2 <|
 And.intro @J4.eq_1 <|
 And.intro @vN.eq_1 <|
 And.intro @yR <|
 And.intro @Ag <|
 And.intro @Cr <|
 And.intro @dn <|
 And.intro @cV <|
 And.intro @DH.eq_1 <|
 And.intro @oo.eq_1 <|
 And.intro @zw.eq_1 <|
 And.intro @DG.eq_1 <|
 And.intro @zA.eq_1 <|
 And.intro @oq.eq_1 <|
 And.intro @pq.eq_1 <|
 And.intro @pq.eq_2 <|
 And.intro @pq.eq_3 <|
 And.intro @pq.eq_4 <|
 And.intro @pq.eq_5 <|
 And.intro @pq.eq_6 <|
 And.intro @pq.eq_7 <|
 And.intro @Pb.eq_1 <|
 And.intro @FR.eq_1 <|
 And.intro @FR.eq_2 <|
 And.intro @FR.eq_3 <|
 And.intro @Ez.eq_1 <|
 And.intro @J6.eq_1 <|
 And.intro @J6.eq_2 <|
 And.intro @J6.eq_3 <|
 And.intro @Gm.eq_1 <|
 And.intro @Gm.eq_2 <|
 And.intro @zz.eq_1 <|
 And.intro @BF.eq_1 <|
 And.intro @BF.eq_2 <|
 And.intro @zm.eq_1 <|
 And.intro @mY.eq_1 <|
 And.intro @ot.eq_1 <|
 And.intro @vM.eq_1 <|
 And.intro @j8.eq_1 <|
 And.intro @r9.eq_1 <|
 And.intro @zl.eq_1 <|
 And.intro @FN <|
 And.intro @FM <|
 And.intro @Dc <|
 And.intro @Option.getD_some.{0} <|
 And.intro @Option.getD_none.{0} <|
 And.intro @nW.eq_1 <|
 And.intro @nW.eq_2 <|
 And.intro @r8.eq_1 <|
 And.intro @DI.eq_1 <|
 And.intro @qe.eq_1 <|
 And.intro @mZ.eq_1 <|
 And.intro @keyOf.eq_1 <|
 And.intro @keyOf.eq_2 <|
 And.intro @B1.eq_1 <|
 And.intro @zy.eq_1 <|
 And.intro @zv.eq_1 <|
 And.intro @KE.eq_1 <|
 And.intro @KD.eq_1 <|
 And.intro @TD.maps.eq_1 <|
 And.intro @tD.eq_1 <|
 And.intro @J1.eq_1 <|
 And.intro @vK.eq_1 <|
 And.intro @J3.eq_1 <|
 And.intro @J0.eq_1 <|
 And.intro @zo.eq_1 <|
 And.intro @zn.eq_1 <|
 And.intro @zn.eq_2 <|
 And.intro @ew.eq_1 <|
 And.intro @ew.eq_2 <|
 And.intro @ew.eq_3 <|
 And.intro @ew.eq_4 <|
 And.intro @ew.eq_5 <|
 And.intro @ew.eq_6 <|
 And.intro @ew.eq_7 <|
 And.intro @ew.eq_8 <|
 And.intro @ew.eq_9 <|
 And.intro @ew.eq_10 <|
 And.intro @ew.eq_11 <|
 And.intro @ew.eq_12 <|
 And.intro @ew.eq_13 <|
 And.intro @ew.eq_14 <|
 And.intro @J5.eq_1 <|
 And.intro @J2.eq_1 <|
 And.intro @k6.eq_1 <|
 And.intro @k6.eq_2 <|
 @k6.eq_3
def V5:=And.intro @Qx <|
 And.intro @qT.eq_1 <|
 And.intro @qT.eq_2 <|
 And.intro @qT.eq_3 <|
 And.intro @qT.eq_4 <|
 And.intro @qT.eq_5 <|
 And.intro @qA.eq_1 <|
 And.intro @qA.eq_2 <|
 And.intro @isNil.eq_1 <|
 And.intro @isNil.eq_2 <|
 And.intro @St.ev.eq_1 <|
 And.intro @St.ev.eq_2 <|
 And.intro @St.ev.eq_3 <|
 And.intro @St.ev.eq_4 <|
 And.intro @St.get.eq_1 <|
 And.intro @kn.eq_1 <|
 And.intro @kn.eq_2 <|
 And.intro @lk.eq_1 <|
 And.intro @lk.eq_2 <|
 And.intro @look.eq_1 <|
 And.intro @look.eq_2 <|
 And.intro @slotsOf.eq_1 <|
 And.intro @slotsOf.eq_2 <|
 And.intro @Hf.eq_1 <|
 And.intro @Hf.eq_2 <|
 And.intro @qW.eq_1 <|
 And.intro @qW.eq_2 <|
 And.intro @cd.eq_1 <|
 And.intro @bG.eq_1 <|
 And.intro @bG.eq_2 <|
 And.intro @qD.eq_1 <|
 And.intro @qD.eq_2 <|
 And.intro @Mode.post.eq_1 <|
 And.intro @Mode.post.eq_2 <|
 And.intro @Mode.post.eq_3 <|
 And.intro @Mode.post.eq_4 <|
 And.intro @Mode.post.eq_5 <|
 And.intro @Mode.kind.eq_1 <|
 And.intro @Mode.kind.eq_2 <|
 And.intro @Mode.kind.eq_3 <|
 And.intro @Mode.kind.eq_4 <|
 And.intro @Mode.kind.eq_5 <|
 And.intro @Mode.kind.eq_6 <|
 And.intro @Mode.kind.eq_7 <|
 And.intro @KI <|
 And.intro @Pp <|
 And.intro @ri <|
 And.intro @cT <|
 And.intro @EM <|
 And.intro @Hq <|
 And.intro @F6 <|
 And.intro @cq <|
 And.intro @GS <|
 And.intro @KP <|
 And.intro @IH <|
 And.intro @dP <|
 And.intro @GV <|
 And.intro @KR <|
 And.intro @IJ <|
 And.intro @dR <|
 And.intro @EN <|
 And.intro @Hr <|
 And.intro @F7 <|
 And.intro @w6 <|
 And.intro @GW <|
 And.intro @KS <|
 And.intro @IK <|
 And.intro @y9 <|
 And.intro @GU <|
 And.intro @KQ <|
 And.intro @II <|
 And.intro @dQ <|
 And.intro @GR <|
 And.intro @KO <|
 And.intro @IG <|
 And.intro @dO <|
 And.intro @GQ <|
 And.intro @KN <|
 And.intro @IF <|
 And.intro @dN <|
 And.intro @EL <|
 And.intro @flat_agg <|
 And.intro @F5 <|
 And.intro @F8 <|
 And.intro @rz.eq_1 <|
 And.intro @rz.eq_2 <|
 And.intro @rz.eq_3 <|
 And.intro @rz.eq_4 <|
 And.intro @kR.eq_1 <|
 And.intro @kR.eq_2 <|
 And.intro @kR.eq_3 <|
 And.intro @kR.eq_4 <|
 And.intro @kR.eq_5 <|
 And.intro @kR.eq_6 <|
 And.intro @kR.eq_7 <|
 And.intro @eO.eq_1 <|
 And.intro @eO.eq_2 <|
 And.intro @eO.eq_3 <|
 And.intro @eO.eq_4 <|
 And.intro @eO.eq_5 <|
 And.intro @eO.eq_6 <|
 And.intro @eO.eq_7 <|
 And.intro @eO.eq_8 <|
 And.intro @eO.eq_9 <|
 And.intro @fp.eq_1 <|
 And.intro @dM.eq_1 <|
 And.intro @dM.eq_2 <|
 And.intro @dM.eq_3 <|
 And.intro @dM.eq_4 <|
 And.intro @dM.eq_5 <|
 And.intro @dM.eq_6 <|
 And.intro @dM.eq_7 <|
 And.intro @dM.eq_8 <|
 And.intro @dM.eq_9 <|
 And.intro @dM.eq_10 <|
 And.intro @dM.eq_11 <|
 And.intro @dM.eq_12 <|
 And.intro @dM.eq_13 <|
 And.intro @dM.eq_14 <|
 And.intro @dM.eq_15 <|
 And.intro @dM.eq_16 <|
 And.intro @dM.eq_17 <|
 And.intro @uz.eq_1 <|
 And.intro @uz.eq_2 <|
 And.intro @uz.eq_3 <|
 And.intro @qB.eq_1 <|
 And.intro @qB.eq_2 <|
 And.intro @qB.eq_3 <|
 And.intro @Bool.and_true <|
 And.intro @Bool.true_and <|
 And.intro @Bool.and_false <|
 And.intro @Bool.false_and <|
 And.intro @Bool.and_self <|
 And.intro @C3.eq_1 <|
 And.intro @C3.eq_2 <|
 And.intro @C3.eq_3 <|
 And.intro @C3.eq_4 <|
 And.intro @jO.eq_1 <|
 And.intro @jO.eq_2 <|
 And.intro @jO.eq_3 <|
 And.intro @GN.eq_1 <|
 And.intro @GN.eq_2 <|
 And.intro @St.yw.eq_1 <|
 And.intro @St.yw.eq_2 <|
 And.intro @St.fh.eq_1 <|
 And.intro @St.fh.eq_2 <|
 And.intro @mD.eq_1 <|
 And.intro @mD.eq_2 <|
 And.intro @qn.eq_1 <|
 And.intro @qn.eq_2 <|
 And.intro @jg.eq_1 <|
 And.intro @jg.eq_2 <|
 And.intro @Du <|
 And.intro @Bt <|
 And.intro @Bv <|
 And.intro @gQ.eq_1 <|
 And.intro @gQ.eq_2 <|
 And.intro @jm.eq_1 <|
 And.intro @jm.eq_2 <|
 And.intro @TD.agg.eq_1 <|
 And.intro @TD.agg.eq_2 <|
 And.intro @TD.agg.eq_3 <|
 And.intro @TD.elem.eq_1 <|
 And.intro @TD.elem.eq_2 <|
 And.intro @FC.eq_1 <|
 And.intro @FC.eq_2 <|
 And.intro @FC.eq_3 <|
 And.intro @jM.eq_1 <|
 And.intro @zeroOf.eq_1 <|
 And.intro @Ks.eq_1 <|
 And.intro @Ks.eq_2 <|
 And.intro @Ks.eq_3 <|
 And.intro @Ks.eq_4 <|
 And.intro @Ks.eq_5 <|
 And.intro @Fg.eq_1 <|
 And.intro @Fg.eq_2 <|
 And.intro @Fg.eq_3 <|
 And.intro @Fg.eq_4 <|
 And.intro @Fg.eq_5 <|
 And.intro @Fg.eq_6 <|
 And.intro @Fg.eq_7 <|
 And.intro @Fg.eq_8 <|
 And.intro @and_self <|
 And.intro @true_and <|
 And.intro @and_true <|
 And.intro @not_false_eq_true <|
 And.intro @List.nil_append.{0} <|
 And.intro @List.cons_append.{0} <|
 And.intro @List.append_nil.{0} <|
 And.intro @List.length_nil.{0} <|
 And.intro @List.length_cons.{0} <|
 And.intro @List.getElem?_cons_zero.{0} <|
 And.intro @List.getElem?_cons_succ.{0} <|
 And.intro @List.getElem?_nil.{0} <|
 And.intro @List.take_succ_cons.{0} <|
 And.intro @List.take_zero.{0} <|
 And.intro @List.take_nil.{0} <|
 And.intro @List.drop_succ_cons.{0} <|
 And.intro @List.drop_zero.{0} <|
 And.intro @List.drop_nil.{0} <|
 And.intro @List.set_cons_zero.{0} <|
 And.intro @List.set_cons_succ.{0} <|
 And.intro @List.map_cons.{0,0} <|
 And.intro @List.map_nil.{0,0} <|
 And.intro @Option.map_none.{0,0} <|
 And.intro @Option.map_some.{0,0} <|
 And.intro @Option.isSome_some.{0} <|
 And.intro @Option.isSome_none.{0} <|
 And.intro @Option.bind_some.{0,0} <|
 And.intro @Bool.false_eq_true <|
 And.intro @Bool.not_true <|
 And.intro @Bool.not_false <|
 And.intro @beq_self_eq_true.{0} <|
 And.intro @List.getElem?_toArray.{0} <|
 And.intro @Nat.zero_add <|
 And.intro @Nat.add_zero <|
 And.intro @decide_true <|
 And.intro @decide_false <|
 And.intro @beq_true <|
 And.intro @beq_false <|
 And.intro @Bool.true_beq <|
 And.intro @Bool.false_beq <|
 And.intro @Bool.not_not <|
 And.intro @decide_eq_true_eq <|
 And.intro @decide_eq_false_iff_not <|
 And.intro @Bool.not_eq_true' <|
 And.intro @Bool.not_eq_false' <|
 And.intro @Bool.not_eq_true <|
 And.intro @Bool.not_eq_false <|
 And.intro @Int.toNat_natCast <|
 And.intro @Int.natCast_zero <|
 And.intro @Int.sub_zero <|
 And.intro @Int.add_zero <|
 And.intro @Int.zero_add <|
 And.intro @Int.toNat_zero <|
 And.intro @List.getElem?_map.{0,0} <|
 And.intro @Int.natCast_nonneg <|
 And.intro @List.length_map.{0,0} <|
 And.intro @List.not_mem_nil.{0} <|
 And.intro @false_implies <|
 And.intro @List.length_append.{0} <|
 And.intro @or_false <|
 And.intro @or_true <|
 And.intro @true_or <|
 And.intro @false_or <|
 And.intro @or_self <|
 And.intro @j4 <|
 And.intro @oh <|
 And.intro @zk <|
 @Nat.le_refl
def bH:=And.intro @y7 <|
 And.intro @y6 <|
 And.intro @gR <|
 And.intro @ub <|
 And.intro @fv <|
 And.intro @uc <|
 And.intro @sQ <|
 And.intro @wV <|
 And.intro @gk <|
 And.intro @wU <|
 @not_false_eq_true
def G.cut(g:G)(n:Nat):G:=⟨g.w,fun b off=>g.fr b off∨∃(id:Nat) (l:Loc) (o:aq),n<=id∧g.env[id]?=some (some l)∧g.objs[id]?=some o∧o.live∧l.block=b∧l.lo<=off,g.env.take n,g.objs.take n⟩
theorem bE{α:Type}{l:List α}{n i:Nat}{x:α}:(l.take n)[i]?=some x↔i<n∧l[i]?=some x:=by
 rw[List.getElem?_take];split
 ·rename_i h;simp[h]
 rename_i h;simp[h]
theorem qC{g:G}{n b off:Nat}:ja (g.cut n) b off↔ja g b off:=by
 constructor
 ·rintro((h|⟨id,l,o,_,h1,h2,h3,h4,h5⟩)|⟨id,l,o,h1,h2,h3,h4,h5⟩)
  ·exact .inl h
  ·exact .inr ⟨id,l,o,h1,h2,h3,h4,h5⟩
  exact .inr ⟨id,l,o,(bE.1 h1).2,(bE.1 h2).2,h3,h4,h5⟩
 rintro(h|⟨id,l,o,h1,h2,h3,h4,h5⟩)
 ·exact .inl (.inl h)
 rcases Nat.lt_or_ge id n with bd|qj
 ·exact .inr ⟨id,l,o,bE.2 ⟨bd,h1⟩,bE.2 ⟨bd,h2⟩,h3,h4,h5⟩
 exact .inl (.inr ⟨id,l,o,qj,h1,h2,h3,h4,h5⟩)
theorem RV.cut{g:G}{n:Nat}(vW:n<=g.objs.length){x:aa}{u:Value}(h:RV g x u)(hb:x.upto n):RV (g.cut n) x u:=by
 induction h with
 | v hx=>exact .v hx
 | agg hl dI _ ih =>
  simp only[aa.upto,a6]at hb;exact .agg hl dI fun i c u a b=>ih i c u a b (hb c (List.mem_of_getElem? a))
 | nil ho nv =>
  simp only[aa.upto]at hb;refine .nil (fun id e=>?_) nv;subst e;have:=hb.2;simp only at this;simp only[G.cut,List.length_take];omega
 | aB c7 dI dv cW hs f hm hr ho ih =>
  rename_i sz xs o a cap;simp only[aa.upto,a6]at hb;refine .aB c7 dI dv cW hs f (fun j c hj=>⟨(hm j c hj).1,fun q=>(hm j c hj).2 (qC.1 q)⟩) (fun j c hj=>ih j c hj ?_) ?_
  ·have hc:=List.mem_of_getElem? hj;simp only[aw,List.mem_flatMap]at hc;obtain⟨x,hx,hc⟩:=hc;have:=hb.1 x hx;cases x with
   | agg cs =>
    simp only[aa.upto,a6]at this;exact this c hc
   | _=>simp only[aa.cells,List.mem_singleton]at hc;subst hc;exact this
  cases o with
  | sh=>trivial
  | nn=>trivial
  | ex=>exact ho
  | loc a=>exact ho
  | tok id =>
   have hid:=hb.2;simp only at hid;refine⟨by simp only[G.cut,List.length_take];omega,fun m eN=>?_⟩;obtain⟨h1,h2⟩:=ho.2 m (bE.1 eN).2;refine⟨h1,fun e=>?_⟩;rcases h2 e with q|⟨l,arr,t,q1,q2⟩
   ·exact .inl q
   exact .inr ⟨l,arr,t,bE.2 ⟨hid,q1⟩,q2⟩
 | ip ha dI f hm hr ih =>
  simp only[aa.upto,a6]at hb;exact .ip ha dI f (fun j c hj=>⟨(hm j c hj).1,fun q=>(hm j c hj).2 (qC.1 q)⟩) fun j c hj=>ih j c hj (hb c (List.mem_of_getElem? hj))
 | mp he ho lS =>
  simp only[aa.upto]at hb;exact .mp (bE.2 ⟨hb,he⟩) (bE.2 ⟨hb,ho⟩) lS
 | ms he ho lS hc qh cW =>
  simp only[aa.upto]at hb;exact .ms (bE.2 ⟨hb,he⟩) (bE.2 ⟨hb,ho⟩) lS hc qh cW
 | os he ho lS hc qh cW =>
  simp only[aa.upto]at hb;exact .os (bE.2 ⟨hb,he⟩) (bE.2 ⟨hb,ho⟩) lS hc qh cW
 | raw nv ho =>
  rename_i sz n0 id a cap;have hid:id<n:=hb;refine .raw nv ⟨by simp only[G.cut,List.length_take];omega,fun m eN=>?_⟩;obtain⟨h1,h2⟩:=ho.2 m (bE.1 eN).2;refine⟨h1,fun e=>?_⟩;rcases h2 e with q|⟨l,arr,t,q1,q2⟩
  ·exact .inl q
  exact .inr ⟨l,arr,t,bE.2 ⟨hid,q1⟩,q2⟩
 | mm he ho lS =>
  simp only[aa.upto]at hb;exact .mm (bE.2 ⟨hb,he⟩) (bE.2 ⟨hb,ho⟩) lS
 | im hh lS hl hk wK Hz _ ih =>
  simp only[aa.upto,my]at hb;exact .im hh (fun off q=>lS off (qC.1 q)) hl hk wK Hz fun i e kx a b=>ih i e kx a b (hb kx (List.mem_of_getElem? b))
 | fn hl xw _ _ ih Eg =>
  simp only[aa.upto,a6]at hb;exact .fn hl xw (fun i c u a b=>ih i c u a b (hb.1 c (List.mem_of_getElem? a))) fun i c u a b=>Eg i c u a b (hb.2 c (List.mem_of_getElem? a))
 | cN hl _ ih =>
  simp only[aa.upto,a6]at hb;exact .cN hl fun i c u a b=>ih i c u a b (hb c (List.mem_of_getElem? a))
theorem Good.cut{g:G}(hg:Good g){n:Nat}(hn:n<=g.objs.length)(hb:∀o∈g.objs.take n,o.upto n):Good (g.cut n) where
 glob:=⟨hg.glob.1,fun off q=>hg.glob.2 off (qC.1 q)⟩
 frlt:=fun b off h=>by
  rcases h with h|⟨id,l,o,_,h1,h2,h3,h4,_⟩
  ·exact hg.frlt b off h
  exact h4 ▸ hg.loc id l o h1 h2 h3
 fj:=fun id l o h1 h2 h3 off h=>by
  obtain⟨q1,h1⟩:=bE.1 h1;obtain⟨_,h2⟩:=bE.1 h2;rcases h with h|⟨nT,l',o',k0,k1,k2,k3,k4,_⟩
  ·exact hg.fj id l o h1 h2 h3 off h
  have:=hg.apart id nT l l' o o' h1 h2 h3 k1 k2 k3 k4.symm;omega
 len:=by simp[G.cut,hg.len]
 loc:=fun id l o h1 h2 h3=>hg.loc id l o (bE.1 h1).2 (bE.1 h2).2 h3
 apart:=fun id nT l l' o o' h1 h2 h3 k1 k2 k3=>hg.apart id nT l l' o o' (bE.1 h1).2 (bE.1 h2).2 h3 (bE.1 k1).2 (bE.1 k2).2 k3
 cells:=fun id cs h1=>by
  have wJ:=hb _ (List.mem_of_getElem? h1);obtain⟨q,h1⟩:=bE.1 h1;obtain⟨l,arr,t,e1,e0,e2,e3,e4,e5⟩:=hg.cells id cs h1;simp only[aq.upto,a6]at wJ;exact⟨l,arr,t,bE.2 ⟨q,e1⟩,e0,e2,e3,fun j c u a b=>(e4 j c u a b).cut hn (wJ c (List.mem_of_getElem? a)),e5⟩
 spare:=fun id m l h1 h2=>hg.spare id m l (bE.1 h1).2 (bE.1 h2).2
 map:=fun id kt es h1=>by
  have wJ:=hb _ (List.mem_of_getElem? h1);obtain⟨q,h1⟩:=bE.1 h1;obtain⟨l,ob,e1,e0,e2,e3⟩:=hg.map id kt es h1;obtain⟨Uq,wJ⟩:=aq.BE wJ;rw[my]at wJ;exact⟨l,ob,bE.2 ⟨q,e1⟩,e0,e2,e3.imp (fun p hp u r=>r.cut hn (wJ p hp)) (fun m clk arr q1 q2=>⟨q1,fun off q=>q2 off (qC.1 q)⟩) fun _ _ _ _ e _=>(KT.En Uq e).elim⟩
def G.fe(g:G)(n:Nat)(g':G):G:=⟨g'.w,g.fr,g'.env++g.env.drop n,g'.objs++g.objs.drop n⟩
theorem aQ{α:Type}{a l:List α}{n i:Nat}{x:α}(ha:a.length=n):(a++l.drop n)[i]?=some x↔(i<n∧a[i]?=some x)∨(n<=i∧l[i]?=some x):=by
 rw[List.getElem?_append];split
 ·rename_i h;constructor
  ·intro e;exact .inl ⟨by omega,e⟩
  rintro(⟨_,e⟩|⟨q,_⟩)
  ·exact e
  omega
 rename_i h;rw[List.getElem?_drop,show n+(i-a.length)=i by omega];constructor
 ·intro e;exact .inr ⟨by omega,e⟩
 rintro(⟨q,_⟩|⟨_,e⟩)
 ·omega
 exact e
structure pt(g:G)(n:Nat)(g':G):Prop where
 good:Good g
 le:Le (g.cut n) g'
 nQ:Good g'
 lt:n<=g.objs.length
 same:g'.objs.length=n
theorem pt.env{g g':G}{n:Nat}(h:pt g n g'):g'.env.length=n:=h.nQ.len.trans h.same
theorem pt.VZ{g g':G}{n b:Nat}(h:pt g n g')(hn:fY (g.fe n g') b):fY g' b∨∃(id:Nat) (l:Loc) (o:aq),n<=id∧g.env[id]?=some (some l)∧g.objs[id]?=some o∧o.live∧l.block=b:=by
 obtain⟨id,l,o,h1,h2,h3,h4⟩:=hn;rcases(aQ h.env).1 h1 with⟨q1,h1⟩|⟨q1,h1⟩
 ·rcases(aQ h.same).1 h2 with⟨q2,h2⟩|⟨q2,h2⟩
  ·exact .inl ⟨id,l,o,h1,h2,h3,h4⟩
  omega
 rcases(aQ h.same).1 h2 with⟨q2,h2⟩|⟨q2,h2⟩
 ·omega
 exact .inr ⟨id,l,o,q1,h1,h2,h3,h4⟩
theorem pt.own{g g':G}{n b off:Nat}(h:pt g n g'):ja (g.fe n g') b off->ja g' b off:=by
 rintro(hf|⟨id,l,o,h1,h2,h3,h4,h5⟩)
 ·refine .inl ?_;rw[h.le.fr];exact .inl hf
 rcases(aQ h.env).1 h1 with⟨q1,h1⟩|⟨q1,h1⟩
 ·rcases(aQ h.same).1 h2 with⟨q2,h2⟩|⟨q2,h2⟩
  ·exact .inr ⟨id,l,o,h1,h2,h3,h4,h5⟩
  omega
 rcases(aQ h.same).1 h2 with⟨q2,h2⟩|⟨q2,h2⟩
 ·omega
 refine .inl ?_;rw[h.le.fr];exact .inr ⟨id,l,o,q1,h1,h2,h3,h4,h5⟩
theorem G6{g:G}{n b:Nat}(h:fY (g.cut n) b):fY g b:=by
 obtain⟨id,l,o,h1,h2,h3,h4⟩:=h;exact⟨id,l,o,(bE.1 h1).2,(bE.1 h2).2,h3,h4⟩
theorem G7{g:G}{n b off:Nat}(h:jS (g.cut n) b off):jS g b off:=by
 obtain⟨id,l,o,h1,h2,h3,h4,h5⟩:=h;exact⟨id,l,o,(bE.1 h1).2,(bE.1 h2).2,h3,h4,h5⟩
theorem pt.block{g g':G}{n:Nat}(h:pt g n g'){id:Nat}{l:Loc}{o:aq}(hid:n<=id)(h1:g.env[id]?=some (some l))(h2:g.objs[id]?=some o)(h3:o.live):g'.w.heap[l.block]?=g.w.heap[l.block]?:=by
 refine(h.le.block l.block (h.good.loc id l o h1 h2 h3) ?_).1;rintro⟨nT,l',o',k1,k2,k3,k4⟩;obtain⟨q,k1⟩:=bE.1 k1;have:=h.good.apart nT id l' l o' o k1 (bE.1 k2).2 k3 h1 h2 h3 k4;omega
theorem pt.VX{g g':G}{n:Nat}(h:pt g n g'):Le g (g.fe n g') where
 os:=h.le.os
 tape:=h.le.tape
 output:=h.le.output
 fr:=rfl
 size:=h.le.size
 block:=fun k hk hh=>by
  obtain⟨q1,q2⟩:=h.le.block k hk (fun q=>hh (G6 q));refine⟨q1,fun q=>?_⟩;rcases h.VZ q with q|⟨id,l,o,_,q⟩
  ·exact q2 q
  exact hh ⟨id,l,o,q⟩
 cell:=fun b off x hx hh=>by
  obtain⟨q1,q2⟩:=h.le.cell b off x hx (fun q=>hh (G7 q));refine⟨q1,fun q=>?_⟩;obtain⟨id,l,o,h1,h2,h3,h4,h5⟩:=q;rcases(aQ h.env).1 h1 with⟨e1,h1⟩|⟨e1,h1⟩
  ·rcases(aQ h.same).1 h2 with⟨e2,h2⟩|⟨e2,h2⟩
   ·exact q2 ⟨id,l,o,h1,h2,h3,h4,h5⟩
   omega
  rcases(aQ h.same).1 h2 with⟨e2,h2⟩|⟨e2,h2⟩
  ·omega
  exact hh ⟨id,l,o,h1,h2,h3,h4,h5⟩
 len:=by
  simp only[G.fe,List.length_append,List.length_drop,h.same];omega
 spare:=fun id m hm=>by
  rcases Nat.lt_or_ge id n with q|q
  ·rcases h.le.spare id m (bE.2 ⟨q,hm⟩)with⟨m',k1,k2⟩|⟨o',k1,k2⟩
   ·exact .inl ⟨m',(aQ h.same).2 (.inl ⟨q,k1⟩),k2⟩
   exact .inr ⟨o',(aQ h.same).2 (.inl ⟨q,k1⟩),k2⟩
  exact .inl ⟨m,(aQ h.same).2 (.inr ⟨q,hm⟩),Nat.le_refl _⟩
 plain:=fun id o ho hs=>by
  have bd:=ag ho;have he:g.env[id]?=some (g.env[id]'(by rw[h.good.len];exact bd)):=List.getElem?_eq_getElem _;rcases Nat.lt_or_ge id n with q|q
  ·obtain⟨⟨o',k1,k2⟩,k3⟩:=h.le.plain id o (bE.2 ⟨q,ho⟩) hs;refine⟨⟨o',(aQ h.same).2 (.inl ⟨q,k1⟩),k2⟩,?_⟩;rw[he];refine(aQ h.env).2 (.inl ⟨q,?_⟩);rw[k3];exact bE.2 ⟨q,he⟩
  refine⟨⟨o,(aQ h.same).2 (.inr ⟨q,ho⟩),hs⟩,?_⟩;rw[he];exact(aQ h.env).2 (.inr ⟨q,he⟩)
 gone:=fun id ho=>by
  rcases Nat.lt_or_ge id n with q|q
  ·exact(aQ h.same).2 (.inl ⟨q,h.le.gone id (bE.2 ⟨q,ho⟩)⟩)
  exact(aQ h.same).2 (.inr ⟨q,ho⟩)
 tok:=fun id m hm eN=>by
  have bd:=ag hm;have he:g.env[id]?=some (g.env[id]'(by rw[h.good.len];exact bd)):=List.getElem?_eq_getElem _;rcases(aQ h.same).1 eN with⟨q,eN⟩|⟨q,eN⟩
  ·obtain⟨k1,k2⟩:=h.le.tok id m (bE.2 ⟨q,hm⟩) eN;refine⟨?_,fun l hl=>k2 l (bE.2 ⟨q,hl⟩)⟩;rw[he];refine(aQ h.env).2 (.inl ⟨q,?_⟩);rw[k1];exact bE.2 ⟨q,he⟩
  refine⟨?_,fun l hl=>h.block q hl hm trivial⟩;rw[he];exact(aQ h.env).2 (.inr ⟨q,he⟩)
theorem RV.fe{g g':G}{n:Nat}(hc:pt g n g'){x:aa}{u:Value}(h:RV g' x u):RV (g.fe n g') x u:=by
 have bd:∀{id:Nat} {o:aq},g'.objs[id]?=some o->id<n:=fun ho=>by
  have:=ag ho;rw[hc.same]at this;exact this
 induction h with
 | v hx=>exact .v hx
 | agg hl dI _ ih=>exact .agg hl dI ih
 | nil ho nv =>
  refine .nil (fun id e=>?_) nv;have:=ho id e;simp only[G.fe,List.length_append];omega
 | aB c7 dI dv cW hs f hm hr ho ih =>
  rename_i sz xs o a cap;refine .aB c7 dI dv cW hs f (fun j c hj=>⟨(hm j c hj).1,fun q=>(hm j c hj).2 (hc.own q)⟩) ih ?_;cases o with
  | sh=>trivial
  | nn=>trivial
  | ex=>exact ho
  | loc a=>exact ho
  | tok id =>
   have hid:=ho.1;rw[hc.same]at hid;refine⟨by simp only[G.fe,List.length_append,hc.same];omega,fun m eN=>?_⟩;rcases(aQ hc.same).1 eN with⟨q,eN⟩|⟨q,_⟩
   ·obtain⟨h1,h2⟩:=ho.2 m eN;refine⟨h1,fun e=>?_⟩;rcases h2 e with k|⟨l,arr,t,k1,k2⟩
    ·exact .inl k
    exact .inr ⟨l,arr,t,(aQ hc.env).2 (.inl ⟨q,k1⟩),k2⟩
   omega
 | ip ha dI f hm hr ih=>exact .ip ha dI f (fun j c hj=>⟨(hm j c hj).1,fun q=>(hm j c hj).2 (hc.own q)⟩) ih
 | mp he ho lS=>exact .mp ((aQ hc.env).2 (.inl ⟨bd ho,he⟩)) ((aQ hc.same).2 (.inl ⟨bd ho,ho⟩)) lS
 | ms he ho lS qL qh cW=>exact .ms ((aQ hc.env).2 (.inl ⟨bd ho,he⟩)) ((aQ hc.same).2 (.inl ⟨bd ho,ho⟩)) lS qL qh cW
 | os he ho lS qL qh cW=>exact .os ((aQ hc.env).2 (.inl ⟨bd ho,he⟩)) ((aQ hc.same).2 (.inl ⟨bd ho,ho⟩)) lS qL qh cW
 | raw nv ho =>
  rename_i sz n0 id a cap;have hid:=ho.1;rw[hc.same]at hid;refine .raw nv ⟨by simp only[G.fe,List.length_append,hc.same];omega,fun m eN=>?_⟩;rcases(aQ hc.same).1 eN with⟨q,eN⟩|⟨q,_⟩
  ·obtain⟨h1,h2⟩:=ho.2 m eN;refine⟨h1,fun e=>?_⟩;rcases h2 e with k|⟨l,arr,t,k1,k2⟩
   ·exact .inl k
   exact .inr ⟨l,arr,t,(aQ hc.env).2 (.inl ⟨q,k1⟩),k2⟩
  omega
 | mm he ho lS=>exact .mm ((aQ hc.env).2 (.inl ⟨bd ho,he⟩)) ((aQ hc.same).2 (.inl ⟨bd ho,ho⟩)) lS
 | im hh lS hl hk wK Hz _ ih=>exact .im hh (fun off q=>lS off (hc.own q)) hl hk wK Hz ih
 | fn hl xw _ _ ih Eg=>exact .fn hl xw ih Eg
 | cN hl _ ih=>exact .cN hl ih
theorem Kz.fe{g g':G}{n:Nat}(hc:pt g n g'){bf m:Nat}{l:List UInt8}{v:Value}(k:Kz g' bf m l v):Kz (g.fe n g') bf m l v:=by
 obtain⟨bd,hk⟩:=k;have hn:bf<n:=by rw[<-hc.same];exact bd
 refine⟨by simp only[G.fe,List.length_append];omega,fun m0 h0=>?_⟩;rcases(aQ hc.same).1 h0 with⟨_,h0⟩|⟨q,_⟩
 ·obtain⟨h1,h2⟩:=hk m0 h0;refine⟨h1,fun e=>?_⟩;exact(h2 e).u9 fun lb q1=>⟨(aQ hc.env).2 (.inl ⟨hn,q1⟩),rfl⟩
 omega
theorem pt.Ps{g g':G}{n:Nat}(h:pt g n g'):Good (g.fe n g') where
 glob:=⟨h.nQ.glob.1,fun off q=>h.nQ.glob.2 off (h.own q)⟩
 frlt:=fun b off hf=>Nat.lt_of_lt_of_le (h.good.frlt b off hf) h.le.size
 fj:=fun id l o h1 h2 h3 off hf=>by
  rcases(aQ h.env).1 h1 with⟨q,h1⟩|⟨q,h1⟩
  ·rcases(aQ h.same).1 h2 with⟨_,h2⟩|⟨q2,_⟩
   ·refine h.nQ.fj id l o h1 h2 h3 off ?_;rw[h.le.fr];exact .inl hf
   omega
  rcases(aQ h.same).1 h2 with⟨q2,_⟩|⟨_,h2⟩
  ·omega
  exact h.good.fj id l o h1 h2 h3 off hf
 len:=by simp[G.fe,h.env,h.same,h.good.len]
 loc:=fun id l o h1 h2 h3=>by
  rcases(aQ h.env).1 h1 with⟨q,h1⟩|⟨q,h1⟩
  ·rcases(aQ h.same).1 h2 with⟨_,h2⟩|⟨q2,_⟩
   ·exact h.nQ.loc id l o h1 h2 h3
   omega
  rcases(aQ h.same).1 h2 with⟨q2,_⟩|⟨_,h2⟩
  ·omega
  exact Nat.lt_of_lt_of_le (h.good.loc id l o h1 h2 h3) h.le.size
 apart:=fun id nT l l' o o' h1 h2 h3 k1 k2 k3 ru=>by
  have hx:∀{i:Nat} {l:Loc} {o:aq},(g.fe n g').env[i]?=some (some l)->(g.fe n g').objs[i]?=some o->(i<n∧g'.env[i]?=some (some l)∧g'.objs[i]?=some o)∨(n<=i∧g.env[i]?=some (some l)∧g.objs[i]?=some o):=by
   intro i l o h1 h2;rcases(aQ h.env).1 h1 with⟨q,h1⟩|⟨q,h1⟩
   ·rcases(aQ h.same).1 h2 with⟨_,h2⟩|⟨q2,_⟩
    ·exact .inl ⟨q,h1,h2⟩
    omega
   rcases(aQ h.same).1 h2 with⟨q2,_⟩|⟨_,h2⟩
   ·omega
   exact .inr ⟨q,h1,h2⟩
  rcases hx h1 h2 with⟨q,e1,e2⟩|⟨q,e1,e2⟩
  ·rcases hx k1 k2 with⟨q',f1,f2⟩|⟨q',f1,f2⟩
   ·exact h.nQ.apart id nT l l' o o' e1 e2 h3 f1 f2 k3 ru
   refine absurd ?_ (h.nQ.fj id l o e1 e2 h3 l'.lo);rw[h.le.fr];exact .inr ⟨nT,l',o',q',f1,f2,k3,ru.symm,Nat.le_refl _⟩
  rcases hx k1 k2 with⟨q',f1,f2⟩|⟨q',f1,f2⟩
  ·refine absurd ?_ (h.nQ.fj nT l' o' f1 f2 k3 l.lo);rw[h.le.fr];exact .inr ⟨id,l,o,q,e1,e2,h3,ru,Nat.le_refl _⟩
  exact h.good.apart id nT l l' o o' e1 e2 h3 f1 f2 k3 ru
 cells:=fun id cs h1=>by
  rcases(aQ h.same).1 h1 with⟨q,h1⟩|⟨q,h1⟩
  ·obtain⟨l,arr,t,e1,e0,e2,e3,e4,e5⟩:=h.nQ.cells id cs h1;exact⟨l,arr,t,(aQ h.env).2 (.inl ⟨q,e1⟩),e0,e2,e3,fun j c u a b=>(e4 j c u a b).fe h,e5⟩
  obtain⟨l,arr,t,e1,e0,e2,e3,e4,e5⟩:=h.good.cells id cs h1;exact⟨l,arr,t,(aQ h.env).2 (.inr ⟨q,e1⟩),e0,(h.block q e1 h1 trivial).trans e2,e3,fun j c u a b=>(e4 j c u a b).mono h.VX,e5⟩
 spare:=fun id m l h1 h2=>by
  rcases(aQ h.same).1 h1 with⟨q,h1⟩|⟨q,h1⟩
  ·rcases(aQ h.env).1 h2 with⟨_,h2⟩|⟨q2,_⟩
   ·exact h.nQ.spare id m l h1 h2
   omega
  rcases(aQ h.env).1 h2 with⟨q2,_⟩|⟨_,h2⟩
  ·omega
  obtain⟨arr,t,e⟩:=h.good.spare id m l h1 h2;exact⟨arr,t,(h.block q h2 h1 trivial).trans e⟩
 map:=fun id kt es h1=>by
  rcases(aQ h.same).1 h1 with⟨q,h1⟩|⟨q,h1⟩
  ·obtain⟨l,ob,e1,e0,e2,e3⟩:=h.nQ.map id kt es h1;exact⟨l,ob,(aQ h.env).2 (.inl ⟨q,e1⟩),e0,e2,e3.imp (fun p hp u r=>r.fe h) (fun m clk arr q1 q2=>⟨q1,fun off q=>q2 off (h.own q)⟩) fun _ _ _ _ _ q=>q.fe h⟩
  obtain⟨l,ob,e1,e0,e2,e3⟩:=h.good.map id kt es h1;exact⟨l,ob,(aQ h.env).2 (.inr ⟨q,e1⟩),e0,(h.block q e1 h1 trivial).trans e2,e3.mono h.VX⟩
theorem aK.frame{P:Program}{f:FuncId}{O O':List aq}{args:List aa}{r:aa}(h:aK P f O args fun r' O1=>r'=r∧O1=O')(hlen:O'.length=O.length)(hb:av O.length args)(hO:∀o∈O,o.upto O.length)(X:List aq) :
  aK P f (O++X) args fun r' O1=>r'=r∧O1=O'++X:=by
 refine⟨h.1,?_⟩;intro g vs hg ho ha;have hn:O.length<=g.objs.length:=by simp[ho]
 have gb:g.objs.take O.length=O:=by simp[ho]
 have Gp:jq (g.cut O.length) args vs:=⟨ha.1,fun j c u a b=>(ha.2 j c u a b).cut hn (a6.1 hb c (List.mem_of_getElem? a))⟩
 refine(h.2 (g.cut O.length) vs (hg.cut hn (by rw[gb];exact hO)) gb Gp).mono ?_;rintro e w' ⟨g',v,r',h1,h2,h3,h4,h5,h6,h7⟩;subst h6;have hc:pt g O.length g':=⟨hg,h3,h4,hn,by rw[h7,hlen]⟩
 exact⟨g.fe O.length g',v,r',h1,h2,hc.VX,hc.Ps,h5.fe hc,rfl,by simp[G.fe,h7,ho]⟩
end Go.Av
namespace Go.Av
open Go.ChangeShapes Go.WideShapes Go.RowKit
def g0(w:World):G:=⟨w,fun _ _=>False,[],[]⟩
theorem Pr{w:World}{b off:Nat}:¬ja (g0 w) b off:=by
 rintro(h|⟨id,l,o,h1,_⟩)
 ·exact h
 simp[g0]at h1
theorem Hs{w:World}{b:Nat}:¬fY (g0 w) b:=by
 rintro⟨id,l,o,h1,_⟩;simp[g0]at h1
def DN(w:World):Prop:=∃(t:TypeId) (fz:Nat×Nat),w.heap[LY]?=some (.cells QC.toArray t fz)
theorem KU(w:World)(h:DN w):Good (g0 w) where
 glob:=⟨h,fun _=>Pr⟩
 frlt:=fun _ _ h=>h.elim
 fj:=fun _ _ _ h=>by simp[g0]at h
 len:=rfl
 loc:=fun _ _ _ h=>by simp[g0]at h
 apart:=fun _ _ _ _ _ _ h=>by simp[g0]at h
 cells:=fun _ _ h=>by simp[g0]at h
 spare:=fun _ _ _ h=>by simp[g0]at h
 map:=fun _ _ _ h=>by simp[g0]at h
section
variable {H:Type} {enc:TypeId×Value->H} {P:Program} {w:World} {sp:Nat->Bool} {held:Bool}
theorem pn(hl:laidOutB P=true){W W':World}{Xb:Nat->Bool}:∀{ts:List TypeId} {vs:List Value} {ds:List (DataW H)} {ps:List MemPlace},(∀t∈ts,P.readableRec t=true∧t<P.types.size) ->
  DataW.TrodAll enc P W 0 (fun _=>true) true ts vs ds ps->(∀p∈ps,W.sameAt W' p)->(∀p∈ps,Xb p.block=true)->DataW.TrodAll enc P W' 0 Xb true ts vs ds ps
 | [],vs,ds,ps,_,h,_,_=>by
  obtain⟨rfl,rfl,rfl⟩:=trodAll_nil h;rfl
 | t::ts,vs,ds,ps,vY,h,h1,h2=>by
  obtain⟨v,Zn,d,YR,p,q,rfl,rfl,rfl,hd,hr⟩:=trodAll_cons h;obtain⟨k1,k2⟩:=vY t (by simp);exact⟨p,q,WideElems.Trod_stays hl k1 k2 hd (fun x hx=>h1 x (List.mem_append.2 (.inl hx))) (fun x hx=>h2 x (List.mem_append.2 (.inl hx))),
   pn hl (fun t ht=>vY t (by simp[ht])) hr (fun x hx=>h1 x (List.mem_append.2 (.inr hx))) (fun x hx=>h2 x (List.mem_append.2 (.inr hx))),rfl⟩
theorem yU(hl:laidOutB P=true){fn:Func}{s:ChangeSpec}{apart fresh handsOn again:Bool}{W:World}{args:Array Value}{ds gs:List (DataW H)}{before:List MemPlace}{f:FuncId}{xs:List aa}{tb:TypeId}
  (Vs:∀t∈fn.params.toList,P.readableRec t=true∧t<P.types.size) (OS:s.vars=[]) (eK:fn.resultTypes = #[tb]) (WX:P.underlying tb=some .bool)
  (hW:DataW.Whole enc P fn.params.toList s.vars apart W args.toList ds gs before)
  (pP:s.fn H (ds++gs) = { results:=[.lit (.bool true)],args:=ds })
  (Vt:bw P f xs (.v (.bool true))) (XB:jq (g0 W) xs args) (XS:DN W) :
  Calls P f args W fun e W'=>∃v,e=.returned v∧s.post enc P fn apart fresh handsOn again W args v W':=by
 refine(Vt.2 (g0 W) args (KU W XS) rfl XB).mono fun e W' ⟨g',v,r,h1,h2,h3,_,h5,h6,_⟩=>?_;subst h6;cases h5;subst h2;have CF:Below W.heap.size W g'.w:=⟨h3.os,h3.tape,h3.output,h3.size,fun k hk=>(h3.block k hk Hs).1⟩
 have bd:=hW.lt;obtain⟨p,q,hA,hV,rfl,Ou,AJ⟩:=id hW;have hq:gs=[]∧q=[]:=trodVars_none (by rw[OS]at hV;exact hV);obtain⟨rfl,rfl⟩:=hq;simp only[List.append_nil]at bd Ou AJ pP;have ir:∀x∈p,W.sameAt g'.w x:=fun x hx=>CF.same (bd x hx);have eZ:∀sp:Nat->Bool,(∀x∈p,sp x.block=true)->DataW.TrodAll enc P g'.w 0 sp true fn.params.toList args.toList ds p:=fun sp sB=>pn hl Vs hA ir sB;have hR:∀(b:Nat) (sp:Nat->Bool) (hd:Bool),DataW.TrodAll enc P g'.w b sp hd fn.resultTypes.toList ((Value.bool true).resultList fn.resultTypes.size) [.lit (.bool true)] []:=fun b sp hd=>by
  rw[eK];exact trodAll_mk1 (shut_bool WX true)
 have W2:∀sp:Nat->Bool,DataW.TrodVars enc P g'.w sp s.vars [] []:=fun sp=>by
  rw[OS];rfl
 refine⟨_,h1,ds,[],p++[],[],p,[],hW,?_,?_,?_,CF.frame _,fun _=>⟨?_,[.lit (.bool true)]++ds,[],([]++p)++[],⟨[]++p,[],?_,W2 _,rfl,?_,?_⟩,?_⟩⟩
 ·rw[List.append_nil,pP];exact hR _ _ _
 ·rw[List.append_nil,pP];exact eZ _ fun x hx=>by simpa using bd x hx
 ·rw[List.append_nil,pP];exact W2 _
 ·exact ok_one eK rfl (okWide_bool_mk WX true)
 ·exact trodAll_append (eZ (fun _=>true) fun _ _=>rfl) (hR _ _ _)
 ·intro b off hx;simp only[List.nil_append,List.append_nil]at hx;rw[CF.frozen (p:=⟨b,off,none⟩) (bd _ hx)];exact Ou b off hx
 ·intro ha;simpa using AJ ha
 intro x hx _;simpa using hx
end
section
variable {P:Program} {n:Nat} {t:TypeId} {cs:List aa}
end
end Go.Av
namespace Go.Av
theorem uL{g:G}(hg:Go.Av.Good g){w':World}(h1:w'.os=g.w.os)(h2:w'.tape=g.w.tape)(h3:w'.output=g.w.output)(h4:g.w.heap.size<=w'.heap.size)(h5:∀k,k<g.w.heap.size->w'.heap[k]?=g.w.heap[k]?) :
  Le g ⟨w',g.fr,g.env,g.objs⟩∧Go.Av.Good ⟨w',g.fr,g.env,g.objs⟩:=by
 have hle:Le g ⟨w',g.fr,g.env,g.objs⟩:={
  os:=h1
  tape:=h2
  output:=h3
  fr:=rfl
  size:=h4
  block:=fun k hk h=>⟨h5 k hk,h⟩
  cell:=fun b off x hx hn=>⟨by
   have:=lr hx;simpa[G.cell,gh (h5 b this)]using hx,hn⟩
  len:=Nat.le_refl _
  spare:=fun _ m h=>.inl ⟨m,h,Nat.le_refl _⟩
  plain:=fun _ o h k=>⟨⟨o,h,k⟩,rfl⟩
  gone:=fun _ h=>h
  tok:=fun id m h _=>⟨rfl,fun l hl=>h5 _ (hg.loc id l _ hl h trivial)⟩ }
 exact⟨hle,{
  frlt:=fun b off h=>Nat.lt_of_lt_of_le (hg.frlt b off h) h4
  fj:=hg.fj
  len:=hg.len
  loc:=fun id l o' a b c=>Nat.lt_of_lt_of_le (hg.loc id l o' a b c) h4
  apart:=hg.apart
  cells:=fun id cs h=>by
   obtain⟨l,arr,t,e1,e0,e2,e3,e4,e5⟩:=hg.cells id cs h;exact⟨l,arr,t,e1,e0,(h5 _ (aO e2)).trans e2,e3,fun j c u a b=>(e4 j c u a b).mono hle,e5⟩
  spare:=fun id m l a b=>by
   obtain⟨arr,t,e⟩:=hg.spare id m l a b;exact⟨arr,t,(h5 _ (aO e)).trans e⟩
  map:=fun id kt es h=>by
   obtain⟨l,ob,e1,e0,e2,e3⟩:=hg.map id kt es h;exact⟨l,ob,e1,e0,(h5 _ (aO e2)).trans e2,e3.mono hle⟩
  glob:=hg.glob.mono hle }⟩
end Go.Av
namespace Go.Proofs.YtocdpaifmnkoaaaGreatDoor
open Go.Av Go.RowKit Go.Proofs Go.Sort
def sG:Go.Shelf.Ren:=⟨fun|129=>199|171=>119|243=>161|246=>181|283=>189|284=>190|285=>191|286=>192|317=>198|318=>200|319=>201|320=>202|337=>221|338=>222|n=>n,fun|0=>0|2=>2|3=>3|4=>4|5=>5|9=>9|20=>20|37=>210|46=>283|51=>288|53=>158|171=>275|173=>278|212=>287|213=>289|232=>311|233=>312|n=>n,fun|17=>1|18=>2|19=>3|n=>n⟩
theorem Lx:Go.Proofs.Lays.n171 Tryz.prog sG:={
 mixed:=by kernel_rfl,
 f129:=Tryz.func199.trans (congrArg some (by kernel_rfl)),
 f171:=Tryz.func119.trans (congrArg some (by kernel_rfl)),
 f243:=Tryz.func161.trans (congrArg some (by kernel_rfl)),
 f246:=Tryz.func181.trans (congrArg some (by kernel_rfl)),
 f283:=Tryz.func189.trans (congrArg some (by kernel_rfl)),
 f284:=Tryz.func190.trans (congrArg some (by kernel_rfl)),
 f285:=Tryz.func191.trans (congrArg some (by kernel_rfl)),
 f286:=Tryz.func192.trans (congrArg some (by kernel_rfl)),
 f317:=Tryz.func198.trans (congrArg some (by kernel_rfl)),
 f318:=Tryz.func200.trans (congrArg some (by kernel_rfl)),
 f319:=Tryz.func201.trans (congrArg some (by kernel_rfl)),
 f320:=Tryz.func202.trans (congrArg some (by kernel_rfl)),
 f337:=Tryz.func221.trans (congrArg some (by kernel_rfl)),
 f338:=Tryz.func222.trans (congrArg some (by kernel_rfl)),
 t0:=Tryz.underlying0,
 a0:=Tryz.isAgg0,
 z0:=Tryz.sizeOf0,
 v0:=Tryz.zeroValue0,
 t2:=Tryz.underlying2,
 a2:=Tryz.isAgg2,
 z2:=Tryz.sizeOf2,
 v2:=Tryz.zeroValue2,
 t3:=Tryz.underlying3,
 a3:=Tryz.isAgg3,
 z3:=Tryz.sizeOf3,
 v3:=Tryz.zeroValue3,
 t4:=Tryz.underlying4,
 a4:=Tryz.isAgg4,
 z4:=Tryz.sizeOf4,
 v4:=Tryz.zeroValue4,
 t5:=Tryz.underlying5,
 a5:=Tryz.isAgg5,
 z5:=Tryz.sizeOf5,
 v5:=Tryz.zeroValue5,
 t9:=Tryz.underlying9,
 a9:=Tryz.isAgg9,
 z9:=Tryz.sizeOf9,
 v9:=Tryz.zeroValue9,
 t20:=Tryz.underlying20,
 a20:=Tryz.isAgg20,
 z20:=Tryz.sizeOf20,
 v20:=Tryz.zeroValue20,
 t37:=Tryz.underlying210,
 a37:=Tryz.isAgg210,
 z37:=Tryz.sizeOf210,
 v37:=Tryz.zeroValue210,
 t46:=Tryz.underlying283,
 a46:=Tryz.isAgg283,
 z46:=Tryz.sizeOf283,
 v46:=Tryz.zeroValue283,
 t51:=Tryz.underlying288,
 a51:=Tryz.isAgg288,
 z51:=Tryz.sizeOf288,
 v51:=Tryz.zeroValue288,
 t53:=Tryz.underlying158,
 a53:=Tryz.isAgg158,
 z53:=Tryz.sizeOf158,
 v53:=Tryz.zeroValue158,
 t171:=Tryz.underlying275,
 a171:=Tryz.isAgg275,
 z171:=Tryz.sizeOf275,
 v171:=Tryz.zeroValue275,
 t173:=Tryz.underlying278,
 a173:=Tryz.isAgg278,
 z173:=Tryz.sizeOf278,
 v173:=Tryz.zeroValue278,
 t212:=Tryz.underlying287,
 a212:=Tryz.isAgg287,
 z212:=Tryz.sizeOf287,
 v212:=Tryz.zeroValue287,
 t213:=Tryz.underlying289,
 a213:=Tryz.isAgg289,
 z213:=Tryz.sizeOf289,
 t232:=Tryz.underlying311,
 a232:=Tryz.isAgg311,
 z232:=Tryz.sizeOf311,
 v232:=Tryz.zeroValue311,
 t233:=Tryz.underlying312,
 a233:=Tryz.isAgg312,
 z233:=Tryz.sizeOf312,
 v233:=Tryz.zeroValue312,
 g17:=by kernel_rfl,
 g18:=by kernel_rfl,
 g19:=by kernel_rfl }
theorem H9:Go.Proofs.LaysM.n171 Tryz.prog sG:={ Lx with
 i0:=by kernel_rfl,
 i2:=by kernel_rfl,
 i3:=by kernel_rfl,
 i4:=by kernel_rfl,
 i5:=by kernel_rfl,
 i9:=by kernel_rfl,
 i20:=by kernel_rfl,
 i37:=by kernel_rfl,
 i46:=by kernel_rfl,
 i51:=by kernel_rfl,
 i53:=by kernel_rfl,
 i171:=by kernel_rfl,
 i173:=by kernel_rfl,
 i212:=by kernel_rfl,
 i232:=by kernel_rfl,
 i233:=by kernel_rfl,
 m17:=by kernel_rfl,
 m18:=by kernel_rfl,
 m19:=by kernel_rfl }
theorem Rv {g : G} (hg : Go.Av.Good g) : Lib.TabIs Tryz.prog g.w "internal/strconv.uint64pow10" .u64 Lib.pow10Tab := by
 obtain⟨⟨t,fz,h⟩,_⟩:=hg.glob;unfold Lib.TabIs World.var?;rw [show Tryz.prog.globalNamed "internal/strconv.uint64pow10" = some 1 by kernel_rfl];simp only [Option.bind_some];rw [show g.w.heap[1]?=_ from h];simp [QC,Lib.pow10Tab]
def qP(n:Int):ByteArray:=⟨(Lib.itoa n).toArray⟩
theorem Fx(n:Int)(h0:-9223372036854775808<=n)(h1:n<=9223372036854775807):bw Tryz.prog 119 [.v (.int .i64 n)] (.v (.string (qP n))):=by
 refine⟨⟨_,Tryz.func119,by kernel_rfl,by kernel_rfl⟩,fun g vs hg xu ha=>?_⟩;obtain⟨q1,q2⟩:=ha;simp only[List.length_singleton]at q1;obtain⟨e,_⟩:=(q2 0 _ _ rfl (Array.getElem?_eq_getElem (by omega))).b6;have Yo:vs = #[.int .i64 n]:=by
  apply Array.ext
  ·simpa using q1
  intro i Ki Gs;have:i=0:=by omega
  subst this;exact e
 subst Yo;refine(Any.strconv_Itoa H9 n h0 h1 g.w (Rv hg)).mono ?_;rintro e w' ⟨rfl,k,os,rfl⟩;have hd:(g.w.drewN k).heap=g.w.heap∧(g.w.drewN k).os=g.w.os∧(g.w.drewN k).tape=g.w.tape∧(g.w.drewN k).output=g.w.output:=⟨rfl,rfl,rfl,rfl⟩
 obtain⟨r1,r2⟩:=uL hg (w':=grow (g.w.drewN k) os) rfl rfl rfl (by simp[grow,hd.1]) (fun j hj=>by
  simp only[grow,hd.1];rw[Array.getElem?_append,if_pos hj])
 exact⟨_,_,_,rfl,rfl,r1,r2,.v trivial,rfl,xu⟩
end Go.Proofs.YtocdpaifmnkoaaaGreatDoor
namespace Go.Proofs.YtocdpaifmnkoaaaGreatDoor
open Go.Av
def aP:ee
 | 1=>some ⟨1,8,[.v .nilFunc],.other⟩
 | 2=>some ⟨1,8,[.v (.int .i64 0)],.other⟩
 | 3=>some ⟨1,8,[.v (.int .i64 0)],.other⟩
 | 4=>some ⟨1,1,[.v (.bool false)],.other⟩
 | 5=>some ⟨1,1,[.v (.int .u8 0)],.other⟩
 | 9=>some ⟨1,16,[.v (.string ByteArray.empty)],.other⟩
 | 12=>some ⟨1,8,[.v (.int .u64 0)],.other⟩
 | 13=>some ⟨2,24,[.v (.string ByteArray.empty),.v (.int .u64 0)],.struct [(0,9),(1,12)]⟩
 | 21=>some ⟨1,4,[.v (.int .i32 0)],.other⟩
 | 23=>some ⟨1,8,[.v .nilFunc],.other⟩
 | 24=>some ⟨1,8,[.v (.int .i64 0)],.other⟩
 | 26=>some ⟨1,24,[.aB 7 [] .ex],.slice 49⟩
 | 27=>some ⟨2,32,[.v (.int .i64 0),.aB 7 [] .ex],.struct [(0,3),(1,26)]⟩
 | 28=>some ⟨2,32,[.v (.int .i64 0),.aB 7 [] .ex],.struct [(0,3),(1,26)]⟩
 | 30=>some ⟨1,24,[.aB 4 [] .ex],.slice 72⟩
 | 31=>some ⟨1,24,[.aB 4 [] .ex],.struct [(0,30)]⟩
 | 32=>some ⟨1,24,[.aB 4 [] .ex],.struct [(0,30)]⟩
 | 34=>some ⟨1,24,[.aB 1 [] .ex],.slice 3⟩
 | 35=>some ⟨3,40,[.aB 1 [] .ex,.v (.int .i64 0),.v (.int .i64 0)],.struct [(0,34),(1,3),(2,3)]⟩
 | 36=>some ⟨3,40,[.aB 1 [] .ex,.v (.int .i64 0),.v (.int .i64 0)],.struct [(0,34),(1,3),(2,3)]⟩
 | 39=>some ⟨1,24,[.aB 2 [] .ex],.slice 28⟩
 | 40=>some ⟨2,32,[.aB 2 [] .ex,.v (.int .i64 0)],.struct [(0,39),(1,3)]⟩
 | 41=>some ⟨2,32,[.aB 2 [] .ex,.v (.int .i64 0)],.struct [(0,39),(1,3)]⟩
 | 44=>some ⟨1,24,[.aB 4 [] .ex],.slice 53⟩
 | 45=>some ⟨1,24,[.aB 2 [] .ex],.slice 58⟩
 | 46=>some ⟨5,72,[.v (.int .i64 0),.v (.int .i64 0),.v (.int .i64 0),.aB 1 [] .ex,.aB 2 [] .ex],.struct [(0,3),(1,3),(2,3),(3,34),(4,45)]⟩
 | 47=>some ⟨5,72,[.v (.int .i64 0),.v (.int .i64 0),.v (.int .i64 0),.aB 1 [] .ex,.aB 2 [] .ex],.struct [(0,3),(1,3),(2,3),(3,34),(4,45)]⟩
 | 48=>some ⟨7,120,[.aB 1 [] .ex,.aB 4 [] .ex,.v (.int .i64 0),.v (.int .i64 0),.v (.int .i64 0),.aB 1 [] .ex,.aB 2 [] .ex],.struct [(0,34),(1,44),(2,47)]⟩
 | 49=>some ⟨7,120,[.aB 1 [] .ex,.aB 4 [] .ex,.v (.int .i64 0),.v (.int .i64 0),.v (.int .i64 0),.aB 1 [] .ex,.aB 2 [] .ex],.struct [(0,34),(1,44),(2,47)]⟩
 | 50=>some ⟨1,8,[.v (.pointer none)],.other⟩
 | 52=>some ⟨4,48,[.v (.int .i64 0),.v (.int .i64 0),.v (.int .i64 0),.aB 1 [] .ex],.struct [(0,3),(1,3),(2,3),(3,34)]⟩
 | 53=>some ⟨4,48,[.v (.int .i64 0),.v (.int .i64 0),.v (.int .i64 0),.aB 1 [] .ex],.struct [(0,3),(1,3),(2,3),(3,34)]⟩
 | 54=>some ⟨1,8,[.v .nilFunc],.other⟩
 | 57=>some ⟨2,32,[.v (.int .i64 0),.aB 1 [] .ex],.struct [(0,3),(1,34)]⟩
 | 58=>some ⟨2,32,[.v (.int .i64 0),.aB 1 [] .ex],.struct [(0,3),(1,34)]⟩
 | 59=>some ⟨1,8,[.v .nilFunc],.other⟩
 | 60=>some ⟨1,8,[.v .nilFunc],.other⟩
 | 62=>some ⟨1,8,[.v (.pointer none)],.other⟩
 | 64=>some ⟨1,8,[.v (.map none)],.map 3 3⟩
 | 65=>some ⟨1,8,[.v (.pointer none)],.other⟩
 | 66=>some ⟨1,24,[.aB 1 [] .ex],.slice 4⟩
 | 67=>some ⟨10,120,[.v (.pointer none),.v (.pointer none),.v (.pointer none),.aB 4 [] .ex,.v (.map none),.aB 1 [] .ex,.aB 1 [] .ex,.v (.int .i64 0),.v (.bool false),.v (.bool false)],.struct [(0,65),(1,62),(2,62),(3,30),(4,64),(5,66),(6,34),(7,3),(8,4),(9,4)]⟩
 | 68=>some ⟨10,120,[.v (.pointer none),.v (.pointer none),.v (.pointer none),.aB 4 [] .ex,.v (.map none),.aB 1 [] .ex,.aB 1 [] .ex,.v (.int .i64 0),.v (.bool false),.v (.bool false)],.struct [(0,65),(1,62),(2,62),(3,30),(4,64),(5,66),(6,34),(7,3),(8,4),(9,4)]⟩
 | 69=>some ⟨1,24,[.aB 2 [] .ex],.slice 73⟩
 | 70=>some ⟨1,24,[.aB 3 [] .ex],.slice 76⟩
 | 71=>some ⟨4,64,[.v (.int .i64 0),.v (.int .i64 0),.aB 2 [] .ex,.aB 3 [] .ex],.struct [(0,3),(1,3),(2,69),(3,70)]⟩
 | 72=>some ⟨4,64,[.v (.int .i64 0),.v (.int .i64 0),.aB 2 [] .ex,.aB 3 [] .ex],.struct [(0,3),(1,3),(2,69),(3,70)]⟩
 | 73=>some ⟨2,16,[.v (.int .i64 0),.v (.int .i64 0)],.array 2 3⟩
 | 76=>some ⟨3,24,[.v (.int .i64 0),.v (.int .i64 0),.v (.int .i64 0)],.array 3 3⟩
 | 78=>some ⟨6,48,[.v (.pointer none),.v (.bool false),.v (.int .i64 0),.v (.int .i64 0),.v (.map none),.v (.int .i64 0)],.struct [(0,62),(1,4),(2,3),(3,3),(4,64),(5,3)]⟩
 | 79=>some ⟨6,48,[.v (.pointer none),.v (.bool false),.v (.int .i64 0),.v (.int .i64 0),.v (.map none),.v (.int .i64 0)],.struct [(0,62),(1,4),(2,3),(3,3),(4,64),(5,3)]⟩
 | 80=>some ⟨1,8,[.v (.pointer none)],.other⟩
 | 85=>some ⟨1,8,[.v (.pointer none)],.other⟩
 | 86=>some ⟨1,24,[.aB 1 [] .ex],.slice 140⟩
 | 87=>some ⟨9,112,[.aB 2 [] .ex,.v (.int .i64 0),.aB 1 [] .ex,.v (.int .i64 0),.v (.bool false),.v (.bool false),.aB 1 [] .ex,.v (.int .i64 0),.v (.int .i64 0)],.struct [(0,41),(2,86),(3,3),(4,4),(5,4),(6,36)]⟩
 | 88=>some ⟨9,112,[.aB 2 [] .ex,.v (.int .i64 0),.aB 1 [] .ex,.v (.int .i64 0),.v (.bool false),.v (.bool false),.aB 1 [] .ex,.v (.int .i64 0),.v (.int .i64 0)],.struct [(0,41),(2,86),(3,3),(4,4),(5,4),(6,36)]⟩
 | 90=>some ⟨1,8,[.v .nilFunc],.other⟩
 | 91=>some ⟨1,8,[.v (.pointer none)],.other⟩
 | 92=>some ⟨1,8,[.v (.map none)],.map 3 154⟩
 | 93=>some ⟨3,40,[.v (.int .i64 0),.aB 7 [] .ex,.v (.map none)],.struct [(0,28),(2,92)]⟩
 | 94=>some ⟨3,40,[.v (.int .i64 0),.aB 7 [] .ex,.v (.map none)],.struct [(0,28),(2,92)]⟩
 | 98=>some ⟨1,8,[.v .nilFunc],.other⟩
 | 102=>some ⟨1,24,[.aB 1 [] .ex],.slice 34⟩
 | 105=>some ⟨1,8,[.v (.map none)],.map 3 53⟩
 | 106=>some ⟨6,96,[.v (.int .i64 0),.aB 7 [] .ex,.aB 1 [] .ex,.aB 1 [] .ex,.v (.map none),.v (.map none)],.struct [(0,28),(2,34),(3,102),(4,105),(5,64)]⟩
 | 107=>some ⟨6,96,[.v (.int .i64 0),.aB 7 [] .ex,.aB 1 [] .ex,.aB 1 [] .ex,.v (.map none),.v (.map none)],.struct [(0,28),(2,34),(3,102),(4,105),(5,64)]⟩
 | 108=>some ⟨1,8,[.v (.map none)],.map 9 3⟩
 | 109=>some ⟨1,24,[.aB 4 [] .ex],.slice 221⟩
 | 110=>some ⟨5,56,[.aB 4 [] .ex,.v (.map none),.v (.map none),.v (.map none),.v (.map none)],.struct [(0,109),(1,108),(2,64),(3,64),(4,64)]⟩
 | 111=>some ⟨5,56,[.aB 4 [] .ex,.v (.map none),.v (.map none),.v (.map none),.v (.map none)],.struct [(0,109),(1,108),(2,64),(3,64),(4,64)]⟩
 | 113=>some ⟨1,8,[.v (.pointer none)],.other⟩
 | 114=>some ⟨1,8,[.v (.map none)],.map 73 3⟩
 | 115=>some ⟨4,64,[.v (.pointer none),.v (.map none),.aB 1 [] .ex,.aB 1 [] .ex],.struct [(0,50),(1,114),(2,34),(3,34)]⟩
 | 116=>some ⟨4,64,[.v (.pointer none),.v (.map none),.aB 1 [] .ex,.aB 1 [] .ex],.struct [(0,50),(1,114),(2,34),(3,34)]⟩
 | 118=>some ⟨1,8,[.v .nilFunc],.other⟩
 | 120=>some ⟨1,8,[.v (.pointer none)],.other⟩
 | 122=>some ⟨1,8,[.v .nilFunc],.other⟩
 | 125=>some ⟨1,8,[.v (.map none)],.map 3 131⟩
 | 126=>some ⟨1,8,[.v (.map none)],.map 76 3⟩
 | 127=>some ⟨8,64,[.v (.map none),.v (.map none),.v (.map none),.v (.map none),.v (.map none),.v (.map none),.v (.map none),.v (.bool false)],.struct [(0,64),(1,114),(2,64),(3,125),(4,114),(5,114),(6,126),(7,4)]⟩
 | 128=>some ⟨8,64,[.v (.map none),.v (.map none),.v (.map none),.v (.map none),.v (.map none),.v (.map none),.v (.map none),.v (.bool false)],.struct [(0,64),(1,114),(2,64),(3,125),(4,114),(5,114),(6,126),(7,4)]⟩
 | 130=>some ⟨2,16,[.v (.int .i64 0),.v (.int .i64 0)],.struct [(0,3),(1,3)]⟩
 | 131=>some ⟨2,16,[.v (.int .i64 0),.v (.int .i64 0)],.struct [(0,3),(1,3)]⟩
 | 132=>some ⟨8,96,[.v (.int .i64 0),.v (.int .i64 0),.v (.int .i64 0),.aB 1 [] .ex,.v (.int .i64 0),.v (.int .i64 0),.v (.int .i64 0),.aB 1 [] .ex],.struct [(0,3),(1,3),(2,3),(3,34),(4,53)]⟩
 | 133=>some ⟨8,96,[.v (.int .i64 0),.v (.int .i64 0),.v (.int .i64 0),.aB 1 [] .ex,.v (.int .i64 0),.v (.int .i64 0),.v (.int .i64 0),.aB 1 [] .ex],.struct [(0,3),(1,3),(2,3),(3,34),(4,53)]⟩
 | 139=>some ⟨1,24,[.aB 4 [] .ex],.slice 146⟩
 | 140=>some ⟨1,8,[.v (.pointer none)],.other⟩
 | 141=>some ⟨1,8,[.v (.map none)],.map 3 146⟩
 | 142=>some ⟨5,40,[.v (.int .i64 0),.v (.int .i64 0),.v (.int .i64 0),.v (.int .i64 0),.v (.map none)],.struct [(0,3),(1,3),(2,3),(3,3),(4,141)]⟩
 | 143=>some ⟨5,40,[.v (.int .i64 0),.v (.int .i64 0),.v (.int .i64 0),.v (.int .i64 0),.v (.map none)],.struct [(0,3),(1,3),(2,3),(3,3),(4,141)]⟩
 | 144=>some ⟨1,8,[.v (.pointer none)],.other⟩
 | 145=>some ⟨4,48,[.v (.int .i64 0),.v (.int .i64 0),.aB 4 [] .ex,.v (.pointer none)],.struct [(0,3),(1,3),(2,139),(3,144)]⟩
 | 146=>some ⟨4,48,[.v (.int .i64 0),.v (.int .i64 0),.aB 4 [] .ex,.v (.pointer none)],.struct [(0,3),(1,3),(2,139),(3,144)]⟩
 | 153=>some ⟨2,16,[.v (.int .i64 0),.v (.int .i64 0)],.struct [(0,3),(1,3)]⟩
 | 154=>some ⟨2,16,[.v (.int .i64 0),.v (.int .i64 0)],.struct [(0,3),(1,3)]⟩
 | 157=>some ⟨1,24,[.aB 2 [] .ex],.slice 160⟩
 | 158=>some ⟨1,8,[.v (.int .u64 0)],.other⟩
 | 159=>some ⟨2,16,[.v (.int .u64 0),.v (.int .u64 0)],.array 2 158⟩
 | 160=>some ⟨2,16,[.v (.int .u64 0),.v (.int .u64 0)],.array 2 158⟩
 | 167=>some ⟨1,8,[.v .nilFunc],.other⟩
 | 169=>some ⟨1,8,[.v .nilFunc],.other⟩
 | 170=>some ⟨1,8,[.v .nilFunc],.other⟩
 | 171=>some ⟨2,48,[.aB 1 [] .ex,.aB 1 [] .ex],.struct [(0,34),(1,34)]⟩
 | 172=>some ⟨2,48,[.aB 1 [] .ex,.aB 1 [] .ex],.struct [(0,34),(1,34)]⟩
 | 179=>some ⟨1,8,[.v .nilFunc],.other⟩
 | 207=>some ⟨1,8,[.v .nilFunc],.other⟩
 | 209=>some ⟨1,8,[.v (.pointer none)],.other⟩
 | 210=>some ⟨1,24,[.aB 1 [] .ex],.slice 5⟩
 | 211=>some ⟨2,32,[.v (.pointer none),.aB 1 [] .ex],.struct [(0,209),(1,210)]⟩
 | 212=>some ⟨2,32,[.v (.pointer none),.aB 1 [] .ex],.struct [(0,209),(1,210)]⟩
 | 219=>some ⟨1,8,[.v .nilFunc],.other⟩
 | 220=>some ⟨4,48,[.v (.int .i64 0),.v (.int .i64 0),.aB 1 [] .ex,.v (.int .i64 0)],.struct [(0,3),(1,3),(2,34),(3,3)]⟩
 | 221=>some ⟨4,48,[.v (.int .i64 0),.v (.int .i64 0),.aB 1 [] .ex,.v (.int .i64 0)],.struct [(0,3),(1,3),(2,34),(3,3)]⟩
 | 225=>some ⟨1,8,[.v .nilFunc],.other⟩
 | 247=>some ⟨1,8,[.v (.pointer none)],.other⟩
 | 248=>some ⟨1,24,[.aB 2 [] .ex],.slice 254⟩
 | 249=>some ⟨2,32,[.v (.int .i64 0),.aB 2 [] .ex],.struct [(0,3),(1,248)]⟩
 | 250=>some ⟨2,32,[.v (.int .i64 0),.aB 2 [] .ex],.struct [(0,3),(1,248)]⟩
 | 253=>some ⟨2,16,[.v (.int .i64 0),.v (.int .i64 0)],.struct [(0,3),(1,3)]⟩
 | 254=>some ⟨2,16,[.v (.int .i64 0),.v (.int .i64 0)],.struct [(0,3),(1,3)]⟩
 | 258=>some ⟨1,8,[.v .nilFunc],.other⟩
 | 263=>some ⟨2,16,[.v (.int .i64 0),.v (.int .i64 0)],.struct [(0,3),(1,3)]⟩
 | 264=>some ⟨2,16,[.v (.int .i64 0),.v (.int .i64 0)],.struct [(0,3),(1,3)]⟩
 | 265=>some ⟨1,24,[.aB 2 [] .ex],.slice 264⟩
 | 266=>some ⟨1,8,[.v (.pointer none)],.other⟩
 | 272=>some ⟨1,8,[.v .nilFunc],.other⟩
 | 274=>some ⟨1,8,[.v .nilFunc],.other⟩
 | 275=>some ⟨24,24,[.v (.int .u8 0),.v (.int .u8 0),.v (.int .u8 0),.v (.int .u8 0),.v (.int .u8 0),.v (.int .u8 0),.v (.int .u8 0),.v (.int .u8 0),.v (.int .u8 0),.v (.int .u8 0),.v (.int .u8 0),.v (.int .u8 0),.v (.int .u8 0),.v (.int .u8 0),.v (.int .u8 0),.v (.int .u8 0),.v (.int .u8 0),.v (.int .u8 0),.v (.int .u8 0),.v (.int .u8 0),.v (.int .u8 0),.v (.int .u8 0),.v (.int .u8 0),.v (.int .u8 0)],.array 24 5⟩
 | 283=>some ⟨1,8,[.v (.int .u64 0)],.other⟩
 | 288=>some ⟨1,4,[.v (.int .u32 0)],.other⟩
 | 307=>some ⟨1,8,[.v (.pointer none)],.other⟩
 | _=>none
theorem TV:aP 1=some ⟨1,8,[.v .nilFunc],.other⟩:=rfl
theorem TW:aP 2=some ⟨1,8,[.v (.int .i64 0)],.other⟩:=rfl
theorem IQ:aP 3=some ⟨1,8,[.v (.int .i64 0)],.other⟩:=rfl
theorem TX:aP 4=some ⟨1,1,[.v (.bool false)],.other⟩:=rfl
theorem TY:aP 5=some ⟨1,1,[.v (.int .u8 0)],.other⟩:=rfl
theorem TZ:aP 9=some ⟨1,16,[.v (.string ByteArray.empty)],.other⟩:=rfl
theorem QD:aP 12=some ⟨1,8,[.v (.int .u64 0)],.other⟩:=rfl
theorem QE:aP 13=some ⟨2,24,[.v (.string ByteArray.empty),.v (.int .u64 0)],.struct [(0,9),(1,12)]⟩:=rfl
theorem QF:aP 21=some ⟨1,4,[.v (.int .i32 0)],.other⟩:=rfl
theorem QG:aP 23=some ⟨1,8,[.v .nilFunc],.other⟩:=rfl
theorem QH:aP 24=some ⟨1,8,[.v (.int .i64 0)],.other⟩:=rfl
theorem QI:aP 26=some ⟨1,24,[.aB 7 [] .ex],.slice 49⟩:=rfl
theorem QJ:aP 27=some ⟨2,32,[.v (.int .i64 0),.aB 7 [] .ex],.struct [(0,3),(1,26)]⟩:=rfl
theorem QK:aP 28=some ⟨2,32,[.v (.int .i64 0),.aB 7 [] .ex],.struct [(0,3),(1,26)]⟩:=rfl
theorem QL:aP 30=some ⟨1,24,[.aB 4 [] .ex],.slice 72⟩:=rfl
theorem QM:aP 31=some ⟨1,24,[.aB 4 [] .ex],.struct [(0,30)]⟩:=rfl
theorem QN:aP 32=some ⟨1,24,[.aB 4 [] .ex],.struct [(0,30)]⟩:=rfl
theorem Dx:aP 34=some ⟨1,24,[.aB 1 [] .ex],.slice 3⟩:=rfl
theorem QO:aP 35=some ⟨3,40,[.aB 1 [] .ex,.v (.int .i64 0),.v (.int .i64 0)],.struct [(0,34),(1,3),(2,3)]⟩:=rfl
theorem QP:aP 36=some ⟨3,40,[.aB 1 [] .ex,.v (.int .i64 0),.v (.int .i64 0)],.struct [(0,34),(1,3),(2,3)]⟩:=rfl
theorem QQ:aP 39=some ⟨1,24,[.aB 2 [] .ex],.slice 28⟩:=rfl
theorem QR:aP 40=some ⟨2,32,[.aB 2 [] .ex,.v (.int .i64 0)],.struct [(0,39),(1,3)]⟩:=rfl
theorem QS:aP 41=some ⟨2,32,[.aB 2 [] .ex,.v (.int .i64 0)],.struct [(0,39),(1,3)]⟩:=rfl
theorem QT:aP 44=some ⟨1,24,[.aB 4 [] .ex],.slice 53⟩:=rfl
theorem QU:aP 45=some ⟨1,24,[.aB 2 [] .ex],.slice 58⟩:=rfl
theorem QV:aP 46=some ⟨5,72,[.v (.int .i64 0),.v (.int .i64 0),.v (.int .i64 0),.aB 1 [] .ex,.aB 2 [] .ex],.struct [(0,3),(1,3),(2,3),(3,34),(4,45)]⟩:=rfl
theorem QW:aP 47=some ⟨5,72,[.v (.int .i64 0),.v (.int .i64 0),.v (.int .i64 0),.aB 1 [] .ex,.aB 2 [] .ex],.struct [(0,3),(1,3),(2,3),(3,34),(4,45)]⟩:=rfl
theorem QX:aP 48=some ⟨7,120,[.aB 1 [] .ex,.aB 4 [] .ex,.v (.int .i64 0),.v (.int .i64 0),.v (.int .i64 0),.aB 1 [] .ex,.aB 2 [] .ex],.struct [(0,34),(1,44),(2,47)]⟩:=rfl
theorem QY:aP 49=some ⟨7,120,[.aB 1 [] .ex,.aB 4 [] .ex,.v (.int .i64 0),.v (.int .i64 0),.v (.int .i64 0),.aB 1 [] .ex,.aB 2 [] .ex],.struct [(0,34),(1,44),(2,47)]⟩:=rfl
theorem QZ:aP 50=some ⟨1,8,[.v (.pointer none)],.other⟩:=rfl
theorem Q0:aP 52=some ⟨4,48,[.v (.int .i64 0),.v (.int .i64 0),.v (.int .i64 0),.aB 1 [] .ex],.struct [(0,3),(1,3),(2,3),(3,34)]⟩:=rfl
theorem Q1:aP 53=some ⟨4,48,[.v (.int .i64 0),.v (.int .i64 0),.v (.int .i64 0),.aB 1 [] .ex],.struct [(0,3),(1,3),(2,3),(3,34)]⟩:=rfl
theorem Q2:aP 54=some ⟨1,8,[.v .nilFunc],.other⟩:=rfl
theorem Q3:aP 57=some ⟨2,32,[.v (.int .i64 0),.aB 1 [] .ex],.struct [(0,3),(1,34)]⟩:=rfl
theorem Q4:aP 58=some ⟨2,32,[.v (.int .i64 0),.aB 1 [] .ex],.struct [(0,3),(1,34)]⟩:=rfl
theorem Q5:aP 59=some ⟨1,8,[.v .nilFunc],.other⟩:=rfl
theorem Q6:aP 60=some ⟨1,8,[.v .nilFunc],.other⟩:=rfl
theorem Q7:aP 62=some ⟨1,8,[.v (.pointer none)],.other⟩:=rfl
theorem Q8:aP 64=some ⟨1,8,[.v (.map none)],.map 3 3⟩:=rfl
theorem Q9:aP 65=some ⟨1,8,[.v (.pointer none)],.other⟩:=rfl
theorem Ra:aP 66=some ⟨1,24,[.aB 1 [] .ex],.slice 4⟩:=rfl
theorem Rb:aP 67=some ⟨10,120,[.v (.pointer none),.v (.pointer none),.v (.pointer none),.aB 4 [] .ex,.v (.map none),.aB 1 [] .ex,.aB 1 [] .ex,.v (.int .i64 0),.v (.bool false),.v (.bool false)],.struct [(0,65),(1,62),(2,62),(3,30),(4,64),(5,66),(6,34),(7,3),(8,4),(9,4)]⟩:=rfl
theorem Rc:aP 68=some ⟨10,120,[.v (.pointer none),.v (.pointer none),.v (.pointer none),.aB 4 [] .ex,.v (.map none),.aB 1 [] .ex,.aB 1 [] .ex,.v (.int .i64 0),.v (.bool false),.v (.bool false)],.struct [(0,65),(1,62),(2,62),(3,30),(4,64),(5,66),(6,34),(7,3),(8,4),(9,4)]⟩:=rfl
theorem Rd:aP 69=some ⟨1,24,[.aB 2 [] .ex],.slice 73⟩:=rfl
theorem Re:aP 70=some ⟨1,24,[.aB 3 [] .ex],.slice 76⟩:=rfl
theorem Rf:aP 71=some ⟨4,64,[.v (.int .i64 0),.v (.int .i64 0),.aB 2 [] .ex,.aB 3 [] .ex],.struct [(0,3),(1,3),(2,69),(3,70)]⟩:=rfl
theorem Rg:aP 72=some ⟨4,64,[.v (.int .i64 0),.v (.int .i64 0),.aB 2 [] .ex,.aB 3 [] .ex],.struct [(0,3),(1,3),(2,69),(3,70)]⟩:=rfl
theorem Rh:aP 73=some ⟨2,16,[.v (.int .i64 0),.v (.int .i64 0)],.array 2 3⟩:=rfl
theorem Ri:aP 76=some ⟨3,24,[.v (.int .i64 0),.v (.int .i64 0),.v (.int .i64 0)],.array 3 3⟩:=rfl
theorem Rj:aP 78=some ⟨6,48,[.v (.pointer none),.v (.bool false),.v (.int .i64 0),.v (.int .i64 0),.v (.map none),.v (.int .i64 0)],.struct [(0,62),(1,4),(2,3),(3,3),(4,64),(5,3)]⟩:=rfl
theorem Dy:aP 79=some ⟨6,48,[.v (.pointer none),.v (.bool false),.v (.int .i64 0),.v (.int .i64 0),.v (.map none),.v (.int .i64 0)],.struct [(0,62),(1,4),(2,3),(3,3),(4,64),(5,3)]⟩:=rfl
theorem Rk:aP 80=some ⟨1,8,[.v (.pointer none)],.other⟩:=rfl
theorem Rl:aP 85=some ⟨1,8,[.v (.pointer none)],.other⟩:=rfl
theorem Rm:aP 86=some ⟨1,24,[.aB 1 [] .ex],.slice 140⟩:=rfl
theorem Rn:aP 87=some ⟨9,112,[.aB 2 [] .ex,.v (.int .i64 0),.aB 1 [] .ex,.v (.int .i64 0),.v (.bool false),.v (.bool false),.aB 1 [] .ex,.v (.int .i64 0),.v (.int .i64 0)],.struct [(0,41),(2,86),(3,3),(4,4),(5,4),(6,36)]⟩:=rfl
theorem Ro:aP 88=some ⟨9,112,[.aB 2 [] .ex,.v (.int .i64 0),.aB 1 [] .ex,.v (.int .i64 0),.v (.bool false),.v (.bool false),.aB 1 [] .ex,.v (.int .i64 0),.v (.int .i64 0)],.struct [(0,41),(2,86),(3,3),(4,4),(5,4),(6,36)]⟩:=rfl
theorem Rp:aP 90=some ⟨1,8,[.v .nilFunc],.other⟩:=rfl
theorem Rq:aP 91=some ⟨1,8,[.v (.pointer none)],.other⟩:=rfl
theorem Rr:aP 92=some ⟨1,8,[.v (.map none)],.map 3 154⟩:=rfl
theorem Rs:aP 93=some ⟨3,40,[.v (.int .i64 0),.aB 7 [] .ex,.v (.map none)],.struct [(0,28),(2,92)]⟩:=rfl
theorem Rt:aP 94=some ⟨3,40,[.v (.int .i64 0),.aB 7 [] .ex,.v (.map none)],.struct [(0,28),(2,92)]⟩:=rfl
theorem Ru:aP 98=some ⟨1,8,[.v .nilFunc],.other⟩:=rfl
theorem LZ:aP 102=some ⟨1,24,[.aB 1 [] .ex],.slice 34⟩:=rfl
theorem L0:aP 105=some ⟨1,8,[.v (.map none)],.map 3 53⟩:=rfl
theorem L4:aP 106=some ⟨6,96,[.v (.int .i64 0),.aB 7 [] .ex,.aB 1 [] .ex,.aB 1 [] .ex,.v (.map none),.v (.map none)],.struct [(0,28),(2,34),(3,102),(4,105),(5,64)]⟩:=rfl
theorem L5:aP 107=some ⟨6,96,[.v (.int .i64 0),.aB 7 [] .ex,.aB 1 [] .ex,.aB 1 [] .ex,.v (.map none),.v (.map none)],.struct [(0,28),(2,34),(3,102),(4,105),(5,64)]⟩:=rfl
theorem L6:aP 108=some ⟨1,8,[.v (.map none)],.map 9 3⟩:=rfl
theorem L7:aP 109=some ⟨1,24,[.aB 4 [] .ex],.slice 221⟩:=rfl
theorem L8:aP 110=some ⟨5,56,[.aB 4 [] .ex,.v (.map none),.v (.map none),.v (.map none),.v (.map none)],.struct [(0,109),(1,108),(2,64),(3,64),(4,64)]⟩:=rfl
theorem L9:aP 111=some ⟨5,56,[.aB 4 [] .ex,.v (.map none),.v (.map none),.v (.map none),.v (.map none)],.struct [(0,109),(1,108),(2,64),(3,64),(4,64)]⟩:=rfl
theorem L':aP 113=some ⟨1,8,[.v (.pointer none)],.other⟩:=rfl
theorem Ma:aP 114=some ⟨1,8,[.v (.map none)],.map 73 3⟩:=rfl
theorem Mb:aP 115=some ⟨4,64,[.v (.pointer none),.v (.map none),.aB 1 [] .ex,.aB 1 [] .ex],.struct [(0,50),(1,114),(2,34),(3,34)]⟩:=rfl
theorem Mc:aP 116=some ⟨4,64,[.v (.pointer none),.v (.map none),.aB 1 [] .ex,.aB 1 [] .ex],.struct [(0,50),(1,114),(2,34),(3,34)]⟩:=rfl
theorem Me:aP 118=some ⟨1,8,[.v .nilFunc],.other⟩:=rfl
theorem Mf:aP 120=some ⟨1,8,[.v (.pointer none)],.other⟩:=rfl
theorem Mg:aP 122=some ⟨1,8,[.v .nilFunc],.other⟩:=rfl
theorem Mh:aP 125=some ⟨1,8,[.v (.map none)],.map 3 131⟩:=rfl
theorem Mi:aP 126=some ⟨1,8,[.v (.map none)],.map 76 3⟩:=rfl
theorem Mj:aP 127=some ⟨8,64,[.v (.map none),.v (.map none),.v (.map none),.v (.map none),.v (.map none),.v (.map none),.v (.map none),.v (.bool false)],.struct [(0,64),(1,114),(2,64),(3,125),(4,114),(5,114),(6,126),(7,4)]⟩:=rfl
theorem Mk:aP 128=some ⟨8,64,[.v (.map none),.v (.map none),.v (.map none),.v (.map none),.v (.map none),.v (.map none),.v (.map none),.v (.bool false)],.struct [(0,64),(1,114),(2,64),(3,125),(4,114),(5,114),(6,126),(7,4)]⟩:=rfl
theorem Ml:aP 130=some ⟨2,16,[.v (.int .i64 0),.v (.int .i64 0)],.struct [(0,3),(1,3)]⟩:=rfl
theorem Mm:aP 131=some ⟨2,16,[.v (.int .i64 0),.v (.int .i64 0)],.struct [(0,3),(1,3)]⟩:=rfl
theorem Mn:aP 132=some ⟨8,96,[.v (.int .i64 0),.v (.int .i64 0),.v (.int .i64 0),.aB 1 [] .ex,.v (.int .i64 0),.v (.int .i64 0),.v (.int .i64 0),.aB 1 [] .ex],.struct [(0,3),(1,3),(2,3),(3,34),(4,53)]⟩:=rfl
theorem zh:aP 133=some ⟨8,96,[.v (.int .i64 0),.v (.int .i64 0),.v (.int .i64 0),.aB 1 [] .ex,.v (.int .i64 0),.v (.int .i64 0),.v (.int .i64 0),.aB 1 [] .ex],.struct [(0,3),(1,3),(2,3),(3,34),(4,53)]⟩:=rfl
theorem Mo:aP 139=some ⟨1,24,[.aB 4 [] .ex],.slice 146⟩:=rfl
theorem Mp:aP 140=some ⟨1,8,[.v (.pointer none)],.other⟩:=rfl
theorem Mq:aP 141=some ⟨1,8,[.v (.map none)],.map 3 146⟩:=rfl
theorem Mr:aP 142=some ⟨5,40,[.v (.int .i64 0),.v (.int .i64 0),.v (.int .i64 0),.v (.int .i64 0),.v (.map none)],.struct [(0,3),(1,3),(2,3),(3,3),(4,141)]⟩:=rfl
theorem Ms:aP 143=some ⟨5,40,[.v (.int .i64 0),.v (.int .i64 0),.v (.int .i64 0),.v (.int .i64 0),.v (.map none)],.struct [(0,3),(1,3),(2,3),(3,3),(4,141)]⟩:=rfl
theorem Mt:aP 144=some ⟨1,8,[.v (.pointer none)],.other⟩:=rfl
theorem Mu:aP 145=some ⟨4,48,[.v (.int .i64 0),.v (.int .i64 0),.aB 4 [] .ex,.v (.pointer none)],.struct [(0,3),(1,3),(2,139),(3,144)]⟩:=rfl
theorem Mv:aP 146=some ⟨4,48,[.v (.int .i64 0),.v (.int .i64 0),.aB 4 [] .ex,.v (.pointer none)],.struct [(0,3),(1,3),(2,139),(3,144)]⟩:=rfl
theorem Mw:aP 153=some ⟨2,16,[.v (.int .i64 0),.v (.int .i64 0)],.struct [(0,3),(1,3)]⟩:=rfl
theorem Mx:aP 154=some ⟨2,16,[.v (.int .i64 0),.v (.int .i64 0)],.struct [(0,3),(1,3)]⟩:=rfl
theorem My:aP 157=some ⟨1,24,[.aB 2 [] .ex],.slice 160⟩:=rfl
theorem Ex:aP 158=some ⟨1,8,[.v (.int .u64 0)],.other⟩:=rfl
theorem Mz:aP 159=some ⟨2,16,[.v (.int .u64 0),.v (.int .u64 0)],.array 2 158⟩:=rfl
theorem MA:aP 160=some ⟨2,16,[.v (.int .u64 0),.v (.int .u64 0)],.array 2 158⟩:=rfl
theorem MB:aP 167=some ⟨1,8,[.v .nilFunc],.other⟩:=rfl
theorem MC:aP 169=some ⟨1,8,[.v .nilFunc],.other⟩:=rfl
theorem MD:aP 170=some ⟨1,8,[.v .nilFunc],.other⟩:=rfl
theorem ME:aP 171=some ⟨2,48,[.aB 1 [] .ex,.aB 1 [] .ex],.struct [(0,34),(1,34)]⟩:=rfl
theorem Ey:aP 172=some ⟨2,48,[.aB 1 [] .ex,.aB 1 [] .ex],.struct [(0,34),(1,34)]⟩:=rfl
theorem MF:aP 179=some ⟨1,8,[.v .nilFunc],.other⟩:=rfl
theorem MG:aP 207=some ⟨1,8,[.v .nilFunc],.other⟩:=rfl
theorem MH:aP 209=some ⟨1,8,[.v (.pointer none)],.other⟩:=rfl
theorem MI:aP 210=some ⟨1,24,[.aB 1 [] .ex],.slice 5⟩:=rfl
theorem MJ:aP 211=some ⟨2,32,[.v (.pointer none),.aB 1 [] .ex],.struct [(0,209),(1,210)]⟩:=rfl
theorem MK:aP 212=some ⟨2,32,[.v (.pointer none),.aB 1 [] .ex],.struct [(0,209),(1,210)]⟩:=rfl
theorem ML:aP 219=some ⟨1,8,[.v .nilFunc],.other⟩:=rfl
theorem MM:aP 220=some ⟨4,48,[.v (.int .i64 0),.v (.int .i64 0),.aB 1 [] .ex,.v (.int .i64 0)],.struct [(0,3),(1,3),(2,34),(3,3)]⟩:=rfl
theorem MN:aP 221=some ⟨4,48,[.v (.int .i64 0),.v (.int .i64 0),.aB 1 [] .ex,.v (.int .i64 0)],.struct [(0,3),(1,3),(2,34),(3,3)]⟩:=rfl
theorem MO:aP 225=some ⟨1,8,[.v .nilFunc],.other⟩:=rfl
theorem MP:aP 247=some ⟨1,8,[.v (.pointer none)],.other⟩:=rfl
theorem MQ:aP 248=some ⟨1,24,[.aB 2 [] .ex],.slice 254⟩:=rfl
theorem MR:aP 249=some ⟨2,32,[.v (.int .i64 0),.aB 2 [] .ex],.struct [(0,3),(1,248)]⟩:=rfl
theorem MS:aP 250=some ⟨2,32,[.v (.int .i64 0),.aB 2 [] .ex],.struct [(0,3),(1,248)]⟩:=rfl
theorem MT:aP 253=some ⟨2,16,[.v (.int .i64 0),.v (.int .i64 0)],.struct [(0,3),(1,3)]⟩:=rfl
theorem MU:aP 254=some ⟨2,16,[.v (.int .i64 0),.v (.int .i64 0)],.struct [(0,3),(1,3)]⟩:=rfl
theorem MV:aP 258=some ⟨1,8,[.v .nilFunc],.other⟩:=rfl
theorem MW:aP 263=some ⟨2,16,[.v (.int .i64 0),.v (.int .i64 0)],.struct [(0,3),(1,3)]⟩:=rfl
theorem MX:aP 264=some ⟨2,16,[.v (.int .i64 0),.v (.int .i64 0)],.struct [(0,3),(1,3)]⟩:=rfl
theorem MY:aP 265=some ⟨1,24,[.aB 2 [] .ex],.slice 264⟩:=rfl
theorem MZ:aP 266=some ⟨1,8,[.v (.pointer none)],.other⟩:=rfl
theorem M0:aP 272=some ⟨1,8,[.v .nilFunc],.other⟩:=rfl
theorem M3:aP 274=some ⟨1,8,[.v .nilFunc],.other⟩:=rfl
theorem M4:aP 275=some ⟨24,24,[.v (.int .u8 0),.v (.int .u8 0),.v (.int .u8 0),.v (.int .u8 0),.v (.int .u8 0),.v (.int .u8 0),.v (.int .u8 0),.v (.int .u8 0),.v (.int .u8 0),.v (.int .u8 0),.v (.int .u8 0),.v (.int .u8 0),.v (.int .u8 0),.v (.int .u8 0),.v (.int .u8 0),.v (.int .u8 0),.v (.int .u8 0),.v (.int .u8 0),.v (.int .u8 0),.v (.int .u8 0),.v (.int .u8 0),.v (.int .u8 0),.v (.int .u8 0),.v (.int .u8 0)],.array 24 5⟩:=rfl
theorem M5:aP 283=some ⟨1,8,[.v (.int .u64 0)],.other⟩:=rfl
theorem M6:aP 288=some ⟨1,4,[.v (.int .u32 0)],.other⟩:=rfl
theorem M7:aP 307=some ⟨1,8,[.v (.pointer none)],.other⟩:=rfl
theorem Rx:bD Go.Proofs.Tryz.prog 1 ⟨1,8,[.v .nilFunc],.other⟩=true:=by kernel_rfl
theorem Ry:bD Go.Proofs.Tryz.prog 2 ⟨1,8,[.v (.int .i64 0)],.other⟩=true:=by kernel_rfl
theorem Rz:bD Go.Proofs.Tryz.prog 3 ⟨1,8,[.v (.int .i64 0)],.other⟩=true:=by kernel_rfl
theorem RA:bD Go.Proofs.Tryz.prog 4 ⟨1,1,[.v (.bool false)],.other⟩=true:=by kernel_rfl
theorem RB:bD Go.Proofs.Tryz.prog 5 ⟨1,1,[.v (.int .u8 0)],.other⟩=true:=by kernel_rfl
theorem RC:bD Go.Proofs.Tryz.prog 9 ⟨1,16,[.v (.string ByteArray.empty)],.other⟩=true:=by kernel_rfl
theorem M8:bD Go.Proofs.Tryz.prog 12 ⟨1,8,[.v (.int .u64 0)],.other⟩=true:=by kernel_rfl
theorem M9:bD Go.Proofs.Tryz.prog 13 ⟨2,24,[.v (.string ByteArray.empty),.v (.int .u64 0)],.struct [(0,9),(1,12)]⟩=true:=by kernel_rfl
theorem M':bD Go.Proofs.Tryz.prog 21 ⟨1,4,[.v (.int .i32 0)],.other⟩=true:=by kernel_rfl
theorem Na:bD Go.Proofs.Tryz.prog 23 ⟨1,8,[.v .nilFunc],.other⟩=true:=by kernel_rfl
theorem Nb:bD Go.Proofs.Tryz.prog 24 ⟨1,8,[.v (.int .i64 0)],.other⟩=true:=by kernel_rfl
theorem Nc:bD Go.Proofs.Tryz.prog 26 ⟨1,24,[.aB 7 [] .ex],.slice 49⟩=true:=by kernel_rfl
theorem Nf:bD Go.Proofs.Tryz.prog 27 ⟨2,32,[.v (.int .i64 0),.aB 7 [] .ex],.struct [(0,3),(1,26)]⟩=true:=by kernel_rfl
theorem Ng:bD Go.Proofs.Tryz.prog 28 ⟨2,32,[.v (.int .i64 0),.aB 7 [] .ex],.struct [(0,3),(1,26)]⟩=true:=by kernel_rfl
theorem Nh:bD Go.Proofs.Tryz.prog 30 ⟨1,24,[.aB 4 [] .ex],.slice 72⟩=true:=by kernel_rfl
theorem Ni:bD Go.Proofs.Tryz.prog 31 ⟨1,24,[.aB 4 [] .ex],.struct [(0,30)]⟩=true:=by kernel_rfl
theorem Nj:bD Go.Proofs.Tryz.prog 32 ⟨1,24,[.aB 4 [] .ex],.struct [(0,30)]⟩=true:=by kernel_rfl
theorem Nk:bD Go.Proofs.Tryz.prog 34 ⟨1,24,[.aB 1 [] .ex],.slice 3⟩=true:=by kernel_rfl
theorem Nl:bD Go.Proofs.Tryz.prog 35 ⟨3,40,[.aB 1 [] .ex,.v (.int .i64 0),.v (.int .i64 0)],.struct [(0,34),(1,3),(2,3)]⟩=true:=by kernel_rfl
theorem Nn:bD Go.Proofs.Tryz.prog 36 ⟨3,40,[.aB 1 [] .ex,.v (.int .i64 0),.v (.int .i64 0)],.struct [(0,34),(1,3),(2,3)]⟩=true:=by kernel_rfl
theorem No:bD Go.Proofs.Tryz.prog 39 ⟨1,24,[.aB 2 [] .ex],.slice 28⟩=true:=by kernel_rfl
theorem Np:bD Go.Proofs.Tryz.prog 40 ⟨2,32,[.aB 2 [] .ex,.v (.int .i64 0)],.struct [(0,39),(1,3)]⟩=true:=by kernel_rfl
theorem Nq:bD Go.Proofs.Tryz.prog 41 ⟨2,32,[.aB 2 [] .ex,.v (.int .i64 0)],.struct [(0,39),(1,3)]⟩=true:=by kernel_rfl
theorem Nr:bD Go.Proofs.Tryz.prog 44 ⟨1,24,[.aB 4 [] .ex],.slice 53⟩=true:=by kernel_rfl
theorem Ns:bD Go.Proofs.Tryz.prog 45 ⟨1,24,[.aB 2 [] .ex],.slice 58⟩=true:=by kernel_rfl
theorem Nt:bD Go.Proofs.Tryz.prog 46 ⟨5,72,[.v (.int .i64 0),.v (.int .i64 0),.v (.int .i64 0),.aB 1 [] .ex,.aB 2 [] .ex],.struct [(0,3),(1,3),(2,3),(3,34),(4,45)]⟩=true:=by kernel_rfl
theorem Nu:bD Go.Proofs.Tryz.prog 47 ⟨5,72,[.v (.int .i64 0),.v (.int .i64 0),.v (.int .i64 0),.aB 1 [] .ex,.aB 2 [] .ex],.struct [(0,3),(1,3),(2,3),(3,34),(4,45)]⟩=true:=by kernel_rfl
theorem Nv:bD Go.Proofs.Tryz.prog 48 ⟨7,120,[.aB 1 [] .ex,.aB 4 [] .ex,.v (.int .i64 0),.v (.int .i64 0),.v (.int .i64 0),.aB 1 [] .ex,.aB 2 [] .ex],.struct [(0,34),(1,44),(2,47)]⟩=true:=by kernel_rfl
theorem Nw:bD Go.Proofs.Tryz.prog 49 ⟨7,120,[.aB 1 [] .ex,.aB 4 [] .ex,.v (.int .i64 0),.v (.int .i64 0),.v (.int .i64 0),.aB 1 [] .ex,.aB 2 [] .ex],.struct [(0,34),(1,44),(2,47)]⟩=true:=by kernel_rfl
theorem Nx:bD Go.Proofs.Tryz.prog 50 ⟨1,8,[.v (.pointer none)],.other⟩=true:=by kernel_rfl
theorem Ny:bD Go.Proofs.Tryz.prog 52 ⟨4,48,[.v (.int .i64 0),.v (.int .i64 0),.v (.int .i64 0),.aB 1 [] .ex],.struct [(0,3),(1,3),(2,3),(3,34)]⟩=true:=by kernel_rfl
theorem Nz:bD Go.Proofs.Tryz.prog 53 ⟨4,48,[.v (.int .i64 0),.v (.int .i64 0),.v (.int .i64 0),.aB 1 [] .ex],.struct [(0,3),(1,3),(2,3),(3,34)]⟩=true:=by kernel_rfl
theorem NA:bD Go.Proofs.Tryz.prog 54 ⟨1,8,[.v .nilFunc],.other⟩=true:=by kernel_rfl
theorem NB:bD Go.Proofs.Tryz.prog 57 ⟨2,32,[.v (.int .i64 0),.aB 1 [] .ex],.struct [(0,3),(1,34)]⟩=true:=by kernel_rfl
theorem NC:bD Go.Proofs.Tryz.prog 58 ⟨2,32,[.v (.int .i64 0),.aB 1 [] .ex],.struct [(0,3),(1,34)]⟩=true:=by kernel_rfl
theorem ND:bD Go.Proofs.Tryz.prog 59 ⟨1,8,[.v .nilFunc],.other⟩=true:=by kernel_rfl
theorem NF:bD Go.Proofs.Tryz.prog 60 ⟨1,8,[.v .nilFunc],.other⟩=true:=by kernel_rfl
theorem NG:bD Go.Proofs.Tryz.prog 62 ⟨1,8,[.v (.pointer none)],.other⟩=true:=by kernel_rfl
theorem NH:bD Go.Proofs.Tryz.prog 64 ⟨1,8,[.v (.map none)],.map 3 3⟩=true:=by kernel_rfl
theorem NI:bD Go.Proofs.Tryz.prog 65 ⟨1,8,[.v (.pointer none)],.other⟩=true:=by kernel_rfl
theorem NJ:bD Go.Proofs.Tryz.prog 66 ⟨1,24,[.aB 1 [] .ex],.slice 4⟩=true:=by kernel_rfl
theorem NK:bD Go.Proofs.Tryz.prog 67 ⟨10,120,[.v (.pointer none),.v (.pointer none),.v (.pointer none),.aB 4 [] .ex,.v (.map none),.aB 1 [] .ex,.aB 1 [] .ex,.v (.int .i64 0),.v (.bool false),.v (.bool false)],.struct [(0,65),(1,62),(2,62),(3,30),(4,64),(5,66),(6,34),(7,3),(8,4),(9,4)]⟩=true:=by kernel_rfl
theorem NL:bD Go.Proofs.Tryz.prog 68 ⟨10,120,[.v (.pointer none),.v (.pointer none),.v (.pointer none),.aB 4 [] .ex,.v (.map none),.aB 1 [] .ex,.aB 1 [] .ex,.v (.int .i64 0),.v (.bool false),.v (.bool false)],.struct [(0,65),(1,62),(2,62),(3,30),(4,64),(5,66),(6,34),(7,3),(8,4),(9,4)]⟩=true:=by kernel_rfl
theorem NM:bD Go.Proofs.Tryz.prog 69 ⟨1,24,[.aB 2 [] .ex],.slice 73⟩=true:=by kernel_rfl
theorem NN:bD Go.Proofs.Tryz.prog 70 ⟨1,24,[.aB 3 [] .ex],.slice 76⟩=true:=by kernel_rfl
theorem NO:bD Go.Proofs.Tryz.prog 71 ⟨4,64,[.v (.int .i64 0),.v (.int .i64 0),.aB 2 [] .ex,.aB 3 [] .ex],.struct [(0,3),(1,3),(2,69),(3,70)]⟩=true:=by kernel_rfl
theorem NP:bD Go.Proofs.Tryz.prog 72 ⟨4,64,[.v (.int .i64 0),.v (.int .i64 0),.aB 2 [] .ex,.aB 3 [] .ex],.struct [(0,3),(1,3),(2,69),(3,70)]⟩=true:=by kernel_rfl
theorem NQ:bD Go.Proofs.Tryz.prog 73 ⟨2,16,[.v (.int .i64 0),.v (.int .i64 0)],.array 2 3⟩=true:=by kernel_rfl
theorem NR:bD Go.Proofs.Tryz.prog 76 ⟨3,24,[.v (.int .i64 0),.v (.int .i64 0),.v (.int .i64 0)],.array 3 3⟩=true:=by kernel_rfl
theorem NS:bD Go.Proofs.Tryz.prog 78 ⟨6,48,[.v (.pointer none),.v (.bool false),.v (.int .i64 0),.v (.int .i64 0),.v (.map none),.v (.int .i64 0)],.struct [(0,62),(1,4),(2,3),(3,3),(4,64),(5,3)]⟩=true:=by kernel_rfl
theorem NT:bD Go.Proofs.Tryz.prog 79 ⟨6,48,[.v (.pointer none),.v (.bool false),.v (.int .i64 0),.v (.int .i64 0),.v (.map none),.v (.int .i64 0)],.struct [(0,62),(1,4),(2,3),(3,3),(4,64),(5,3)]⟩=true:=by kernel_rfl
theorem NU:bD Go.Proofs.Tryz.prog 80 ⟨1,8,[.v (.pointer none)],.other⟩=true:=by kernel_rfl
theorem NV:bD Go.Proofs.Tryz.prog 85 ⟨1,8,[.v (.pointer none)],.other⟩=true:=by kernel_rfl
theorem NW:bD Go.Proofs.Tryz.prog 86 ⟨1,24,[.aB 1 [] .ex],.slice 140⟩=true:=by kernel_rfl
theorem NY:bD Go.Proofs.Tryz.prog 87 ⟨9,112,[.aB 2 [] .ex,.v (.int .i64 0),.aB 1 [] .ex,.v (.int .i64 0),.v (.bool false),.v (.bool false),.aB 1 [] .ex,.v (.int .i64 0),.v (.int .i64 0)],.struct [(0,41),(2,86),(3,3),(4,4),(5,4),(6,36)]⟩=true:=by kernel_rfl
theorem NZ:bD Go.Proofs.Tryz.prog 88 ⟨9,112,[.aB 2 [] .ex,.v (.int .i64 0),.aB 1 [] .ex,.v (.int .i64 0),.v (.bool false),.v (.bool false),.aB 1 [] .ex,.v (.int .i64 0),.v (.int .i64 0)],.struct [(0,41),(2,86),(3,3),(4,4),(5,4),(6,36)]⟩=true:=by kernel_rfl
theorem N0:bD Go.Proofs.Tryz.prog 90 ⟨1,8,[.v .nilFunc],.other⟩=true:=by kernel_rfl
theorem N1:bD Go.Proofs.Tryz.prog 91 ⟨1,8,[.v (.pointer none)],.other⟩=true:=by kernel_rfl
theorem N2:bD Go.Proofs.Tryz.prog 92 ⟨1,8,[.v (.map none)],.map 3 154⟩=true:=by kernel_rfl
theorem N3:bD Go.Proofs.Tryz.prog 93 ⟨3,40,[.v (.int .i64 0),.aB 7 [] .ex,.v (.map none)],.struct [(0,28),(2,92)]⟩=true:=by kernel_rfl
theorem N4:bD Go.Proofs.Tryz.prog 94 ⟨3,40,[.v (.int .i64 0),.aB 7 [] .ex,.v (.map none)],.struct [(0,28),(2,92)]⟩=true:=by kernel_rfl
theorem N5:bD Go.Proofs.Tryz.prog 98 ⟨1,8,[.v .nilFunc],.other⟩=true:=by kernel_rfl
theorem IT:bD Go.Proofs.Tryz.prog 102 ⟨1,24,[.aB 1 [] .ex],.slice 34⟩=true:=by kernel_rfl
theorem IU:bD Go.Proofs.Tryz.prog 105 ⟨1,8,[.v (.map none)],.map 3 53⟩=true:=by kernel_rfl
theorem IV:bD Go.Proofs.Tryz.prog 106 ⟨6,96,[.v (.int .i64 0),.aB 7 [] .ex,.aB 1 [] .ex,.aB 1 [] .ex,.v (.map none),.v (.map none)],.struct [(0,28),(2,34),(3,102),(4,105),(5,64)]⟩=true:=by kernel_rfl
theorem IW:bD Go.Proofs.Tryz.prog 107 ⟨6,96,[.v (.int .i64 0),.aB 7 [] .ex,.aB 1 [] .ex,.aB 1 [] .ex,.v (.map none),.v (.map none)],.struct [(0,28),(2,34),(3,102),(4,105),(5,64)]⟩=true:=by kernel_rfl
theorem IX:bD Go.Proofs.Tryz.prog 108 ⟨1,8,[.v (.map none)],.map 9 3⟩=true:=by kernel_rfl
theorem IY:bD Go.Proofs.Tryz.prog 109 ⟨1,24,[.aB 4 [] .ex],.slice 221⟩=true:=by kernel_rfl
theorem IZ:bD Go.Proofs.Tryz.prog 110 ⟨5,56,[.aB 4 [] .ex,.v (.map none),.v (.map none),.v (.map none),.v (.map none)],.struct [(0,109),(1,108),(2,64),(3,64),(4,64)]⟩=true:=by kernel_rfl
theorem I0:bD Go.Proofs.Tryz.prog 111 ⟨5,56,[.aB 4 [] .ex,.v (.map none),.v (.map none),.v (.map none),.v (.map none)],.struct [(0,109),(1,108),(2,64),(3,64),(4,64)]⟩=true:=by kernel_rfl
theorem I1:bD Go.Proofs.Tryz.prog 113 ⟨1,8,[.v (.pointer none)],.other⟩=true:=by kernel_rfl
theorem I2:bD Go.Proofs.Tryz.prog 114 ⟨1,8,[.v (.map none)],.map 73 3⟩=true:=by kernel_rfl
theorem I3:bD Go.Proofs.Tryz.prog 115 ⟨4,64,[.v (.pointer none),.v (.map none),.aB 1 [] .ex,.aB 1 [] .ex],.struct [(0,50),(1,114),(2,34),(3,34)]⟩=true:=by kernel_rfl
theorem I4:bD Go.Proofs.Tryz.prog 116 ⟨4,64,[.v (.pointer none),.v (.map none),.aB 1 [] .ex,.aB 1 [] .ex],.struct [(0,50),(1,114),(2,34),(3,34)]⟩=true:=by kernel_rfl
theorem I5:bD Go.Proofs.Tryz.prog 118 ⟨1,8,[.v .nilFunc],.other⟩=true:=by kernel_rfl
theorem I6:bD Go.Proofs.Tryz.prog 120 ⟨1,8,[.v (.pointer none)],.other⟩=true:=by kernel_rfl
theorem I7:bD Go.Proofs.Tryz.prog 122 ⟨1,8,[.v .nilFunc],.other⟩=true:=by kernel_rfl
theorem I8:bD Go.Proofs.Tryz.prog 125 ⟨1,8,[.v (.map none)],.map 3 131⟩=true:=by kernel_rfl
theorem I9:bD Go.Proofs.Tryz.prog 126 ⟨1,8,[.v (.map none)],.map 76 3⟩=true:=by kernel_rfl
theorem I':bD Go.Proofs.Tryz.prog 127 ⟨8,64,[.v (.map none),.v (.map none),.v (.map none),.v (.map none),.v (.map none),.v (.map none),.v (.map none),.v (.bool false)],.struct [(0,64),(1,114),(2,64),(3,125),(4,114),(5,114),(6,126),(7,4)]⟩=true:=by kernel_rfl
theorem Ja:bD Go.Proofs.Tryz.prog 128 ⟨8,64,[.v (.map none),.v (.map none),.v (.map none),.v (.map none),.v (.map none),.v (.map none),.v (.map none),.v (.bool false)],.struct [(0,64),(1,114),(2,64),(3,125),(4,114),(5,114),(6,126),(7,4)]⟩=true:=by kernel_rfl
theorem Jb:bD Go.Proofs.Tryz.prog 130 ⟨2,16,[.v (.int .i64 0),.v (.int .i64 0)],.struct [(0,3),(1,3)]⟩=true:=by kernel_rfl
theorem Jc:bD Go.Proofs.Tryz.prog 131 ⟨2,16,[.v (.int .i64 0),.v (.int .i64 0)],.struct [(0,3),(1,3)]⟩=true:=by kernel_rfl
theorem Jd:bD Go.Proofs.Tryz.prog 132 ⟨8,96,[.v (.int .i64 0),.v (.int .i64 0),.v (.int .i64 0),.aB 1 [] .ex,.v (.int .i64 0),.v (.int .i64 0),.v (.int .i64 0),.aB 1 [] .ex],.struct [(0,3),(1,3),(2,3),(3,34),(4,53)]⟩=true:=by kernel_rfl
theorem Je:bD Go.Proofs.Tryz.prog 133 ⟨8,96,[.v (.int .i64 0),.v (.int .i64 0),.v (.int .i64 0),.aB 1 [] .ex,.v (.int .i64 0),.v (.int .i64 0),.v (.int .i64 0),.aB 1 [] .ex],.struct [(0,3),(1,3),(2,3),(3,34),(4,53)]⟩=true:=by kernel_rfl
theorem Jf:bD Go.Proofs.Tryz.prog 139 ⟨1,24,[.aB 4 [] .ex],.slice 146⟩=true:=by kernel_rfl
theorem Jg:bD Go.Proofs.Tryz.prog 140 ⟨1,8,[.v (.pointer none)],.other⟩=true:=by kernel_rfl
theorem Jh:bD Go.Proofs.Tryz.prog 141 ⟨1,8,[.v (.map none)],.map 3 146⟩=true:=by kernel_rfl
theorem Ji:bD Go.Proofs.Tryz.prog 142 ⟨5,40,[.v (.int .i64 0),.v (.int .i64 0),.v (.int .i64 0),.v (.int .i64 0),.v (.map none)],.struct [(0,3),(1,3),(2,3),(3,3),(4,141)]⟩=true:=by kernel_rfl
theorem Jj:bD Go.Proofs.Tryz.prog 143 ⟨5,40,[.v (.int .i64 0),.v (.int .i64 0),.v (.int .i64 0),.v (.int .i64 0),.v (.map none)],.struct [(0,3),(1,3),(2,3),(3,3),(4,141)]⟩=true:=by kernel_rfl
theorem Jk:bD Go.Proofs.Tryz.prog 144 ⟨1,8,[.v (.pointer none)],.other⟩=true:=by kernel_rfl
theorem Jl:bD Go.Proofs.Tryz.prog 145 ⟨4,48,[.v (.int .i64 0),.v (.int .i64 0),.aB 4 [] .ex,.v (.pointer none)],.struct [(0,3),(1,3),(2,139),(3,144)]⟩=true:=by kernel_rfl
theorem Jm:bD Go.Proofs.Tryz.prog 146 ⟨4,48,[.v (.int .i64 0),.v (.int .i64 0),.aB 4 [] .ex,.v (.pointer none)],.struct [(0,3),(1,3),(2,139),(3,144)]⟩=true:=by kernel_rfl
theorem Jo:bD Go.Proofs.Tryz.prog 153 ⟨2,16,[.v (.int .i64 0),.v (.int .i64 0)],.struct [(0,3),(1,3)]⟩=true:=by kernel_rfl
theorem Jp:bD Go.Proofs.Tryz.prog 154 ⟨2,16,[.v (.int .i64 0),.v (.int .i64 0)],.struct [(0,3),(1,3)]⟩=true:=by kernel_rfl
theorem Jq:bD Go.Proofs.Tryz.prog 157 ⟨1,24,[.aB 2 [] .ex],.slice 160⟩=true:=by kernel_rfl
theorem Jr:bD Go.Proofs.Tryz.prog 158 ⟨1,8,[.v (.int .u64 0)],.other⟩=true:=by kernel_rfl
theorem Js:bD Go.Proofs.Tryz.prog 159 ⟨2,16,[.v (.int .u64 0),.v (.int .u64 0)],.array 2 158⟩=true:=by kernel_rfl
theorem Jt:bD Go.Proofs.Tryz.prog 160 ⟨2,16,[.v (.int .u64 0),.v (.int .u64 0)],.array 2 158⟩=true:=by kernel_rfl
theorem Ju:bD Go.Proofs.Tryz.prog 167 ⟨1,8,[.v .nilFunc],.other⟩=true:=by kernel_rfl
theorem Jv:bD Go.Proofs.Tryz.prog 169 ⟨1,8,[.v .nilFunc],.other⟩=true:=by kernel_rfl
theorem Jw:bD Go.Proofs.Tryz.prog 170 ⟨1,8,[.v .nilFunc],.other⟩=true:=by kernel_rfl
theorem Jx:bD Go.Proofs.Tryz.prog 171 ⟨2,48,[.aB 1 [] .ex,.aB 1 [] .ex],.struct [(0,34),(1,34)]⟩=true:=by kernel_rfl
theorem Jy:bD Go.Proofs.Tryz.prog 172 ⟨2,48,[.aB 1 [] .ex,.aB 1 [] .ex],.struct [(0,34),(1,34)]⟩=true:=by kernel_rfl
theorem Jz:bD Go.Proofs.Tryz.prog 179 ⟨1,8,[.v .nilFunc],.other⟩=true:=by kernel_rfl
theorem JA:bD Go.Proofs.Tryz.prog 207 ⟨1,8,[.v .nilFunc],.other⟩=true:=by kernel_rfl
theorem JB:bD Go.Proofs.Tryz.prog 209 ⟨1,8,[.v (.pointer none)],.other⟩=true:=by kernel_rfl
theorem JC:bD Go.Proofs.Tryz.prog 210 ⟨1,24,[.aB 1 [] .ex],.slice 5⟩=true:=by kernel_rfl
theorem JD:bD Go.Proofs.Tryz.prog 211 ⟨2,32,[.v (.pointer none),.aB 1 [] .ex],.struct [(0,209),(1,210)]⟩=true:=by kernel_rfl
theorem JE:bD Go.Proofs.Tryz.prog 212 ⟨2,32,[.v (.pointer none),.aB 1 [] .ex],.struct [(0,209),(1,210)]⟩=true:=by kernel_rfl
theorem JF:bD Go.Proofs.Tryz.prog 219 ⟨1,8,[.v .nilFunc],.other⟩=true:=by kernel_rfl
theorem JG:bD Go.Proofs.Tryz.prog 220 ⟨4,48,[.v (.int .i64 0),.v (.int .i64 0),.aB 1 [] .ex,.v (.int .i64 0)],.struct [(0,3),(1,3),(2,34),(3,3)]⟩=true:=by kernel_rfl
theorem JH:bD Go.Proofs.Tryz.prog 221 ⟨4,48,[.v (.int .i64 0),.v (.int .i64 0),.aB 1 [] .ex,.v (.int .i64 0)],.struct [(0,3),(1,3),(2,34),(3,3)]⟩=true:=by kernel_rfl
theorem JI:bD Go.Proofs.Tryz.prog 225 ⟨1,8,[.v .nilFunc],.other⟩=true:=by kernel_rfl
theorem JJ:bD Go.Proofs.Tryz.prog 247 ⟨1,8,[.v (.pointer none)],.other⟩=true:=by kernel_rfl
theorem JK:bD Go.Proofs.Tryz.prog 248 ⟨1,24,[.aB 2 [] .ex],.slice 254⟩=true:=by kernel_rfl
theorem JL:bD Go.Proofs.Tryz.prog 249 ⟨2,32,[.v (.int .i64 0),.aB 2 [] .ex],.struct [(0,3),(1,248)]⟩=true:=by kernel_rfl
theorem JM:bD Go.Proofs.Tryz.prog 250 ⟨2,32,[.v (.int .i64 0),.aB 2 [] .ex],.struct [(0,3),(1,248)]⟩=true:=by kernel_rfl
theorem JN:bD Go.Proofs.Tryz.prog 253 ⟨2,16,[.v (.int .i64 0),.v (.int .i64 0)],.struct [(0,3),(1,3)]⟩=true:=by kernel_rfl
theorem JO:bD Go.Proofs.Tryz.prog 254 ⟨2,16,[.v (.int .i64 0),.v (.int .i64 0)],.struct [(0,3),(1,3)]⟩=true:=by kernel_rfl
theorem JP:bD Go.Proofs.Tryz.prog 258 ⟨1,8,[.v .nilFunc],.other⟩=true:=by kernel_rfl
theorem JQ:bD Go.Proofs.Tryz.prog 263 ⟨2,16,[.v (.int .i64 0),.v (.int .i64 0)],.struct [(0,3),(1,3)]⟩=true:=by kernel_rfl
theorem JR:bD Go.Proofs.Tryz.prog 264 ⟨2,16,[.v (.int .i64 0),.v (.int .i64 0)],.struct [(0,3),(1,3)]⟩=true:=by kernel_rfl
theorem JS:bD Go.Proofs.Tryz.prog 265 ⟨1,24,[.aB 2 [] .ex],.slice 264⟩=true:=by kernel_rfl
theorem JT:bD Go.Proofs.Tryz.prog 266 ⟨1,8,[.v (.pointer none)],.other⟩=true:=by kernel_rfl
theorem JU:bD Go.Proofs.Tryz.prog 272 ⟨1,8,[.v .nilFunc],.other⟩=true:=by kernel_rfl
theorem JV:bD Go.Proofs.Tryz.prog 274 ⟨1,8,[.v .nilFunc],.other⟩=true:=by kernel_rfl
theorem JW:bD Go.Proofs.Tryz.prog 275 ⟨24,24,[.v (.int .u8 0),.v (.int .u8 0),.v (.int .u8 0),.v (.int .u8 0),.v (.int .u8 0),.v (.int .u8 0),.v (.int .u8 0),.v (.int .u8 0),.v (.int .u8 0),.v (.int .u8 0),.v (.int .u8 0),.v (.int .u8 0),.v (.int .u8 0),.v (.int .u8 0),.v (.int .u8 0),.v (.int .u8 0),.v (.int .u8 0),.v (.int .u8 0),.v (.int .u8 0),.v (.int .u8 0),.v (.int .u8 0),.v (.int .u8 0),.v (.int .u8 0),.v (.int .u8 0)],.array 24 5⟩=true:=by kernel_rfl
theorem JX:bD Go.Proofs.Tryz.prog 283 ⟨1,8,[.v (.int .u64 0)],.other⟩=true:=by kernel_rfl
theorem JY:bD Go.Proofs.Tryz.prog 288 ⟨1,4,[.v (.int .u32 0)],.other⟩=true:=by kernel_rfl
theorem JZ:bD Go.Proofs.Tryz.prog 307 ⟨1,8,[.v (.pointer none)],.other⟩=true:=by kernel_rfl
set_option maxRecDepth 100000 in
theorem hT:b8 Go.Proofs.Tryz.prog aP:=by
 intro t ti h;unfold aP at h;split at h
 ·cases h;exact aC Rx
 ·cases h;exact aC Ry
 ·cases h;exact aC Rz
 ·cases h;exact aC RA
 ·cases h;exact aC RB
 ·cases h;exact aC RC
 ·cases h;exact aC M8
 ·cases h;exact aC M9
 ·cases h;exact aC M'
 ·cases h;exact aC Na
 ·cases h;exact aC Nb
 ·cases h;exact aC Nc
 ·cases h;exact aC Nf
 ·cases h;exact aC Ng
 ·cases h;exact aC Nh
 ·cases h;exact aC Ni
 ·cases h;exact aC Nj
 ·cases h;exact aC Nk
 ·cases h;exact aC Nl
 ·cases h;exact aC Nn
 ·cases h;exact aC No
 ·cases h;exact aC Np
 ·cases h;exact aC Nq
 ·cases h;exact aC Nr
 ·cases h;exact aC Ns
 ·cases h;exact aC Nt
 ·cases h;exact aC Nu
 ·cases h;exact aC Nv
 ·cases h;exact aC Nw
 ·cases h;exact aC Nx
 ·cases h;exact aC Ny
 ·cases h;exact aC Nz
 ·cases h;exact aC NA
 ·cases h;exact aC NB
 ·cases h;exact aC NC
 ·cases h;exact aC ND
 ·cases h;exact aC NF
 ·cases h;exact aC NG
 ·cases h;exact aC NH
 ·cases h;exact aC NI
 ·cases h;exact aC NJ
 ·cases h;exact aC NK
 ·cases h;exact aC NL
 ·cases h;exact aC NM
 ·cases h;exact aC NN
 ·cases h;exact aC NO
 ·cases h;exact aC NP
 ·cases h;exact aC NQ
 ·cases h;exact aC NR
 ·cases h;exact aC NS
 ·cases h;exact aC NT
 ·cases h;exact aC NU
 ·cases h;exact aC NV
 ·cases h;exact aC NW
 ·cases h;exact aC NY
 ·cases h;exact aC NZ
 ·cases h;exact aC N0
 ·cases h;exact aC N1
 ·cases h;exact aC N2
 ·cases h;exact aC N3
 ·cases h;exact aC N4
 ·cases h;exact aC N5
 ·cases h;exact aC IT
 ·cases h;exact aC IU
 ·cases h;exact aC IV
 ·cases h;exact aC IW
 ·cases h;exact aC IX
 ·cases h;exact aC IY
 ·cases h;exact aC IZ
 ·cases h;exact aC I0
 ·cases h;exact aC I1
 ·cases h;exact aC I2
 ·cases h;exact aC I3
 ·cases h;exact aC I4
 ·cases h;exact aC I5
 ·cases h;exact aC I6
 ·cases h;exact aC I7
 ·cases h;exact aC I8
 ·cases h;exact aC I9
 ·cases h;exact aC I'
 ·cases h;exact aC Ja
 ·cases h;exact aC Jb
 ·cases h;exact aC Jc
 ·cases h;exact aC Jd
 ·cases h;exact aC Je
 ·cases h;exact aC Jf
 ·cases h;exact aC Jg
 ·cases h;exact aC Jh
 ·cases h;exact aC Ji
 ·cases h;exact aC Jj
 ·cases h;exact aC Jk
 ·cases h;exact aC Jl
 ·cases h;exact aC Jm
 ·cases h;exact aC Jo
 ·cases h;exact aC Jp
 ·cases h;exact aC Jq
 ·cases h;exact aC Jr
 ·cases h;exact aC Js
 ·cases h;exact aC Jt
 ·cases h;exact aC Ju
 ·cases h;exact aC Jv
 ·cases h;exact aC Jw
 ·cases h;exact aC Jx
 ·cases h;exact aC Jy
 ·cases h;exact aC Jz
 ·cases h;exact aC JA
 ·cases h;exact aC JB
 ·cases h;exact aC JC
 ·cases h;exact aC JD
 ·cases h;exact aC JE
 ·cases h;exact aC JF
 ·cases h;exact aC JG
 ·cases h;exact aC JH
 ·cases h;exact aC JI
 ·cases h;exact aC JJ
 ·cases h;exact aC JK
 ·cases h;exact aC JL
 ·cases h;exact aC JM
 ·cases h;exact aC JN
 ·cases h;exact aC JO
 ·cases h;exact aC JP
 ·cases h;exact aC JQ
 ·cases h;exact aC JR
 ·cases h;exact aC JS
 ·cases h;exact aC JT
 ·cases h;exact aC JU
 ·cases h;exact aC JV
 ·cases h;exact aC JW
 ·cases h;exact aC JX
 ·cases h;exact aC JY
 ·cases h;exact aC JZ
 cases h
theorem hm:Go.Proofs.Tryz.prog.follows .mixedOrders=true:=by kernel_rfl
structure bI where
 to:Int
 op:Int
 n:Int
 args:List Int
structure Edge where
 block:Int
 args:List Int
structure Term where
 kind:Int
 arg:Int
 n:Int
 cases:List Int
 to:List Edge
structure Block where
 params:List Int
 ins:List bI
 term:Term
structure Func where
 name:Int
 blocks:List Block
structure cL where
 fns:List Func
 main:Int
abbrev aI(n:Int):aa:=.v (.int .i64 n)
abbrev bp(l:List Int):aa:=.aB 1 (l.map aI) .sh
def bI.enc(i:bI):aa:=.agg [aI i.to,aI i.op,aI i.n,bp i.args]
abbrev cS(l:List bI):aa:=.aB 4 (l.map bI.enc) .sh
def Edge.enc(e:Edge):aa:=.agg [aI e.block,bp e.args]
abbrev bq(l:List Edge):aa:=.aB 2 (l.map Edge.enc) .sh
def Term.enc(t:Term):aa:=.agg [aI t.kind,aI t.arg,aI t.n,bp t.cases,bq t.to]
def Block.enc(b:Block):aa:=.agg [bp b.params,cS b.ins,aI b.term.kind,aI b.term.arg,aI b.term.n,bp b.term.cases,bq b.term.to]
abbrev aM(l:List Block):aa:=.aB 7 (l.map Block.enc) .sh
def Func.enc(f:Func):aa:=.agg [aI f.name,aM f.blocks]
abbrev cn(l:List Func):aa:=.aB 2 (l.map Func.enc) .sh
def cL.enc(u:cL):aa:=.agg [cn u.fns,aI u.main]
theorem ay(n:Nat)(l:List Int):av n (l.map aI):=by
 rw[a6];intro x hx;obtain⟨c,_,rfl⟩:=List.mem_map.1 hx;trivial
theorem GF(l:List Int):(l.map aI).map aa.share=l.map aI:=by
 rw[List.map_map];rfl
theorem bI.an(i:bI):i.enc.cells=[aI i.to,aI i.op,aI i.n,bp i.args]:=rfl
theorem bI.fold(i:bI):aa.agg [aI i.to,aI i.op,aI i.n,bp i.args]=i.enc:=rfl
theorem bI.aS(n:Nat)(i:bI):i.enc.upto n:=by
 simp only[bI.enc,aa.upto,av,and_true,true_and,ay]
theorem bI.aj(n:Nat)(l:List bI):av n (l.map bI.enc):=by
 rw[a6];intro x hx;obtain⟨c,_,rfl⟩:=List.mem_map.1 hx;exact c.aS n
theorem bI.ax(i:bI):i.enc.flat:=trivial
theorem bI.ar(i:bI):i.enc.share=i.enc:=rfl
theorem bI.dB(l:List bI):(l.map bI.enc).map aa.share=l.map bI.enc:=by
 rw[List.map_map];rfl
theorem Edge.an(e:Edge):e.enc.cells=[aI e.block,bp e.args]:=rfl
theorem Edge.fold(e:Edge):aa.agg [aI e.block,bp e.args]=e.enc:=rfl
theorem Edge.aS(n:Nat)(e:Edge):e.enc.upto n:=by
 simp only[Edge.enc,aa.upto,av,and_true,true_and,ay]
theorem Edge.aj(n:Nat)(l:List Edge):av n (l.map Edge.enc):=by
 rw[a6];intro x hx;obtain⟨c,_,rfl⟩:=List.mem_map.1 hx;exact c.aS n
theorem Edge.ax(e:Edge):e.enc.flat:=trivial
theorem Edge.ar(e:Edge):e.enc.share=e.enc:=rfl
theorem Edge.dB(l:List Edge):(l.map Edge.enc).map aa.share=l.map Edge.enc:=by
 rw[List.map_map];rfl
theorem Term.an(t:Term):t.enc.cells=[aI t.kind,aI t.arg,aI t.n,bp t.cases,bq t.to]:=rfl
theorem Term.fold(t:Term):aa.agg [aI t.kind,aI t.arg,aI t.n,bp t.cases,bq t.to]=t.enc:=rfl
theorem Term.aS(n:Nat)(t:Term):t.enc.upto n:=by
 simp only[Term.enc,aa.upto,av,and_true,true_and,ay,Edge.aj]
theorem Term.aj(n:Nat)(l:List Term):av n (l.map Term.enc):=by
 rw[a6];intro x hx;obtain⟨c,_,rfl⟩:=List.mem_map.1 hx;exact c.aS n
theorem Term.ax(t:Term):t.enc.flat:=trivial
theorem Term.ar(t:Term):t.enc.share=t.enc:=rfl
theorem Term.dB(l:List Term):(l.map Term.enc).map aa.share=l.map Term.enc:=by
 rw[List.map_map];rfl
theorem Block.an(b:Block):b.enc.cells=[bp b.params,cS b.ins,aI b.term.kind,aI b.term.arg,aI b.term.n,bp b.term.cases,bq b.term.to]:=rfl
theorem Block.fold(b:Block):aa.agg [bp b.params,cS b.ins,aI b.term.kind,aI b.term.arg,aI b.term.n,bp b.term.cases,bq b.term.to]=b.enc:=rfl
theorem Block.aS(n:Nat)(b:Block):b.enc.upto n:=by
 simp only[Block.enc,aa.upto,av,and_true,true_and,ay,Edge.aj,bI.aj]
theorem Block.aj(n:Nat)(l:List Block):av n (l.map Block.enc):=by
 rw[a6];intro x hx;obtain⟨c,_,rfl⟩:=List.mem_map.1 hx;exact c.aS n
theorem Block.ax(b:Block):b.enc.flat:=trivial
theorem Block.ar(b:Block):b.enc.share=b.enc:=rfl
theorem Block.dB(l:List Block):(l.map Block.enc).map aa.share=l.map Block.enc:=by
 rw[List.map_map];rfl
theorem Func.an(f:Func):f.enc.cells=[aI f.name,aM f.blocks]:=rfl
theorem Func.fold(f:Func):aa.agg [aI f.name,aM f.blocks]=f.enc:=rfl
theorem Func.aS(n:Nat)(f:Func):f.enc.upto n:=by
 simp only[Func.enc,aa.upto,av,and_true,true_and,ay,Block.aj]
theorem Func.aj(n:Nat)(l:List Func):av n (l.map Func.enc):=by
 rw[a6];intro x hx;obtain⟨c,_,rfl⟩:=List.mem_map.1 hx;exact c.aS n
theorem Func.ax(f:Func):f.enc.flat:=trivial
theorem Func.ar(f:Func):f.enc.share=f.enc:=rfl
theorem Func.dB(l:List Func):(l.map Func.enc).map aa.share=l.map Func.enc:=by
 rw[List.map_map];rfl
theorem cL.an(u:cL):u.enc.cells=[cn u.fns,aI u.main]:=rfl
theorem cL.fold(u:cL):aa.agg [cn u.fns,aI u.main]=u.enc:=rfl
theorem cL.aS(n:Nat)(u:cL):u.enc.upto n:=by
 simp only[cL.enc,aa.upto,av,and_true,true_and,ay,Func.aj]
theorem cL.aj(n:Nat)(l:List cL):av n (l.map cL.enc):=by
 rw[a6];intro x hx;obtain⟨c,_,rfl⟩:=List.mem_map.1 hx;exact c.aS n
theorem cL.ax(u:cL):u.enc.flat:=trivial
theorem cL.ar(u:cL):u.enc.share=u.enc:=rfl
theorem cL.dB(l:List cL):(l.map cL.enc).map aa.share=l.map cL.enc:=by
 rw[List.map_map];rfl
theorem au:rQ Tryz.prog 3=some (.int .i64):=by
 unfold rQ;rw[Tryz.underlying3]
def oY(n:Int):Prop:=-9223372036854775808<=n∧n<=9223372036854775807
def ss(l:List Int):Prop:=∀n∈l,oY n
def bI.fit(i:bI):Prop:=oY i.to∧oY i.op∧oY i.n∧ss i.args∧i.args.length<=2 ^ 47
def Edge.fit(e:Edge):Prop:=oY e.block∧ss e.args∧e.args.length<=2 ^ 47
def Term.fit(t:Term):Prop:=oY t.kind∧oY t.arg∧oY t.n∧ss t.cases∧t.cases.length<=2 ^ 47∧t.to.length<=2 ^ 47∧∀e∈t.to,e.fit
def Block.fit(b:Block):Prop:=ss b.params∧b.params.length<=2 ^ 47∧b.ins.length<=2 ^ 47∧(∀i∈b.ins,i.fit)∧b.term.fit
def Func.fit(f:Func):Prop:=oY f.name∧f.blocks.length<=2 ^ 47∧∀b∈f.blocks,b.fit
def cL.fit(u:cL):Prop:=oY u.main∧u.fns.length<=2 ^ 47∧∀f∈u.fns,f.fit
theorem iQ{u:Nat}(h:u<10):Lib.decDigits u=[UInt8.ofNat (48+u)]:=by
 rw[Lib.decDigits,dif_pos h]
theorem lO{u:Nat}(h:¬u<10):Lib.decDigits u=Lib.decDigits (u / 10)++[UInt8.ofNat (48+u % 10)]:=by
 rw[Lib.decDigits,dif_neg h]
def xR(l:List UInt8):Nat:=l.foldl (fun a b=>a*10+(b.toNat-48)) 0
theorem tp{d:Nat}(h:d<10):(UInt8.ofNat (48+d)).toNat=48+d:=by
 rw[UInt8.toNat_ofNat'];omega
theorem oR(u:Nat):xR (Lib.decDigits u)=u:=by
 induction u using Nat.strongRecOn with
 | _ u ih =>
  by_cases h:u<10
  ·rw[iQ h];simp only[xR,List.foldl_cons,List.foldl_nil,tp h];omega
  rw[lO h];have:=ih (u / 10) (by omega);simp only[xR]at this;simp only[xR,List.foldl_append,List.foldl_cons,List.foldl_nil,this,tp (Nat.mod_lt u (by decide:10 > 0))];omega
theorem oB(u:Nat):∀b∈Lib.decDigits u,48<=b.toNat∧b.toNat<=57:=by
 induction u using Nat.strongRecOn with
 | _ u ih =>
  intro b hb;by_cases h:u<10
  ·rw[iQ h]at hb;simp only[List.mem_singleton]at hb;rw[hb,tp h];omega
  rw[lO h]at hb;rcases List.mem_append.1 hb with q|q
  ·exact ih (u / 10) (by omega) b q
  simp only[List.mem_singleton]at q;rw[q,tp (Nat.mod_lt u (by decide:10 > 0))];omega
theorem H7{a b:Int}(h:Lib.itoa a=Lib.itoa b):a=b:=by
 unfold Lib.itoa at h;split at h
 ·split at h
  ·simp only[List.cons.injEq,true_and]at h;have:=congrArg xR h;rw[oR,oR]at this;omega
  exfalso;have:=oB b.toNat 45 (by rw[<-h];exact List.mem_cons_self);simp at this
 split at h
 ·exfalso;have:=oB a.toNat 45 (by rw[h];exact List.mem_cons_self);simp at this
 have:=congrArg xR h;rw[oR,oR]at this;omega
theorem u7(a:Int):∀b∈Lib.itoa a,b≠32:=fun b hb e=>by
 unfold Lib.itoa at hb;rw[e]at hb;split at hb
 ·rcases List.mem_cons.1 hb with q|q
  ·cases q
  have:=oB _ _ q;simp at this
 have:=oB _ _ hb;simp at this
def jj(l:List Int):List UInt8:=l.flatMap fun k=>Lib.itoa k++[32]
theorem By:∀{a b r s:List UInt8},(∀x∈a,x≠32)->(∀x∈b,x≠32)->a++32::r=b++32::s->a=b∧r=s
 | [],[],r,s,_,_,h=>⟨rfl,by simpa using h⟩
 | [],y::b,r,s,_,hb,h=>by
  simp only[List.nil_append,List.cons_append,List.cons.injEq]at h;exact absurd h.1.symm (hb y List.mem_cons_self)
 | x::a,[],r,s,ha,_,h=>by
  simp only[List.nil_append,List.cons_append,List.cons.injEq]at h;exact absurd h.1 (ha x List.mem_cons_self)
 | x::a,y::b,r,s,ha,hb,h=>by
  simp only[List.cons_append,List.cons.injEq]at h;obtain⟨q1,q2⟩:=By (fun z hz=>ha z (List.mem_cons_of_mem _ hz)) (fun z hz=>hb z (List.mem_cons_of_mem _ hz)) h.2;exact⟨by rw[h.1,q1],q2⟩
theorem AX:∀{l m:List Int},jj l=jj m->l=m
 | [],[],_=>rfl
 | [],y::m,h=>by simp[jj]at h
 | x::l,[],h=>by simp[jj]at h
 | x::l,y::m,h=>by
  simp only[jj,List.flatMap_cons,List.append_assoc,List.singleton_append]at h;obtain⟨q1,q2⟩:=By (u7 x) (u7 y) h;rw[H7 q1,AX q2]
theorem FA(l:List Int)(k:Int):jj (l++[k])=jj l++Lib.itoa k++[32]:=by
 simp[jj]
structure cQ where
 op:Int
 n:Int
 args:List Int
 late:Int
def cQ.enc(x:cQ):aa:=.agg [aI x.op,aI x.n,bp x.args,aI x.late]
def wR(op n:Int)(args:List Int):ByteArray:=⟨(jj (op::n::args)).toArray⟩
theorem AY{op n VY n':Int}{args args':List Int}(h:wR op n args=wR VY n' args'):op=VY∧n=n'∧args=args':=by
 have h1:jj (op::n::args)=jj (VY::n'::args'):=by
  have:=congrArg ByteArray.data h;exact congrArg Array.toList this
 have:=AX h1;simp only[List.cons.injEq]at this;exact this
def jf(i:Nat):List cQ->List (Value×aa)
 | []=>[]
 | x::r=>(.string (wR x.op x.n x.args),aI i)::jf (i+1) r
def j0:List cQ->Int->Int->List Int->Nat
 | [],_,_,_=>0
 | x::r,op,n,args=>if x.op=op∧x.n=n∧x.args=args then 0 else j0 r op n args+1
theorem yI:∀(L:List cQ) (op n:Int) (args:List Int),j0 L op n args<=L.length
 | [],_,_,_=>Nat.le_refl _
 | x::r,op,n,args=>by
  simp only[j0,List.length_cons];have:=yI r op n args;split<;>omega
theorem xk(s t:ByteArray):fZ (.string s) (.string t)=decide (s=t):=rfl
theorem xj(op n:Int)(args:List Int):∀(L:List cQ) (i:Nat),bC (jf i L) (.string (wR op n args))=if j0 L op n args<L.length then some (aI (i+j0 L op n args:Nat))else none
 | [],i=>rfl
 | x::r,i=>by
  have ih:=xj op n args r (i+1);simp only[jf,bC,xk,j0,List.length_cons];by_cases h:x.op=op∧x.n=n∧x.args=args
  ·obtain⟨rfl,rfl,rfl⟩:=h;simp
  have hk:¬wR x.op x.n x.args=wR op n args:=fun e=>h (AY e);simp only[hk,decide_false,Bool.false_eq_true,if_false,if_neg h,ih];by_cases q:j0 r op n args<r.length
  ·rw[if_pos q,if_pos (by omega),show i+1+j0 r op n args=i+(j0 r op n args+1) by omega]
  rw[if_neg q,if_neg (by omega)]
theorem Al(op n:Int)(args:List Int)(late:Int):∀(L:List cQ) (i:Nat),¬j0 L op n args<L.length->cB (jf i L) (.string (wR op n args)) (aI (i+L.length:Nat))=jf i (L++[⟨op,n,args,late⟩])
 | [],i,_=>rfl
 | x::r,i,hq=>by
  simp only[j0,List.length_cons]at hq;by_cases h:x.op=op∧x.n=n∧x.args=args
  ·rw[if_pos h]at hq;omega
  rw[if_neg h]at hq;have ih:=Al op n args late r (i+1) (by omega);have hk:¬wR x.op x.n x.args=wR op n args:=fun e=>h (AY e);simp only[jf,cB,xk,List.cons_append,List.length_cons];simp only[hk,decide_false,Bool.false_eq_true,if_false];rw[show i+(r.length+1)=i+1+r.length by omega,ih]
def sF(L:List cQ)(op:Int):Nat->List Int->Int->Int
 | _,[],m=>m
 | k,a::r,m=>sF L op (k+1) r (if op≠201∨k % 2=1 then max m ((L[a.toNat]?.map (·.late)).getD 0)else m)
def dC(L:List cQ)(op n:Int)(args:List Int):Nat×List cQ :=
 (j0 L op n args,if j0 L op n args<L.length then L else L++[⟨op,n,args,sF L op 0 args (if op=200 then n else 0)⟩])
inductive lY(L:List cQ):Nat->Int->Int->Prop
 | int {t:Nat} {q late:Int} (h:L[t]?=some ⟨0,q,[],late⟩):lY L t 0 q
 | var {n late:Int} (h:L[1]?=some ⟨200,n,[],late⟩):lY L 1 1 0
 | sum {t:Nat} {p q late:Int} (hp:p≠0) (hn:¬(p=1∧q=0)) (h:L[t]?=some ⟨201,q,[p,1],late⟩):lY L t p q
def lp(p:Int):List Int:=if p=0 then []else [p]
theorem lY.get{L:List cQ}{t:Nat}{p q:Int}(h:lY L t p q):∃x,L[t]?=some x:=by
 cases h with
 | int h=>exact⟨_,h⟩
 | var h=>exact⟨_,h⟩
 | sum _ _ h=>exact⟨_,h⟩
theorem lY.more{L:List cQ}{t:Nat}{p q:Int}(h:lY L t p q)(M:List cQ):lY (L++M) t p q:=by
 have key:∀{t:Nat} {x:cQ},L[t]?=some x->(L++M)[t]?=some x:=fun {t x} hx=>by
  rw[List.getElem?_append_left (by
   rcases Nat.lt_or_ge t L.length with q|q
   ·exact q
   rw[List.getElem?_eq_none q]at hx;cases hx)]
  exact hx
 cases h with
 | int h=>exact .int (key h)
 | var h=>exact .var (key h)
 | sum hp hn h=>exact .sum hp hn (key h)
def cH(L:List cQ)(p q:Int):Nat×List cQ:=if p=0 then dC L 0 q []else if p=1∧q=0 then(1,L)else dC L 201 q [p,1]
def EE(L:List cQ):Prop:=∀(i j:Nat) (x y:cQ),L[i]?=some x->L[j]?=some y->x.op=y.op->x.n=y.n->x.args=y.args->i=j
theorem AU:∀(L:List cQ) {op n:Int} {args:List Int},j0 L op n args<L.length->∃late,L[j0 L op n args]?=some ⟨op,n,args,late⟩
 | [],_,_,_,h=>by simp at h
 | x::r,op,n,args,h=>by
  by_cases e:x.op=op∧x.n=n∧x.args=args
  ·obtain⟨rfl,rfl,rfl⟩:=e;refine⟨x.late,?_⟩;simp[j0]
  simp only[j0,if_neg e,List.length_cons]at h ⊢;obtain⟨late,hl⟩:=AU r (op:=op) (n:=n) (args:=args) (by omega);exact⟨late,by simpa using hl⟩
theorem xB:∀(L:List cQ) {op n:Int} {args:List Int},¬j0 L op n args<L.length->∀(i:Nat) (x:cQ),L[i]?=some x->¬(x.op=op∧x.n=n∧x.args=args)
 | [],_,_,_,_,i,x,hx=>by simp at hx
 | y::r,op,n,args,h,i,x,hx=>by
  by_cases e:y.op=op∧y.n=n∧y.args=args
  ·simp[j0,e]at h
  simp only[j0,if_neg e,List.length_cons]at h;cases i with
  | zero =>
   simp at hx;subst hx;exact e
  | succ i=>exact xB r (by omega) i x (by simpa using hx)
structure Grow(L:List cQ)(r:Nat×List cQ):Prop where
 more:∃M,r.2=L++M∧M.length<=1
 uniq:EE L->EE r.2
theorem mf(L:List cQ)(op n:Int)(args:List Int):Grow L (dC L op n args)∧∃late,(dC L op n args).2[(dC L op n args).1]?=some ⟨op,n,args,late⟩:=by
 by_cases h:j0 L op n args<L.length
 ·rw[dC,if_pos h];exact⟨⟨⟨[],by simp,by simp⟩,id⟩,AU L h⟩
 have hl:=yI L op n args;have he:j0 L op n args=L.length:=by omega
 rw[dC,if_neg h];refine⟨⟨⟨_,rfl,by simp⟩,fun hu i j x y hx hy h1 h2 h3=>?_⟩,sF L op 0 args (if op=200 then n else 0),by rw[he];simp⟩;have key:=xB L h;simp only at hx hy;rw[List.getElem?_append]at hx hy;split at hx
 ·split at hy
  ·exact hu i j x y hx hy h1 h2 h3
  rename_i q;have hz:j-L.length=0:=by
   rcases Nat.eq_zero_or_pos (j-L.length)with z|z
   ·exact z
   rw[List.getElem?_eq_none (by simp;omega)]at hy;cases hy
  rw[hz]at hy;simp at hy;subst hy;exact absurd ⟨h1,h2,h3⟩ (key i x hx)
 rename_i p;have hz:i-L.length=0:=by
  rcases Nat.eq_zero_or_pos (i-L.length)with z|z
  ·exact z
  rw[List.getElem?_eq_none (by simp;omega)]at hx;cases hx
 rw[hz]at hx;simp at hx;subst hx;split at hy
 ·exact absurd ⟨h1.symm,h2.symm,h3.symm⟩ (key j y hy)
 rename_i q;have hz:j-L.length=0:=by
  rcases Nat.eq_zero_or_pos (j-L.length)with z|z
  ·exact z
  rw[List.getElem?_eq_none (by simp;omega)]at hy;cases hy
 omega
theorem ER(L:List cQ)(p q:Int){n l1:Int}(hv:L[1]?=some ⟨200,n,[],l1⟩):Grow L (cH L p q)∧lY (cH L p q).2 (cH L p q).1 p q:=by
 unfold cH;by_cases h0:p=0
 ·rw[if_pos h0];obtain⟨h1,late,h2⟩:=mf L 0 q [];rw[h0];exact⟨h1,.int h2⟩
 rw[if_neg h0];by_cases h1:p=1∧q=0
 ·rw[if_pos h1];obtain⟨rfl,rfl⟩:=h1;exact⟨⟨⟨[],by simp,by simp⟩,id⟩,.var hv⟩
 rw[if_neg h1];obtain⟨h2,late,h3⟩:=mf L 201 q [p,1];exact⟨h2,.sum h0 h1 h3⟩
theorem lY.inj{L:List cQ}(hu:EE L){t s:Nat}{p q:Int}(h:lY L t p q)(k:lY L s p q):t=s:=by
 cases h with
 | int h =>
  cases k with
  | int k=>exact hu _ _ _ _ h k rfl rfl rfl
  | sum hp _ _=>exact absurd rfl hp
 | var h =>
  cases k with
  | var _=>rfl
  | sum _ hn _=>exact absurd ⟨rfl,rfl⟩ hn
 | sum hp hn h =>
  cases k with
  | int _=>exact absurd rfl hp
  | var _=>exact absurd ⟨rfl,rfl⟩ hn
  | sum _ _ k=>exact hu _ _ _ _ h k rfl rfl rfl
theorem lY.eq{L:List cQ}{t:Nat}{p q p' q':Int}(h:lY L t p q)(k:lY L t p' q'):p=p'∧q=q':=by
 cases h with
 | int h =>
  cases k with
  | int k =>
   rw[h]at k;simp at k;exact⟨rfl,k.1⟩
  | var k =>
   rw[h]at k;simp at k
  | sum _ _ k =>
   rw[h]at k;simp at k
 | var h =>
  cases k with
  | int k =>
   rw[h]at k;simp at k
  | var k=>exact⟨rfl,rfl⟩
  | sum _ _ k =>
   rw[h]at k;simp at k
 | sum _ _ h =>
  cases k with
  | int k =>
   rw[h]at k;simp at k
  | var k =>
   rw[h]at k;simp at k
  | sum _ _ k =>
   rw[h]at k;simp at k;exact⟨k.2.1,k.1⟩
inductive SV where
 | mk (kind n:Int) (list:List SV) (arr:Option Nat)
def eP:Option Nat->aa
 | none=>.v (.pointer none)
 | some id=>.mp id 0
namespace SV
def kind:SV->Int|mk k _ _ _=>k
def n:SV->Int|mk _ n _ _=>n
def list:SV->List SV|mk _ _ l _=>l
def arr:SV->Option Nat|mk _ _ _ a=>a
mutual
def enc:SV->aa
 | mk k n l a=>.agg [aI k,aI n,.aB 4 (Hh l) .sh,eP a]
def Hh:List SV->List aa
 | []=>[]
 | p::r=>p.enc::Hh r
end
theorem Aj:∀l:List SV,Hh l=l.map enc
 | []=>by simp[Hh]
 | p::r=>by simp[Hh,Aj r]
theorem gj(p:SV):p.enc=.agg [aI p.kind,aI p.n,.aB 4 (p.list.map enc) .sh,eP p.arr]:=by
 cases p with
 | mk k n l a=>simp[enc,kind,SV.n,list,arr,Aj]
theorem fold(p:SV):aa.agg [aI p.kind,aI p.n,.aB 4 (p.list.map enc) .sh,eP p.arr]=p.enc:=(gj p).symm
theorem jz(k n:Int)(l:List SV)(a:Option Nat):(mk k n l a).enc=.agg [aI k,aI n,.aB 4 (l.map enc) .sh,eP a]:=gj _
theorem an(p:SV):p.enc.cells=[aI p.kind,aI p.n,.aB 4 (p.list.map enc) .sh,eP p.arr]:=by
 rw[gj];rfl
theorem EF(p:SV):aa.agg p.enc.cells=p.enc:=by
 rw[an,fold]
theorem _root_.Go.Proofs.YtocdpaifmnkoaaaGreatDoor.cz(a:Option Nat):(eP a).br=eP a:=by cases a<;>rfl
theorem _root_.Go.Proofs.YtocdpaifmnkoaaaGreatDoor.EY(a:Option Nat):(eP a).scalar:=by cases a<;>trivial
theorem ar(p:SV):p.enc.share=p.enc:=by
 rw[gj];have:=cz p.arr;unfold aa.br at this;simp[aa.share,aa.br,this]
theorem ax(p:SV):p.enc.flat:=by
 rw[gj];trivial
theorem dB(l:List SV):(l.map enc).map aa.share=l.map enc:=by
 rw[List.map_map];exact List.map_congr_left fun p _=>ar p
theorem dj(p:SV):p.enc.cells.length=4:=by
 rw[an];rfl
inductive bj(n:Nat):SV->Prop
 | mk {k m:Int} {l:List SV} {a:Option Nat} (ha:∀id,a=some id->id<n) (hl:∀v,v∈l->bj n v):bj n (.mk k m l a)
theorem bj.mono{n m:Nat}(h:n<=m){v:SV}(k:bj n v):bj m v:=by
 induction k with
 | mk ha hl ih=>exact .mk (fun id e=>Nat.lt_of_lt_of_le (ha id e) h) ih
theorem KK{n:Nat}{a:Option Nat}(h:∀id,a=some id->id<n):(eP a).upto n:=by
 cases a with
 | none=>trivial
 | some id=>exact h id rfl
theorem bj.aS{n:Nat}{p:SV}(h:bj n p):p.enc.upto n:=by
 induction h with
 | mk ha hl ih =>
  rw[jz];simp only[aa.upto,av,true_and,and_true];refine⟨?_,KK ha⟩;rw[a6];intro x hx;obtain⟨v,hv,rfl⟩:=List.mem_map.1 hx;exact ih v hv
theorem aj{n:Nat}{l:List SV}(h:∀v∈l,bj n v):av n (l.map enc):=by
 rw[a6];intro x hx;obtain⟨v,hv,rfl⟩:=List.mem_map.1 hx;exact(h v hv).aS
theorem jy{n:Nat}{l:List SV}(h:∀v∈l,bj n v):av n (aw (l.map enc)):=by
 rw[a6];intro c hc;simp only[aw,List.mem_flatMap,List.mem_map]at hc;obtain⟨_,⟨p,hp,rfl⟩,hc⟩:=hc;have:=(h p hp).aS;rw[gj]at this;rw[an]at hc;simp only[aa.upto,a6]at this;exact this c hc
theorem LJ(l:List SV):(aw (l.map enc)).length=l.length*4:=by
 rw[cj (sz:=4) (fun x hx=>by
  obtain⟨p,_,rfl⟩:=List.mem_map.1 hx;exact p.dj)]
 simp
theorem Et:∀{l:List SV} {k:Nat} {p:SV},l[k]?=some p->((aw (l.map enc)).drop (k*4)).take 4=p.enc.cells
 | q::r,0,p,h=>by
  simp only[List.getElem?_cons_zero,Option.some.injEq]at h;subst h;simp only[List.map_cons,aw,List.flatMap_cons,Nat.zero_mul,List.drop_zero];rw[List.take_append_of_le_length (by rw[dj];exact Nat.le_refl _),List.take_of_length_le (by rw[dj];exact Nat.le_refl _)]
 | q::r,k+1,p,h=>by
  have ih:=Et (l:=r) (k:=k) (p:=p) (by simpa using h);simp only[List.map_cons,aw,List.flatMap_cons]at ih ⊢;rw[List.drop_append,List.drop_of_length_le (by rw[dj];omega),dj,show(k+1)*4-4=k*4 by omega];exact ih
theorem LK{l:List SV}{k:Nat}(h:k<l.length)(q:SV):bz (aw (l.map enc)) (k*4) q.enc.cells=aw ((l.set k q).map enc):=by
 induction l generalizing k with
 | nil=>simp at h
 | cons p r ih =>
  cases k with
  | zero =>
   simp only[List.set_cons_zero,List.map_cons,aw,List.flatMap_cons,bz,Nat.zero_mul,List.take_zero,List.nil_append,Nat.zero_add,dj];rw[List.drop_append_of_le_length (by rw[dj];exact Nat.le_refl _),List.drop_of_length_le (by rw[dj];exact Nat.le_refl _)];rfl
  | succ k =>
   have:=ih (k:=k) (by simpa using h);simp only[List.set_cons_succ,List.map_cons,aw,List.flatMap_cons,bz,dj]at this ⊢;rw[List.take_append,List.drop_append,dj,List.take_of_length_le (by rw[dj];omega),List.drop_of_length_le (by rw[dj];omega),show(k+1)*4-4=k*4 by omega,show(k+1)*4+4-4=k*4+4 by omega,List.nil_append,List.append_assoc,this]
def word(n:Int):SV:=mk 0 n [] none
def zero:SV:=mk 0 0 [] none
inductive Wf(f:Nat)(a:Nat->Prop):SV->Prop
 | mk {k m:Int} {l:List SV} {r:Option Nat}
   (h0:0<=k∧k<=4) (h1:k=0∨k=1->-1073741824<=m∧m<=1073741823) (h2:k=2->0<=m∧m<f) (h3:k=3->∃id,r=some id)
   (h4:k=4->∀v,v∈l->v.kind=0) (hl:l.length<=1000) (hr:∀id,r=some id->a id) (h:∀v,v∈l->Wf f a v):Wf f a (.mk k m l r)
theorem Wf.under{f n:Nat}{a:Nat->Prop}(ha:∀id,a id->id<n){v:SV}(h:Wf f a v):bj n v:=by
 induction h with
 | mk h0 h1 h2 h3 h4 hl hr h ih=>exact .mk (fun id e=>ha id (hr id e)) ih
theorem Wf.mono{f:Nat}{a b:Nat->Prop}(tu:∀id,a id->b id){v:SV}(h:Wf f a v):Wf f b v:=by
 induction h with
 | mk h0 h1 h2 h3 h4 hl hr h ih=>exact .mk h0 h1 h2 h3 h4 hl (fun id e=>tu id (hr id e)) ih
theorem Wf.word{f:Nat}{a:Nat->Prop}{n:Int}(h:-1073741824<=n∧n<=1073741823):Wf f a (word n) :=
 .mk (by omega) (fun _=>h) (by omega) (by omega) (by omega) (by simp) (by simp) (by simp)
theorem Wf.zero{f:Nat}{a:Nat->Prop}:Wf f a zero:=Wf.word (n:=0) (by omega)
theorem Wf.num{f:Nat}{a:Nat->Prop}{v:SV}(h:Wf f a v):v.kind=0∨v.kind=1->-1073741824<=v.n∧v.n<=1073741823:=by cases h;assumption
theorem Wf.fn{f:Nat}{a:Nat->Prop}{v:SV}(h:Wf f a v):v.kind=2->0<=v.n∧v.n<f:=by cases h;assumption
theorem Wf.array{f:Nat}{a:Nat->Prop}{v:SV}(h:Wf f a v):v.kind=3->∃id,v.arr=some id:=by cases h;assumption
theorem Wf.vec{f:Nat}{a:Nat->Prop}{v:SV}(h:Wf f a v):v.kind=4->∀x∈v.list,x.kind=0:=by cases h;assumption
theorem Wf.len{f:Nat}{a:Nat->Prop}{v:SV}(h:Wf f a v):v.list.length<=1000:=by cases h;assumption
theorem Wf.ref{f:Nat}{a:Nat->Prop}{v:SV}(h:Wf f a v):∀id,v.arr=some id->a id:=by cases h;assumption
theorem Wf.kids{f:Nat}{a:Nat->Prop}{v:SV}(h:Wf f a v):∀x∈v.list,Wf f a x:=by cases h;assumption
end SV
def jk:List (Int×SV)->Int->Option SV
 | [],_=>none
 | (k,v)::r,key=>if k=key then some v else jk r key
def fR:List (Int×SV)->Int->SV->List (Int×SV)
 | [],key,y=>[(key,y)]
 | (k,x)::r,key,y=>if k=key then(key,y)::r else(k,x)::fR r key y
def gU(e:Int×SV):Value×aa:=(.int .i64 e.1,e.2.enc)
theorem oC(k l:Int):fZ (.int .i64 k) (.int .i64 l)=decide (k=l):=by
 simp[fZ]
theorem mg(es:List (Int×SV))(k:Int):bC (es.map gU) (.int .i64 k)=(jk es k).map SV.enc:=by
 induction es with
 | nil=>rfl
 | cons p r ih =>
  obtain⟨a,v⟩:=p;simp only[List.map_cons,gU,bC,jk,oC,decide_eq_true_eq];split
  ·rfl
  exact ih
theorem qX(es:List (Int×SV))(k:Int)(v:SV):cB (es.map gU) (.int .i64 k) v.enc=(fR es k v).map gU:=by
 induction es with
 | nil=>rfl
 | cons p r ih =>
  obtain⟨a,x⟩:=p;simp only[List.map_cons,gU,cB,fR,oC,decide_eq_true_eq];split
  ·rfl
  simp only[List.map_cons,gU];rw[<-ih]
def jA(es:List (Int×SV))(k:Int):SV:=(jk es k).getD .zero
theorem xC{es:List (Int×SV)}{k:Int}{v:SV}(h:jk es k=some v):∃e∈es,e.2=v:=by
 induction es with
 | nil=>simp[jk]at h
 | cons p r ih =>
  obtain⟨a,x⟩:=p;simp only[jk]at h;split at h
  ·exact⟨(a,x),by simp,by simpa using h⟩
  obtain⟨e,h1,h2⟩:=ih h;exact⟨e,by simp[h1],h2⟩
theorem jF{es:List (Int×SV)}{k:Int}{v:SV}{e:Int×SV}(h:e∈fR es k v):e∈es∨e=(k,v):=by
 induction es with
 | nil=>simpa[fR]using h
 | cons p r ih =>
  obtain⟨a,x⟩:=p;simp only[fR]at h;split at h
  ·rcases List.mem_cons.1 h with h|h
   ·exact .inr h
   exact .inl (by simp[h])
  rcases List.mem_cons.1 h with h|h
  ·exact .inl (by simp[h])
  rcases ih h with h|h
  ·exact .inl (by simp[h])
  exact .inr h
instance:Inhabited bI:=⟨⟨0,0,0,[]⟩⟩
instance:Inhabited Edge:=⟨⟨0,[]⟩⟩
instance:Inhabited Term:=⟨⟨0,0,0,[],[]⟩⟩
instance:Inhabited Block:=⟨⟨[],[],default⟩⟩
instance:Inhabited Func:=⟨⟨0,[]⟩⟩
instance:Inhabited SV:=⟨.zero⟩
structure Fr where
 b9:Nat
 dJ:Nat
 fn:Int
 blk:Int
 pos:Nat
 to:Int
 vals:List (Int×SV)
structure BP where
 lI:Nat
 nJ:Nat
 l:List SV
structure Mach where
 sid:Nat
 frames:List Fr
 heap:List BP
 next:Nat
 left:Int
 short:Bool
 over:Bool
 out:List Int
 fin:Int
 val:Int
def dc(u:cL)(k:Int):Func:=u.fns[k.toNat]?.getD default
def bQ(f:Func)(k:Int):Block:=f.blocks[k.toNat]?.getD default
def jv(n:Int):Int:=(n+1073741824) % 2147483648-1073741824
def dp(op a b:Int):SV×Int :=
 if op=1 then(.word (jv (a+b)),0)
 else if op=2 then(.word (jv (a-b)),0)
 else if op=3 then(.word (jv (a*b)),0)
 else if op=6 then(.word (if a<b then 1 else 0),0)
 else if op=7 then(.word (if a=b then 1 else 0),0)
 else if b=0 then(.zero,1)
 else if op=4 then(.word (jv (a.tdiv b)),0)
 else(.word (a.tmod b),0)
def kN(l:List SV)(k:Int):Bool:=l.all fun v=>decide (v.kind=k)
def cJ(l:List SV)(k:Nat):SV:=l[k]?.getD .zero
def c8(i:bI)(args:List SV):SV×Int :=
 if i.op=11 then
  if((cJ args 0).kind≠1∧(cJ args 0).kind≠2)∨((cJ args 0).list.length:Int)<=i.n then(.zero,5)else(cJ (cJ args 0).list i.n.toNat,0)
 else if(cJ args 0).kind≠1 then(.zero,5)
 else if i.op=10 then(.word (cJ args 0).n,0)
 else if i.op=12 then(.word (cJ args 0).list.length,0)
 else if(cJ args 1).kind≠0 then(.zero,5)
 else if(cJ args 1).n<0∨((cJ args 0).list.length:Int)<=(cJ args 1).n then(.zero,2)
 else(cJ (cJ args 0).list (cJ args 1).n.toNat,0)
def kK(op:Int):List SV->List SV->List SV
 | a::r,b::s=>(dp op a.n b.n).1::kK op r s
 | _,_=>[]
def dr(i:bI)(args:List SV):SV×Int :=
 if i.op=22 then
  if kN args 0 then(.mk 4 0 args none,0)else(.zero,5)
 else if i.op=24 then
  if(cJ args 0).kind≠4∨((cJ args 0).list.length:Int)<=i.n then(.zero,5)else(cJ (cJ args 0).list i.n.toNat,0)
 else if !kN args 4∨(cJ args 0).list.length≠(cJ args 1).list.length then(.zero,5)
 else(.mk 4 0 (kK i.n (cJ args 0).list (cJ args 1).list) none,0)
namespace Mach
def gn(m:Mach)(n:Int):Mach:=if m.left<n then { m with short:=true,over:=true }else { m with left:=m.left-n }
def stop(m:Mach)(e n:Int):Mach:={ m with over:=true,fin:=e,val:=n }
def jU:List BP->Option Nat->List SV
 | [],_=>[]
 | a::r,id=>if id=some a.lI then a.l else jU r id
def kk:List BP->Option Nat->List SV->List BP
 | [],_,_=>[]
 | a::r,id,l=>if id=some a.lI then⟨a.lI,a.nJ,l⟩::r else a::kk r id l
def bU(m:Mach)(size fill:SV):Mach×SV×Int :=
 if size.kind≠0 then(m,.zero,5)
 else if size.n<0∨1024<size.n then(m,.zero,6)
 else if(m.gn size.n).short then(m.gn size.n,.zero,0)
 else({ m.gn size.n with heap:=m.heap++[⟨m.next+8,m.next+7,List.replicate size.n.toNat fill⟩],next:=m.next+9 },.mk 3 0 [] (some (m.next+8)),0)
def effect(m:Mach)(i:bI)(args:List SV):Mach×SV×Int :=
 if i.op=15 then
  if(cJ args 0).kind≠0 then(m,.zero,5)
  else if m.out.length=1000 then(m,.zero,6)
  else({ m with out:=m.out++[(cJ args 0).n] },.word 0,0)
 else if i.op=16 then m.bU (cJ args 0) (cJ args 1)
 else if i.op=18 then
  if !kN args 0 then(m,.zero,5)
  else if(cJ args 0).n<0∨(cJ args 1).n<=(cJ args 0).n then(m,.zero,2)
  else(m,.word 0,0)
 else if(cJ args 0).kind≠3∨(i.op≠17∧(cJ args 1).kind≠0)then(m,.zero,5)
 else if i.op=17 then(m,.word (jU m.heap (cJ args 0).arr).length,0)
 else if(cJ args 1).n<0∨((jU m.heap (cJ args 0).arr).length:Int)<=(cJ args 1).n then(m,.zero,2)
 else if i.op=19 then(m,cJ (jU m.heap (cJ args 0).arr) (cJ args 1).n.toNat,0)
 else({ m with heap:=kk m.heap (cJ args 0).arr ((jU m.heap (cJ args 0).arr).set (cJ args 1).n.toNat (cJ args 2)) },.word 0,0)
def exec(m:Mach)(i:bI)(args:List SV):Mach×SV×Int :=
 if i.op=0 then(m,.word i.n,0)
 else if 1<=i.op∧i.op<=7 then
  if !kN args 0 then(m,.zero,5)else(m,dp i.op (cJ args 0).n (cJ args 1).n)
 else if i.op=8 then(m,.mk 1 i.n args none,0)
 else if i.op=9 then(m,.mk 2 i.n args none,0)
 else if i.op=10∨i.op=11∨i.op=12∨i.op=21 then(m,c8 i args)
 else if i.op=22∨i.op=23∨i.op=24 then(m,dr i args)
 else if i.op=100 then(m,cJ args 0,0)
 else m.effect i args
end Mach
def gL:List (Int×SV)->List Int->List SV->List (Int×SV)
 | es,p::ps,a::l=>gL (fR es p a) ps l
 | es,_,_=>es
def gH(es:List (Int×SV))(l:List Int):List SV:=l.map (jA es)
def je(t:Term)(n:Int):Nat :=
 if t.kind=2 then(if n≠0 then 0 else 1)else t.cases.findIdx (· == n)
namespace Mach
def enter(u:cL)(m:Mach)(fn:Int)(args:List SV)(to:Int):Mach :=
 { m with sid:=m.next+2,next:=m.next+3,frames:=⟨m.next+1,m.next,fn,0,0,to,gL [] (bQ (dc u fn) 0).params args⟩::m.frames }
def bX(m:Mach)(f:Fr):Mach:={ m with frames:=f::m.frames.tail }
def follow(u:cL)(m:Mach)(f:Fr)(e:Edge):Mach :=
 m.bX { f with blk:=e.block,pos:=0,vals:=gL f.vals (bQ (dc u f.fn) e.block).params (gH f.vals e.args) }
def leave(m:Mach)(f:Fr)(v:SV):Mach :=
 match m.frames.tail with
 | []=>{ m with frames:=[] }.stop 0 (if v.kind=0∨v.kind=1 then v.n else 0)
 | g::r=>{ m with frames:={ g with vals:=fR g.vals f.to v }::r }
def finish(u:cL)(m:Mach)(f:Fr)(t:Term):Mach :=
 if t.kind=4 then m.stop t.n 0
 else if t.kind=1 then m.follow u f (t.to[0]?.getD default)
 else if t.kind=0 then m.leave f (jA f.vals t.arg)
 else if(jA f.vals t.arg).kind≠0 then m.stop 5 0
 else m.follow u f (t.to[je t (jA f.vals t.arg).n]?.getD default)
def settle(f:Fr)(to:Int)(r:Mach×SV×Int):Mach :=
 (if r.2.2≠0 then r.1.stop r.2.2 0 else r.1).bX { f with vals:=fR f.vals to r.2.1 }
def act(u:cL)(m:Mach)(f:Fr)(i:bI)(args:List SV):Mach :=
 if i.op=13 then m.enter u i.n args i.to
 else if i.op=14 then
  if(cJ args 0).kind=2∧(bQ (dc u (cJ args 0).n) 0).params.length=args.length then m.enter u (cJ args 0).n args i.to else m.stop 5 0
 else settle f i.to (m.exec i args)
def step(u:cL)(m:Mach):Mach :=
 match m.frames with
 | []=>m
 | f::_ =>
  match (bQ (dc u f.fn) f.blk).ins[f.pos]? with
  | none=>m.finish u f (bQ (dc u f.fn) f.blk).term
  | some i=>(m.bX { f with pos:=f.pos+1 }).act u { f with pos:=f.pos+1 } i (gH f.vals i.args)
def start(fuel:Int):Mach:=⟨0,[],[],4,fuel,false,false,[],0,0⟩
def run(u:cL):Nat->Mach->Mach
 | 0,m=>m
 | k+1,m=>if m.over then m else if(m.gn 1).short then m.gn 1 else run u k (step u (m.gn 1))
end Mach
structure RI where
 out:List Int
 fin:Int
 val:Int
 n:Int
 e:Int
def vl(u:cL)(fuel:Int):RI :=
 let m:=Mach.run u (fuel.toNat+2) ((Mach.start fuel).enter u u.main [] 0)
 if m.short then⟨[],0,0,0,13⟩else⟨m.out,m.fin,m.val,fuel-m.left,0⟩
def cu(n:Int):Prop:=-1073741824<=n∧n<=1073741823
structure GB(u:cL)(i:bI):Prop where
 op:(0<=i.op∧i.op<=24)∨i.op=100
 len:i.args.length<=4096
 fits:oY i.to∧oY i.n
 c0:i.op=0->cu i.n
 c2:(1<=i.op∧i.op<=7)∨i.op=16∨i.op=18∨i.op=19∨i.op=21∨i.op=23->i.args.length=2
 c1:i.op=10∨i.op=11∨i.op=12∨i.op=15∨i.op=17∨i.op=24∨i.op=100->i.args.length=1
 c3:i.op=20->i.args.length=3
 T8:i.op=8->cu i.n∧i.args.length<=16
 UF:i.op=9->0<=i.n∧i.n<u.fns.length∧i.args.length<=16
 call:i.op=13->0<=i.n∧i.n<u.fns.length∧(bQ (dc u i.n) 0).params.length=i.args.length
 app:i.op=14->1<=i.args.length
 Ux:i.op=11∨i.op=24->0<=i.n
 pack:i.op=22->i.args.length<=16
 vec:i.op=23->i.n=1∨i.n=2∨i.n=3
structure xU(f:Func)(e:Edge):Prop where
 lo:0<=e.block
 hi:e.block<f.blocks.length
 args:e.args.length=(bQ f e.block).params.length
 len:e.args.length<=4096
structure xY(f:Func)(t:Term):Prop where
 kind:0<=t.kind∧t.kind<=4
 n:0<=t.n∧t.n<=6
 jump:t.kind=1->t.to.length=1
 cond:t.kind=2->t.to.length=2
 switch:t.kind=3->t.to.length=t.cases.length+1
 ni:∀e∈t.to,xU f e
 cl:t.cases.length<=2 ^ 40
structure Kx(u:cL)(f:Func)(b:Block):Prop where
 ins:∀i∈b.ins,GB u i
 term:xY f b.term
 len:b.ins.length<=2 ^ 40
structure mC(u:cL):Prop where
 main:0<=u.main∧u.main<u.fns.length
 oX:u.fns.length<=256
 none:(bQ (dc u u.main) 0).params=[]
 ne:∀f∈u.fns,f.blocks≠[]∧f.blocks.length<=2 ^ 40
 blocks:∀f∈u.fns,∀b∈f.blocks,Kx u f b
def gE(u:cL)(m:Mach)(v:SV):Prop:=SV.Wf u.fns.length (fun id=>∃a∈m.heap,a.lI=id) v
structure nF(u:cL)(m:Mach)(f:Fr):Prop where
 fn:0<=f.fn∧f.fn<u.fns.length
 blk:0<=f.blk∧f.blk<(dc u f.fn).blocks.length
 pos:f.pos<=(bQ (dc u f.fn) f.blk).ins.length
 vals:∀e∈f.vals,gE u m e.2
structure cx(u:cL)(m:Mach):Prop where
 frames:∀f∈m.frames,nF u m f
 iF:∀a∈m.heap,a.l.length<=1024∧∀v∈a.l,gE u m v
 left:0<=m.left
 depth:m.frames.length+m.left<=2 ^ 40
 out:m.out.length<=1000
 words:∀n∈m.out,cu n
 fin:0<=m.fin∧m.fin<=6
 val:cu m.val
 done:m.fin≠0->m.val=0
 over:m.over=false->m.frames≠[]∧m.short=false
def eB(b:Bool):aa:=.v (.bool b)
def aD(u:cL)(m:Mach):List aa:=[cn u.fns,aI u.main,.os m.sid m.frames.length 1,aI m.left,.v (.bool m.short),.v (.bool m.over),.aB 1 (m.out.map aI) (.tok 3),aI m.fin,aI m.val]
def aX(f:Fr):List aa:=[aI f.fn,aI f.blk,aI f.pos,aI f.to,.mm f.dJ]
def eY(l:List Fr):List aa:=l.reverse.map fun f=>.mp f.b9 0
theorem H8(v:Int):KT.ok (.int .i64) (.int .i64 v)=True:=by simp[KT.ok]
theorem bT{O:List aq}{n k:Nat}{x:aq}(h:∀o∈O,o.upto n)(hx:x.upto n):∀o∈O.set k x,o.upto n:=fun o ho=>by
 rcases List.mem_or_eq_of_mem_set ho with q|q
 ·exact h o q
 subst q;exact hx
theorem kZ{O:List aq}{n:Nat}{x:aq}(h:∀o∈O,o.upto n)(hx:x.upto n):∀o∈O++[x],o.upto n:=fun o ho=>by
 rcases List.mem_append.1 ho with q|q
 ·exact h o q
 simp only[List.mem_singleton]at q;subst q;exact hx
theorem cM{O:List aq}{k:Nat}{x:aq}:(O.set k x).take O.length=O.set k x:=List.take_of_length_le (by simp)
theorem dK{O X:List aq}{k:Nat}{x:aq}(h:O[k]?=some x):(O++X)[k]?=some x:=by
 rw[List.getElem?_append_left (ag h),h]
theorem bN{O:List aq}{k j:Nat}{x y:aq}(h:O[k]?=some x)(hj:j≠k):(O.set j y)[k]?=some x:=by
 rw[List.getElem?_set_ne hj,h]
theorem tX{O:List aq}{k:Nat}{x y:aq}(h:O[k]?=some x):(O.set k y)[k]?=some y:=List.getElem?_set_self (ag h)
theorem ln{O X:List aq}{k:Nat}:(O++X)[O.length+k]?=X[k]?:=by
 rw[List.getElem?_append_right (by omega)];simp
theorem DQ{O X:List aq}:(O++X)[O.length]?=X[0]?:=ln (k:=0)
theorem Bo{O X:List aq}{k:Nat}{y:aq}:(O++X).set (O.length+k) y=O++X.set k y:=by
 rw[List.set_append_right _ _ (by omega)];simp
theorem IC{O X:List aq}{y:aq}:(O++X).set O.length y=O++X.set 0 y:=Bo (k:=0)
theorem IE{a y:aq}{X:List aq}:(a::X).set 0 y=y::X:=rfl
theorem ID{a y:aq}{k:Nat}{X:List aq}:(a::X).set (k+1) y=a::X.set k y:=rfl
theorem IS{O X:List aq}:(O++X).take O.length=O:=by simp
end Go.Proofs.YtocdpaifmnkoaaaGreatDoor
namespace Go.Av
theorem lq{P:Program}{kb:Nat}{c:Code}{Q:dT->St->Prop}{n:Nat}{bt:List (Nat×aa)}{O:List aq}(k off:Nat){sz:Nat}{cs xs:List aa}(iy:O[k]?=some (.cells cs))(P4:cs[off]?=some (.aB sz xs .ex))
  (h:cG P kb c Q ⟨n,bt,(O++[aq.spare xs.length]).set k (.cells (cs.set off (.aB sz xs (.tok O.length))))⟩):cG P kb c Q ⟨n,bt,O⟩ :=
 h.weaken fun base a g hb hr=>by
  have hO:g.objs=O:=hr.objs;have S9:=Le.mark hr.good (aq.spare xs.length);have S6:=Good.mark hr.good xs.length;have X1:g.objs[k]?=some (.cells cs):=by rw[hO];exact iy
  have Ll:(g.mark (aq.spare xs.length)).objs[k]?=some (.cells cs):=dk X1;obtain⟨l,arr,t,e1,e2,e3,e4,e5,e6⟩:=S6.cells k cs Ll;have Qj:jT (g.mark (aq.spare xs.length)) k (.cells cs) (some l) (.cells (cs.set off (.aB sz xs (.tok O.length)))) g.w:={
   obj:=Ll
   os:=rfl
   tape:=rfl
   output:=rfl
   size:=Nat.le_refl _
   block:=fun _ _ _=>rfl
   cell:=fun b off x hx _=>hx
   place:=fun l1 h1 _=>by
    simp only[Option.some.injEq]at h1;subst h1;exact .inr ⟨l,e1,trivial,rfl,Nat.le_refl _⟩
   spare:=fun m h=>by cases h
   plain:=fun _=>⟨by simp[aq.aJ],e1⟩
   gone:=by simp }
  have AH:=Le.bo S6 Qj;have CK:=Good.bo S6 Qj ⟨l,arr,t,rfl,e2,e3,by simpa using e4,fun j d u hd hu=>by
   rw[List.getElem?_set]at hd;split at hd
   ·rename_i hj;subst hj;split at hd
    ·simp only[Option.some.injEq]at hd;subst hd;have hv:=(e5 off _ u P4 hu).mono AH;cases hv with
     | nil=>exact .nil (fun id e=>by
      simp only[oV.tok.injEq]at e;subst e;simp[G.bo,G.mark,hO]) (by simp)
     | aB c7 dI dv cW hs f hm hr ho =>
      refine .aB c7 dI dv cW hs f hm hr ⟨by simp[G.bo,G.mark,hO],fun m eN=>?_⟩;have da:k≠O.length:=by
       have:=ag iy;omega
      have:((g.mark (aq.spare xs.length)).bo k (some l) (.cells (cs.set off (.aB sz xs (.tok O.length)))) g.w).objs[O.length]?=some (.spare xs.length):=by
       simp only[G.bo];rw[List.getElem?_set_ne da,<-hO];exact eS
      rw[this]at eN;simp only[Option.some.injEq,aq.spare.injEq]at eN;exact⟨by omega,fun _=>.inl ho⟩
    cases hd
   ·exact(e5 j d u hd hu).mono AH,fun d hd=>by
   rcases List.mem_or_eq_of_mem_set hd with q|q
   ·exact e6.1 d q
   subst q;trivial,e6.2⟩ (fun l1 h1 _=>by
   simp only[Option.some.injEq]at h1;subst h1;exact aO e3)
  exact⟨(g.mark (aq.spare xs.length)).bo k (some l) (.cells (cs.set off (.aB sz xs (.tok O.length)))) g.w,rfl,{ le:=(hr.le.trans S9).trans AH,good:=CK,objs:=by simp[G.mark,G.bo,hO],size:=hr.size,defers:=hr.defers,slot:=fun s y hy=>(hr.slot s y hy).imp fun u hu=>⟨hu.1,(hu.2.mono S9).mono AH⟩ }⟩
def yP(τ:St)(Q:dT->St->Prop):dT->St->Prop
 | .norm,σ=>bn σ τ
 | e,σ=>Q e σ
theorem jb{P:Program}{kb:Nat}{x y:Code}{Q:dT->St->Prop}{σ:St}(τ:St)(h1:cG P kb x (yP τ Q) σ)(h2:cG P kb y Q τ):cG P kb (.seq x y) Q σ :=
 aL (h1.mono fun e fL h=>by cases e<;>first|exact h2.cover h|exact h)
theorem Sk{P:Program}{kb:Nat}{x y z:Code}{Q:dT->St->Prop}{σ:St}(τ:St)(h1:cG P kb x (yP τ (bP P kb z Q)) σ)(h2:cG P kb y (bP P kb z Q) τ):cG P kb (.seq (.seq x y) z) Q σ :=
 aL (jb τ h1 h2)
theorem jV{P:Program}{kb:Nat}{x y:Code}{Q:dT->St->Prop}{σ:St}(τ:St)(h1:cG P kb x (yP τ Q) σ)(h2:cG P kb y Q τ):cG P kb x (bP P kb y Q) σ :=
 h1.mono fun e fL h=>by cases e<;>first|exact h2.cover h|exact h
theorem B5{P:Program}{kb:Nat}{c:Code}{Q:dT->St->Prop}{n:Nat}{bt:List (Nat×aa)}{O:List aq}(k:Nat){cs:List aa}(ds:List aa)(iy:O[k]?=some (.cells cs))(hl:ds.length=cs.length)(dI:∀d∈ds,d.scalar)
  (hs:∀(j:Nat) (c d:aa),cs[j]?=some c->ds[j]?=some d->Sub O c d) (h:cG P kb c Q ⟨n,bt,O.set k (.cells ds)⟩):cG P kb c Q ⟨n,bt,O⟩ :=
 cG.weaken h fun base a g hb hr=>by
  have hO:g.objs=O:=hr.objs;have To:g.objs[k]?=some (.cells cs):=by rw[hO];exact iy
  obtain⟨l,arr,t,e1,e2,e3,e4,e5,e6⟩:=hr.good.cells k cs To;have ht:jT g k (.cells cs) (some l) (.cells ds) g.w:={
   obj:=To
   os:=rfl
   tape:=rfl
   output:=rfl
   size:=Nat.le_refl _
   block:=fun _ _ _=>rfl
   cell:=fun b off x hx _=>hx
   place:=fun l1 h1 _=>by
    simp only[Option.some.injEq]at h1;subst h1;exact .inr ⟨l,e1,trivial,rfl,Nat.le_refl _⟩
   spare:=fun m h=>by cases h
   plain:=fun _=>⟨by simp[aq.aJ],e1⟩
   gone:=by simp }
  have hle:=Le.bo hr.good ht;have dx:=Good.bo hr.good ht ⟨l,arr,t,rfl,e2,e3,by omega,fun j d u hd hu=>by
   have bd:=ag hd;have hc:cs[j]?=some cs[j]:=List.getElem?_eq_getElem (by omega);exact(hs j _ d hc hd g u hO (e5 j _ u hc hu)).mono hle,dI,e6.2⟩ (fun l1 h1 _=>by
    simp only[Option.some.injEq]at h1;subst h1;exact aO e3)
  refine⟨g.bo k (some l) (.cells ds) g.w,rfl,{ le:=hr.le.trans hle,good:=dx,objs:=by simp[G.bo,hO],size:=hr.size,defers:=hr.defers,slot:=fun s y hy=>?_ }⟩;have BN:(St.mk n bt O).get s=some y:=hy;obtain⟨u,h3,h4⟩:=hr.slot s y BN;exact⟨u,h3,h4.mono hle⟩
def mS(A:List Nat)(N k:Nat):Nat:=if k<A.length then A.getD k 0 else N+(k-A.length)
def Kind.mo(A:List Nat)(N:Nat):Kind->Kind
 | .rd id=>.rd (mS A N id)
 | .wr n l=>.wr (mS A N n) (l.map (mS A N))
 | .new id=>.new (mS A N id)
 | .loc n l=>.loc (mS A N n) (l.map (mS A N))
 | k=>k
def Kind.fresh(m:Nat):Kind->Bool
 | .wr n _=>decide (m<=n)
 | .loc n _=>decide (m<=n)
 | _=>true
theorem vu{A:List Nat}{N:Nat}(hn:A.Nodup)(hA:∀a∈A,a<N){i j:Nat}(h:mS A N i=mS A N j):i=j:=by
 unfold mS at h;have eo:∀k,k<A.length->A.getD k 0∈A:=fun k hk=>by
  rw[List.getD_eq_getElem?_getD,List.getElem?_eq_getElem hk];exact List.getElem_mem hk
 split at h<;>split at h
 ·rename_i h1 h2;rw[List.getD_eq_getElem?_getD,List.getElem?_eq_getElem h1,List.getD_eq_getElem?_getD,List.getElem?_eq_getElem h2]at h;exact(List.getElem_inj hn).1 h
 ·rename_i h1 h2;have:=hA _ (eo i h1);omega
 ·rename_i h1 h2;have:=hA _ (eo j h2);omega
 omega
theorem LG{A:List Nat}{N:Nat}(hA:∀a∈A,a<N){i n:Nat}(hn:A.length<=n)(h:i<n):mS A N i<mS A N n:=by
 unfold mS;have eo:∀k,k<A.length->A.getD k 0∈A:=fun k hk=>by
  rw[List.getD_eq_getElem?_getD,List.getElem?_eq_getElem hk];exact List.getElem_mem hk
 rw[if_neg (show ¬n<A.length by omega)];split
 ·rename_i h1;have:=hA _ (eo i h1);omega
 omega
theorem Es{A:List Nat}{N:Nat}{i n:Nat}(hn:A.length<=n)(h:n<=i):mS A N n<=mS A N i:=by
 unfold mS;rw[if_neg (show ¬n<A.length by omega),if_neg (show ¬i<A.length by omega)];omega
theorem u'{A:List Nat}{N:Nat}(hn:A.Nodup)(hA:∀a∈A,a<N){k l:Kind}(hk:k.fresh A.length=true)(hl:l.fresh A.length=true)(h:bB k l=true):bB (k.mo A N) (l.mo A N)=true:=by
 have key:∀{id n:Nat} {L:List Nat},A.length<=n->id<n->id ∉ L->mS A N id<mS A N n∧mS A N id ∉ L.map (mS A N):=fun h1 h2 h3 =>
  ⟨LG hA h1 h2,fun hm=>by
   obtain⟨x,hx,e⟩:=List.mem_map.1 hm;have:=vu hn hA e;subst this;exact h3 hx⟩
 cases k<;>cases l<;>first
  | exact h
  | (simp only[bB]at h;cases h)
  | (simp only[Kind.mo,bB,Bool.not_eq_true',decide_eq_false_iff_not]at h ⊢;exact fun e=>h (vu hn hA e))
  | (simp only[Kind.fresh,decide_eq_true_eq]at hk hl
     simp only[Kind.mo,bB,Bool.and_eq_true,decide_eq_true_eq,Bool.not_eq_true',List.contains_eq_mem,decide_eq_false_iff_not]at h ⊢;exact key (by assumption) h.1 h.2)
  | (simp only[Kind.fresh,decide_eq_true_eq]at hk hl
     simp only[Kind.mo,bB,decide_eq_true_eq]at h ⊢;exact Es (by assumption) h)
  | (simp only[Kind.fresh,decide_eq_true_eq]at hk hl
     simp only[Kind.mo,bB,Bool.or_eq_true,decide_eq_true_eq,Bool.not_eq_true',List.contains_eq_mem,decide_eq_false_iff_not]at h ⊢;exact h.imp (fun h=>Es (by assumption) h) fun h q=>by
      obtain⟨x,hx,e⟩:=List.mem_map.1 q;have:=vu hn hA e;subst this;exact h hx)
theorem cm{ops:Array Oper}{ks:List Kind}(A:List Nat)(N:Nat)(sE:List Kind)(hn:A.Nodup)(hA:∀a∈A,a<N)(e:sE.map (Kind.mo A N)=ks)(hf:sE.all (Kind.fresh A.length)=true)(h:n6 ops sE=true):n6 ops ks=true:=by
 subst e;simp only[n6,Bool.and_eq_true,List.all_eq_true,Bool.or_eq_true,List.length_map]at h ⊢;refine⟨h.1,fun i hi j hj=>?_⟩;rcases h.2 i hi j hj with q|q
 ·exact .inl q
 refine .inr ?_;have mB:∀i,(sE.map (Kind.mo A N)).getD i .write=(sE.getD i .write).mo A N:=fun i=>by
  rw[List.getD_eq_getElem?_getD,List.getD_eq_getElem?_getD,List.getElem?_map];cases sE[i]?<;>rfl
 have eR:∀i,(sE.getD i .write).fresh A.length=true:=fun i=>by
  rw[List.getD_eq_getElem?_getD];cases hi:sE[i]? with
  | none=>rfl
  | some x=>exact List.all_eq_true.1 hf x (List.mem_of_getElem? hi)
 rw[mB,mB];unfold indep at q ⊢;split at q
 ·rename_i oj oi h1 h2;simp only[Bool.and_eq_true]at q ⊢;exact⟨q.1,u' hn hA (eR j) (eR i) q.2⟩
 cases q
theorem y2{σ:St}:∀{l:List (Nat×aa)},(∀p∈l,∃x,σ.get p.1=some x∧Sub σ.objs x p.2)->jw σ l
 | [],_=>trivial
 | (s,y)::r,h=>⟨h (s,y) (by simp),y2 fun p hp=>h p (by simp[hp])⟩
theorem tZ{P:Program}{kb:Nat}{c:Code}{Q:dT->St->Prop}{n:Nat}{bt:List (Nat×aa)}{O:List aq}{o:aq}(s:Nat){x:aa}(y:aa)(cF:List (Nat×aa))(hx:look bt s=some x)
  (hp:¬o.aJ) (hl:o.live) (hf:cw (O++[o]) O.length x y) (Lf:kb<=O.length) (hs:∀p∈cF,look (cd s y bt) p.1=some p.2) (aW:∀o∈O,o.upto O.length) (xz:∀p∈cF,p.2.upto O.length)
  (h:cG P kb c Q ⟨n,cF,O⟩):cG P kb c Q ⟨n,bt,O++[o]⟩:=by
 refine aR s O.length (o:=o) y (j4 _ _) hp hl hx hf ?_;rw[oh];have kC:∀s x,look cF s=some x->(s,x)∈cF:=fun s x hl=>nY hl;exact rA O.length (by simp) Lf cF (by rw[xP];exact aW) (y2 fun p hp=>⟨p.2,hs p hp,Sub.refl _⟩) (fun k x hk=>xz (k,x) (kC k x hk)) (by rw[xP];exact h)
theorem aZ{P:Program}{kb:Nat}{c:Code}{Q:dT->St->Prop}{n:Nat}{bt:List (Nat×aa)}{O:List aq}{cs:List aa}(s:Nat)(ds:List aa)(cF:List (Nat×aa))(hx:look bt s=some (.mp O.length 0))
  (tw:cs.map aa.br=ds) (Lf:kb<=O.length) (hs:∀p∈cF,look (cd s (.ip none ds) bt) p.1=some p.2) (aW:∀o∈O,o.upto O.length) (xz:∀p∈cF,p.2.upto O.length)
  (h:cG P kb c Q ⟨n,cF,O⟩):cG P kb c Q ⟨n,bt,O++[.cells cs]⟩ :=
 tZ s (.ip none ds) cF hx (by simp[aq.aJ]) trivial (cw.mp (cs:=cs) (j4 _ _) (by rw[List.drop_zero,tw])) Lf hs aW xz h
theorem B3{P:Program}{kb:Nat}{c:Code}{Q:dT->St->Prop}{n:Nat}{bt:List (Nat×aa)}{O:List aq}{cs:List aa}(s:Nat){len cap sz:Nat}(xs:List aa)(cF:List (Nat×aa))(hx:look bt s=some (.ms O.length 0 len cap))
  (c7:∀x∈xs,x.cells.length=sz) (hlen:xs.length=len) (hd:(cs.take (len*sz)).map aa.br=aw xs) (Lf:kb<=O.length) (hs:∀p∈cF,look (cd s (.aB sz xs .sh) bt) p.1=some p.2) (aW:∀o∈O,o.upto O.length) (xz:∀p∈cF,p.2.upto O.length)
  (h:cG P kb c Q ⟨n,cF,O⟩):cG P kb c Q ⟨n,bt,O++[.cells cs]⟩ :=
 tZ s (.aB sz xs .sh) cF hx (by simp[aq.aJ]) trivial (cw.ms (cs:=cs) (j4 _ _) c7 hlen (by rw[List.drop_zero,hd])) Lf hs aW xz h
theorem ck{P:Program}{kb:Nat}{c:Code}{Q:dT->St->Prop}{n:Nat}{bt:List (Nat×aa)}{O X:List aq}{cs:List aa}(s k:Nat)(ds:List aa)(hX:X[k]?=some (.cells cs))(hx:look bt s=some (.mp (O.length+k) 0))
  (tw:cs.map aa.br=ds) (h:cG P kb c Q ⟨n,cd s (.ip none ds) bt,O++X.set k .gone⟩):cG P kb c Q ⟨n,bt,O++X⟩:=by
 have hid:(O++X)[O.length+k]?=some (.cells cs):=by
  rw[List.getElem?_append_right (by omega),Nat.add_sub_cancel_left,hX]
 refine aR s (O.length+k) (o:=.cells cs) (.ip none ds) hid (by simp[aq.aJ]) trivial hx (cw.mp (cs:=cs) hid (by rw[List.drop_zero,tw])) ?_;rw[List.set_append_right _ _ (by omega),Nat.add_sub_cancel_left];exact h
theorem KF{P:Program}{kb:Nat}{c:Code}{Q:dT->St->Prop}{n:Nat}{bt:List (Nat×aa)}{O X:List aq}(j:Nat)(Y:List aq)(cF:List (Nat×aa))(hY:X.take j=Y)(hj:j<=X.length)(Lf:kb<=O.length)(hs:∀p∈cF,look bt p.1=some p.2)
  (hO:∀o∈O,o.upto (O.length+j)) (hX:∀o∈Y,o.upto (O.length+j)) (xz:∀p∈cF,p.2.upto (O.length+j)) (h:cG P kb c Q ⟨n,cF,O++Y⟩):cG P kb c Q ⟨n,bt,O++X⟩:=by
 have e:(O++X).take (O.length+j)=O++Y:=by
  rw[List.take_append,List.take_of_length_le (by omega),Nat.add_sub_cancel_left,hY]
 refine rA (O.length+j) (by simp;omega) (by omega) cF ?_ (y2 fun p hp=>⟨p.2,hs p hp,Sub.refl _⟩) (fun k x hk=>xz (k,x) (nY hk)) (by rw[e];exact h);rw[e];intro o ho;rcases List.mem_append.1 ho with q|q
 ·exact hO o q
 exact hX o q
end Go.Av
namespace Go.Proofs.YtocdpaifmnkoaaaGreatDoor
open Go.Av
def V6:=And.intro @TV <|
 And.intro @TW <|
 And.intro @IQ <|
 And.intro @TX <|
 And.intro @TY <|
 And.intro @TZ <|
 And.intro @QD <|
 And.intro @QE <|
 And.intro @QF <|
 And.intro @QG <|
 And.intro @QH <|
 And.intro @QI <|
 And.intro @QJ <|
 And.intro @QK <|
 And.intro @QL <|
 And.intro @QM <|
 And.intro @QN <|
 And.intro @Dx <|
 And.intro @QO <|
 And.intro @QP <|
 And.intro @QQ <|
 And.intro @QR <|
 And.intro @QS <|
 And.intro @QT <|
 And.intro @QU <|
 And.intro @QV <|
 And.intro @QW <|
 And.intro @QX <|
 And.intro @QY <|
 And.intro @QZ <|
 And.intro @Q0 <|
 And.intro @Q1 <|
 And.intro @Q2 <|
 And.intro @Q3 <|
 And.intro @Q4 <|
 And.intro @Q5 <|
 And.intro @Q6 <|
 And.intro @Q7 <|
 And.intro @Q8 <|
 And.intro @Q9 <|
 And.intro @Ra <|
 And.intro @Rb <|
 And.intro @Rc <|
 And.intro @Rd <|
 And.intro @Re <|
 And.intro @Rf <|
 And.intro @Rg <|
 And.intro @Rh <|
 And.intro @Ri <|
 And.intro @Rj <|
 And.intro @Dy <|
 And.intro @Rk <|
 And.intro @Rl <|
 And.intro @Rm <|
 And.intro @Rn <|
 And.intro @Ro <|
 And.intro @Rp <|
 And.intro @Rq <|
 And.intro @Rr <|
 And.intro @Rs <|
 And.intro @Rt <|
 And.intro @Ru <|
 And.intro @LZ <|
 And.intro @L0 <|
 And.intro @L4 <|
 And.intro @L5 <|
 And.intro @L6 <|
 And.intro @L7 <|
 And.intro @L8 <|
 And.intro @L9 <|
 And.intro @L' <|
 And.intro @Ma <|
 And.intro @Mb <|
 And.intro @Mc <|
 And.intro @Me <|
 And.intro @Mf <|
 And.intro @Mg <|
 And.intro @Mh <|
 And.intro @Mi <|
 And.intro @Mj <|
 And.intro @Mk <|
 And.intro @Ml <|
 And.intro @Mm <|
 And.intro @Mn <|
 And.intro @zh <|
 And.intro @Mo <|
 And.intro @Mp <|
 And.intro @Mq <|
 And.intro @Mr <|
 And.intro @Ms <|
 And.intro @Mt <|
 And.intro @Mu <|
 And.intro @Mv <|
 And.intro @Mw <|
 And.intro @Mx <|
 And.intro @My <|
 And.intro @Ex <|
 And.intro @Mz <|
 And.intro @MA <|
 And.intro @MB <|
 And.intro @MC <|
 And.intro @MD <|
 And.intro @ME <|
 And.intro @Ey <|
 And.intro @MF <|
 And.intro @MG <|
 And.intro @MH <|
 And.intro @MI <|
 And.intro @MJ <|
 And.intro @MK <|
 And.intro @ML <|
 And.intro @MM <|
 And.intro @MN <|
 And.intro @MO <|
 And.intro @MP <|
 And.intro @MQ <|
 And.intro @MR <|
 And.intro @MS <|
 And.intro @MT <|
 And.intro @MU <|
 And.intro @MV <|
 And.intro @MW <|
 And.intro @MX <|
 And.intro @MY <|
 And.intro @MZ <|
 And.intro @M0 <|
 And.intro @M3 <|
 And.intro @M4 <|
 And.intro @M5 <|
 And.intro @M6 <|
 And.intro @M7 <|
 And.intro @bI.an <|
 And.intro @bI.fold <|
 And.intro @bI.ar <|
 And.intro @bI.dB <|
 And.intro @bI.aS <|
 And.intro @bI.aj <|
 And.intro @bI.ax <|
 And.intro @Edge.an <|
 And.intro @Edge.fold <|
 And.intro @Edge.ar <|
 And.intro @Edge.dB <|
 And.intro @Edge.aS <|
 And.intro @Edge.aj <|
 And.intro @Edge.ax <|
 And.intro @Term.an <|
 And.intro @Term.fold <|
 And.intro @Term.ar <|
 And.intro @Term.dB <|
 And.intro @Term.aS <|
 And.intro @Term.aj <|
 And.intro @Term.ax <|
 And.intro @Block.an <|
 And.intro @Block.fold <|
 And.intro @Block.ar <|
 And.intro @Block.dB <|
 And.intro @Block.aS <|
 And.intro @Block.aj <|
 And.intro @Block.ax <|
 And.intro @Func.an <|
 And.intro @Func.fold <|
 And.intro @Func.ar <|
 And.intro @Func.dB <|
 And.intro @Func.aS <|
 And.intro @Func.aj <|
 And.intro @Func.ax <|
 And.intro @cL.an <|
 And.intro @cL.fold <|
 And.intro @cL.ar <|
 And.intro @cL.dB <|
 And.intro @cL.aS <|
 And.intro @cL.aj <|
 And.intro @cL.ax <|
 And.intro @SV.jz <|
 And.intro @SV.an <|
 And.intro @SV.fold <|
 And.intro @SV.ar <|
 And.intro @SV.dB <|
 And.intro @SV.ax <|
 And.intro @SV.EF <|
 And.intro @cz <|
 And.intro @EY <|
 And.intro @GF <|
 And.intro @ay <|
 And.intro @au <|
 And.intro @H8 <|
 And.intro @ln <|
 And.intro @DQ <|
 And.intro @Bo <|
 And.intro @IC <|
 And.intro @IE <|
 And.intro @ID <|
 And.intro @IS <|
 And.intro @List.take_length.{0} <|
 And.intro @List.append_assoc.{0} <|
 And.intro @List.cons_append.{0} <|
 @List.nil_append.{0}
def zp:=And.intro V5 <|And.intro @ne_eq.{1} <|And.intro @implies_true.{0} <|And.intro @implies_true.{1} <|V6
def zt:=And.intro and_true <|And.intro true_and and_self
def zu:=And.intro @bI.aS <|And.intro @bI.aj <|And.intro @Edge.aS <|And.intro @Edge.aj <|And.intro @Term.aS <|And.intro @Term.aj <|And.intro @Block.aS <|And.intro @Block.aj <|And.intro @Func.aS <|And.intro @Func.aj <|And.intro @cL.aS <|And.intro @cL.aj <| @ay
theorem fE{kb:Nat}{id:Nat}{l:List Oper}{draw:Bool}{Q:dT->St->Prop}{σ:St}(h:fq Tryz.prog aP ⟨false,false⟩ l 0 [] σ [] fun τ ks=>ik draw (fun _=>eA l.toArray ks.reverse)∧At τ (Q .norm)):cG Tryz.prog kb (.region id l.toArray draw) Q σ:=gK _ hT hm h
theorem aG{kb:Nat}{id:Nat}{l:List Oper}{draw:Bool}{Q:dT->St->Prop}{σ:St}{x:Code}(h:fq Tryz.prog aP ⟨false,false⟩ l 0 [] σ [] fun τ ks=>ik draw (fun _=>eA l.toArray ks.reverse)∧At τ (bP Tryz.prog kb x Q .norm)):cG Tryz.prog kb (.seq (.region id l.toArray draw) x) Q σ:=aL (fE h)
theorem bR{kb:Nat}{id:Nat}{l:List Oper}{draw:Bool}{Q:dT->St->Prop}{σ:St}{x y:Code}(h:fq Tryz.prog aP ⟨false,false⟩ l 0 [] σ [] fun τ ks=>ik draw (fun _=>eA l.toArray ks.reverse)∧At τ (bP Tryz.prog kb x (bP Tryz.prog kb y Q) .norm)):cG Tryz.prog kb (.seq (.seq (.region id l.toArray draw) x) y) Q σ:=aL (aG h)
theorem YK{kb:Nat}{id:Nat}{l:List Oper}{draw:Bool}{Q:dT->St->Prop}{σ:St}{x y z:Code}(h:fq Tryz.prog aP ⟨false,false⟩ l 0 [] σ [] fun τ ks=>ik draw (fun _=>eA l.toArray ks.reverse)∧At τ (bP Tryz.prog kb x (bP Tryz.prog kb y (bP Tryz.prog kb z Q)) .norm)):cG Tryz.prog kb (.seq (.seq (.seq (.region id l.toArray draw) x) y) z) Q σ:=aL (bR h)
theorem V7{kb:Nat}{id:Nat}{l:List Oper}{draw:Bool}{Q:dT->St->Prop}{σ:St}(h:fq Tryz.prog aP ⟨true,false⟩ l 0 [] σ [] fun τ ks=>ik draw (fun _=>eA l.toArray ks.reverse)∧At τ (Q .norm)):cG Tryz.prog kb (.region id l.toArray draw) Q σ:=gK _ hT hm h
theorem YL{kb:Nat}{id:Nat}{l:List Oper}{draw:Bool}{Q:dT->St->Prop}{σ:St}{x:Code}(h:fq Tryz.prog aP ⟨true,false⟩ l 0 [] σ [] fun τ ks=>ik draw (fun _=>eA l.toArray ks.reverse)∧At τ (bP Tryz.prog kb x Q .norm)):cG Tryz.prog kb (.seq (.region id l.toArray draw) x) Q σ:=aL (V7 h)
theorem Zw{kb:Nat}{id:Nat}{l:List Oper}{draw:Bool}{Q:dT->St->Prop}{σ:St}{x y:Code}(h:fq Tryz.prog aP ⟨true,false⟩ l 0 [] σ [] fun τ ks=>ik draw (fun _=>eA l.toArray ks.reverse)∧At τ (bP Tryz.prog kb x (bP Tryz.prog kb y Q) .norm)):cG Tryz.prog kb (.seq (.seq (.region id l.toArray draw) x) y) Q σ:=aL (YL h)
theorem RG{kb:Nat}{id:Nat}{l:List Oper}{draw:Bool}{Q:dT->St->Prop}{σ:St}(h:fq Tryz.prog aP ⟨true,true⟩ l 0 [] σ [] fun τ ks=>ik draw (fun _=>eA l.toArray ks.reverse)∧At τ (Q .norm)):cG Tryz.prog kb (.region id l.toArray draw) Q σ:=gK _ hT hm h
theorem YN{kb:Nat}{id:Nat}{l:List Oper}{draw:Bool}{Q:dT->St->Prop}{σ:St}{x:Code}(h:fq Tryz.prog aP ⟨true,true⟩ l 0 [] σ [] fun τ ks=>ik draw (fun _=>eA l.toArray ks.reverse)∧At τ (bP Tryz.prog kb x Q .norm)):cG Tryz.prog kb (.seq (.region id l.toArray draw) x) Q σ:=aL (RG h)
theorem ZA{kb:Nat}{id:Nat}{l:List Oper}{draw:Bool}{Q:dT->St->Prop}{σ:St}{x y:Code}(h:fq Tryz.prog aP ⟨true,true⟩ l 0 [] σ [] fun τ ks=>ik draw (fun _=>eA l.toArray ks.reverse)∧At τ (bP Tryz.prog kb x (bP Tryz.prog kb y Q) .norm)):cG Tryz.prog kb (.seq (.seq (.region id l.toArray draw) x) y) Q σ:=aL (YN h)
theorem aF{kb:Nat}{c:Operand}{x y:Code}{Q:dT->St->Prop}{σ:St}{b:Bool}(hc:σ.ev c=some (.v (.bool b)))(ht:b=true->cG Tryz.prog kb x Q σ)(hf:b=false->cG Tryz.prog kb y Q σ):cG Tryz.prog kb (.cond c x y) Q σ:=nG hc ht hf
theorem fK{kb:Nat}{c:Operand}{x y z:Code}{Q:dT->St->Prop}{σ:St}{b:Bool}(hc:σ.ev c=some (.v (.bool b)))(ht:b=true->cG Tryz.prog kb x (bP Tryz.prog kb z Q) σ)(hf:b=false->cG Tryz.prog kb y (bP Tryz.prog kb z Q) σ):cG Tryz.prog kb (.seq (.cond c x y) z) Q σ:=aL (nG hc ht hf)
theorem Zt{kb:Nat}{c:Operand}{x y z w:Code}{Q:dT->St->Prop}{σ:St}{b:Bool}(hc:σ.ev c=some (.v (.bool b)))(ht:b=true->cG Tryz.prog kb x (bP Tryz.prog kb z (bP Tryz.prog kb w Q)) σ)(hf:b=false->cG Tryz.prog kb y (bP Tryz.prog kb z (bP Tryz.prog kb w Q)) σ) :
  cG Tryz.prog kb (.seq (.seq (.cond c x y) z) w) Q σ:=aL (aL (nG hc ht hf))
theorem ai{kb:Nat}{c:Code}{Q:dT->St->Prop}{σ:St}(h:cG Tryz.prog kb c Q σ):At σ (bP Tryz.prog kb c Q .norm):=h
theorem bZ{kb:Nat}{c:Code}{Q:dT->St->Prop}{σ:St}{CT:Nat}(h:cG Tryz.prog kb c Q σ):cG Tryz.prog CT .skip (bP Tryz.prog kb c Q) σ:=bc h
theorem Zo{kb:Nat}{c:Code}{Q:dT->St->Prop}{σ:St}{b0:Nat}(h:cG Tryz.prog kb c Q σ):At σ (bO b0 (bP Tryz.prog kb c Q) .norm):=h
theorem k7{kb:Nat}{c:Code}{Q:dT->St->Prop}{σ:St}{b0:Nat}{CT:Nat}(h:cG Tryz.prog kb c Q σ):cG Tryz.prog CT .skip (bO b0 (bP Tryz.prog kb c Q)) σ:=bc h
theorem Zp{kb:Nat}{c:Code}{Q:dT->St->Prop}{σ:St}{b0:Nat}{b1:Nat}(h:cG Tryz.prog kb c Q σ):At σ (bO b1 (bO b0 (bP Tryz.prog kb c Q)) .norm):=h
theorem Xe{kb:Nat}{c:Code}{Q:dT->St->Prop}{σ:St}{b0:Nat}{b1:Nat}{CT:Nat}(h:cG Tryz.prog kb c Q σ):cG Tryz.prog CT .skip (bO b1 (bO b0 (bP Tryz.prog kb c Q))) σ:=bc h
theorem Zq{kb:Nat}{c:Code}{Q:dT->St->Prop}{σ:St}{b0:Nat}{b1:Nat}{b2:Nat}(h:cG Tryz.prog kb c Q σ):At σ (bO b2 (bO b1 (bO b0 (bP Tryz.prog kb c Q))) .norm):=h
theorem Zr{kb:Nat}{c:Code}{Q:dT->St->Prop}{σ:St}{b0:Nat}{b1:Nat}{b2:Nat}{CT:Nat}(h:cG Tryz.prog kb c Q σ):cG Tryz.prog CT .skip (bO b2 (bO b1 (bO b0 (bP Tryz.prog kb c Q)))) σ:=bc h
theorem kv{ι:Type}{L:ι->St}{μ:ι->Nat}{i:ι}{Q:dT->St->Prop}{σ:St}(h:∃j,μ j<μ i∧bn σ (L j)):At σ (gu L μ i Q .norm):=h
theorem Zx{ι:Type}{L:ι->St}{μ:ι->Nat}{i:ι}{Q:dT->St->Prop}{σ:St}{CT:Nat}(h:∃j,μ j<μ i∧bn σ (L j)):cG Tryz.prog CT .skip (gu L μ i Q) σ:=bc h
theorem UA{ι:Type}{L:ι->St}{μ:ι->Nat}{i:ι}{Q:dT->St->Prop}{σ:St}{b0:Nat}(h:∃j,μ j<μ i∧bn σ (L j)):At σ (bO b0 (gu L μ i Q) .norm):=h
theorem YM{ι:Type}{L:ι->St}{μ:ι->Nat}{i:ι}{Q:dT->St->Prop}{σ:St}{b0:Nat}{CT:Nat}(h:∃j,μ j<μ i∧bn σ (L j)):cG Tryz.prog CT .skip (bO b0 (gu L μ i Q)) σ:=bc h
theorem Zu{ι:Type}{L:ι->St}{μ:ι->Nat}{i:ι}{Q:dT->St->Prop}{σ:St}{b0:Nat}{b1:Nat}(h:∃j,μ j<μ i∧bn σ (L j)):At σ (bO b1 (bO b0 (gu L μ i Q)) .norm):=h
theorem Zy{ι:Type}{L:ι->St}{μ:ι->Nat}{i:ι}{Q:dT->St->Prop}{σ:St}{b0:Nat}{b1:Nat}{CT:Nat}(h:∃j,μ j<μ i∧bn σ (L j)):cG Tryz.prog CT .skip (bO b1 (bO b0 (gu L μ i Q))) σ:=bc h
theorem Zv{ι:Type}{L:ι->St}{μ:ι->Nat}{i:ι}{Q:dT->St->Prop}{σ:St}{b0:Nat}{b1:Nat}{b2:Nat}(h:∃j,μ j<μ i∧bn σ (L j)):At σ (bO b2 (bO b1 (bO b0 (gu L μ i Q))) .norm):=h
theorem Zz{ι:Type}{L:ι->St}{μ:ι->Nat}{i:ι}{Q:dT->St->Prop}{σ:St}{b0:Nat}{b1:Nat}{b2:Nat}{CT:Nat}(h:∃j,μ j<μ i∧bn σ (L j)):cG Tryz.prog CT .skip (bO b2 (bO b1 (bO b0 (gu L μ i Q)))) σ:=bc h
end Go.Proofs.YtocdpaifmnkoaaaGreatDoor
