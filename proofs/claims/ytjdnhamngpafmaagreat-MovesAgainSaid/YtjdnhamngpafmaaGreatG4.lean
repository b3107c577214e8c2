/- Texts of the proof, bound together and shortened by a program of mine. -/
import Derived.Test.YtjdnhamngpafmaaGreatG3
set_option linter.all false
set_option maxRecDepth 100000
set_option maxHeartbeats 4000000
namespace Go.Proofs.YtjdnhamngpafmaaGreat
open Go.Av Tryz
def Fw(a b:Int):Int:=if a≠0 then a else b
variable {a b:Int}
theorem HK(h:a=0):Fw a b=b:=by simp[Fw,h]
theorem KZ(h:¬a=0):Fw a b=a:=by simp[Fw,h]
theorem W1(a b c:Int):Fw (Fw a b) c=Fw a (Fw b c):=by
 by_cases h:a=0
 ·rw[HK h,HK h]
 rw[KZ h,KZ h,KZ h]
theorem Mx(h:Fw a b=0):a=0∧b=0:=by
 by_cases q:a=0
 ·exact⟨q,by rwa [HK q]at h⟩
 rw[KZ q]at h;exact B3 h q
def UL:List Func->Int
 | []=>0
 | f::r=>Fw (Cj f) (UL r)
def UK(u:Ad):List Ins->Int
 | []=>0
 | i::r=>Fw (KX u i) (UK u r)
def RQ(u:Ad):List Block->Int
 | []=>0
 | b::r=>Fw (UK u b.ins) (RQ u r)
def M8(u:Ad):List Func->Int
 | []=>0
 | f::r=>Fw (RQ u f.blocks) (M8 u r)
def GN(u:Ad):Int :=
 if u.fns.length=0 then 3
 else if 256<u.fns.length then 2
 else if within u.main 0 ((u.fns.length:Int)-1)=false then 4
 else Fw (UL u.fns) (if 0<(A7 (AB u u.main) 0).params.length then 3 else M8 u u.fns)
theorem iG:∀{l:List Func},UL l=0->∀f∈l,Cj f=0
 | [],_,f,h=>by simp at h
 | g::r,h,f,hf=>by
  have:=Mx h;rcases List.mem_cons.1 hf with q|q
  ·subst q;exact this.1
  exact iG this.2 f q
theorem sT(u:Ad)(AO:u.fit):BR prog 9 [u.enc] (aI (GN u)):=by
 obtain⟨R,hR⟩:∃R,R=GN u:=⟨_,rfl⟩
 rw[<-hR];unfold GN at hR;have hw:=SW u.main 0 ((u.fns.length:Int)-1);have NK:u.fns.length<=2 ^ 47:=AO.2.1;refine zf true 0 func9 ntmps9 ?_;refine WQ ?_ ?_
 ·refine DW (Al ?_);by_cases h0:u.fns.length=0
  ·rw[A9 h0]at hR;have hd:decide ((u.fns.length:Int)=0)=true:=Ar I;refine Ch hd ?_;exact aT hR
  rw[A4 h0]at hR;have hd:decide ((u.fns.length:Int)=0)=false:=Ac I;refine Ch hd ?_;apply AZ rfl<;>intro h
  ·cases h
  by_cases h1:256<u.fns.length
  ·rw[A9 h1]at hR;have hd:decide ((256:Int)<u.fns.length)=true:=Ar I;refine Ch hd ?_;exact aT hR
  rw[A4 h1]at hR;have hd:decide ((256:Int)<u.fns.length)=false:=Ac I;refine Ch hd ?_;apply AZ rfl<;>intro h
  ·cases h
  cases Ni:within u.main 0 ((u.fns.length:Int)-1)with
  | false =>
   rw[A9 Ni]at hR;rw[Ni]at hw;refine BM ?_
   refine Ef ?_
   refine zi hw ?_;refine Ak ?_;exact aT hR
  | true =>
   have Z':=within_iff.1 Ni;rw[A4 (by simp[Ni])]at hR;rw[Ni]at hw;refine BM ?_
   refine Ef ?_
   refine zi hw ?_;refine Ak ?_;apply AZ rfl<;>intro h
   ·cases h
   refine H2 ?_;refine BF ?_;refine Al (BZ (ι:={k:Nat // k<=u.fns.length∧UL u.fns=UL (u.fns.drop k)}) (fun k=>⟨87,[(1,.ip none [C8 u.fns,aI u.main]),(2,aI 0),(33,C8 u.fns),(34,aI u.fns.length),(35,aI k.1)],[.gone]⟩) (fun k=>u.fns.length-k.1) ⟨0,I,rfl⟩ ?_ ?_)
   ·exact JU
   rintro⟨k,hk,Af⟩;refine C3 (fun h=>?_) (fun h=>?_)
   ·refine Az ?_;have AF:k<u.fns.length:=Aa
    obtain⟨f,hf⟩:∃f,u.fns[k]?=some f:=⟨u.fns[k],Gu⟩
    have IE:=gi f (AO.2.2 f (AK hf));rw[D9 hf]at Af;simp only[UL]at Af;obtain⟨e,SP⟩:∃e,e=Cj f:=⟨_,rfl⟩
    rw[<-SP]at Af IE;refine DR hf ?_;refine Cz 4 1 (.ip none [aI f.name,AR f.blocks]) rfl Bd trivial rfl ?_ ?_;rotate_left;refine BL ?_
    ·refine Ei 1 [(1,.ip none [C8 u.fns,aI u.main]),(2,aI 0),(33,C8 u.fns),(34,aI u.fns.length),(35,aI k),(4,.ip none [aI f.name,AR f.blocks])] A6 I [.gone] ?_ ?_ ?_ ?_ ?_
     ·rfl
     ·exact I9
     ·exact Es
     ·exact I9
     refine BM ?_;refine zi IE ?_;refine Ak ?_;by_cases he:e=0
     ·have Ca:decide (e=0)=true:=Ar he;rw[HK he]at Af;refine Yb Ca ?_;refine kM ?_ ?_
      ·exact BY
      rfl
     have Ca:decide (e=0)=false:=Ac he;rw[KZ he]at Af;rw[Af,KZ he]at hR;refine Ch Ca ?_;exact aT hR
    exact Be
   refine BO ?_;have Bh:k=u.fns.length:=Ee
   subst Bh;rw[F']at Af;have Vh:UL u.fns=0:=by rw[Af];rfl
   rw[HK Vh]at hR;have Br:∀f∈u.fns,Vd f:=fun f hf=>Mp (AO.2.2 f hf) (iG Vh f hf);have hM:=UJ (u:=u) (k:=u.main) Z'.1 I;have gd:0<(AB u u.main).blocks.length:=by
    have:=(Br _ (AK hM)).ne;cases hb:(AB u u.main).blocks with
    | nil=>exact B3 hb this
    | cons=>simp
   have hB:(AB u u.main).blocks[0]?=some (A7 (AB u u.main) 0):=K2 (f:=AB u u.main) (k:=0) I I;generalize A7 (AB u u.main) 0=B at *;generalize AB u u.main=F at *;by_cases hp:0<B.params.length
   ·rw[A9 hp]at hR;have XP:decide ((0:Int)<B.params.length)=true:=Ar I;refine L5 hM hB XP ?_
    refine D1 ?_;exact aT hR
   rw[A4 hp]at hR;have XP:decide ((0:Int)<B.params.length)=false:=Ac I;refine L5 hM hB XP ?_
   refine D1 ?_;apply AZ rfl<;>intro h
   ·cases h
   refine Az ?_;refine BF ?_;refine Al (BZ (ι:={k:Nat // k<=u.fns.length∧R=M8 u (u.fns.drop k)}) (fun k=>⟨87,[(1,.ip none [C8 u.fns,aI u.main]),(2,aI 0),(58,C8 u.fns),(59,aI u.fns.length),(60,aI k.1)],[.gone]⟩) (fun k=>u.fns.length-k.1) ⟨0,I,hR⟩ ?_ ?_)
   ·exact JU
   rintro⟨k,hk,Af⟩;refine C3 (fun h=>?_) (fun h=>?_)
   ·refine Az ?_;have AF:k<u.fns.length:=Aa
    obtain⟨f,hf⟩:∃f,u.fns[k]?=some f:=⟨u.fns[k],Gu⟩
    have SQ:=AK hf;have CN:=(Br f SQ).few;rw[D9 hf]at Af;simp only[M8]at Af;refine DR hf ?_;refine Cz 7 1 (.ip none [aI f.name,AR f.blocks]) rfl Bd trivial rfl ?_ ?_;rotate_left;refine BL ?_
    ·refine Ei 1 [(1,.ip none [C8 u.fns,aI u.main]),(2,aI 0),(58,C8 u.fns),(59,aI u.fns.length),(60,aI k),(7,.ip none [aI f.name,AR f.blocks])] A6 I [.gone] ?_ ?_ ?_ ?_ ?_
     ·rfl
     ·exact I9
     ·exact Es
     ·exact I9
     refine Cc ?_;refine Al (BZ (ι:={j:Nat // j<=f.blocks.length∧R=Fw (RQ u (f.blocks.drop j)) (M8 u (u.fns.drop (k+1)))}) (fun j=>⟨87,[(1,.ip none [C8 u.fns,aI u.main]),(2,aI 0),(58,C8 u.fns),(59,aI u.fns.length),(60,aI k),(65,AR f.blocks),(66,aI f.blocks.length),(67,aI j.1)],[.gone]⟩) (fun j=>f.blocks.length-j.1) ⟨0,I,Af⟩ ?_ ?_)
     ·exact JU
     rintro⟨j,hj,Bk⟩;refine C3 (fun h=>?_) (fun h=>?_)
     ·refine Az ?_;have Hb:j<f.blocks.length:=Aa
      obtain⟨b,hb⟩:∃b,f.blocks[j]?=some b:=⟨f.blocks[j],aP⟩
      have C5:=AK hb;have Fv:=(Br f SQ).ins b C5;rw[D9 hb]at Bk;simp only[RQ]at Bk;rw[W1]at Bk;refine acY hb ?_ ?_
      ·refine Ei 1 [(1,.ip none [C8 u.fns,aI u.main]),(2,aI 0),(58,C8 u.fns),(59,aI u.fns.length),(60,aI k),(65,AR f.blocks),(66,aI f.blocks.length),(67,aI j),(9,.ip none [AA b.params,B7 b.ins,aI b.term.kind,aI b.term.arg,aI b.term.n,AA b.term.cases,An b.term.to])] A6 I [.gone] ?_ ?_ ?_ ?_ ?_
       ·rfl
       ·exact I9
       ·exact Es
       ·exact I9
       refine Cc ?_;refine Al (BZ (ι:={z:Nat // z<=b.ins.length∧R=Fw (UK u (b.ins.drop z)) (Fw (RQ u (f.blocks.drop (j+1))) (M8 u (u.fns.drop (k+1))))}) (fun z=>⟨87,[(1,.ip none [C8 u.fns,aI u.main]),(2,aI 0),(58,C8 u.fns),(59,aI u.fns.length),(60,aI k),(65,AR f.blocks),(66,aI f.blocks.length),(67,aI j),(72,B7 b.ins),(73,aI b.ins.length),(74,aI z.1)],[.gone]⟩) (fun z=>b.ins.length-z.1) ⟨0,I,Bk⟩ ?_ ?_)
       ·exact JU
       rintro⟨z,hz,CJ⟩;refine C3 (fun h=>?_) (fun h=>?_)
       ·refine Az ?_;have IA:z<b.ins.length:=Aa
        obtain⟨i,hi⟩:∃i,b.ins[z]?=some i:=⟨b.ins[z],Uh⟩
        rw[D9 hi]at CJ;simp only[UK]at CJ;rw[W1]at CJ;have hfw:=ew (((Br f SQ).blk b C5).Yv i (AK hi));have BQ:=qaL u i (fun q=>(hfw.call I).1) (fun f hf=>(Br f hf).ne);obtain⟨e,SP⟩:∃e,e=KX u i:=⟨_,rfl⟩
        rw[<-SP]at CJ BQ;refine rL hi ?_ ?_
        ·refine Ei 1 [(1,.ip none [C8 u.fns,aI u.main]),(2,aI 0),(58,C8 u.fns),(59,aI u.fns.length),(60,aI k),(65,AR f.blocks),(66,aI f.blocks.length),(67,aI j),(72,B7 b.ins),(73,aI b.ins.length),(74,aI z),(11,.ip none [aI i.to,aI i.op,aI i.n,AA i.args])] A6 I [.gone] ?_ ?_ ?_ ?_ ?_
         ·rfl
         ·exact I9
         ·exact Es
         ·exact I9
         refine BM ?_;refine zi BQ ?_;refine Ak ?_;by_cases he:e=0
         ·have Ca:decide (e=0)=true:=Ar he;rw[HK he]at CJ;refine Yb Ca ?_;refine⟨⟨z+1,IA,CJ⟩,Ai,?_⟩;refine Ba ?_ ?_
          ·exact BY
          rfl
         have Ca:decide (e=0)=false:=Ac he;rw[KZ he]at CJ;refine Ch Ca ?_;exact aT CJ
        exact Be
       refine BO ?_;have Oz:z=b.ins.length:=Ee
       subst Oz;rw[F']at CJ;rw[HK CX]at CJ;refine Bw ?_;refine⟨⟨j+1,Hb,CJ⟩,Ai,?_⟩;refine Ba ?_ ?_
       ·exact BY
       rfl
      exact Be
     refine BO ?_;have Gl:j=f.blocks.length:=Ee
     subst Gl;rw[F']at Bk;rw[HK CX]at Bk;refine Bw ?_;refine⟨⟨k+1,AF,Bk⟩,Ai,?_⟩;refine Ba ?_ ?_
     ·exact BY
     rfl
    exact Be
   refine BO ?_;have Bh:k=u.fns.length:=Ee
   subst Bh;rw[F']at Af;refine D7 ?_;simp -dsimp only[simprocAttr,↓AG,zp,zr,results9];rw[Af];rfl
 exact Be
variable {u:Ad}{m m':Mach}
theorem CP.mono(h:∀a∈m.heap,∃b∈m'.heap,b.EI=a.EI){v:SV}(k:CP u m v):CP u m' v :=
 SV.Wf.mono (fun id ⟨a,ha,e⟩=>by
  obtain⟨b,hb,e'⟩:=h a ha;exact⟨b,hb,e'.trans e⟩) k
theorem CP.of_heap(h:m'.heap=m.heap){v:SV}(k:CP u m v):CP u m' v :=
 k.mono fun a ha=>⟨a,by rw[h];exact ha,rfl⟩
theorem CP.word{n:Int}(h:CR n):CP u m (.word n):=SV.Wf.word h
theorem CP.zero:CP u m .zero:=SV.Wf.zero
variable {l:List SV}
theorem P4(h:∀v∈l,CP u m v)(k:Nat):CP u m (BS l k):=by
 unfold BS;cases hk:l[k]? with
 | none=>exact CP.zero
 | some v=>exact h v (AK hk)
variable {es:List (Int×SV)}
theorem m6(h:∀e∈es,CP u m e.2)(k:Int):CP u m (Bq es k):=by
 unfold Bq;cases hl:JI es k with
 | none=>exact CP.zero
 | some v =>
  obtain⟨e,h1,rfl⟩:=vb hl;exact h e h1
theorem Y2(h:∀e∈es,CP u m e.2)(l:List Int):∀v∈BV es l,CP u m v:=fun v hv=>by
 obtain⟨k,_,rfl⟩:=List.mem_map.1 hv;exact m6 h k
theorem Zi(es:List (Int×SV))(l:List Int):(BV es l).length=l.length:=by simp[BV]
theorem ma(h:∀e∈es,CP u m e.2){k:Int}{v:SV}(hv:CP u m v):∀e∈CQ es k v,CP u m e.2:=fun e he=>by
 rcases Xr he with q|q
 ·exact h e q
 rw[q];exact hv
theorem vm(h:∀e∈es,CP u m e.2){ps:List Int}{l:List SV}(hl:∀v∈l,CP u m v):∀e∈C7 es ps l,CP u m e.2:=fun e he=>by
 rcases Zg he with q|q
 ·exact h e q
 exact hl _ q
theorem adi(op a b:Int)(hb:CR b):(∃n,CR n∧(Jb op a b).1=.word n)∧0<=(Jb op a b).2∧(Jb op a b).2<=6:=by
 have w1:=cR (a+b);have w2:=cR (a-b);have w3:=cR (a*b);have w4:=cR (a.tdiv b);have w0:CR 0:=Uf
 have w01:CR 1:=Uf
 unfold Jb
 repeat' split
 all_goals first
  | exact⟨⟨_,w1,rfl⟩,A6⟩
  | exact⟨⟨_,w2,rfl⟩,A6⟩
  | exact⟨⟨_,w3,rfl⟩,A6⟩
  | exact⟨⟨_,w4,rfl⟩,A6⟩
  | exact⟨⟨_,w0,rfl⟩,A6⟩
  | exact⟨⟨_,w01,rfl⟩,A6⟩
  | exact⟨⟨_,uE hb I8,rfl⟩,A6⟩
variable {i:Ins}
theorem tu{args:List SV}(h:∀v∈args,CP u m v):CP u m (I' i args).1∧0<=(I' i args).2∧(I' i args).2<=6:=by
 have h0:=P4 h 0;have hk:∀k,CP u m (BS (BS args 0).list k):=P4 (SV.Wf.kids h0);have hl:=SV.Wf.len h0;unfold I'
 repeat' split
 all_goals first
  | exact⟨CP.zero,A6⟩
  | exact⟨hk _,A6⟩
  | exact⟨CP.word (SV.Wf.num h0 I),A6⟩
  | exact⟨CP.word Uf,A6⟩
theorem xJ{u:Ad}{m:Mach}{op:Int}:∀(l r:List SV),(∀v∈r,CR v.n)->∀v∈IT op l r,CP u m v∧v.kind=0
 | [],_,_,v,h=>by simp[IT]at h
 | _::_,[],_,v,h=>by simp[IT]at h
 | a::l,b::r,hr,v,h=>by
  simp only[IT,CL]at h;rcases h with rfl|h
  ·obtain⟨⟨n,h1,h2⟩,_⟩:=adi op a.n b.n (hr b A6);rw[h2];exact⟨CP.word h1,rfl⟩
  exact xJ l r (fun v hv=>hr v (by simp[hv])) v h
theorem tU{v:SV}(h:CP u m v)(hk:v.kind=4):v.list.length<=1000∧∀x∈v.list,CR x.n :=
 ⟨SV.Wf.len h,fun x hx=>SV.Wf.num (SV.Wf.kids h x hx) (.inl (SV.Wf.vec h hk x hx))⟩
theorem uH{args:List SV}(h:∀v∈args,CP u m v)(hl:i.op=22->args.length<=1000)(h2:i.op≠22->i.op≠24->∃x y,args=[x,y]) :
  CP u m (IM i args).1∧0<=(IM i args).2∧(IM i args).2<=6:=by
 have h0:=P4 h 0;have hk:∀k,CP u m (BS (BS args 0).list k):=P4 (SV.Wf.kids h0);by_cases SJ:i.op=22
 ·unfold IM;rw[A9 SJ];split
  ·rename_i ha;refine⟨.mk I I I I (fun _ v hv=>?_) (hl SJ) A6 h,A6⟩;simp only[J1,OJ,Cp]at ha;exact ha v hv
  exact⟨CP.zero,A6⟩
 by_cases VW:i.op=24
 ·unfold IM;rw[A4 SJ,A9 VW];split
  ·exact⟨CP.zero,A6⟩
  exact⟨hk _,A6⟩
 obtain⟨x,y,e⟩:=h2 SJ VW;subst e;unfold IM;rw[A4 SJ,A4 VW];split
 ·exact⟨CP.zero,A6⟩
 rename_i hn;have Br:J1 [x,y] 4=true:=by
  cases hh:J1 [x,y] 4
  ·exact B3 (.inl (by simp[hh])) hn
  rfl
 have Bh:x.kind=4∧y.kind=4:=by simpa[J1]using Br
 have hx:=tU (h x A6) Bh.1;have hy:=tU (h y A6) Bh.2;have hz:=fun v hv=>xJ (u:=u) (m:=m) (op:=i.n) x.list y.list hy.2 v hv;refine⟨.mk I I I I (fun _ v hv=>(hz v hv).2) ?_ A6 (fun v hv=>(hz v hv).1),A6⟩;show(IT i.n x.list y.list).length<=1000;rw[lv];omega
structure LM(u:Ad)(m:Mach)(r:Mach×SV×Int):Prop where
 frames:r.1.frames=m.frames
 Iu:∀a∈m.heap,∃b∈r.1.heap,b.EI=a.EI
 val:CP u r.1 r.2.1
 VO:0<=r.2.2∧r.2.2<=6
 Fy:∀a∈r.1.heap,a.l.length<=1024∧∀v∈a.l,CP u r.1 v
 left:0<=r.1.left∧r.1.left<=m.left
 out:r.1.out.length<=1000
 words:∀n∈r.1.out,CR n
 fin:r.1.fin=m.fin∧r.1.val=m.val
 over:r.1.over=false->m.over=false∧r.1.short=false
theorem LM.same(hm:CY u m){v:SV}{t:Int}(hv:CP u m v)(ht:0<=t∧t<=6):LM u m (m,v,t) where
 frames:=rfl
 Iu:=fun a ha=>⟨a,ha,rfl⟩
 val:=hv
 VO:=ht
 Fy:=hm.Fy
 left:=⟨hm.left,OK _⟩
 out:=hm.out
 words:=hm.words
 fin:=⟨rfl,rfl⟩
 over:=fun h=>⟨h,(hm.over h).2⟩
theorem aer:∀(l:List MY) (id:Option Nat) (x:List SV),(∀a∈l,∃b∈Mach.QF l id x,b.EI=a.EI)∧(∀b∈Mach.QF l id x,∃a∈l,a.EI=b.EI∧a.AS=b.AS∧(b=a∨b.l=x))
 | [],_,_=>⟨A6,by simp[Mach.QF]⟩
 | a::r,id,x=>by
  obtain⟨h1,h2⟩:=aer r id x;unfold Mach.QF;split
  ·exact⟨fun c hc=>by
    rcases List.mem_cons.1 hc with rfl|hc
    ·exact⟨⟨c.EI,c.AS,x⟩,DQ,rfl⟩
    ·exact⟨c,dZ,rfl⟩,fun b hb=>by
    rcases List.mem_cons.1 hb with rfl|hb
    ·exact⟨a,A6,rfl,rfl,.inr rfl⟩
    exact⟨b,YP,rfl,rfl,.inl rfl⟩⟩
  exact⟨fun c hc=>by
   rcases List.mem_cons.1 hc with rfl|hc
   ·exact⟨_,A6,rfl⟩
   ·obtain⟨b,hb,e⟩:=h1 c hc;exact⟨b,YP,e⟩,fun b hb=>by
   rcases List.mem_cons.1 hb with rfl|hb
   ·exact⟨b,A6,rfl,rfl,.inl rfl⟩
   obtain⟨c,hc,e⟩:=h2 b hb;exact⟨c,dZ,e⟩⟩
theorem kS:∀(l:List MY) (id:Nat),(∃a∈l,a.EI=id)->∃a∈l,a.EI=id∧Mach.K8 l (some id)=a.l
 | [],_,h=>by simp at h
 | a::r,id,h=>by
  unfold Mach.K8;by_cases e:id=a.EI
  ·exact⟨a,A6,e.symm,da⟩
  obtain⟨b,hb,hv⟩:=h;rcases List.mem_cons.1 hb with rfl|hb
  ·exact B3 hv.symm e
  obtain⟨c,hc,h1,h2⟩:=kS r id ⟨b,hb,hv⟩;exact⟨c,dZ,h1,by simp[e,h2]⟩
theorem xX(hm:CY u m){v:SV}(hv:CP u m v)(hk:v.kind=3):∃a∈m.heap,v.arr=some a.EI∧Mach.K8 m.heap v.arr=a.l:=by
 obtain⟨id,e⟩:=SV.Wf.array hv hk;obtain⟨a,ha,h1,h2⟩:=kS m.heap id (SV.Wf.ref hv id e);exact⟨a,ha,by rw[h1];exact e,by rw[e];exact h2⟩
theorem Vz(m:Mach)(n:Int):(m.Ae n).frames=m.frames∧(m.Ae n).heap=m.heap∧(m.Ae n).out=m.out∧(m.Ae n).fin=m.fin∧(m.Ae n).val=m.val∧(m.Ae n).sid=m.sid∧(m.Ae n).next=m.next:=by
 unfold Mach.Ae;split<;>simp
theorem qge{n:Int}(h:0<=m.left)(hn:0<=n):0<=(m.Ae n).left∧(m.Ae n).left<=m.left:=by
 unfold Mach.Ae;split<;>simp<;>omega
theorem qbo(hm:CY u m){x y:SV}(hy:CP u m y):LM u m (m.E6 x y):=by
 obtain⟨p1,p2,p3,p4,p5,p6,p7⟩:=Vz m x.n;unfold Mach.E6;split
 ·exact Um
 split
 ·exact Um
 rename_i hx hr;have Mn:0<=x.n∧x.n<=1024:=I
 obtain⟨q1,q2⟩:=qge hm.left Mn.1;split
 ·rename_i hs;exact⟨p1,fun a ha=>⟨a,by rw[p2];exact ha,rfl⟩,CP.zero,A6,fun a ha=>by
   have Pe:a∈m.heap:=p2 ▸ ha;exact⟨(hm.Fy a Pe).1,fun v hv=>((hm.Fy a Pe).2 v hv).of_heap p2⟩,⟨q1,q2⟩,by rw[p3];exact hm.out,by rw[p3];exact hm.words,⟨p4,p5⟩,fun h=>by
   exfalso;unfold Mach.Ae at hs h;split at hs
   ·rename_i AF;rw[A9 AF]at h;cases h
   rename_i AF;rw[A4 AF]at h;have:=(hm.over h).2;simp only at hs;rw[this]at hs;cases hs⟩
 rename_i hs;refine⟨p1,fun a ha=>⟨a,by simp[ha],rfl⟩,?_,A6,fun a ha=>?_,⟨q1,q2⟩,by simp only[p3];exact hm.out,by simp only[p3];exact hm.words,⟨p4,p5⟩,fun h=>⟨?_,a8⟩⟩
 ·exact .mk I I I (fun _=>⟨_,rfl⟩) I A6 (fun id e=>by
   simp only[AM]at e;exact⟨_,YB _ (List.mem_singleton.2 rfl),e⟩) A6
 ·have hk:∀v,CP u m v->CP u ({ m.Ae x.n with heap:=m.heap++[⟨m.next+8,m.next+7,List.replicate x.n.toNat y⟩],next:=m.next+9 }:Mach) v:=fun v hv=>hv.mono fun b hb=>⟨b,YP,rfl⟩
  simp only[HY,Fq]at ha;rcases ha with ha|rfl
  ·exact⟨(hm.Fy a ha).1,fun v hv=>hk v ((hm.Fy a ha).2 v hv)⟩
  refine⟨Ai,fun v hv=>?_⟩;rw[(List.mem_replicate.1 hv).2];exact hk y hy
 simp only at h;unfold Mach.Ae at h;split at h
 ·cases h
 exact h
theorem uX(hm:CY u m){i:Ins}{args:List SV}(h:∀v∈args,CP u m v):LM u m (m.effect i args):=by
 have w0:CR 0:=Uf
 have h0:=P4 h 0;have h1:=P4 h 1;have h2:=P4 h 2;unfold Mach.effect;split
 ·split
  ·exact Um
  split
  ·exact Um
  rename_i hk hl;refine⟨rfl,fun a ha=>⟨a,ha,rfl⟩,CP.word w0,A6,fun a ha=>⟨(hm.Fy a ha).1,fun v hv=>((hm.Fy a ha).2 v hv).of_heap rfl⟩,⟨hm.left,OK _⟩,?_,fun n hn=>?_,⟨rfl,rfl⟩,fun h=>⟨h,(hm.over h).2⟩⟩
  ·have:=hm.out;exact KM
  simp only[HY,Fq]at hn;rcases hn with hn|rfl
  ·exact hm.words n hn
  exact SV.Wf.num h0 (.inl I)
 split
 ·exact qbo hm h1
 split
 ·split
  ·exact Um
  split
  ·exact Um
  exact LM.same hm (CP.word w0) I
 split
 ·exact Um
 rename_i hk;obtain⟨a,ha,e1,e2⟩:=xX hm h0 I;rw[e2];have DK:=(hm.Fy a ha).1;split
 ·exact LM.same hm (CP.word Uf) I
 split
 ·exact Um
 split
 ·exact LM.same hm (P4 (hm.Fy a ha).2 _) I
 obtain⟨s1,s2⟩:=aer m.heap (BS args 0).arr (a.l.set (BS args 1).n.toNat (BS args 2));have Ig:∀v,CP u m v->CP u ({ m with heap:=Mach.QF m.heap (BS args 0).arr (a.l.set (BS args 1).n.toNat (BS args 2)) }:Mach) v:=fun v hv=>hv.mono s1;refine⟨rfl,s1,CP.word w0,A6,fun b hb=>?_,⟨hm.left,OK _⟩,hm.out,hm.words,⟨rfl,rfl⟩,fun h=>⟨h,(hm.over h).2⟩⟩;obtain⟨c,hc,_,_,e⟩:=s2 b hb;rcases e with e|e
 ·rw[e];exact⟨(hm.Fy c hc).1,fun v hv=>Ig v ((hm.Fy c hc).2 v hv)⟩
 rw[e];refine⟨by simpa using DK,fun v hv=>Ig v ?_⟩;rcases KE hv with q|q
 ·exact(hm.Fy a ha).2 v q
 rw[q];exact h2
theorem ay(hm:CY u m){i:Ins}(hi:nI u i){args:List SV}(hl:args.length=i.args.length)(h:∀v∈args,CP u m v):LM u m (m.exec i args):=by
 have h0:=P4 h 0;unfold Mach.exec;split
 ·exact LM.same hm (CP.word (hi.c0 I8)) I
 split
 ·split
  ·exact Um
  rename_i ho hk;have Br:J1 args 0=true:=Ue
  have Ju:=hi.c2 (.inl ho);have h1m:BS args 1∈args:=by
   unfold BS;rw[AY I];exact MG _
  simp only[J1,OJ,Cp]at Br;obtain⟨⟨n,q1,q2⟩,q3⟩:=adi i.op (BS args 0).n (BS args 1).n (SV.Wf.num (h _ h1m) (.inl (Br _ h1m)));have:Jb i.op (BS args 0).n (BS args 1).n=(.word n,(Jb i.op (BS args 0).n (BS args 1).n).2):=by rw[<-q2]
  rw[this];exact LM.same hm (CP.word q1) q3
 split
 ·rename_i ho;exact LM.same hm (.mk I (fun _=>(hi.con ho).1) I I I (by have:=(hi.con ho).2;omega) A6 h) I
 split
 ·rename_i ho;obtain⟨c1,c2,c3⟩:=hi.qlt ho;exact LM.same hm (.mk I I (fun _=>⟨c1,c2⟩) I I I A6 h) I
 split
 ·obtain⟨q1,q2⟩:=tu (i:=i) h;exact LM.same hm q1 q2
 split
 ·rename_i ho;obtain⟨q1,q2⟩:=uH (i:=i) h (fun e=>by have:=hi.pack e;omega) (fun e1 e2=>by
   have:=hi.c2 I
   match args,hl with
   | [x,y],_=>exact⟨x,y,rfl⟩
   | [],hl=>simp at hl;omega
   | [x],hl=>simp at hl;omega
   | x::y::z::r,hl=>simp at hl;omega)
  exact LM.same hm q1 q2
 split
 ·exact LM.same hm h0 I
 exact uX hm h
theorem J'.mono(h:∀a∈m.heap,∃b∈m'.heap,b.EI=a.EI){f:Fr}(k:J' u m f):J' u m' f :=
 ⟨k.fn,k.blk,k.pos,fun e he=>(k.vals e he).mono h⟩
theorem J'.of_heap(h:m'.heap=m.heap){f:Fr}(k:J' u m f):J' u m' f:=k.mono fun a ha=>⟨a,by rw[h];exact ha,rfl⟩
theorem Nu{k:Int}(h0:0<=k)(h1:k<u.fns.length):AB u k∈u.fns:=AK (UJ h0 h1)
theorem M'{f:Func}{k:Int}(h0:0<=k)(h1:k<f.blocks.length):A7 f k∈f.blocks:=AK (K2 h0 h1)
theorem yM(hu:HL u){k:Int}(h0:0<=k)(h1:k<u.fns.length):(0:Int)<=0∧(0:Int)<(AB u k).blocks.length:=by
 have:=List.length_pos_iff.2 (hu.ne _ (Nu h0 h1)).1;omega
theorem CY.stop(hm:CY u m){e n:Int}(he:0<=e∧e<=6)(hn:CR n)(hz:e≠0->n=0):CY u (m.stop e n) where
 frames:=fun f hf=>(hm.frames f hf).of_heap CX
 Fy:=fun a ha=>⟨(hm.Fy a ha).1,fun v hv=>((hm.Fy a ha).2 v hv).of_heap CX⟩
 left:=hm.left
 depth:=hm.depth
 out:=hm.out
 words:=hm.words
 fin:=he
 val:=hn
 done:=hz
 over:=fun h=>NG
theorem CY.BW(hm:CY u m){f:Fr}(AT:m.frames≠[])(hf:J' u m f):CY u (m.BW f) where
 frames:=fun g hg=>by
  rcases List.mem_cons.1 hg with rfl|hg
  ·exact hf.of_heap CX
  exact(hm.frames g (iV hg)).of_heap CX
 Fy:=fun a ha=>⟨(hm.Fy a ha).1,fun v hv=>((hm.Fy a ha).2 v hv).of_heap CX⟩
 left:=hm.left
 depth:=by
  have h1:=hm.depth;have h2:=List.length_pos_iff.2 AT;have h3:(m.BW f).frames.length=m.frames.length:=by
   simp only[Mach.BW,CE,List.length_tail];omega
  rw[h3];exact h1
 out:=hm.out
 words:=hm.words
 fin:=hm.fin
 val:=hm.val
 done:=hm.done
 over:=fun h=>⟨by simp[Mach.BW],(hm.over h).2⟩
theorem CY.enter(hu:HL u)(hm:CY u m)(hs:m.over=false->m.short=false)(hd:m.frames.length+m.left+1<=2 ^ 40){fn:Int}(Cv:0<=fn∧fn<u.fns.length){args:List SV}(ha:∀v∈args,CP u m v)(to:Int) :
  CY u (m.enter u fn args to) where
 frames:=fun g hg=>by
  rcases List.mem_cons.1 hg with rfl|hg
  ·exact⟨Cv,yM hu Cv.1 Cv.2,H4 _,vm A6 (fun v hv=>(ha v hv).of_heap CX)⟩
  exact(hm.frames g hg).of_heap CX
 Fy:=fun a ha=>⟨(hm.Fy a ha).1,fun v hv=>((hm.Fy a ha).2 v hv).of_heap CX⟩
 left:=hm.left
 depth:=by
  simp only[Mach.enter,CE];omega
 out:=hm.out
 words:=hm.words
 fin:=hm.fin
 val:=hm.val
 done:=hm.done
 over:=fun h=>⟨aav,hs h⟩
theorem CY.follow(hm:CY u m)(AT:m.frames≠[]){f:Fr}(hf:J' u m f){e:Edge}(he:fD (AB u f.fn) e):CY u (m.follow u f e) :=
 hm.BW AT ⟨hf.fn,⟨he.lo,he.hi⟩,H4 _,vm hf.vals (Y2 hf.vals _)⟩
theorem CY.leave(hm:CY u m)(AT:m.frames≠[]){f:Fr}{v:SV}(hv:CP u m v)(ho:m.over=false):CY u (m.leave f v):=by
 have hz:CR 0:=Uf
 unfold Mach.leave;cases ht:m.frames.tail with
 | nil =>
  simp only;have h0:CY u ({ m with frames:=[],over:=true }:Mach) :=
   ⟨A6,fun a ha=>⟨(hm.Fy a ha).1,fun v hv=>((hm.Fy a ha).2 v hv).of_heap CX⟩,hm.left,by have:=hm.depth;simp;omega,hm.out,hm.words,hm.fin,hm.val,hm.done,fun h=>NG⟩
  refine h0.stop (e:=0) I ?_ A6;split
  ·exact SV.Wf.num hv I8
  exact hz
 | cons g r =>
  simp only;have hg:g∈m.frames:=iV (by rw[ht];simp);have hr:∀x∈r,x∈m.frames:=fun x hx=>iV (by rw[ht];simp[hx]);have hl:r.length+1<=m.frames.length:=by
   have h1:m.frames.tail.length=r.length+1:=by rw[ht];rfl
   simp at h1;omega
  have hfg:=hm.frames g hg;exact⟨fun x hx=>by
   rcases List.mem_cons.1 hx with rfl|hx
   ·exact⟨hfg.fn,hfg.blk,hfg.pos,fun e he=>(ma hfg.vals hv e he).of_heap CX⟩
   exact(hm.frames x (hr x hx)).of_heap CX,fun a ha=>⟨(hm.Fy a ha).1,fun v hv=>((hm.Fy a ha).2 v hv).of_heap CX⟩,hm.left,by have:=hm.depth;simp only[CE];omega,hm.out,hm.words,hm.fin,hm.val,hm.done,fun h=>⟨A6,(hm.over h).2⟩⟩
theorem cf{f:Func}{t:Term}(ht:fE f t)(h0:t.kind≠0)(h1:t.kind≠1)(h4:t.kind≠4)(n:Int):∃e,t.to[K3 t n]?=some e:=by
 have hk:=ht.kind;have AF:K3 t n<t.to.length:=by
  unfold K3;by_cases h2:t.kind=2
  ·rw[A9 h2,ht.cond h2];split<;>omega
  rw[A4 h2,ht.switch I];have:=zz (xs:=t.cases) (p:=(· == n));omega
 exact⟨_,AY AF⟩
theorem CY.finish(hm:CY u m)(ho:m.over=false){f:Fr}(hf:J' u m f){t:Term}(ht:fE (AB u f.fn) t):CY u (m.finish u f t):=by
 have hz:CR 0:=Uf
 have AT:=(hm.over ho).1;unfold Mach.finish;split
 ·exact hm.stop ht.n hz (fun _=>rfl)
 rename_i h4;split
 ·rename_i h1;have hl:=ht.jump h1;have he:t.to[0]?=some (t.to[0]' I):=AY _;rw[he];exact hm.follow AT hf (ht.DN _ (MG _))
 rename_i h1;split
 ·exact hm.leave AT (m6 hf.vals _) ho
 rename_i h0;split
 ·exact hm.stop I hz (fun _=>rfl)
 obtain⟨e,he⟩:=cf ht h0 h1 h4 (Bq f.vals t.arg).n;rw[he];exact hm.follow AT hf (ht.DN _ (AK he))
theorem CY.settle(hm:CY u m)(AT:m.frames≠[]){f:Fr}(hf:J' u m f){r:Mach×SV×Int}(hr:LM u m r)(to:Int):CY u (Mach.settle f to r):=by
 have hz:CR 0:=Uf
 have h1:CY u r.1:=⟨fun g hg=>(hm.frames g (hr.frames ▸ hg)).mono hr.Iu,hr.Fy,hr.left.1,by
  have:=hm.depth;have:=hr.left.2;rw[hr.frames];omega,hr.out,hr.words,by rw[hr.fin.1];exact hm.fin,by rw[hr.fin.2];exact hm.val,by rw[hr.fin.1,hr.fin.2];exact hm.done,fun h=>⟨abY,(hr.over h).2⟩⟩
 have B0:J' u r.1 f:=hf.mono hr.Iu;have TP:r.1.frames≠[]:=abY
 unfold Mach.settle;split
 ·refine(h1.stop hr.VO hz (fun _=>rfl)).BW TP ?_;have gQ:J' u (r.1.stop r.2.2 0) f:=B0.of_heap CX;exact⟨gQ.fn,gQ.blk,gQ.pos,ma gQ.vals (hr.val.of_heap CX)⟩
 exact h1.BW TP ⟨B0.fn,B0.blk,B0.pos,ma B0.vals hr.val⟩
theorem CY.step(hu:HL u)(hm:CY u m)(ho:m.over=false)(hd:m.frames.length+m.left+1<=2 ^ 40):CY u (m.step u):=by
 have hz:CR 0:=Uf
 obtain⟨AT,D5⟩:=hm.over ho;unfold Mach.step;cases B0:m.frames with
 | nil=>exact B3 B0 AT
 | cons f r =>
  have hf:=hm.frames f Re;have hF:=Nu hf.fn.1 hf.fn.2;have hB:=M' hf.blk.1 hf.blk.2;have hb:=hu.blocks _ hF _ hB;simp only;cases hi:(A7 (AB u f.fn) f.blk).ins[f.pos]? with
  | none=>exact hm.finish ho hf hb.term
  | some i =>
   simp only;have Ia:=hb.ins i (AK hi);have AF:=AE hi;have E8:J' u m { f with pos:=f.pos+1 }:=⟨hf.fn,hf.blk,AF,hf.vals⟩
   have h1:=hm.BW AT E8;have LF:J' u (m.BW { f with pos:=f.pos+1 }) { f with pos:=f.pos+1 }:=E8.of_heap CX;have KP:(m.BW { f with pos:=f.pos+1 }).frames.length=m.frames.length:=by
    simp[Mach.BW,B0]
   have ha:=Y2 LF.vals i.args;have DK:=Zi f.vals i.args;unfold Mach.act;split
   ·rename_i FO;obtain⟨c1,c2,c3⟩:=Ia.call FO;exact h1.enter hu (fun _=>D5) (by rw[KP];exact hd) ⟨c1,c2⟩ ha _
   split
   ·split
    ·rename_i hk;exact h1.enter hu (fun _=>D5) (by rw[KP];exact hd) (SV.Wf.fn (P4 ha 0) hk.1) ha _
    exact h1.stop I hz (fun _=>rfl)
   exact h1.settle (by simp[Mach.BW]) LF (ay h1 Ia DK ha) _
theorem tR(u:Ad)(m:Mach)(hm:CY u m)(hu:HL u)(ho:m.over=false):(m.step u).left<=m.left:=by
 obtain⟨AT,D5⟩:=hm.over ho;have qkE:∀(m:Mach) f v,(m.leave f v).left=m.left:=fun m f v=>by
  unfold Mach.leave;split<;>rfl
 unfold Mach.step;cases B0:m.frames with
 | nil=>exact B3 B0 AT
 | cons f r =>
  have hf:=hm.frames f Re;have hb:=hu.blocks _ (Nu hf.fn.1 hf.fn.2) _ (M' hf.blk.1 hf.blk.2);simp only;cases hi:(A7 (AB u f.fn) f.blk).ins[f.pos]? with
  | none =>
   simp only;unfold Mach.finish
   repeat' split
   all_goals first
    | exact OK _
    | exact Int.le_of_eq (qkE _ _ _)
  | some i =>
   simp only;have Ia:=hb.ins i (AK hi);have AF:=AE hi;have E8:J' u m { f with pos:=f.pos+1 }:=⟨hf.fn,hf.blk,AF,hf.vals⟩
   have h1:=hm.BW AT E8;unfold Mach.act;split
   ·exact OK _
   split
   ·split<;>exact OK _
   have hx:=ay h1 Ia (Zi f.vals i.args) (Y2 (fun e he=>(hf.vals e he).of_heap CX) i.args);have hl:=hx.left.2;unfold Mach.settle;split<;>exact hl
def cq(cs:List A2)(n:Nat)(id:Nat):List A2:=cs.take n++[.mp id 0]
theorem gv(a b c:Nat):(A2.os a b c).cells=[.os a b c]:=rfl
theorem qa1(a b:Nat):AP [.mp a b]=[.mp a b]:=rfl
variable {O:List A8}
theorem qcU(AN:∀o∈O,o.upto O.length)(h0:O[2]?=some (.cells (AV u m))){cs:List A2}(Au:O[m.sid]?=some (.cells cs))(BQ:m.frames.length<=cs.length)(AT:m.sid≠2)(hN:O.length=m.next)
  (hd:m.frames.length<=2 ^ 41) (fn:Int) (Cv:0<=fn∧fn<u.fns.length) (hb:(AB u fn).blocks≠[]) (args:List SV) (hl:∀v∈args,SV.BC O.length v) (hp:(A7 (AB u fn) 0).params.length=args.length) (to:Int) :
  Aq prog 81 O [.mp 2 0,aI fn,.A3 4 (args.map SV.enc) .sh,aI to] (fun r O'=>r=.Ab []∧O'=((O.set m.sid .gone).set 2 (.cells (AV u (m.enter u fn args to)))) ++
   [.map (.int .i64) ((C7 [] (A7 (AB u fn) 0).params args).map CG),.cells [aI fn,aI 0,aI 0,aI to,.mm O.length],.cells (cq cs m.frames.length (O.length+1))]):=by
 have hF:=UJ Cv.1 Cv.2;have hB:=K2 (f:=AB u fn) (k:=0) I (by
  have:=List.length_pos_iff.2 hb;omega)
 generalize hBB:A7 (AB u fn) 0=B at *;generalize hFF:AB u fn=F at *;have hB:F.blocks[0]?=some B:=hB;have NR:∀X,(O++X)[2]?=some (.cells (AV u m)):=fun X=>D8 h0;unfold AV at NR;have Dr:=AE h0;have qmd:∀X,(O++X)[m.sid]?=some (.cells cs):=fun X=>D8 Au;have Qu:(O.set m.sid .gone)[2]?=some (.cells (AV u m)):=EY h0 AT;have e1:∀X,(O++X).set m.sid .gone=O.set m.sid .gone++X:=fun X=>Y0 Au;have e2:∀X,(O.set m.sid .gone++X)[2]?=some (.cells (AV u m)):=fun X=>D8 Qu;have e3:∀X y,(O.set m.sid .gone++X).set 2 y=(O.set m.sid .gone).set 2 y++X:=fun X y=>Y0 Qu;unfold AV at e2;have KP:m.frames.length*1<=cs.length:=I
 have Gs:((m.frames.length:Nat):Int)+1=((m.frames.length+1:Nat):Int):=I
 have Vo:[C8 u.fns,aI u.main,.os (O.length+2) (m.frames.length+1) 1,aI m.left,.v (.bool m.short),.v (.bool m.over),.A3 1 (m.out.map aI) (.tok 3),aI m.fin,aI m.val]=AV u (m.enter u fn args to):=by
  simp[AV,Mach.enter,hN]
 have EC:=Gr (n:=O.length+3) (ds:=AV u (m.enter u fn args to)) (DY (k:=m.sid) (x:=.gone) (fun o ho=>A8.IK I (AN o ho)) trivial) Qu (fun h=>by
  simp only[AV,AQ,A2.upto,BU,Func.AX,FA,FW,Mach.enter]at h ⊢;omega)
 obtain⟨O2,Jp⟩:∃O2,O2=(O.set m.sid .gone).set 2 (.cells (AV u (m.enter u fn args to))):=⟨_,rfl⟩
 have hlen:O.length=O2.length:=jY
 simp only[<-Jp]at EC ⊢;rw[hlen]at EC;refine zf true (O.length+3) func81 ntmps81 ?_;refine Cw ?_;refine L5 NR hF hB ?_
 refine D1 ?_;refine LN 2 rfl (fun DK=>?_);simp only[BE]at DK;refine Al (BZ (ι:={j:Nat // j<=B.params.length}) (fun j=>⟨54,[(0,.mp 2 0),(2,.A3 4 (args.map SV.enc) .sh),(8,.mp (O.length+1) 0),(27,AA B.params),(28,aI B.params.length),(29,aI j.1)],O++[.map (.int .i64) ((C7 [] (B.params.take j.1) (args.take j.1)).map CG),.cells [aI fn,aI 0,aI 0,aI to,.mm O.length]]⟩) (fun j=>B.params.length-j.1) ⟨0,I⟩ ?_ ?_)
 ·refine C6 ?_;rw[qa7];rfl
 rintro⟨j,hj⟩;refine C3 (fun h=>?_) (fun h=>?_)
 ·refine Az ?_;have AF:j<B.params.length:=Aa
  obtain⟨p,hp⟩:∃p,B.params[j]?=some p:=⟨B.params[j],Gu⟩
  obtain⟨a,ha⟩:∃a,args[j]?=some a:=⟨args[j]' I,AY _⟩
  refine DR hp ?_;refine Dn ?_;simp -dsimp only[simprocAttr,↓AG,zp,ha,eZ,<-sQ hp ha]
  refine Gv ?_;refine k7 ?_ ?_
  ·exact BY
  rfl
 refine BO ?_;have Gl:j=B.params.length:=Ee
 subst Gl;have Hv:args.take B.params.length=args:=Cb I;refine TW ?_;simp -dsimp only[simprocAttr,↓AG,zp,NR,Hv,Jk,qmd,e1,e2,e3,KP,B2,gv,Vo,<-Jp];refine⟨I,I,trivial,?_⟩;refine Ga ?_;simp -dsimp only[simprocAttr,↓AG,zp,zr,results81,ke,hlen,qa1];refine⟨fun o ho=>?_,trivial,by simp[cq]⟩;rcases List.mem_append.1 ho with ho|ho
 ·exact EC o ho
 have IZ:=AN _ (AK Au);simp only[A8.upto,CF]at IZ;simp only[CL,NA,Di]at ho;rcases ho with rfl|rfl|rfl
 ·refine V7 fun x hx=>?_;rcases Zg hx with q|q
  ·simp at q
  exact(hl _ q).mono I
 ·exact MN
 simp only[A8.upto,CF];intro x hx;rcases List.mem_append.1 hx with q|q
 ·exact A2.IK I _ (IZ x (KF q))
 simp only[Fq]at q;subst q;simp[A2.upto]
def mW(u:Ad)(fuel:Int):List A2:=[C8 u.fns,aI u.main,.A3 1 [] .ex,aI fuel,.v (.bool false),.v (.bool false),.A3 1 [] (.tok 3),aI 0,aI 0]
theorem qbU{fuel:Int}(Z':0<=u.main∧u.main<u.fns.length)(hb:(AB u u.main).blocks≠[])(hp:(A7 (AB u u.main) 0).params=[])(sz:Nat)(ow:Ec) :
  Aq prog 81 [.gone,.cells [.A3 1 [] .ex,aI 0,aI 0],.cells (mW u fuel),.spare 0] [.mp 2 0,aI u.main,.A3 sz [] ow,aI 0] (fun r O'=>r=.Ab []∧O'=[.gone,.cells [.A3 1 [] .ex,aI 0,aI 0],.cells (AV u ((Mach.start fuel).enter u u.main [] 0)),.spare 0,.map (.int .i64) [],.cells [aI u.main,aI 0,aI 0,aI 0,.mm 4],.cells [.mp 5 0]]):=by
 have hF:=UJ Z'.1 Z'.2;have hB:=K2 (f:=AB u u.main) (k:=0) I (by
  have:=List.length_pos_iff.2 hb;omega)
 have Vo:AV u ((Mach.start fuel).enter u u.main [] 0)=[C8 u.fns,aI u.main,.os 6 1 1,aI fuel,.v (.bool false),.v (.bool false),.A3 1 [] (.tok 3),aI 0,aI 0]:=by
  simp[AV,Mach.enter,Mach.start]
 rw[Vo];unfold mW;generalize hBB:A7 (AB u u.main) 0=B at *;generalize hFF:AB u u.main=F at *;have hB:F.blocks[0]?=some B:=hB;have IH:B.params.length=0:=by rw[hp];rfl
 refine zf true 7 func81 ntmps81 ?_;refine Cw ?_;refine Ej ?_;refine Ri hF hB ?_
 refine D1 ?_;refine Al (BZ (ι:=Unit) (fun _=>⟨54,[(0,.mp 2 0),(8,.mp 5 0),(27,AA B.params),(28,aI 0),(29,aI 0)],[.gone,.cells [.A3 1 [] .ex,aI 0,aI 0],.cells [C8 u.fns,aI u.main,.A3 1 [] .ex,aI fuel,.v (.bool false),.v (.bool false),.A3 1 [] (.tok 3),aI 0,aI 0],.spare 0,.map (.int .i64) [],.cells [aI u.main,aI 0,aI 0,aI 0,.mm 4]]⟩) (fun _=>0) () ?_ ?_)
 ·refine Ba ?_ ?_
  ·exact Sub.int (by simp[IH])
  rfl
 rintro⟨⟩;refine C3 (fun h=>?_) (fun h=>?_)
 ·simp at h
 refine BO ?_;refine TW ?_;simp -dsimp only[simprocAttr,↓AG,zp,gv,qa1];refine⟨trivial,?_⟩;refine Ga ?_;simp -dsimp only[simprocAttr,↓AG,zp,zr,results81];refine⟨?_,trivial⟩;simp[A8.upto,AQ,My,A2.upto,Func.AX]
theorem qdM(AN:∀o∈O,o.upto O.length)(h0:O[2]?=some (.cells (AV u m)))(f:Fr)(B0:m.frames=[f])(Bt:f.AW<O.length)(v:SV)(hv:SV.BC O.length v) :
  Aq prog 130 O [.mp 2 0,.mp f.AW 0,v.enc] (fun r O'=>r=.Ab []∧O'=O.set 2 (.cells (AV u (m.leave f v)))):=by
 have Gm:=hv.Cr;rw[SV.KY]at Gm;have Dr:=AE h0;have Mm:[C8 u.fns,aI u.main,.os m.sid 0 1,aI m.left,.v (.bool m.short),.v (.bool m.over),.A3 1 (m.out.map aI) (.tok 3),aI m.fin,aI m.val]=AV u { m with frames:=[] }:=rfl;have Of:=Kr h0;have Dv:O[2]?=some (.cells [C8 u.fns,aI u.main,.os m.sid 1 1,aI m.left,.v (.bool m.short),.v (.bool m.over),.A3 1 (m.out.map aI) (.tok 3),aI m.fin,aI m.val]):=by
  exact Up h0 B0
 obtain⟨O1,Bn⟩:∃O1,O1=O.set 2 (.cells (AV u { m with frames:=[] })):=⟨_,rfl⟩
 have hlen:O.length=O1.length:=MJ
 have Ol:O1[2]?=some (.cells (AV u { m with frames:=[] })):=by rw[Bn];exact Of _
 have Dl:∀o∈O1,o.upto O1.length:=by
  rw[<-hlen,Bn];exact Gr AN h0 (fun h=>K1 h rfl)
 have P7:=fun e n=>Zh Dl Ol e n;have oI:∀n:Int,O1.set 2 (.cells (AV u (({ m with frames:=[] }:Mach).stop 0 n)))=O.set 2 (.cells (AV u (({ m with frames:=[] }:Mach).stop 0 n))):=fun n=>by
  rw[Bn,Hr]
 have EC:∀n:Int,∀o∈O.set 2 (.cells (AV u (({ m with frames:=[] }:Mach).stop 0 n))),o.upto O.length:=fun n=>Gr AN h0 (fun h=>K1 h rfl);have EJ:O1[2]?=some (.cells [C8 u.fns,aI u.main,.os m.sid 0 1,aI m.left,.v (.bool m.short),.v (.bool m.over),.A3 1 (m.out.map aI) (.tok 3),aI m.fin,aI m.val]):=Ol;have Df:m.leave f v=({ m with frames:=[] }:Mach).stop 0 (if v.kind=0∨v.kind=1 then v.n else 0):=by
  unfold Mach.leave;rw[B0];rfl
 rw[Df];have BA:∀x,(O.set 2 x).take O1.length=O.set 2 x:=fun x=>by rw[<-hlen];exact LI
 by_cases hk:v.kind=0∨v.kind=1
 ·rw[A9 hk];rcases(show v.kind=0∨(v.kind≠0∧v.kind=1) from I)with e|⟨e,e1⟩
  ·have hd:decide (v.kind=0)=true:=Ar e;refine kA ?_;refine jc ?_ ?_ ?_
   ·exact AN
   ·simp only[A2.upto]at Gm;simp[A2.upto,Bt,Dr,Gm]
   refine rG Dv Mm Bn EJ ?_;refine HZ hd ?_;exact abv oI BA
  have hd:decide (v.kind=0)=false:=Ac e;have Gk:decide (v.kind=1)=true:=Ar e1;refine kA ?_;refine jc ?_ ?_ ?_
  ·exact AN
  ·simp only[A2.upto]at Gm;simp[A2.upto,Bt,Dr,Gm]
  refine rG Dv Mm Bn EJ ?_;refine L7 hd Gk ?_;exact abv oI BA
 rw[A4 hk];have hd:decide (v.kind=0)=false:=Ac I;have Gk:decide (v.kind=1)=false:=Ac I;refine kA ?_;refine jc ?_ ?_ ?_
 ·exact AN
 ·simp only[A2.upto]at Gm;simp[A2.upto,Bt,Dr,Gm]
 refine rG Dv Mm Bn EJ ?_;refine L7 hd Gk ?_;refine FE ?_;refine HA ?_;refine .inr (.inl ⟨_,_,P7 0 0,.inl (B4 ?_)⟩);simp -dsimp only[simprocAttr,↓AG,zp,hlen,oI];refine Ga ?_;simp -dsimp only[simprocAttr,↓AG,zp,zr,results130,hlen,Jk,B2,BA];exact⟨by rw[<-hlen];exact EC 0,trivial⟩
theorem qdN(AN:∀o∈O,o.upto O.length)(h0:O[2]?=some (.cells (AV u m)))(f g:Fr)(r:List Fr)(B0:m.frames=f::g::r)(hf:O[f.AW]?=some (.cells (BP f)))
  (hg:O[g.AW]?=some (.cells (BP g))) (hgm:O[g.Ay]?=some (.map (.int .i64) (g.vals.map CG))) (hgu:∀e∈g.vals,SV.BC O.length e.2) {cs:List A2} (Au:O[m.sid]?=some (.cells cs)) (BQ:cs[r.length]?=some (.mp g.AW 0))
  (Of:m.sid≠2) (Jy:r.length<=2 ^ 40) (hf0:f.AW≠2) (Qu:g.AW≠2) (Dv:g.Ay≠2) (v:SV) (hv:SV.BC O.length v) :
  Aq prog 130 O [.mp 2 0,.mp f.AW 0,v.enc] (fun r O'=>r=.Ab []∧O'=(O.set 2 (.cells (AV u (m.leave f v)))).set g.Ay (.map (.int .i64) ((CQ g.vals f.to v).map CG))):=by
 have Gm:=hv.Cr;rw[SV.KY]at Gm;have Dr:=AE h0;have Bt:=AE hf;have Df:AV u (m.leave f v)=[C8 u.fns,aI u.main,.os m.sid (r.length+1) 1,aI m.left,.v (.bool m.short),.v (.bool m.over),.A3 1 (m.out.map aI) (.tok 3),aI m.fin,aI m.val]:=by
  simp[Mach.leave,B0,AV]
 have hm:O[2]?=some (.cells [C8 u.fns,aI u.main,.os m.sid (r.length+1+1) 1,aI m.left,.v (.bool m.short),.v (.bool m.over),.A3 1 (m.out.map aI) (.tok 3),aI m.fin,aI m.val]):=by
  exact Up h0 B0
 obtain⟨O1,Bn⟩:∃O1,O1=O.set 2 (.cells (AV u (m.leave f v))):=⟨_,rfl⟩
 have hlen:O.length=O1.length:=MJ
 have hs:=Kr h0;have Ol:O1[2]?=some (.cells (AV u (m.leave f v))):=by rw[Bn];exact hs _
 have oY:O1[m.sid]?=some (.cells cs):=by rw[Bn];exact EY Au Of.symm
 have E8:O1[f.AW]?=some (.cells (BP f)):=by rw[Bn];exact EY hf hf0.symm
 have DJ:O1[g.AW]?=some (.cells (BP g)):=by rw[Bn];exact EY hg Qu.symm
 have qmu:O1[g.Ay]?=some (.map (.int .i64) (g.vals.map CG)):=by rw[Bn];exact EY hgm Dv.symm
 have Dl:∀o∈O1,o.upto O1.length:=by
  rw[<-hlen,Bn];refine Gr AN h0 (fun h=>K1 h ?_);simp[Mach.leave,B0]
 rw[<-Bn];have EC:∀o∈O1.set g.Ay (.map (.int .i64) ((CQ g.vals f.to v).map CG)),o.upto O1.length:=by
  refine DY Dl (V7 fun x hx=>?_);rw[<-hlen];rcases Xr hx with q|q
  ·exact hgu x q
  rw[q];exact hv
 have BA:∀x,(O1.set g.Ay x).take O1.length=O1.set g.Ay x:=fun x=>LI;have Dp:[C8 u.fns,aI u.main,.os m.sid (r.length+1) 1,aI m.left,.v (.bool m.short),.v (.bool m.over),.A3 1 (m.out.map aI) (.tok 3),aI m.fin,aI m.val]=AV u (m.leave f v):=Df.symm;rw[Df]at Ol;unfold BP at E8 DJ;have GW:((r.length+1+1:Nat):Int)-1=((r.length+1:Nat):Int):=I
 have Pl:((r.length+1:Nat):Int)-1=(r.length:Nat):=I
 have hr3:decide ((0:Int)<((r.length+1:Nat):Int))=true:=Ar I;refine kA ?_;refine jc ?_ ?_ ?_
 ·exact AN
 ·simp only[A2.upto]at Gm;simp[A2.upto,Bt,Dr,Gm]
 refine B9 ?_;simp -dsimp only[simprocAttr,↓AG,zp,hm,gv,GW,BH,Dp,<-Bn]
 refine YZ ?_;refine Gj ?_;refine L7 Ol hr3 ?_;refine FF ?_;refine B9 ?_;simp -dsimp only[simprocAttr,↓AG,zp,Ol,oY,Pl,HW,BQ,E8,DJ,qmu,eZ]
 refine Gv ?_;refine F3 ?_;simp -dsimp only[simprocAttr,↓AG,zp,zr,results130,hlen,BA,B2];exact kJ
theorem cV{cs xs:List A2}{n:Nat}(h:xs.length=n)(hc:cs.length=n):As cs 0 xs=xs:=by
 simp[As];omega
theorem qng{x:A2}(h:x.flat):x.cells.map A2.Dd=x.share.cells:=by
 cases x<;>rfl
theorem cM(es:List (Int×SV))(k:Int):(Hp es k).cells.map A2.Dd=(Bq es k).enc.cells:=by
 rw[qng (oq es k),uA]
theorem qfu(AN:∀o∈O,o.upto O.length)(h0:O[2]?=some (.cells (AV u m)))(f:Fr)(hf:O[f.AW]?=some (.cells (BP f)))(hv:O[f.Ay]?=some (.map (.int .i64) (f.vals.map CG)))
  (hu:∀e∈f.vals,SV.BC O.length e.2) (NO:f.AW≠f.Ay) (t:Term) (hk:t.kind=4):Aq prog 112 O [.mp 2 0,.mp f.AW 0,t.enc] (fun r O'=>r=.Ab []∧O'=O.set 2 (.cells (AV u (m.stop t.n 0)))):=by
 have Bt:=AE hf;have hvl:=AE hv;have Dr:=AE h0;have BK:=hf;unfold BP at BK;have Qg:(Option.map SV.enc (JI f.vals t.arg)).getD (.agg [aI 0,aI 0,.A3 4 [] .ex,.v (.pointer none)])=Hp f.vals t.arg:=rfl;have PJ:As [A2.v (.int .i64 0),.v (.int .i64 0),.A3 4 [] .ex,.v (.pointer none)] 0 (Hp f.vals t.arg).cells=(Hp f.vals t.arg).cells:=cV (U7 _ _) rfl;have D5:=cM f.vals t.arg;have KO:=(ZZ hu t.arg).Cr;generalize Bq f.vals t.arg=V at *;rw[SV.KY]at KO;rw[SV.D']at D5;have P7:=Zh AN h0 t.n 0;have EC:=Gr AN h0 (ds:=AV u (m.stop t.n 0)) (fun h=>K1 h rfl);have BA:=LI (O:=O) (k:=2) (x:=.cells (AV u (m.stop t.n 0)));refine dj ?_ ?_ ?_
 ·exact AN
 ·exact eF Bt Dr
 refine dn BK hv Qg PJ ?_ ?_
 ·simp only[AQ,A2.upto,FA,FW]at KO;simp[A2.upto,AQ,Bt,Dr,BU,Edge.AX,KO]
 refine Cc ?_;refine Al ?_;refine AJ (fun h=>?_) (fun h=>?_)
 ·refine HA ?_;refine rr ?_
  (refine Ga ?_;simp -dsimp only[Mo,LW,Nat.reduceEqDiff,reduceCtorEq])
  skip
  exact adI BA
 exact Ht h
theorem qft(AN:∀o∈O,o.upto O.length)(h0:O[2]?=some (.cells (AV u m)))(f:Fr)(hf:O[f.AW]?=some (.cells (BP f)))(hv:O[f.Ay]?=some (.map (.int .i64) (f.vals.map CG)))
  (hu:∀e∈f.vals,SV.BC O.length e.2) (NO:f.AW≠f.Ay) (t:Term) (hk:t.kind=1) (e:Edge) (he:t.to[0]?=some e) {O':List A8} (hC:Aq prog 129 O [.mp 2 0,.mp f.AW 0,e.enc] (fun r O1=>r=.Ab []∧O1=O')) (hlen:O.length=O'.length) (P9:∀o∈O',o.upto O'.length):Aq prog 112 O [.mp 2 0,.mp f.AW 0,t.enc] (fun r O1=>r=.Ab []∧O1=O'):=by
 have Bt:=AE hf;have hvl:=AE hv;have Dr:=AE h0;have BK:=hf;unfold BP at BK;have Qg:(Option.map SV.enc (JI f.vals t.arg)).getD (.agg [aI 0,aI 0,.A3 4 [] .ex,.v (.pointer none)])=Hp f.vals t.arg:=rfl;have PJ:As [A2.v (.int .i64 0),.v (.int .i64 0),.A3 4 [] .ex,.v (.pointer none)] 0 (Hp f.vals t.arg).cells=(Hp f.vals t.arg).cells:=cV (U7 _ _) rfl;have D5:=cM f.vals t.arg;have KO:=(ZZ hu t.arg).Cr;generalize Bq f.vals t.arg=V at *;rw[SV.KY]at KO;rw[SV.D']at D5;refine dj ?_ ?_ ?_
 ·exact AN
 ·exact eF Bt Dr
 refine dn BK hv Qg PJ ?_ ?_
 ·simp only[AQ,A2.upto,FA,FW]at KO;simp[A2.upto,AQ,Bt,Dr,BU,Edge.AX,KO]
 refine Cc ?_;refine Al ?_;refine AJ (fun h=>?_) (fun h=>?_)
 ·exact AI h
 refine AJ (fun h=>?_) (fun h=>?_)
 ·refine Dn ?_;refine Gi he ?_;refine WT ?_
  (refine Ga ?_;simp -dsimp only[Mo,LW,Nat.reduceEqDiff,reduceCtorEq])
  skip
  exact rI
 exact Ht h
theorem wk(AN:∀o∈O,o.upto O.length)(h0:O[2]?=some (.cells (AV u m)))(f:Fr)(hf:O[f.AW]?=some (.cells (BP f)))(hv:O[f.Ay]?=some (.map (.int .i64) (f.vals.map CG)))
  (hu:∀e∈f.vals,SV.BC O.length e.2) (NO:f.AW≠f.Ay) (t:Term) (hk:t.kind=0) {O':List A8} (hC:Aq prog 130 O [.mp 2 0,.mp f.AW 0,(Bq f.vals t.arg).enc] (fun r O1=>r=.Ab []∧O1=O')) (hlen:O.length=O'.length) (P9:∀o∈O',o.upto O'.length):Aq prog 112 O [.mp 2 0,.mp f.AW 0,t.enc] (fun r O1=>r=.Ab []∧O1=O'):=by
 have Bt:=AE hf;have hvl:=AE hv;have Dr:=AE h0;have BK:=hf;unfold BP at BK;have Qg:(Option.map SV.enc (JI f.vals t.arg)).getD (.agg [aI 0,aI 0,.A3 4 [] .ex,.v (.pointer none)])=Hp f.vals t.arg:=rfl;have PJ:As [A2.v (.int .i64 0),.v (.int .i64 0),.A3 4 [] .ex,.v (.pointer none)] 0 (Hp f.vals t.arg).cells=(Hp f.vals t.arg).cells:=cV (U7 _ _) rfl;have D5:=cM f.vals t.arg;have KO:=(ZZ hu t.arg).Cr;generalize Bq f.vals t.arg=V at *;rw[SV.KY]at KO;rw[SV.D']at D5;refine dj ?_ ?_ ?_
 ·exact AN
 ·exact eF Bt Dr
 refine dn BK hv Qg PJ ?_ ?_
 ·simp only[AQ,A2.upto,FA,FW]at KO;simp[A2.upto,AQ,Bt,Dr,BU,Edge.AX,KO]
 refine Cc ?_;refine Al ?_;refine AJ (fun h=>?_) (fun h=>?_)
 ·exact AI h
 refine AJ (fun h=>?_) (fun h=>?_)
 ·exact AI h
 refine AJ (fun h=>?_) (fun h=>?_)
 ·refine HA ?_;refine WT ?_
  (refine Ga ?_;simp -dsimp only[Mo,LW,Nat.reduceEqDiff,reduceCtorEq])
  skip
  exact rI
 exact Ht h
theorem qfY(AN:∀o∈O,o.upto O.length)(h0:O[2]?=some (.cells (AV u m)))(f:Fr)(hf:O[f.AW]?=some (.cells (BP f)))(hv:O[f.Ay]?=some (.map (.int .i64) (f.vals.map CG)))
  (hu:∀e∈f.vals,SV.BC O.length e.2) (NO:f.AW≠f.Ay) (t:Term) (hk:t.kind≠0∧t.kind≠1∧t.kind≠4) (hV:(Bq f.vals t.arg).kind≠0):Aq prog 112 O [.mp 2 0,.mp f.AW 0,t.enc] (fun r O'=>r=.Ab []∧O'=O.set 2 (.cells (AV u (m.stop 5 0)))):=by
 have Bt:=AE hf;have hvl:=AE hv;have Dr:=AE h0;have BK:=hf;unfold BP at BK;have Qg:(Option.map SV.enc (JI f.vals t.arg)).getD (.agg [aI 0,aI 0,.A3 4 [] .ex,.v (.pointer none)])=Hp f.vals t.arg:=rfl;have PJ:As [A2.v (.int .i64 0),.v (.int .i64 0),.A3 4 [] .ex,.v (.pointer none)] 0 (Hp f.vals t.arg).cells=(Hp f.vals t.arg).cells:=cV (U7 _ _) rfl;have D5:=cM f.vals t.arg;have KO:=(ZZ hu t.arg).Cr;generalize Bq f.vals t.arg=V at *;rw[SV.KY]at KO;rw[SV.D']at D5;have P7:=Zh AN h0 5 0;have EC:=Gr AN h0 (ds:=AV u (m.stop 5 0)) (fun h=>K1 h rfl);have BA:=LI (O:=O) (k:=2) (x:=.cells (AV u (m.stop 5 0)));have hd:decide (V.kind=0)=false:=Ac hV;refine dj ?_ ?_ ?_
 ·exact AN
 ·exact eF Bt Dr
 refine dn BK hv Qg PJ ?_ ?_
 ·simp only[AQ,A2.upto,FA,FW]at KO;simp[A2.upto,AQ,Bt,Dr,BU,Edge.AX,KO]
 refine Cc ?_;refine Al ?_;refine AJ (fun h=>?_) (fun h=>?_)
 ·exact AI h
 refine AJ (fun h=>?_) (fun h=>?_)
 ·exact AI h
 refine AJ (fun h=>?_) (fun h=>?_)
 ·exact AI h
 refine HZ hd ?_;refine FF ?_;refine BM ?_;refine rr ?_;refine E9 ?_;exact adI BA
theorem qcS(AN:∀o∈O,o.upto O.length)(h0:O[2]?=some (.cells (AV u m)))(f:Fr)(hf:O[f.AW]?=some (.cells (BP f)))(hv:O[f.Ay]?=some (.map (.int .i64) (f.vals.map CG)))
  (hu:∀e∈f.vals,SV.BC O.length e.2) (NO:f.AW≠f.Ay) (t:Term) (hk:t.kind≠0∧t.kind≠1∧t.kind≠4) (hV:(Bq f.vals t.arg).kind=0) (B8:t.cases.length<=2 ^ 60) (e:Edge) (he:t.to[K3 t (Bq f.vals t.arg).n]?=some e) {O':List A8} (hC:Aq prog 129 O [.mp 2 0,.mp f.AW 0,e.enc] (fun r O1=>r=.Ab []∧O1=O')) (hlen:O.length=O'.length) (P9:∀o∈O',o.upto O'.length):Aq prog 112 O [.mp 2 0,.mp f.AW 0,t.enc] (fun r O1=>r=.Ab []∧O1=O'):=by
 have Bt:=AE hf;have hvl:=AE hv;have Dr:=AE h0;have BK:=hf;unfold BP at BK;have Qg:(Option.map SV.enc (JI f.vals t.arg)).getD (.agg [aI 0,aI 0,.A3 4 [] .ex,.v (.pointer none)])=Hp f.vals t.arg:=rfl;have PJ:As [A2.v (.int .i64 0),.v (.int .i64 0),.A3 4 [] .ex,.v (.pointer none)] 0 (Hp f.vals t.arg).cells=(Hp f.vals t.arg).cells:=cV (U7 _ _) rfl;have D5:=cM f.vals t.arg;have KO:=(ZZ hu t.arg).Cr;generalize Bq f.vals t.arg=V at *;rw[SV.KY]at KO;rw[SV.D']at D5;have F5:=qbe t V.n B8;generalize K3 t V.n=q at *;have hd:decide (V.kind=0)=true:=Ar hV;refine dj ?_ ?_ ?_
 ·exact AN
 ·exact eF Bt Dr
 refine dn BK hv Qg PJ ?_ ?_
 ·simp only[AQ,A2.upto,FA,FW]at KO;simp[A2.upto,AQ,Bt,Dr,BU,Edge.AX,KO]
 refine Cc ?_;refine Al ?_;refine AJ (fun h=>?_) (fun h=>?_)
 ·exact AI h
 refine AJ (fun h=>?_) (fun h=>?_)
 ·exact AI h
 refine AJ (fun h=>?_) (fun h=>?_)
 ·exact AI h
 refine HZ hd ?_;refine FE ?_;refine HA ?_;refine .inl ⟨_,F5,MK,B4 ?_⟩;refine Gi he ?_;refine WT ?_;refine⟨ob CW,?_⟩
 (refine Ga ?_;simp -dsimp only[Mo,LW,Nat.reduceEqDiff,reduceCtorEq])
 skip
 exact rI
theorem qnU(B:Block):A2.agg [AA B.params,B7 B.ins,aI B.term.kind,aI B.term.arg,aI B.term.n,AA B.term.cases,An B.term.to]=B.enc:=rfl
theorem step_end(AN:∀o∈O,o.upto O.length)(h0:O[2]?=some (.cells (AV u m)))(f:Fr)(r:List Fr)(B0:m.frames=f::r)(hf:O[f.AW]?=some (.cells (BP f)))(Il:f.AW≠2)
  {cs:List A2} (Au:O[m.sid]?=some (.cells cs)) (BQ:cs[r.length]?=some (.mp f.AW 0)) (Jy:r.length<=2 ^ 40) (F:Func) (hF:u.fns[f.fn.toNat]?=some F) (Cv:0<=f.fn) (B:Block) (hB:F.blocks[f.blk.toNat]?=some B) (CN:0<=f.blk) (JK:f.pos=B.ins.length) {O':List A8} (hC:Aq prog 112 O [.mp 2 0,.mp f.AW 0,B.term.enc] (fun r O1=>r=.Ab []∧O1=O')) (hlen:O.length<=O'.length) (P9:∀o∈O',o.upto O'.length) :
  Aq prog 83 O [.mp 2 0] (fun r O1=>r=.Ab []∧O1=O'):=by
 have Bt:=AE hf;have Dr:=AE h0;have BK:=hf;unfold BP at BK;have Dv:O[2]?=some (.cells [C8 u.fns,aI u.main,.os m.sid (r.length+1) 1,aI m.left,.v (.bool m.short),.v (.bool m.over),.A3 1 (m.out.map aI) (.tok 3),aI m.fin,aI m.val]):=by
  exact Up h0 B0
 have GW:((r.length+1:Nat):Int)-1=(r.length:Nat):=I
 refine rh ?_;refine YW Dv GW Au BQ ?_
 refine YU Dv BK hF hB ?_ ?_ ?_
 ·exact AN
 ·exact Ya Bt Dr
 refine WV BK ?_;apply AZ rfl<;>intro h
 ·refine BM ?_;refine WT ?_;refine E9 ?_;exact rM
 exact Ht h
theorem qfN(AN:∀o∈O,o.upto O.length)(h0:O[2]?=some (.cells (AV u m)))(f:Fr)(r:List Fr)(B0:m.frames=f::r)(hf:O[f.AW]?=some (.cells (BP f)))(Il:f.AW≠2)
  {cs:List A2} (Au:O[m.sid]?=some (.cells cs)) (BQ:cs[r.length]?=some (.mp f.AW 0)) (Jy:r.length<=2 ^ 40) (F:Func) (hF:u.fns[f.fn.toNat]?=some F) (Cv:0<=f.fn) (B:Block) (hB:F.blocks[f.blk.toNat]?=some B) (CN:0<=f.blk) (hv:O[f.Ay]?=some (.map (.int .i64) (f.vals.map CG))) (NO:f.AW≠f.Ay) (hu:∀e∈f.vals,SV.BC O.length e.2) (i:Ins) (hi:B.ins[f.pos]?=some i) (IH:f.pos<=2 ^ 41) (DK:i.args.length<=4096) (f':Fr) (DH:f' = { f with pos:=f.pos+1 }) (args:List SV) (GP:args=BV f.vals i.args) (O1:List A8) (Bn:O1=O.set f.AW (.cells (BP f'))) (DL:i.op=13) {O':List A8} (hC:Aq prog 81 O1 [.mp 2 0,aI i.n,.A3 4 (args.map SV.enc) .sh,aI i.to] (fun r O2=>r=.Ab []∧O2=O')) (hlen:O.length<=O'.length) (P9:∀o∈O',o.upto O'.length) :
  Aq prog 83 O [.mp 2 0] (fun r O1=>r=.Ab []∧O1=O'):=by
 have Bt:=AE hf;have Dr:=AE h0;have BK:=hf;unfold BP at BK;have Dv:O[2]?=some (.cells [C8 u.fns,aI u.main,.os m.sid (r.length+1) 1,aI m.left,.v (.bool m.short),.v (.bool m.over),.A3 1 (m.out.map aI) (.tok 3),aI m.fin,aI m.val]):=by
  exact Up h0 B0
 have GW:((r.length+1:Nat):Int)-1=(r.length:Nat):=I
 have c7:=AE hi;have hs:=Kr hf;have Gs:O.length=O1.length:=MJ
 have Dp:[aI f.fn,aI f.blk,aI ((f.pos:Int)+1),aI f.to,.mm f.Ay]=BP f':=by
  rw[DH];simp[BP]
 have E8:O1[f'.AW]?=some (.cells (BP f')):=aA
 have KR:O1[f'.Ay]?=some (.map (.int .i64) (f'.vals.map CG)):=aD
 have Dl:∀o∈O1,o.upto O1.length:=by
  rw[<-Gs,Bn];refine Gr AN hf fun h=>?_;simp only[BP,AQ,A2.upto,FA,FW]at h ⊢;rw[DH];exact h
 have LQ:=Xu Dl E8 KR aG i.args DK;have Ho:f'.AW=f.AW:=Jl
 have OA:f'.vals=f.vals:=Jl
 rw[Ho,OA,<-GP]at LQ;rw[Ho]at E8;refine rh ?_;refine YW Dv GW Au BQ ?_
 refine YU Dv BK hF hB ?_ ?_ ?_
 ·exact AN
 ·exact Ya Bt Dr
 refine WV BK ?_;apply AZ rfl<;>intro h
 ·exact AI h
 refine aQ BK hi ?_ ?_ ?_
 ·exact AN
 ·simp[A2.upto,AQ,Bt,Dr,BU]
 refine aR BK hs Dp Bn ?_;refine Al ?_;refine AJ (fun h=>?_) (fun h=>?_)
 ·refine HA ?_;refine WT ?_
  (refine Ga ?_;simp -dsimp only[Mo,LW,Nat.reduceEqDiff,reduceCtorEq])
  skip
  exact rM
 exact Ht h
theorem qhi(AN:∀o∈O,o.upto O.length)(h0:O[2]?=some (.cells (AV u m)))(f:Fr)(r:List Fr)(B0:m.frames=f::r)(hf:O[f.AW]?=some (.cells (BP f)))(Il:f.AW≠2)
  {cs:List A2} (Au:O[m.sid]?=some (.cells cs)) (BQ:cs[r.length]?=some (.mp f.AW 0)) (Jy:r.length<=2 ^ 40) (F:Func) (hF:u.fns[f.fn.toNat]?=some F) (Cv:0<=f.fn) (B:Block) (hB:F.blocks[f.blk.toNat]?=some B) (CN:0<=f.blk) (hv:O[f.Ay]?=some (.map (.int .i64) (f.vals.map CG))) (NO:f.AW≠f.Ay) (hu:∀e∈f.vals,SV.BC O.length e.2) (i:Ins) (hi:B.ins[f.pos]?=some i) (IH:f.pos<=2 ^ 41) (DK:i.args.length<=4096) (f':Fr) (DH:f' = { f with pos:=f.pos+1 }) (args:List SV) (GP:args=BV f.vals i.args) (O1:List A8) (Bn:O1=O.set f.AW (.cells (BP f'))) (DL:i.op=14) (c:SV) (Pg:args[0]?=some c) (hk:c.kind=2) (IG:0<=c.n) (G:Func) (hG:u.fns[c.n.toNat]?=some G) (D:Block) (hD:G.blocks[0]?=some D) (Li:D.params.length=args.length) (Vs:∀v∈args,SV.BC O1.length v) {O':List A8} (hC:Aq prog 81 O1 [.mp 2 0,aI c.n,.A3 4 (args.map SV.enc) .sh,aI i.to] (fun r O2=>r=.Ab []∧O2=O')) (hlen:O.length<=O'.length) (P9:∀o∈O',o.upto O'.length) (EJ:O1[2]?=some (.cells (AV u m))) :
  Aq prog 83 O [.mp 2 0] (fun r O1=>r=.Ab []∧O1=O'):=by
 have Bt:=AE hf;have Dr:=AE h0;have BK:=hf;unfold BP at BK;have Dv:O[2]?=some (.cells [C8 u.fns,aI u.main,.os m.sid (r.length+1) 1,aI m.left,.v (.bool m.short),.v (.bool m.over),.A3 1 (m.out.map aI) (.tok 3),aI m.fin,aI m.val]):=by
  exact Up h0 B0
 have GW:((r.length+1:Nat):Int)-1=(r.length:Nat):=I
 have c7:=AE hi;have hs:=Kr hf;have Gs:O.length=O1.length:=MJ
 have Dp:[aI f.fn,aI f.blk,aI ((f.pos:Int)+1),aI f.to,.mm f.Ay]=BP f':=by
  rw[DH];simp[BP]
 have E8:O1[f'.AW]?=some (.cells (BP f')):=aA
 have KR:O1[f'.Ay]?=some (.map (.int .i64) (f'.vals.map CG)):=aD
 have Dl:∀o∈O1,o.upto O1.length:=by
  rw[<-Gs,Bn];refine Gr AN hf fun h=>?_;simp only[BP,AQ,A2.upto,FA,FW]at h ⊢;rw[DH];exact h
 have LQ:=Xu Dl E8 KR aG i.args DK;have Ho:f'.AW=f.AW:=Jl
 have OA:f'.vals=f.vals:=Jl
 rw[Ho,OA,<-GP]at LQ;rw[Ho]at E8;unfold AV at EJ;have hd:decide (c.kind=2)=true:=Ar hk;have G1:decide ((D.params.length:Int)=args.length)=true:=Ar I;refine rh ?_;refine YW Dv GW Au BQ ?_
 refine YU Dv BK hF hB ?_ ?_ ?_
 ·exact AN
 ·exact Ya Bt Dr
 refine WV BK ?_;apply AZ rfl<;>intro h
 ·exact AI h
 refine aQ BK hi ?_ ?_ ?_
 ·exact AN
 ·simp[A2.upto,AQ,Bt,Dr,BU]
 refine aR BK hs Dp Bn ?_;refine Al ?_;refine AJ (fun h=>?_) (fun h=>?_)
 ·exact AI h
 refine AJ (fun h=>?_) (fun h=>?_)
 ·refine qp Pg ?_ ?_
  ·have IZ:=(Vs c (AK Pg)).Cr;rw[SV.KY]at IZ;simp only[AQ,A2.upto,FA,FW]at IZ;have Vm:=SV.AX Vs;simp[A2.upto,AQ,<-Gs,Bt,Dr,BU,IZ,Vm];simp[Gs,IZ,Vm]
  refine B9 ?_;simp -dsimp only[simprocAttr,↓AG,zp,hd,EJ,hG,hD,G1]
  refine Gv ?_;refine FF ?_;refine HA ?_;refine WT ?_
  (refine Ga ?_;simp -dsimp only[Mo,LW,Nat.reduceEqDiff,reduceCtorEq])
  skip
  exact rM
 exact Ht h
theorem qas(AN:∀o∈O,o.upto O.length)(h0:O[2]?=some (.cells (AV u m)))(f:Fr)(r:List Fr)(B0:m.frames=f::r)(hf:O[f.AW]?=some (.cells (BP f)))(Il:f.AW≠2)
  {cs:List A2} (Au:O[m.sid]?=some (.cells cs)) (BQ:cs[r.length]?=some (.mp f.AW 0)) (Jy:r.length<=2 ^ 40) (F:Func) (hF:u.fns[f.fn.toNat]?=some F) (Cv:0<=f.fn) (B:Block) (hB:F.blocks[f.blk.toNat]?=some B) (CN:0<=f.blk) (hv:O[f.Ay]?=some (.map (.int .i64) (f.vals.map CG))) (NO:f.AW≠f.Ay) (hu:∀e∈f.vals,SV.BC O.length e.2) (i:Ins) (hi:B.ins[f.pos]?=some i) (IH:f.pos<=2 ^ 41) (DK:i.args.length<=4096) (f':Fr) (DH:f' = { f with pos:=f.pos+1 }) (args:List SV) (GP:args=BV f.vals i.args) (O1:List A8) (Bn:O1=O.set f.AW (.cells (BP f'))) (DL:i.op=14) (c:SV) (Pg:args[0]?=some c) (hk:c.kind≠2) (Vs:∀v∈args,SV.BC O1.length v) (EJ:O1[2]?=some (.cells (AV u m))) :
  Aq prog 83 O [.mp 2 0] (fun r O2=>r=.Ab []∧O2=O1.set 2 (.cells (AV u (m.stop 5 0)))):=by
 have Bt:=AE hf;have Dr:=AE h0;have BK:=hf;unfold BP at BK;have Dv:O[2]?=some (.cells [C8 u.fns,aI u.main,.os m.sid (r.length+1) 1,aI m.left,.v (.bool m.short),.v (.bool m.over),.A3 1 (m.out.map aI) (.tok 3),aI m.fin,aI m.val]):=by
  exact Up h0 B0
 have GW:((r.length+1:Nat):Int)-1=(r.length:Nat):=I
 have c7:=AE hi;have hs:=Kr hf;have Gs:O.length=O1.length:=MJ
 have Dp:[aI f.fn,aI f.blk,aI ((f.pos:Int)+1),aI f.to,.mm f.Ay]=BP f':=by
  rw[DH];simp[BP]
 have E8:O1[f'.AW]?=some (.cells (BP f')):=aA
 have KR:O1[f'.Ay]?=some (.map (.int .i64) (f'.vals.map CG)):=aD
 have Dl:∀o∈O1,o.upto O1.length:=by
  rw[<-Gs,Bn];refine Gr AN hf fun h=>?_;simp only[BP,AQ,A2.upto,FA,FW]at h ⊢;rw[DH];exact h
 have LQ:=Xu Dl E8 KR aG i.args DK;have Ho:f'.AW=f.AW:=Jl
 have OA:f'.vals=f.vals:=Jl
 rw[Ho,OA,<-GP]at LQ;rw[Ho]at E8;have Bh:O.length<=O.length:=B6 _;have P7:=Zh Dl EJ 5 0;have EC:=Gr Dl EJ (ds:=AV u (m.stop 5 0)) (fun h=>K1 h rfl);have BA:=LI (O:=O1) (k:=2) (x:=.cells (AV u (m.stop 5 0)));unfold AV at EJ;have hd:decide (c.kind=2)=false:=Ac hk;refine Ly hT true (O.length) func83 rfl CW dO I8 ?_;refine YW Dv GW Au BQ ?_
 refine YU Dv BK hF hB ?_ ?_ ?_
 ·exact AN
 ·exact Ya Bt Dr
 refine WV BK ?_;apply AZ rfl<;>intro h
 ·exact AI h
 refine aQ BK hi ?_ ?_ ?_
 ·exact AN
 ·simp[A2.upto,AQ,Bt,Dr,BU]
 refine aR BK hs Dp Bn ?_;refine Al ?_;refine AJ (fun h=>?_) (fun h=>?_)
 ·exact AI h
 refine AJ (fun h=>?_) (fun h=>?_)
 ·refine qp Pg ?_ ?_
  ·have IZ:=(Vs c (AK Pg)).Cr;rw[SV.KY]at IZ;simp only[AQ,A2.upto,FA,FW]at IZ;have Vm:=SV.AX Vs;simp[A2.upto,AQ,<-Gs,Bt,Dr,BU,IZ,Vm];simp[Gs,IZ,Vm]
  refine NJ hd ?_
  refine adB Gs ?_
  (refine Ga ?_;simp -dsimp only[Mo,LW,Nat.reduceEqDiff,reduceCtorEq])
  skip
  simp -dsimp only[simprocAttr,↓AG,zp,zr,results83,BA,B2,Gs];exact kJ
 exact Ht h
theorem qbJ(AN:∀o∈O,o.upto O.length)(h0:O[2]?=some (.cells (AV u m)))(f:Fr)(r:List Fr)(B0:m.frames=f::r)(hf:O[f.AW]?=some (.cells (BP f)))(Il:f.AW≠2)
  {cs:List A2} (Au:O[m.sid]?=some (.cells cs)) (BQ:cs[r.length]?=some (.mp f.AW 0)) (Jy:r.length<=2 ^ 40) (F:Func) (hF:u.fns[f.fn.toNat]?=some F) (Cv:0<=f.fn) (B:Block) (hB:F.blocks[f.blk.toNat]?=some B) (CN:0<=f.blk) (hv:O[f.Ay]?=some (.map (.int .i64) (f.vals.map CG))) (NO:f.AW≠f.Ay) (hu:∀e∈f.vals,SV.BC O.length e.2) (i:Ins) (hi:B.ins[f.pos]?=some i) (IH:f.pos<=2 ^ 41) (DK:i.args.length<=4096) (f':Fr) (DH:f' = { f with pos:=f.pos+1 }) (args:List SV) (GP:args=BV f.vals i.args) (O1:List A8) (Bn:O1=O.set f.AW (.cells (BP f'))) (DL:i.op=14) (c:SV) (Pg:args[0]?=some c) (hk:c.kind=2) (IG:0<=c.n) (G:Func) (hG:u.fns[c.n.toNat]?=some G) (D:Block) (hD:G.blocks[0]?=some D) (Li:D.params.length≠args.length) (Vs:∀v∈args,SV.BC O1.length v) (EJ:O1[2]?=some (.cells (AV u m))) :
  Aq prog 83 O [.mp 2 0] (fun r O2=>r=.Ab []∧O2=O1.set 2 (.cells (AV u (m.stop 5 0)))):=by
 have Bt:=AE hf;have Dr:=AE h0;have BK:=hf;unfold BP at BK;have Dv:O[2]?=some (.cells [C8 u.fns,aI u.main,.os m.sid (r.length+1) 1,aI m.left,.v (.bool m.short),.v (.bool m.over),.A3 1 (m.out.map aI) (.tok 3),aI m.fin,aI m.val]):=by
  exact Up h0 B0
 have GW:((r.length+1:Nat):Int)-1=(r.length:Nat):=I
 have c7:=AE hi;have hs:=Kr hf;have Gs:O.length=O1.length:=MJ
 have Dp:[aI f.fn,aI f.blk,aI ((f.pos:Int)+1),aI f.to,.mm f.Ay]=BP f':=by
  rw[DH];simp[BP]
 have E8:O1[f'.AW]?=some (.cells (BP f')):=aA
 have KR:O1[f'.Ay]?=some (.map (.int .i64) (f'.vals.map CG)):=aD
 have Dl:∀o∈O1,o.upto O1.length:=by
  rw[<-Gs,Bn];refine Gr AN hf fun h=>?_;simp only[BP,AQ,A2.upto,FA,FW]at h ⊢;rw[DH];exact h
 have LQ:=Xu Dl E8 KR aG i.args DK;have Ho:f'.AW=f.AW:=Jl
 have OA:f'.vals=f.vals:=Jl
 rw[Ho,OA,<-GP]at LQ;rw[Ho]at E8;have Bh:O.length<=O.length:=B6 _;have P7:=Zh Dl EJ 5 0;have EC:=Gr Dl EJ (ds:=AV u (m.stop 5 0)) (fun h=>K1 h rfl);have BA:=LI (O:=O1) (k:=2) (x:=.cells (AV u (m.stop 5 0)));unfold AV at EJ;have hd:decide (c.kind=2)=true:=Ar hk;have G1:decide ((D.params.length:Int)=args.length)=false:=Ac I;refine Ly hT true (O.length) func83 rfl CW dO I8 ?_;refine YW Dv GW Au BQ ?_
 refine YU Dv BK hF hB ?_ ?_ ?_
 ·exact AN
 ·exact Ya Bt Dr
 refine WV BK ?_;apply AZ rfl<;>intro h
 ·exact AI h
 refine aQ BK hi ?_ ?_ ?_
 ·exact AN
 ·simp[A2.upto,AQ,Bt,Dr,BU]
 refine aR BK hs Dp Bn ?_;refine Al ?_;refine AJ (fun h=>?_) (fun h=>?_)
 ·exact AI h
 refine AJ (fun h=>?_) (fun h=>?_)
 ·refine qp Pg ?_ ?_
  ·have IZ:=(Vs c (AK Pg)).Cr;rw[SV.KY]at IZ;simp only[AQ,A2.upto,FA,FW]at IZ;have Vm:=SV.AX Vs;simp[A2.upto,AQ,<-Gs,Bt,Dr,BU,IZ,Vm];simp[Gs,IZ,Vm]
  refine B9 ?_;simp -dsimp only[simprocAttr,↓AG,zp,hd,EJ,hG,hD,G1]
  refine adB Gs ?_
  (refine Ga ?_;simp -dsimp only[Mo,LW,Nat.reduceEqDiff,reduceCtorEq])
  skip
  simp -dsimp only[simprocAttr,↓AG,zp,zr,results83,BA,B2,Gs];exact kJ
 exact Ht h
theorem qfO(AN:∀o∈O,o.upto O.length)(h0:O[2]?=some (.cells (AV u m)))(f:Fr)(r:List Fr)(B0:m.frames=f::r)(hf:O[f.AW]?=some (.cells (BP f)))(Il:f.AW≠2)
  {cs:List A2} (Au:O[m.sid]?=some (.cells cs)) (BQ:cs[r.length]?=some (.mp f.AW 0)) (Jy:r.length<=2 ^ 40) (F:Func) (hF:u.fns[f.fn.toNat]?=some F) (Cv:0<=f.fn) (B:Block) (hB:F.blocks[f.blk.toNat]?=some B) (CN:0<=f.blk) (hv:O[f.Ay]?=some (.map (.int .i64) (f.vals.map CG))) (NO:f.AW≠f.Ay) (hu:∀e∈f.vals,SV.BC O.length e.2) (i:Ins) (hi:B.ins[f.pos]?=some i) (IH:f.pos<=2 ^ 41) (DK:i.args.length<=4096) (f':Fr) (DH:f' = { f with pos:=f.pos+1 }) (args:List SV) (GP:args=BV f.vals i.args) (O1:List A8) (Bn:O1=O.set f.AW (.cells (BP f'))) (DL:i.op≠13∧i.op≠14) {O2:List A8} (v:SV) (t:Int) (hC:Aq prog 115 O1 [.mp 2 0,i.enc,.A3 4 (args.map SV.enc) .sh] (fun r O3=>r=.Ab [v.enc,aI t]∧O3=O2)) (hlen:O.length<=O2.length) (EC:∀o∈O2,o.upto O2.length) (Gm:SV.BC O2.length v) (m2:Mach) (h02:O2[2]?=some (.cells (AV u m2)))
  (LF:O2[f.AW]?=some (.cells (BP f'))) (hv2:O2[f.Ay]?=some (.map (.int .i64) (f.vals.map CG))) (IX:∀e∈f.vals,SV.BC O2.length e.2) (nm0:f.Ay≠2) (ht:t=0) :
  Aq prog 83 O [.mp 2 0] (fun r O3=>r=.Ab []∧O3=O2.set f.Ay (.map (.int .i64) ((CQ f.vals i.to v).map CG))):=by
 have Bt:=AE hf;have Dr:=AE h0;have BK:=hf;unfold BP at BK;have Dv:O[2]?=some (.cells [C8 u.fns,aI u.main,.os m.sid (r.length+1) 1,aI m.left,.v (.bool m.short),.v (.bool m.over),.A3 1 (m.out.map aI) (.tok 3),aI m.fin,aI m.val]):=by
  exact Up h0 B0
 have GW:((r.length+1:Nat):Int)-1=(r.length:Nat):=I
 have c7:=AE hi;have hs:=Kr hf;have Gs:O.length=O1.length:=MJ
 have Dp:[aI f.fn,aI f.blk,aI ((f.pos:Int)+1),aI f.to,.mm f.Ay]=BP f':=by
  rw[DH];simp[BP]
 have E8:O1[f'.AW]?=some (.cells (BP f')):=aA
 have KR:O1[f'.Ay]?=some (.map (.int .i64) (f'.vals.map CG)):=aD
 have Dl:∀o∈O1,o.upto O1.length:=by
  rw[<-Gs,Bn];refine Gr AN hf fun h=>?_;simp only[BP,AQ,A2.upto,FA,FW]at h ⊢;rw[DH];exact h
 have LQ:=Xu Dl E8 KR aG i.args DK;have Ho:f'.AW=f.AW:=Jl
 have OA:f'.vals=f.vals:=Jl
 rw[Ho,OA,<-GP]at LQ;rw[Ho]at E8;have oJ:=AE LF;have o6:=AE h02;have hvc:=Gm.Cr;rw[SV.KY]at hvc;simp only[AQ,A2.upto,FA,FW]at hvc;have hd:decide (t=0)=true:=Ar ht;have hgf:BP f'=[aI f.fn,aI f.blk,aI ((f.pos:Int)+1),aI f.to,.mm f.Ay]:=Dp.symm;have nY:My O2.length ((CQ f.vals i.to v).map CG):=V7 fun x hx=>by
  rcases Xr hx with q|q
  ·exact IX x q
  rw[q];exact Gm
 rw[hgf]at LF;have Z4:=DY (k:=f.Ay) (x:=.map (.int .i64) ((CQ f.vals i.to v).map CG)) EC nY;have BA:=LI (O:=O2) (k:=f.Ay) (x:=.map (.int .i64) ((CQ f.vals i.to v).map CG));refine Ly hT true (O2.length) func83 rfl CW dO I8 ?_;refine YW Dv GW Au BQ ?_
 refine YU Dv BK hF hB ?_ ?_ ?_
 ·exact AN
 ·exact Ya Bt Dr
 refine WV BK ?_;apply AZ rfl<;>intro h
 ·exact AI h
 refine aQ BK hi ?_ ?_ ?_
 ·exact AN
 ·simp[A2.upto,AQ,Bt,Dr,BU]
 refine aR BK hs Dp Bn ?_;refine Al ?_;refine AJ (fun h=>?_) (fun h=>?_)
 ·exact AI h
 refine AJ (fun h=>?_) (fun h=>?_)
 ·exact AI h
 refine BM ?_;refine WT ?_;refine Ak ?_;refine abr ?_ ?_
 ·simp[A2.upto,AQ,oJ,o6,BU,hvc]
 refine HZ hd ?_;refine FE ?_;refine Dn ?_;simp -dsimp only[simprocAttr,↓AG,zp,LF,hv2,eZ];refine⟨ob CW,?_⟩
 (refine Ga ?_;simp -dsimp only[Mo,LW,Nat.reduceEqDiff,reduceCtorEq])
 skip
 simp -dsimp only[simprocAttr,↓AG,zp,zr,results83,BA,B2];exact⟨Z4,trivial⟩
theorem qfR(AN:∀o∈O,o.upto O.length)(h0:O[2]?=some (.cells (AV u m)))(f:Fr)(r:List Fr)(B0:m.frames=f::r)(hf:O[f.AW]?=some (.cells (BP f)))(Il:f.AW≠2)
  {cs:List A2} (Au:O[m.sid]?=some (.cells cs)) (BQ:cs[r.length]?=some (.mp f.AW 0)) (Jy:r.length<=2 ^ 40) (F:Func) (hF:u.fns[f.fn.toNat]?=some F) (Cv:0<=f.fn) (B:Block) (hB:F.blocks[f.blk.toNat]?=some B) (CN:0<=f.blk) (hv:O[f.Ay]?=some (.map (.int .i64) (f.vals.map CG))) (NO:f.AW≠f.Ay) (hu:∀e∈f.vals,SV.BC O.length e.2) (i:Ins) (hi:B.ins[f.pos]?=some i) (IH:f.pos<=2 ^ 41) (DK:i.args.length<=4096) (f':Fr) (DH:f' = { f with pos:=f.pos+1 }) (args:List SV) (GP:args=BV f.vals i.args) (O1:List A8) (Bn:O1=O.set f.AW (.cells (BP f'))) (DL:i.op≠13∧i.op≠14) {O2:List A8} (v:SV) (t:Int) (hC:Aq prog 115 O1 [.mp 2 0,i.enc,.A3 4 (args.map SV.enc) .sh] (fun r O3=>r=.Ab [v.enc,aI t]∧O3=O2)) (hlen:O.length<=O2.length) (EC:∀o∈O2,o.upto O2.length) (Gm:SV.BC O2.length v) (m2:Mach) (h02:O2[2]?=some (.cells (AV u m2)))
  (LF:O2[f.AW]?=some (.cells (BP f'))) (hv2:O2[f.Ay]?=some (.map (.int .i64) (f.vals.map CG))) (IX:∀e∈f.vals,SV.BC O2.length e.2) (nm0:f.Ay≠2) (ht:t≠0) :
  Aq prog 83 O [.mp 2 0] (fun r O3=>r=.Ab []∧O3=(O2.set 2 (.cells (AV u (m2.stop t 0)))).set f.Ay (.map (.int .i64) ((CQ f.vals i.to v).map CG))):=by
 have Bt:=AE hf;have Dr:=AE h0;have BK:=hf;unfold BP at BK;have Dv:O[2]?=some (.cells [C8 u.fns,aI u.main,.os m.sid (r.length+1) 1,aI m.left,.v (.bool m.short),.v (.bool m.over),.A3 1 (m.out.map aI) (.tok 3),aI m.fin,aI m.val]):=by
  exact Up h0 B0
 have GW:((r.length+1:Nat):Int)-1=(r.length:Nat):=I
 have c7:=AE hi;have hs:=Kr hf;have Gs:O.length=O1.length:=MJ
 have Dp:[aI f.fn,aI f.blk,aI ((f.pos:Int)+1),aI f.to,.mm f.Ay]=BP f':=by
  rw[DH];simp[BP]
 have E8:O1[f'.AW]?=some (.cells (BP f')):=aA
 have KR:O1[f'.Ay]?=some (.map (.int .i64) (f'.vals.map CG)):=aD
 have Dl:∀o∈O1,o.upto O1.length:=by
  rw[<-Gs,Bn];refine Gr AN hf fun h=>?_;simp only[BP,AQ,A2.upto,FA,FW]at h ⊢;rw[DH];exact h
 have LQ:=Xu Dl E8 KR aG i.args DK;have Ho:f'.AW=f.AW:=Jl
 have OA:f'.vals=f.vals:=Jl
 rw[Ho,OA,<-GP]at LQ;rw[Ho]at E8;have oJ:=AE LF;have o6:=AE h02;have hvc:=Gm.Cr;rw[SV.KY]at hvc;simp only[AQ,A2.upto,FA,FW]at hvc;have hd:decide (t=0)=false:=Ac ht;have hgf:BP f'=[aI f.fn,aI f.blk,aI ((f.pos:Int)+1),aI f.to,.mm f.Ay]:=Dp.symm;have nY:My O2.length ((CQ f.vals i.to v).map CG):=V7 fun x hx=>by
  rcases Xr hx with q|q
  ·exact IX x q
  rw[q];exact Gm
 have P7:=Zh EC h02 t 0;obtain⟨O3,hO3⟩:∃O3,O3=O2.set 2 (.cells (AV u (m2.stop t 0))):=⟨_,rfl⟩
 have yC:O2.length=O3.length:=by rw[hO3];simp
 rw[<-hO3]at P7 ⊢;have hf3:O3[f.AW]?=some (.cells (BP f')):=by rw[hO3];exact EY LF Il.symm
 have hv3:O3[f.Ay]?=some (.map (.int .i64) (f.vals.map CG)):=by rw[hO3];exact EY hv2 nm0.symm
 rw[hgf]at hf3;have Z4:∀o∈O3.set f.Ay (.map (.int .i64) ((CQ f.vals i.to v).map CG)),o.upto O3.length:=by
  rw[<-yC];refine DY ?_ nY;rw[hO3];exact Gr EC h02 (fun h=>K1 h rfl)
 have BA:=LI (O:=O3) (k:=f.Ay) (x:=.map (.int .i64) ((CQ f.vals i.to v).map CG));refine Ly hT true (O2.length) func83 rfl CW dO I8 ?_;refine YW Dv GW Au BQ ?_
 refine YU Dv BK hF hB ?_ ?_ ?_
 ·exact AN
 ·exact Ya Bt Dr
 refine WV BK ?_;apply AZ rfl<;>intro h
 ·exact AI h
 refine aQ BK hi ?_ ?_ ?_
 ·exact AN
 ·simp[A2.upto,AQ,Bt,Dr,BU]
 refine aR BK hs Dp Bn ?_;refine Al ?_;refine AJ (fun h=>?_) (fun h=>?_)
 ·exact AI h
 refine AJ (fun h=>?_) (fun h=>?_)
 ·exact AI h
 refine BM ?_;refine WT ?_;refine Ak ?_;refine abr ?_ ?_
 ·simp[A2.upto,AQ,oJ,o6,BU,hvc]
 refine HZ hd ?_;refine FF ?_;refine HA ?_;refine rr ?_;refine Ak ?_;refine Dn ?_;simp -dsimp only[simprocAttr,↓AG,zp,hf3,hv3,eZ];refine⟨ob CW,?_⟩
 (refine Ga ?_;simp -dsimp only[Mo,LW,Nat.reduceEqDiff,reduceCtorEq])
 skip
 simp -dsimp only[simprocAttr,↓AG,zp,zr,results83,yC,BA,B2];exact⟨Z4,trivial⟩
def Holds(L:List (Nat×A8))(O:List A8):Prop:=∀p∈L,O[p.1]?=some p.2
def HO(L:List (Nat×A8)):List Nat:=L.map Prod.fst
theorem U6(A B:List (Nat×A8)):HO (A++B)=HO A++HO B:=by simp[HO]
theorem Za(p:Nat×A8)(B:List (Nat×A8)):HO (p::B)=p.1::HO B:=rfl
variable {L:List (Nat×A8)}
theorem UB{p:Nat×A8}(h:p∈L):p.1∈HO L:=List.mem_map.2 ⟨p,h,rfl⟩
theorem UA{A B:List (Nat×A8)}{id:Nat}{y x:A8}(h:Holds (A++(id,y)::B) O)(hn:(HO (A++(id,y)::B)).Nodup):Holds (A++(id,x)::B) (O.set id x):=by
 rw[U6,Za,Rc]at hn;obtain⟨_,hB,Ts⟩:=hn;rw[UX]at hB;intro p hp;rcases List.mem_append.1 hp with q|q
 ·have AT:id≠p.1:=fun e=>Ts p.1 (UB q) id DQ e.symm;exact EY (h p aO) AT
 rcases List.mem_cons.1 q with rfl|q
 ·exact Wh (h (id,y) A6)
 have AT:id≠p.1:=fun e=>hB.1 (by
  show id∈HO B;rw[e];exact UB q)
 exact EY (h p aO) AT
theorem Xp(A B:List (Nat×A8))(id:Nat)(y x:A8):HO (A++(id,y)::B)=HO (A++(id,x)::B):=by simp[HO]
theorem Holds.sub{M:List (Nat×A8)}(h:Holds L O)(hs:∀p∈M,p∈L):Holds M O:=fun p hp=>h p (hs p hp)
theorem Holds.lt(h:Holds L O):∀k∈HO L,k<O.length:=fun k hk=>by
 obtain⟨p,hp,rfl⟩:=List.mem_map.1 hk;exact AE (h p hp)
def Ep:List Fr->List (Nat×A8)
 | []=>[]
 | f::r=>(f.AW,.cells (BP f))::(f.Ay,.map (.int .i64) (f.vals.map CG))::Ep r
def BI:List MY->List (Nat×A8)
 | []=>[]
 | a::r=>(a.EI,.cells [.ms a.AS 0 a.l.length a.l.length])::(a.AS,.cells (AP (a.l.map SV.enc)))::BI r
theorem sP(A B:List MY):BI (A++B)=BI A++BI B:=by
 induction A with
 | nil=>rfl
 | cons a r ih=>simp[BI,ih]
def Ev(u:Ad)(m:Mach)(rest:List A2):List (Nat×A8) :=
 (1,.cells [.A3 1 [] .ex,aI 0,aI 0])::(2,.cells (AV u m))::(3,.spare m.out.length)::(m.sid,.cells (EM m.frames++rest))::(Ep m.frames++BI m.heap)
structure Tl(u:Ad)(m:Mach)(rest:List A2)(O:List A8):Prop where
 len:O.length=m.next
 upto:∀o∈O,o.upto O.length
 holds:Holds (Ev u m rest) O
 nodup:(HO (Ev u m rest)).Nodup
namespace Tl
variable {u:Ad} {m:Mach} {rest:List A2} {O:List A8}
theorem Fo(h:Tl u m rest O):O[2]?=some (.cells (AV u m)):=h.holds (2,_) YR
theorem outs(h:Tl u m rest O):O[3]?=some (.spare m.out.length):=h.holds (3,_) YR
theorem stack(h:Tl u m rest O):O[m.sid]?=some (.cells (EM m.frames++rest)):=h.holds (m.sid,_) YR
theorem b9{l:List Fr}{f:Fr}(hf:f∈l):(f.AW,A8.cells (BP f))∈Ep l∧(f.Ay,A8.map (.int .i64) (f.vals.map CG))∈Ep l:=by
 induction l with
 | nil=>simp at hf
 | cons g r ih =>
  rcases List.mem_cons.1 hf with rfl|hf
  ·simp[Ep]
  simp[Ep,ih hf]
theorem m7{l:List MY}{a:MY}(ha:a∈l):(a.EI,A8.cells [.ms a.AS 0 a.l.length a.l.length])∈BI l∧(a.AS,A8.cells (AP (a.l.map SV.enc)))∈BI l:=by
 induction l with
 | nil=>simp at ha
 | cons g r ih =>
  rcases List.mem_cons.1 ha with rfl|ha
  ·simp[BI]
  simp[BI,ih ha]
theorem frame(h:Tl u m rest O){f:Fr}(hf:f∈m.frames):O[f.AW]?=some (.cells (BP f))∧O[f.Ay]?=some (.map (.int .i64) (f.vals.map CG)) :=
 ⟨h.holds (f.AW,_) (by simp[Ev,b9 hf]),h.holds (f.Ay,_) (by simp[Ev,b9 hf])⟩
theorem arr(h:Tl u m rest O){a:MY}(ha:a∈m.heap):O[a.EI]?=some (.cells [.ms a.AS 0 a.l.length a.l.length])∧O[a.AS]?=some (.cells (AP (a.l.map SV.enc))) :=
 ⟨h.holds (a.EI,_) (by simp[Ev,m7 ha]),h.holds (a.AS,_) (by simp[Ev,m7 ha])⟩
theorem under(h:Tl u m rest O){v:SV}(hv:CP u m v):SV.BC O.length v :=
 SV.Wf.under (fun id ⟨a,ha,e⟩=>by
  rw[<-e];exact AE (h.arr ha).1) hv
theorem av(h:Tl u m rest O)(m':Mach)(h1:m'.sid=m.sid)(h2:m'.frames=m.frames)(h3:m'.heap=m.heap)(h4:m'.out.length=m.out.length)(h5:m'.next=m.next):Tl u m' rest (O.set 2 (.cells (AV u m'))):=by
 have e:Ev u m' rest=[(1,.cells [.A3 1 [] .ex,aI 0,aI 0])]++(2,.cells (AV u m'))::((3,.spare m.out.length)::(m.sid,.cells (EM m.frames++rest))::(Ep m.frames++BI m.heap)):=by
  simp[Ev,h1,h2,h3,h4]
 refine⟨qU,?_,?_,?_⟩
 ·exact adR
 ·rw[e];exact UA (A:=[_]) (y:=.cells (AV u m)) h.holds h.nodup
 rw[e,<-Xp _ _ _ (.cells (AV u m))];exact h.nodup
theorem ql4(h:Tl u m rest O)(m':Mach)(h1:m'.sid=m.sid)(h2:m'.frames=m.frames)(h3:m'.heap=m.heap)(h5:m'.next=m.next):Tl u m' rest ((O.set 3 (.spare m'.out.length)).set 2 (.cells (AV u m'))):=by
 have e:Ev u m' rest=[(1,.cells [.A3 1 [] .ex,aI 0,aI 0])]++(2,.cells (AV u m'))::((3,.spare m'.out.length)::(m.sid,.cells (EM m.frames++rest))::(Ep m.frames++BI m.heap)):=by
  simp[Ev,h1,h2,h3]
 have hs:=UA (A:=[(1,.cells [.A3 1 [] .ex,aI 0,aI 0]),(2,.cells (AV u m))]) (x:=.spare m'.out.length) (y:=.spare m.out.length) h.holds h.nodup;have hk:=Xp [(1,.cells [.A3 1 [] .ex,aI 0,aI 0]),(2,.cells (AV u m))] ((m.sid,.cells (EM m.frames++rest))::(Ep m.frames++BI m.heap)) 3 (.spare m.out.length) (.spare m'.out.length);have hn:(HO ([(1,.cells [.A3 1 [] .ex,aI 0,aI 0]),(2,.cells (AV u m))]++(3,.spare m'.out.length)::((m.sid,.cells (EM m.frames++rest))::(Ep m.frames++BI m.heap)))).Nodup:=by
  rw[<-hk];exact h.nodup
 refine⟨qU,?_,?_,?_⟩
 ·rw[B2,B2];exact Gr (DY h.upto trivial) (EY h.Fo I) (fun q=>K1 q h1)
 ·rw[e];exact UA (A:=[_]) (y:=.cells (AV u m)) hs hn
 rw[e,<-Xp _ _ _ (.cells (AV u m))];exact hn
theorem BW(h:Tl u m rest O){f f':Fr}{r:List Fr}(B0:m.frames=f::r)(h1:f'.AW=f.AW)(h2:f'.Ay=f.Ay)(h3:f'.vals=f.vals):Tl u (m.BW f') rest (O.set f.AW (.cells (BP f'))):=by
 have hm:AV u (m.BW f')=AV u m:=qK
 have hp:EM (f'::r)=EM (f::r):=by simp[EM,h1]
 have e:Ev u (m.BW f') rest=[(1,.cells [.A3 1 [] .ex,aI 0,aI 0]),(2,.cells (AV u m)),(3,.spare m.out.length),(m.sid,.cells (EM m.frames++rest))]++(f.AW,.cells (BP f'))::((f.Ay,.map (.int .i64) (f.vals.map CG))::(Ep r++BI m.heap)):=by
  unfold Ev;rw[hm];simp[Mach.BW,B0,Ep,h1,h2,h3,hp]
 have e0:Ev u m rest=[(1,.cells [.A3 1 [] .ex,aI 0,aI 0]),(2,.cells (AV u m)),(3,.spare m.out.length),(m.sid,.cells (EM m.frames++rest))]++(f.AW,.cells (BP f))::((f.Ay,.map (.int .i64) (f.vals.map CG))::(Ep r++BI m.heap)):=by
  simp[Ev,B0,Ep]
 have hh:=h.holds;have hn:=h.nodup;rw[e0]at hh hn;refine⟨by simp[h.len,Mach.BW],?_,?_,?_⟩
 ·rw[B2];refine Gr h.upto (h.frame (f:=f) Re).1 (fun q=>?_);simp only[BP,AQ,A2.upto,FA,FW,h2]at q ⊢;exact q
 ·rw[e];exact UA hh hn
 rw[e,<-Xp _ _ _ (.cells (BP f))];exact hn
theorem mR(h:Tl u m rest O){f f':Fr}{r:List Fr}(B0:m.frames=f::r)(h1:f' = { f with vals:=f'.vals })(hu:∀e∈f'.vals,SV.BC O.length e.2):Tl u (m.BW f') rest (O.set f.Ay (.map (.int .i64) (f'.vals.map CG))):=by
 have hm:AV u (m.BW f')=AV u m:=qK
 have Ho:f'.AW=f.AW:=by rw[h1]
 have TG:f'.Ay=f.Ay:=by rw[h1]
 have Qs:BP f'=BP f:=by rw[h1];rfl
 have hp:EM (f'::r)=EM (f::r):=by simp[EM,Ho]
 have e:Ev u (m.BW f') rest=[(1,.cells [.A3 1 [] .ex,aI 0,aI 0]),(2,.cells (AV u m)),(3,.spare m.out.length),(m.sid,.cells (EM m.frames++rest)),(f.AW,.cells (BP f))]++(f.Ay,.map (.int .i64) (f'.vals.map CG))::(Ep r++BI m.heap):=by
  unfold Ev;rw[hm];simp[Mach.BW,B0,Ep,Ho,TG,Qs,hp]
 have e0:Ev u m rest=[(1,.cells [.A3 1 [] .ex,aI 0,aI 0]),(2,.cells (AV u m)),(3,.spare m.out.length),(m.sid,.cells (EM m.frames++rest)),(f.AW,.cells (BP f))]++(f.Ay,.map (.int .i64) (f.vals.map CG))::(Ep r++BI m.heap):=by
  simp[Ev,B0,Ep]
 have hh:=h.holds;have hn:=h.nodup;rw[e0]at hh hn;refine⟨by simp[h.len,Mach.BW],?_,?_,?_⟩
 ·rw[B2];exact DY h.upto (V7 hu)
 ·rw[e];exact UA hh hn
 rw[e,<-Xp _ _ _ (.map (.int .i64) (f.vals.map CG))];exact hn
theorem pop(h:Tl u m rest O){f g g':Fr}{r:List Fr}(B0:m.frames=f::g::r)(h1:g' = { g with vals:=g'.vals })(hu:∀e∈g'.vals,SV.BC O.length e.2)(m':Mach)(BX:m' = { m with frames:=g'::r }) :
  Tl u m' (.mp f.AW 0::rest) ((O.set 2 (.cells (AV u m'))).set g.Ay (.map (.int .i64) (g'.vals.map CG))):=by
 have Ho:g'.AW=g.AW:=by rw[h1]
 have TG:g'.Ay=g.Ay:=by rw[h1]
 have Qs:BP g'=BP g:=by rw[h1];rfl
 have hp:EM (f::g::r)++rest=EM (g'::r)++.mp f.AW 0::rest:=by simp[EM,Ho]
 have e0:Ev u m rest=[(1,.cells [.A3 1 [] .ex,aI 0,aI 0])]++(2,.cells (AV u m))::((3,.spare m.out.length)::(m.sid,.cells (EM (g'::r)++.mp f.AW 0::rest))::(f.AW,.cells (BP f))::(f.Ay,.map (.int .i64) (f.vals.map CG))::(g.AW,.cells (BP g))::(g.Ay,.map (.int .i64) (g.vals.map CG))::(Ep r++BI m.heap)):=by
  simp[Ev,B0,Ep,<-hp]
 have e1:Ev u m' (.mp f.AW 0::rest)=[(1,.cells [.A3 1 [] .ex,aI 0,aI 0]),(2,.cells (AV u m')),(3,.spare m.out.length),(m.sid,.cells (EM (g'::r)++.mp f.AW 0::rest)),(g.AW,.cells (BP g))]++(g.Ay,.map (.int .i64) (g'.vals.map CG))::(Ep r++BI m.heap):=by
  rw[BX];simp[Ev,Ep,Ho,TG,Qs]
 have hh:=h.holds;have hn:=h.nodup;rw[e0]at hh hn;have h2:=UA (x:=.cells (AV u m')) hh hn;have HS:∀p∈[(1,A8.cells [.A3 1 [] .ex,aI 0,aI 0]),(2,.cells (AV u m')),(3,.spare m.out.length),(m.sid,.cells (EM (g'::r)++.mp f.AW 0::rest)),(g.AW,.cells (BP g))]++(g.Ay,.map (.int .i64) (g.vals.map CG))::(Ep r++BI m.heap),p∈[(1,.cells [.A3 1 [] .ex,aI 0,aI 0])]++(2,.cells (AV u m'))::((3,.spare m.out.length)::(m.sid,.cells (EM (g'::r)++.mp f.AW 0::rest))::(f.AW,.cells (BP f))::(f.Ay,.map (.int .i64) (f.vals.map CG))::(g.AW,.cells (BP g))::(g.Ay,.map (.int .i64) (g.vals.map CG))::(Ep r++BI m.heap)):=by
  intro p hp;simp only[JR,HF,CL]at hp ⊢;rcases hp with q|q|q|q|q|q|q
  all_goals simp[q]
 have hn3:(HO ([(1,A8.cells [.A3 1 [] .ex,aI 0,aI 0]),(2,.cells (AV u m')),(3,.spare m.out.length),(m.sid,.cells (EM (g'::r)++.mp f.AW 0::rest)),(g.AW,.cells (BP g))]++(g.Ay,.map (.int .i64) (g.vals.map CG))::(Ep r++BI m.heap))).Nodup:=by
  exact acC
 have hg:=h2.sub HS;refine⟨by rw[BX];simp[h.len],?_,?_,?_⟩
 ·rw[B2,B2];refine DY (Gr h.upto h.Fo (fun q=>K1 q (by rw[BX]))) (V7 hu)
 ·rw[e1];exact UA hg hn3
 rw[e1,<-Xp _ _ _ (.map (.int .i64) (g.vals.map CG))];exact hn3
theorem last(h:Tl u m rest O){f:Fr}(B0:m.frames=[f])(m':Mach)(h1:m'.sid=m.sid)(h2:m'.frames=[])(h3:m'.heap=m.heap)(h4:m'.out.length=m.out.length)(h5:m'.next=m.next):Tl u m' (.mp f.AW 0::rest) (O.set 2 (.cells (AV u m'))):=by
 have e0:Ev u m rest=[(1,.cells [.A3 1 [] .ex,aI 0,aI 0])]++(2,.cells (AV u m))::((3,.spare m.out.length)::(m.sid,.cells (.mp f.AW 0::rest))::(f.AW,.cells (BP f))::(f.Ay,.map (.int .i64) (f.vals.map CG))::BI m.heap):=by
  simp[Ev,B0,Ep,EM]
 have e1:Ev u m' (.mp f.AW 0::rest)=[(1,.cells [.A3 1 [] .ex,aI 0,aI 0]),(2,.cells (AV u m')),(3,.spare m.out.length),(m.sid,.cells (.mp f.AW 0::rest))]++BI m.heap:=by
  simp[Ev,h1,h2,h3,h4,Ep,EM]
 have hh:=h.holds;have hn:=h.nodup;rw[e0]at hh hn;refine⟨qU,?_,?_,?_⟩
 ·exact adR
 ·rw[e1];refine(UA (x:=.cells (AV u m')) hh hn).sub fun p hp=>?_;simp only[JR,HF,CL]at hp ⊢;rcases hp with q|q|q|q|q
  all_goals simp[q]
 rw[e1];exact acC
end Tl
namespace Tl
variable {u:Ad} {m:Mach} {rest:List A2} {O:List A8}
theorem keys(u:Ad)(m:Mach)(rest:List A2):HO (Ev u m rest)=1::2::3::m.sid::HO (Ep m.frames++BI m.heap):=rfl
theorem others(h:Tl u m rest O):Holds (Ep m.frames++BI m.heap) O∧(∀k∈HO (Ep m.frames++BI m.heap),k≠1∧k≠2∧k≠3∧k≠m.sid∧k<O.length)∧(HO (Ep m.frames++BI m.heap)).Nodup∧m.sid≠1∧m.sid≠2∧m.sid≠3∧m.sid<O.length∧3<O.length:=by
 have hn:=h.nodup;have AF:=h.holds.lt;rw[keys]at hn AF;simp only[UX,CL,not_or]at hn;obtain⟨⟨a1,a2,a3,a4⟩,⟨b1,b2,b3⟩,⟨c1,c2⟩,d,e⟩:=hn;refine⟨fun p hp=>h.holds p (by simp only[Ev,CL];exact .inr (.inr (.inr (.inr hp)))),fun k hk=>⟨?_,?_,?_,?_,AF k abP⟩,e,fun q=>a3 q.symm,fun q=>b2 q.symm,fun q=>c1 q.symm,AF _ A6,AF 3 A6⟩
 ·rintro rfl;exact a4 hk
 ·rintro rfl;exact b3 hk
 ·rintro rfl;exact c2 hk
 rintro rfl;exact d hk
theorem push(h:Tl u m rest O)(fn to:Int)(args:List SV)(m':Mach)(BX:m'=m.enter u fn args to)(hu:∀v∈args,SV.BC O.length v) :
  Tl u m' [] (((O.set m.sid .gone).set 2 (.cells (AV u m'))) ++
   [.map (.int .i64) ((C7 [] (A7 (AB u fn) 0).params args).map CG),.cells [aI fn,aI 0,aI 0,aI to,.mm O.length],.cells (cq (EM m.frames++rest) m.frames.length (O.length+1))]):=by
 obtain⟨ho,hk,Ic,s1,s2,s3,s4,s5⟩:=h.others;have hN:=h.len;have IH:(EM m.frames).length=m.frames.length:=jT
 obtain⟨O2,Jp⟩:∃O2,O2=(O.set m.sid .gone).set 2 (.cells (AV u m')):=⟨_,rfl⟩
 have Ju:O2.length=O.length:=jY
 have Qm:cq (EM m.frames++rest) m.frames.length (O.length+1)=EM m'.frames++[]:=by
  rw[BX];unfold cq;rw[Zo I,Cb I];simp[EM,Mach.enter,hN]
 rw[Qm,<-Jp];have e1:Ev u m' []=(1,.cells [.A3 1 [] .ex,aI 0,aI 0])::(2,.cells (AV u m'))::(3,.spare m.out.length)::(O.length+2,.cells (EM m'.frames++[]))::(O.length+1,.cells [aI fn,aI 0,aI 0,aI to,.mm O.length])::(O.length,.map (.int .i64) ((C7 [] (A7 (AB u fn) 0).params args).map CG))::(Ep m.frames++BI m.heap):=by
  rw[BX];simp[Ev,Mach.enter,Ep,hN,BP]
 have hold:∀k o,O[k]?=some o->k≠m.sid->k≠2->∀X,(O2++X)[k]?=some o:=fun k o hk h1 h2 X=>by
  refine D8 ?_;rw[Jp];exact EY (EY hk (Ne.symm h1)) (Ne.symm h2)
 refine⟨by rw[BX];simp[Ju,Mach.enter,hN],?_,?_,?_⟩
 ·have hlen:(O2++[A8.map (.int .i64) ((C7 [] (A7 (AB u fn) 0).params args).map CG),.cells [aI fn,aI 0,aI 0,aI to,.mm O.length],.cells (EM m'.frames++[])]).length=O.length+3:=by simp[Ju]
  rw[hlen];intro o CO;rcases List.mem_append.1 CO with q|q
  ·rw[Jp]at q;refine Gr (n:=O.length+3) (ds:=AV u m') (DY (k:=m.sid) (x:=.gone) (fun o ho=>A8.IK I (h.upto o ho)) trivial) (EY h.Fo s2) (fun q=>?_) o q;simp only[AV,AQ,A2.upto,BU,Func.AX,FA,FW,BX,Mach.enter]at q ⊢;omega
  simp only[CL,NA,Di]at q;rcases q with rfl|rfl|rfl
  ·refine V7 fun x hx=>?_;rcases Zg hx with q|q
   ·simp at q
   exact(hu _ q).mono I
  ·exact MN
  simp only[A8.upto,F9,CF];intro x hx;simp only[EM,JQ,List.mem_reverse]at hx;obtain⟨f,hf,rfl⟩:=hx;rw[BX]at hf;simp only[Mach.enter,CL]at hf;rcases hf with rfl|hf
  ·simp[A2.upto,hN]
  have:=AE (h.frame hf).1;simp only[A2.upto];omega
 ·rw[e1];intro p hp;simp only[CL]at hp;rcases hp with rfl|rfl|rfl|rfl|rfl|rfl|hp
  ·exact hold 1 _ (h.holds (1,_) YR) (fun e=>s1 e.symm) I _
  ·refine D8 ?_;rw[Jp];exact Wh (EY h.Fo s2)
  ·exact hold 3 _ h.outs (fun e=>s3 e.symm) I _
  ·show(O2++_)[O.length+2]?=_;rw[<-Ju,W7];rfl
  ·show(O2++_)[O.length+1]?=_;rw[<-Ju,W7];rfl
  ·show(O2++_)[O.length]?=_;rw[<-Ju,wo];rfl
  have:=hk p.1 (UB hp);exact hold p.1 _ (ho p hp) this.2.2.2.1 this.2.1 _
 rw[e1];simp only[Za,UX,CL,not_or];refine⟨⟨I,I,I,I,I,fun q=>(hk 1 q).1 rfl⟩,⟨I,I,I,I,fun q=>(hk 2 q).2.1 rfl⟩,⟨I,I,I,fun q=>(hk 3 q).2.2.1 rfl⟩,⟨I,I,fun q=>?_⟩,⟨I,fun q=>?_⟩,fun q=>?_,Ic⟩
 ·have:=(hk _ q).2.2.2.2;omega
 ·have:=(hk _ q).2.2.2.2;omega
 have:=(hk _ q).2.2.2.2;omega
theorem adt:∀(l:List MY) (a:MY) (x:List SV),a∈l->(HO (BI l)).Nodup->∃X Y,l=X++a::Y∧Mach.QF l (some a.EI) x=X++⟨a.EI,a.AS,x⟩::Y
 | [],_,_,h,_=>by simp at h
 | b::r,a,x,h,hn=>by
  unfold Mach.QF;rcases List.mem_cons.1 h with rfl|h
  ·exact⟨[],r,rfl,A6⟩
  have AT:some a.EI≠some b.EI:=fun e=>by
   simp only[AM]at e;simp only[BI,Za,UX,CL,not_or]at hn;exact hn.1.2 (by
    rw[<-e];exact UB (m7 h).1)
  rw[A4 AT];simp only[BI,Za,UX]at hn;obtain⟨X,Y,h1,h2⟩:=adt r a x h hn.2.2;exact⟨b::X,Y,Uc,Ud⟩
theorem qih(h:Tl u m rest O){a:MY}(ha:a∈m.heap)(l:List SV)(hl:l.length=a.l.length)(hu:∀v∈l,SV.BC O.length v)(m':Mach)(BX:m' = { m with heap:=Mach.QF m.heap (some a.EI) l }):Tl u m' rest (O.set a.AS (.cells (AP (l.map SV.enc)))):=by
 obtain⟨ho,hk,Ic,s1,s2,s3,s4,s5⟩:=h.others;obtain⟨X,Y,e1,e2⟩:=adt m.heap a l ha (by
  rw[U6,Rc]at Ic;exact Ic.2.1)
 have Lr:AV u m'=AV u m:=by rw[BX];rfl
 have e0:Ev u m rest=((1,.cells [.A3 1 [] .ex,aI 0,aI 0])::(2,.cells (AV u m))::(3,.spare m.out.length)::(m.sid,.cells (EM m.frames++rest))::(Ep m.frames++(BI X++[(a.EI,.cells [.ms a.AS 0 a.l.length a.l.length])])))++(a.AS,.cells (AP (a.l.map SV.enc)))::BI Y:=by
  unfold Ev;rw[e1,sP];simp[BI]
 have e3:Ev u m' rest=((1,.cells [.A3 1 [] .ex,aI 0,aI 0])::(2,.cells (AV u m))::(3,.spare m.out.length)::(m.sid,.cells (EM m.frames++rest))::(Ep m.frames++(BI X++[(a.EI,.cells [.ms a.AS 0 a.l.length a.l.length])])))++(a.AS,.cells (AP (l.map SV.enc)))::BI Y:=by
  unfold Ev;rw[Lr,BX];simp only[e2,sP];simp[BI,hl]
 have hh:=h.holds;have hn:=h.nodup;rw[e0]at hh hn;refine⟨by rw[BX];simp[h.len],?_,?_,?_⟩
 ·rw[B2];exact DY h.upto (SV.ZX hu)
 ·rw[e3];exact UA hh hn
 rw[e3,<-Xp _ _ _ (.cells (AP (a.l.map SV.enc)))];exact hn
theorem qi2(h:Tl u m rest O)(l:List SV)(m':Mach)(J:List A8)(hJ:J.length=7)(hJu:∀o∈J,o.upto (O.length+9))(hu:∀v∈l,SV.BC O.length v)(h1:m'.sid=m.sid)(h2:m'.frames=m.frames)(h3:m'.heap=m.heap++[⟨m.next+8,m.next+7,l⟩])(h4:m'.out=m.out)(h5:m'.next=m.next+9) :
  Tl u m' rest (O.set 2 (.cells (AV u m'))++(J++[.cells (AP (l.map SV.enc)),.cells [.ms (O.length+7) 0 l.length l.length]])):=by
 obtain⟨ho,hk,Ic,s1,s2,s3,s4,s5⟩:=h.others;have hN:=h.len;obtain⟨O2,Jp⟩:∃O2,O2=O.set 2 (.cells (AV u m')):=⟨_,rfl⟩
 have Ju:O2.length=O.length:=jY
 rw[<-Jp];have e1:Ev u m' rest=(1,.cells [.A3 1 [] .ex,aI 0,aI 0])::(2,.cells (AV u m'))::(3,.spare m.out.length)::(m.sid,.cells (EM m.frames++rest))::((Ep m.frames++BI m.heap)++[(O.length+8,.cells [.ms (O.length+7) 0 l.length l.length]),(O.length+7,.cells (AP (l.map SV.enc)))]):=by
  simp[Ev,h1,h2,h3,h4,sP,BI,hN]
 have hold:∀k o,O[k]?=some o->k≠2->∀X,(O2++X)[k]?=some o:=fun k o hk h2 X=>by
  refine D8 ?_;rw[Jp];exact EY hk (Ne.symm h2)
 refine⟨by simp[Ju,h5,hN,hJ],?_,?_,?_⟩
 ·have hlen:(O2++(J++[A8.cells (AP (l.map SV.enc)),.cells [.ms (O.length+7) 0 l.length l.length]])).length=O.length+9:=by simp[Ju,hJ]
  rw[hlen];intro o CO;rcases List.mem_append.1 CO with q|q
  ·rw[Jp]at q;exact Gr (fun o ho=>A8.IK I (h.upto o ho)) h.Fo (fun q=>K1 q h1) o q
  rcases List.mem_append.1 q with q|q
  ·exact hJu o q
  simp only[CL,NA,Di]at q;rcases q with rfl|rfl
  ·exact SV.ZX fun v hv=>(hu v hv).mono I
  exact MN
 ·rw[e1];intro p hp;simp only[CL,HY,NA,Di]at hp;have hJ7:∀k,(J++[A8.cells (AP (l.map SV.enc)),.cells [.ms (O.length+7) 0 l.length l.length]])[7+k]?=[A8.cells (AP (l.map SV.enc)),.cells [.ms (O.length+7) 0 l.length l.length]][k]?:=fun k=>by
   rw[<-hJ];exact W7
  rcases hp with rfl|rfl|rfl|rfl|hp|rfl|rfl
  ·exact hold 1 _ (h.holds (1,_) YR) I _
  ·refine D8 ?_;rw[Jp];exact Wh h.Fo
  ·exact hold 3 _ h.outs I _
  ·exact hold m.sid _ h.stack s2 _
  ·have:=hk p.1 (UB (List.mem_append.2 hp));exact hold p.1 _ (ho p (List.mem_append.2 hp)) this.2.1 _
  ·show(O2++_)[O.length+8]?=_;have hx:O.length+8=O2.length+8:=I
   rw[hx,W7];exact hJ7 1
  show(O2++_)[O.length+7]?=_;have hx:=W7 (O:=O2) (k:=7) (X:=J++[A8.cells (AP (l.map SV.enc)),.cells [.ms (O.length+7) 0 l.length l.length]]);rw[Ju]at hx;rw[hx];exact hJ7 0
 rw[e1];simp only[Za,U6,UX,CL,not_or,HY];have G3:∀k,(k∈HO (Ep m.frames)∨k∈HO (BI m.heap))->k≠1∧k≠2∧k≠3∧k≠m.sid∧k<O.length:=fun k q=>hk k (by rw[U6];exact List.mem_append.2 q);refine⟨⟨I,I,I,⟨fun q=>(G3 1 (.inl q)).1 rfl,fun q=>(G3 1 (.inr q)).1 rfl⟩,I,I,dh⟩,⟨I,I,⟨fun q=>(G3 2 (.inl q)).2.1 rfl,fun q=>(G3 2 (.inr q)).2.1 rfl⟩,I,I,dh⟩,⟨I,⟨fun q=>(G3 3 (.inl q)).2.2.1 rfl,fun q=>(G3 3 (.inr q)).2.2.1 rfl⟩,I,I,dh⟩,⟨⟨fun q=>(G3 _ (.inl q)).2.2.2.1 rfl,fun q=>(G3 _ (.inr q)).2.2.2.1 rfl⟩,I,I,dh⟩,?_⟩;rw[Rc];rw[U6]at Ic;refine⟨Ic,dh,?_⟩;intro x hx y hy e;have:=(G3 x (List.mem_append.1 hx)).2.2.2.2;simp only[HO,Ed,CL,NA,Di]at hy;omega
end Tl
theorem RU{n:Nat}(h:l.length=n){k:Nat}(hk:k<n):∃x,l[k]?=some x:=⟨l[k]' I,AY _⟩
theorem nG(h:l.length=2):∃x y,l=[x,y]:=by
 match l,h with
 | [x,y],_=>exact⟨x,y,rfl⟩
variable {rest:List A2}
theorem qcy(ht:Tl u m rest O)(hm:CY u m){v:SV}(hv:CP u m v)(id:Option Nat)(h:id=v.arr):∀x∈Mach.K8 m.heap id,SV.BC O.length x:=fun x hx=>by
 subst h;cases Nh:v.arr with
 | none =>
  rw[Nh]at hx;have:∀l:List MY,Mach.K8 l none=[]:=fun l=>by
   induction l with
   | nil=>rfl
   | cons a r ih=>simp[Mach.K8,ih]
  rw[this]at hx;simp at hx
 | some id =>
  obtain⟨a,ha,h1,h2⟩:=kS m.heap id (SV.Wf.ref hv id Nh);rw[Nh,h2]at hx;exact ht.under ((hm.Fy a ha).2 x hx)
theorem qcX(ht:Tl u m rest O)(hm:CY u m)(D5:m.short=false){i:Ins}(hi:nI u i)(FO:i.op≠13)(GH:i.op≠14){args:List SV}(DK:args.length=i.args.length)(ha:∀v∈args,CP u m v) :
  ∃O2,Aq prog 115 O [.mp 2 0,i.enc,.A3 4 (args.map SV.enc) .sh] (fun r O3=>r=.Ab [(m.exec i args).2.1.enc,aI (m.exec i args).2.2]∧O3=O2)∧Tl u (m.exec i args).1 rest O2∧O.length<=O2.length:=by
 have AN:=ht.upto;have hl:∀v∈args,SV.BC O.length v:=fun v hv=>ht.under (ha v hv);have yK:∀v∈args,v.kind=0->CR v.n:=fun v hv hk=>SV.Wf.num (ha v hv) (.inl hk);have G1:m.left<=2 ^ 40:=by have:=hm.depth;omega
 have DL:=hi.op;have stay:∀{v:SV} {t:Int},m.exec i args=(m,v,t)->Aq prog 115 O [.mp 2 0,i.enc,.A3 4 (args.map SV.enc) .sh] (fun r O3=>r=.Ab [(m.exec i args).2.1.enc,aI (m.exec i args).2.2]∧O3=O) ->
   ∃O2,Aq prog 115 O [.mp 2 0,i.enc,.A3 4 (args.map SV.enc) .sh] (fun r O3=>r=.Ab [(m.exec i args).2.1.enc,aI (m.exec i args).2.2]∧O3=O2)∧Tl u (m.exec i args).1 rest O2∧O.length<=O2.length:=fun e hC =>
  ⟨O,hC,by rw[e];exact ht,B6 _⟩
 by_cases h0:i.op=0
 ·exact stay (v:=.word i.n) (t:=0) (by simp[Mach.exec,h0]) (qfc (u:=u) AN i args hl h0)
 by_cases h1:1<=i.op∧i.op<=7
 ·have Ju:=hi.c2 (.inl h1);obtain⟨x,hx⟩:=RU (DK.trans Ju) (k:=0) I;obtain⟨y,hy⟩:=RU (DK.trans Ju) (k:=1) I;have hC:=qcW (u:=u) (m:=m) AN i args hl h1 x y hx hy (yK x (AK hx)) (yK y (AK hy));refine⟨O,hC,?_,B6 _⟩;have e:(m.exec i args).1=m:=by
   unfold Mach.exec;rw[A4 h0,A9 h1];split<;>rfl
  rw[e];exact ht
 by_cases h8:i.op=8
 ·exact stay (v:=.mk 1 i.n args none) (t:=0) (by simp[Mach.exec,h8]) (qfb (u:=u) AN i args hl h8)
 by_cases h9:i.op=9
 ·exact stay (v:=.mk 2 i.n args none) (t:=0) (by simp[Mach.exec,h9]) (qe6 (u:=u) AN i args hl h9)
 by_cases Jr:i.op=10∨i.op=11∨i.op=12∨i.op=21
 ·have hlen:0<args.length∧(i.op=21->args.length=2):=by
   rcases Jr with q|q|q|q
   ·have:=hi.c1 I;omega
   ·have:=hi.c1 I;omega
   ·have:=hi.c1 I;omega
   have:=hi.c2 I;omega
  obtain⟨x,hx⟩:=RU rfl hlen.1;obtain⟨q1,q2⟩:=tu (i:=i) ha;have hC:=qbw AN i args hl x hx (fun a b c=>RU (hlen.2 I) I) (fun e=>hi.sel (.inl e));refine stay (v:=(I' i args).1) (t:=(I' i args).2) ?_ (qfd (u:=u) (m:=m) AN i args hl Jr hC (ht.under q1));unfold Mach.exec;rw[A4 h0,A4 h1,A4 h8,A4 h9,A9 Jr]
 by_cases Me:i.op=22∨i.op=23∨i.op=24
 ·have h2:i.op≠22->i.op≠24->∃x y,args=[x,y]:=fun a b=>nG (DK.trans (hi.c2 I));obtain⟨q1,q2⟩:=uH (i:=i) ha (fun e=>by have:=hi.pack e;omega) h2;have hC:=qcE AN i args hl (fun e=>RU (DK.trans (hi.c1 I)) I) h2 (fun e=>hi.sel (.inr e)) (fun v hv hk=>tU (ha v hv) hk);refine stay (v:=(IM i args).1) (t:=(IM i args).2) ?_ (qfe (u:=u) (m:=m) AN i args hl Me hC (ht.under q1));unfold Mach.exec;rw[A4 h0,A4 h1,A4 h8,A4 h9,A4 Jr,A9 Me]
 by_cases DG:i.op=100
 ·obtain⟨x,hx⟩:=RU (DK.trans (hi.c1 I)) (k:=0) I;refine stay (v:=BS args 0) (t:=0) (by simp[Mach.exec,DG]) (qe7 (u:=u) (m:=m) AN i args hl DG x hx)
 have Z8:i.op≠10∧i.op≠11∧i.op≠12∧i.op≠21:=I
 have Z9:i.op≠22∧i.op≠23∧i.op≠24:=I
 have Dv:2<O.length:=AE ht.Fo;have gP:=qbS m i args h0 h1 h8 h9 Z8 Z9 DG;have EU:=uX hm (i:=i) ha;by_cases Js:i.op=16
 ·obtain⟨x,y,e⟩:=nG (DK.trans (hi.c2 I));subst e;have PT:=hl x A6;have hyu:=hl y A6;have he:m.exec i [x,y]=m.E6 x y:=by
   rw[gP];simp[Mach.effect,Js,BS]
  rw[he];by_cases Qi:x.kind=0∧0<=x.n∧x.n<=1024∧x.n<=m.left
  ·obtain⟨g1,g2,g3,g4⟩:=Qi;have GS:(m.Ae x.n).short=false:=by simp[Mach.Ae,show ¬m.left<x.n from I,D5]
   have Df:m.E6 x y=({ m.Ae x.n with heap:=m.heap++[⟨m.next+8,m.next+7,List.replicate x.n.toNat y⟩],next:=m.next+9 },.mk 3 0 [] (some (m.next+8)),0):=by
    unfold Mach.E6;rw[A4 I,A4 I,A4 (by simp[GS])]
   have hC:=qiJ AN ht.Fo i x y PT hyu Js hm.left G1 D5 g1 g2 g3 g4;rw[Df];obtain⟨p1,p2,p3,p4,p5,p6,p7⟩:=Vz m x.n;have Lr:AV u ({ m.Ae x.n with heap:=m.heap++[⟨m.next+8,m.next+7,List.replicate x.n.toNat y⟩],next:=m.next+9 }:Mach)=AV u (m.Ae x.n):=rfl;have CI:=ht.qi2 (List.replicate x.n.toNat y) ({ m.Ae x.n with heap:=m.heap++[⟨m.next+8,m.next+7,List.replicate x.n.toNat y⟩],next:=m.next+9 }:Mach)
    [.gone,.cells [aI 3,aI 0,.A3 4 [] .sh,.mp (O.length+8) 0],.gone,.cells [aI 3,aI 0,.A3 4 [] .sh,.mp (O.length+8) 0],.gone,.gone,.cells [aI 3,aI 0,.A3 4 [] .ex,.mp (O.length+8) 0]] rfl (fun o ho=>by
     simp only[CL,NA,Di]at ho;rcases ho with rfl|rfl|rfl|rfl|rfl|rfl|rfl
     all_goals simp[A8.upto,AQ,A2.upto]) (fun v hv=>by
     rw[(List.mem_replicate.1 hv).2];exact hyu) p6 p1 rfl p3 rfl
   rw[Lr]at CI;simp only[OG]at CI;have oG:(SV.mk 3 0 [] (some (m.next+8))).enc=.agg [aI 3,aI 0,.A3 4 [] .sh,.mp (O.length+8) 0]:=by
    rw[SV.QB,ht.len];rfl
   refine⟨_,?_,CI,A6⟩;simp only[oG];exact hC
  have FI:(m.E6 x y).2.1=.zero∧(m.E6 x y).1.sid=m.sid∧(m.E6 x y).1.frames=m.frames∧(m.E6 x y).1.heap=m.heap∧(m.E6 x y).1.out=m.out∧(m.E6 x y).1.next=m.next:=by
   obtain⟨p1,p2,p3,p4,p5,p6,p7⟩:=Vz m x.n;unfold Mach.E6;split
   ·simp
   split
   ·simp
   split
   ·exact⟨rfl,p6,p1,p2,p3,p7⟩
   rename_i a1 a2 a3;exfalso;refine Qi ⟨I,I,I,?_⟩;by_cases q:m.left<x.n
   ·exact B3 (show(m.Ae x.n).short=true by simp[Mach.Ae,q]) a3
   omega
  obtain⟨b0,b1,b2,b3,b4,b5⟩:=FI;have hC:=qbT AN ht.Fo i x y PT hyu Js hm.left G1 D5 (fun z=>by rw[b0];simp[SV.zero,SV.arr]);have CI:=ht.av (m.E6 x y).1 b1 b2 b3 (by rw[b4]) b5;exact⟨_,eR AN i [x,y] hl h0 h1 h8 h9 Z8 Z9 DG Dv _ _ (by rw[b0];exact sb _) hC A6 CI.upto,CI,A6⟩
 rw[gP];by_cases KN:i.op=15
 ·obtain⟨x,hx⟩:=RU (DK.trans (hi.c1 I)) (k:=0) I;have hC:=qb4 AN ht.Fo ht.outs i args hl KN x hx hm.out;have FI:(m.effect i args).1.sid=m.sid∧(m.effect i args).1.frames=m.frames∧(m.effect i args).1.heap=m.heap∧(m.effect i args).1.next=m.next:=by
   unfold Mach.effect;rw[A9 KN];split
   ·simp
   split<;>simp
  obtain⟨b1,b2,b3,b4⟩:=FI;have CI:=ht.ql4 (m.effect i args).1 b1 b2 b3 b4;have hv:SV.BC O.length (m.effect i args).2.1:=ht.under (EU.val.of_heap (by rw[b3]));exact⟨_,eR AN i args hl h0 h1 h8 h9 Z8 Z9 DG Dv _ _ hv hC A6 CI.upto,CI,A6⟩
 by_cases Kj:i.op=18
 ·obtain⟨x,y,e⟩:=nG (DK.trans (hi.c2 I));subst e;have hC:=qb3 (u:=u) (m:=m) AN i x y (hl x A6) (hl y A6) Dv Kj;have FI:(m.effect i [x,y]).1=m:=by
   unfold Mach.effect;rw[A4 I,A4 I,A9 Kj];split
   ·rfl
   split<;>rfl
  have hv:SV.BC O.length (m.effect i [x,y]).2.1:=ht.under (EU.val.of_heap (by rw[FI]));exact⟨O,eR AN i [x,y] hl h0 h1 h8 h9 Z8 Z9 DG Dv _ _ hv hC rfl AN,by rw[FI];exact ht,B6 _⟩
 have hlen:0<args.length∧(i.op≠17->2<=args.length)∧(i.op≠17->i.op≠19->3<=args.length):=by
  rcases(show i.op=17∨i.op=19∨i.op=20 from I)with q|q|q
  ·have:=hi.c1 I;omega
  ·have:=hi.c2 I;omega
  have:=hi.c3 I;omega
 obtain⟨x,hx⟩:=RU rfl hlen.1;have KU:=AK hx;obtain⟨O',hC,Au⟩:=qcs (m:=m) AN i args hl x hx KN Js Kj (fun a=>RU rfl (hlen.2.1 a)) (fun a b=>RU rfl (hlen.2.2 a b)) (qcy ht hm (ha x KU) _ rfl) (fun hk=>by
  obtain⟨a,Pe,e1,e2⟩:=xX hm (ha x KU) hk;obtain⟨r1,r2⟩:=ht.arr Pe;refine⟨a.EI,a.AS,e1,?_,?_⟩
  ·rw[e2];exact r1
  rw[e2];exact r2)
 rcases Au with⟨e1,e2⟩|⟨EI,AS,k,z,l,e1,e2,e3,e4,e5,e6,e7,e8⟩
 ·have hv:SV.BC O.length (m.effect i args).2.1:=ht.under (EU.val.of_heap (by rw[e2]));subst e1;exact⟨O',eR AN i args hl h0 h1 h8 h9 Z8 Z9 DG Dv _ _ hv hC rfl AN,by rw[e2];exact ht,B6 _⟩
 obtain⟨a,Pe,f1,f2⟩:=kS m.heap EI (SV.Wf.ref (ha x KU) EI e1);have hla:l=a.l:=by rw[e5,e1,f2]
 obtain⟨r1,r2⟩:=ht.arr Pe;have hb:AS=a.AS:=by
  rw[f1,e2]at r1;simp only[AM,A8.cells.injEq,WC,A2.ms.injEq]at r1;exact r1.1.1
 have CI:=ht.qih Pe (l.set k z) (by rw[B2,hla]) (fun v hv=>by
  rcases KE hv with q|q
  ·rw[hla]at q;exact ht.under ((hm.Fy a Pe).2 v q)
  rw[q];exact e6) (m.effect i args).1 (by rw[e8,e1,f1])
 rw[<-hb,<-e7]at CI;have hlO:O.length=O'.length:=by rw[e7];simp
 have hv:SV.BC O.length (m.effect i args).2.1:=by
  have:=CI.under EU.val;rw[<-hlO]at this;exact Cd
 exact⟨O',eR AN i args hl h0 h1 h8 h9 Z8 Z9 DG Dv _ _ hv hC hlO CI.upto,CI,I⟩
theorem Tl.of_eq{O':List A8}(h:Tl u m rest O)(e:m'=m)(e':O'=O):Tl u m' rest O':=by
 subst e;subst e';exact h
theorem W6{f:Fr}{r:List Fr}:(EM (f::r)++rest)[r.length]?=some (.mp f.AW 0):=by
 have h:EM (f::r)=r.reverse.map (fun f=>A2.mp f.AW 0)++[.mp f.AW 0]:=jT
 rw[h,Ez];have hl:(r.reverse.map (fun f=>A2.mp f.AW 0)).length=r.length:=A6
 rw[Dg I,hl,FB];rfl
theorem qfM{f g:Fr}{r:List Fr}:(EM (f::g::r)++rest)[r.length]?=some (.mp g.AW 0):=by
 have h:EM (f::g::r)++rest=EM (g::r)++(.mp f.AW 0::rest):=jT
 rw[h];exact W6
theorem Tl.apart(ht:Tl u m rest O){f:Fr}{r:List Fr}(B0:m.frames=f::r):f.AW≠2∧f.Ay≠2∧f.AW≠f.Ay:=by
 obtain⟨_,hk,Ic,_⟩:=ht.others;rw[B0]at hk Ic;refine⟨(hk f.AW ?_).2.1,(hk f.Ay ?_).2.1,?_⟩
 ·rw[U6];exact List.mem_append.2 (.inl (UB (Tl.b9 (f:=f) A6).1))
 ·rw[U6];exact List.mem_append.2 (.inl (UB (Tl.b9 (f:=f) A6).2))
 simp only[Ep,JR,Za,UX,CL,not_or]at Ic;exact Ic.1.1
theorem Tl.qk8(ht:Tl u m rest O){g:Fr}(hg:g∈m.frames):g.AW≠2∧g.Ay≠2:=by
 obtain⟨_,hk,Ic,_⟩:=ht.others;refine⟨(hk g.AW ?_).2.1,(hk g.Ay ?_).2.1⟩
 ·rw[U6];exact List.mem_append.2 (.inl (UB (Tl.b9 hg).1))
 rw[U6];exact List.mem_append.2 (.inl (UB (Tl.b9 hg).2))
theorem qap(m:Mach)(f g:Fr):(m.BW f).BW g=m.BW g:=rfl
theorem adw(ht:Tl u m rest O)(hm:CY u m){f:Fr}{r:List Fr}(B0:m.frames=f::r){e:Edge}(he:fD (AB u f.fn) e) :
  ∃O',Aq prog 129 O [.mp 2 0,.mp f.AW 0,e.enc] (fun r O1=>r=.Ab []∧O1=O')∧Tl u (m.follow u f e) rest O'∧O.length=O'.length:=by
 have BK:=hm.frames f Re;obtain⟨t1,t2⟩:=ht.frame (f:=f) Re;obtain⟨n1,n2,n3⟩:=ht.apart B0;have hu:∀e∈f.vals,SV.BC O.length e.2:=fun e he=>ht.under (BK.vals e he);obtain⟨f',DH⟩:∃f',f' = { f with blk:=e.block,pos:=0,vals:=C7 f.vals (A7 (AB u f.fn) e.block).params (BV f.vals e.args) }:=⟨_,rfl⟩
 have hC:=qc3 ht.upto ht.Fo f t1 t2 hu n1.symm n2.symm n3 BK.fn e he f' DH;have h1:=ht.BW (f':={ f' with vals:=f.vals }) B0 Jl Jl rfl;have Qs:BP { f' with vals:=f.vals }=BP f':=rfl;rw[Qs]at h1;have h2:=h1.mR (f:={ f' with vals:=f.vals }) (f':=f') (r:=r) (by simp[Mach.BW,B0]) rfl (by
  rw[B2,DH];intro x hx;rcases Zg hx with q|q
  ·exact hu x q
  exact sH hu e.args _ q)
 rw[qap]at h2;have TG:f'.Ay=f.Ay:=Jl
 have Df:m.follow u f e=m.BW f':=by rw[DH];rfl
 rw[Df];refine⟨_,hC,?_,A6⟩;exact h2.of_eq rfl (by rw[<-TG])
theorem qb5(ht:Tl u m rest O)(hm:CY u m){f:Fr}{r:List Fr}(B0:m.frames=f::r){t:Term}(DM:fE (AB u f.fn) t) :
  ∃O' bk,Aq prog 112 O [.mp 2 0,.mp f.AW 0,t.enc] (fun r O1=>r=.Ab []∧O1=O')∧Tl u (m.finish u f t) bk O'∧O.length=O'.length:=by
 have BK:=hm.frames f Re;obtain⟨t1,t2⟩:=ht.frame (f:=f) Re;obtain⟨n1,n2,n3⟩:=ht.apart B0;obtain⟨_,_,_,s1,s2,s3,s4,s5⟩:=ht.others;have hu:∀e∈f.vals,SV.BC O.length e.2:=fun e he=>ht.under (BK.vals e he);have hk:=DM.kind;unfold Mach.finish;by_cases h4:t.kind=4
 ·rw[A9 h4];exact⟨_,rest,qfu ht.upto ht.Fo f t1 t2 hu n3 t h4,ht.av (m.stop t.n 0) rfl rfl rfl rfl rfl,A6⟩
 rw[A4 h4];by_cases h1:t.kind=1
 ·rw[A9 h1];have hl:=DM.jump h1;have he:t.to[0]?=some (t.to[0]' I):=AY _;obtain⟨O',q1,q2,q3⟩:=adw ht hm B0 (DM.DN _ (AK he));refine⟨O',rest,qft ht.upto ht.Fo f t1 t2 hu n3 t h1 _ he q1 q3 q2.upto,?_,q3⟩;rw[he];exact q2
 rw[A4 h1];by_cases h0:t.kind=0
 ·rw[A9 h0];have hv:=m6 BK.vals t.arg;have Gm:=ht.under hv;cases hr:r with
  | nil =>
   subst hr;have hC:=qdM ht.upto ht.Fo f B0 (AE t1) _ Gm;have CI:=ht.last B0 (m.leave f (Bq f.vals t.arg)) dQ dQ dQ dQ dQ;exact⟨_,_,wk ht.upto ht.Fo f t1 t2 hu n3 t h0 hC A6 CI.upto,CI,A6⟩
  | cons g r' =>
   subst hr;have hg:g∈m.frames:=Re
   obtain⟨g1,g2⟩:=ht.frame hg;obtain⟨k1,k2⟩:=ht.qk8 hg;have hgu:∀e∈g.vals,SV.BC O.length e.2:=fun e he=>ht.under ((hm.frames g hg).vals e he);have DB:r'.length<=2 ^ 40:=by
    have h1:=hm.depth;have h2:=hm.left;rw[B0]at h1;simp only[CE]at h1;omega
   have Au:=ht.stack;rw[B0]at Au;have hC:=qdN ht.upto ht.Fo f g r' B0 t1 g1 g2 hgu Au qfM s2 DB n1 k1 k2 _ Gm;have Df:m.leave f (Bq f.vals t.arg) = { m with frames:={ g with vals:=CQ g.vals f.to (Bq f.vals t.arg) }::r' }:=by
    unfold Mach.leave;rw[B0];rfl
   have CI:=ht.pop (g':={ g with vals:=CQ g.vals f.to (Bq f.vals t.arg) }) B0 rfl (fun x hx=>by
    rcases Xr hx with q|q
    ·exact hgu x q
    rw[q];exact Gm) _ Df
   exact⟨_,_,wk ht.upto ht.Fo f t1 t2 hu n3 t h0 hC A6 CI.upto,CI,A6⟩
 rw[A4 h0];by_cases hV:(Bq f.vals t.arg).kind=0
 ·rw[A4 (by simp[hV])];obtain⟨e,he⟩:=cf DM h0 h1 h4 (Bq f.vals t.arg).n;obtain⟨O',q1,q2,q3⟩:=adw ht hm B0 (DM.DN _ (AK he));refine⟨O',rest,qcS ht.upto ht.Fo f t1 t2 hu n3 t ⟨h0,h1,h4⟩ hV (by have:=DM.cl;omega) e he q1 q3 q2.upto,?_,q3⟩;rw[he];exact q2
 rw[A9 hV];exact⟨_,rest,qfY ht.upto ht.Fo f t1 t2 hu n3 t ⟨h0,h1,h4⟩ hV,ht.av (m.stop 5 0) rfl rfl rfl rfl rfl,A6⟩
theorem qdr(hu:HL u)(ht:Tl u m rest O)(hm:CY u m)(ho:m.over=false)(hd:m.frames.length+m.left+1<=2 ^ 40) :
  ∃O' bk,Aq prog 83 O [.mp 2 0] (fun r O1=>r=.Ab []∧O1=O')∧Tl u (m.step u) bk O'∧O.length<=O'.length:=by
 obtain⟨AT,D5⟩:=hm.over ho;unfold Mach.step;cases B0:m.frames with
 | nil=>exact B3 B0 AT
 | cons f r =>
  have BK:=hm.frames f Re;obtain⟨t1,t2⟩:=ht.frame (f:=f) Re;obtain⟨n1,n2,n3⟩:=ht.apart B0;obtain⟨_,_,_,s1,s2,s3,s4,s5⟩:=ht.others;have huv:∀e∈f.vals,SV.BC O.length e.2:=fun e he=>ht.under (BK.vals e he);have Au:=ht.stack;rw[B0]at Au;have DB:r.length<=2 ^ 40:=by
   have h2:=hm.left;rw[B0]at hd;simp only[CE]at hd;omega
  have hF:=UJ BK.fn.1 BK.fn.2;have hB:=K2 BK.blk.1 BK.blk.2;have oT:=hu.blocks _ (Nu BK.fn.1 BK.fn.2) _ (M' BK.blk.1 BK.blk.2);simp only;cases hi:(A7 (AB u f.fn) f.blk).ins[f.pos]? with
  | none =>
   have JK:f.pos=(A7 (AB u f.fn) f.blk).ins.length:=by
    have:=List.getElem?_eq_none_iff.1 hi;have:=BK.pos;omega
   obtain⟨O',bk,q1,q2,q3⟩:=qb5 ht hm B0 oT.term;exact⟨O',bk,step_end ht.upto ht.Fo f r B0 t1 n1 Au W6 DB _ hF BK.fn.1 _ hB BK.blk.1 JK q1 I q2.upto,q2,I⟩
  | some i =>
   simp only;have Ia:=oT.ins i (AK hi);have AF:=AE hi;have CN:=oT.len;obtain⟨f',DH⟩:∃f',f' = { f with pos:=f.pos+1 }:=⟨_,rfl⟩
   rw[<-DH];have hv':f'.vals=f.vals:=Jl
   have Ho:f'.AW=f.AW:=Jl
   have TG:f'.Ay=f.Ay:=Jl
   obtain⟨O1,Bn⟩:∃O1,O1=O.set f.AW (.cells (BP f')):=⟨_,rfl⟩
   have h1:=ht.BW (f':=f') B0 Ho TG hv';rw[<-Bn]at h1;have Gs:O.length=O1.length:=MJ
   have E8:J' u m f':=by
    rw[DH];exact⟨BK.fn,BK.blk,AF,BK.vals⟩
   have EJ:CY u (m.BW f'):=hm.BW AT E8;have V2:(m.BW f').frames=f'::r:=by simp[Mach.BW,B0]
   have Lr:AV u (m.BW f')=AV u m:=qK
   have QW:O1[2]?=some (.cells (AV u m)):=by rw[<-Lr];exact h1.Fo
   obtain⟨args,GP⟩:∃args,args=BV f.vals i.args:=⟨_,rfl⟩
   rw[<-GP];have DK:args.length=i.args.length:=by rw[GP];exact Zi _ _
   have Xe:∀v∈args,CP u (m.BW f') v:=by
    rw[GP];exact fun v hv=>(Y2 BK.vals i.args v hv).of_heap CX
   have Xd:∀v∈args,SV.BC O1.length v:=fun v hv=>h1.under (Xe v hv);have oY:=h1.stack;have qmm:(m.BW f').frames.length<=2 ^ 41:=by
    rw[V2];exact kL
   have yH:∀fn:Int,0<=fn∧fn<u.fns.length->(A7 (AB u fn) 0).params.length=args.length ->
     ∃O',Aq prog 81 O1 [.mp 2 0,aI fn,.A3 4 (args.map SV.enc) .sh,aI i.to] (fun r O2=>r=.Ab []∧O2=O')∧Tl u ((m.BW f').enter u fn args i.to) [] O'∧O.length<=O'.length:=fun fn Cv hp=>by
    have hC:=qcU h1.upto h1.Fo oY jT s2 h1.len qmm fn Cv (hu.ne _ (Nu Cv.1 Cv.2)).1 args Xd hp i.to;have CI:=h1.push fn i.to args _ rfl Xd;exact⟨_,hC,CI,Ai⟩
   unfold Mach.act;by_cases FO:i.op=13
   ·rw[A9 FO];obtain⟨c1,c2,c3⟩:=Ia.call FO;obtain⟨O',q1,q2,q3⟩:=yH i.n ⟨c1,c2⟩ (by rw[DK];exact c3);exact⟨O',[],qfN ht.upto ht.Fo f r B0 t1 n1 Au W6 DB _ hF BK.fn.1 _ hB BK.blk.1 t2 n3 huv i hi I Ia.len f' DH args GP O1 Bn FO q1 q3 q2.upto,q2,q3⟩
   rw[A4 FO];by_cases GH:i.op=14
   ·rw[A9 GH];obtain⟨c,hc⟩:=RU (DK.trans rfl) (k:=0) (by have:=Ia.app GH;omega);have hac:=Mt hc;rw[hac];have Pg:=Xe c (AK hc);have CI:=h1.av ((m.BW f').stop 5 0) rfl rfl rfl rfl rfl;have P7:AV u ((m.BW f').stop 5 0)=AV u (m.stop 5 0):=by simp[AV,Mach.BW,Mach.stop,B0]
    by_cases hk:c.kind=2
    ·obtain⟨k1,k2⟩:=SV.Wf.fn Pg hk;have hG:=UJ k1 k2;have hD:(AB u c.n).blocks[0]?=some (A7 (AB u c.n) 0):=by
      obtain⟨z1,z2⟩:=yM hu k1 k2;exact K2 z1 z2
     by_cases hp:(A7 (AB u c.n) 0).params.length=args.length
     ·rw[A9 ⟨hk,hp⟩];obtain⟨O',q1,q2,q3⟩:=yH c.n ⟨k1,k2⟩ hp;exact⟨O',[],qhi ht.upto ht.Fo f r B0 t1 n1 Au W6 DB _ hF BK.fn.1 _ hB BK.blk.1 t2 n3 huv i hi I Ia.len f' DH args GP O1 Bn GH c hc hk k1 _ hG _ hD hp Xd q1 q3 q2.upto QW,q2,q3⟩
     rw[A4 (fun q=>hp q.2)];refine⟨_,rest,qbJ ht.upto ht.Fo f r B0 t1 n1 Au W6 DB _ hF BK.fn.1 _ hB BK.blk.1 t2 n3 huv i hi I Ia.len f' DH args GP O1 Bn GH c hc hk k1 _ hG _ hD hp Xd QW,?_,Ai⟩;rw[<-P7];exact CI
    rw[A4 (fun q=>hk q.1)];refine⟨_,rest,qas ht.upto ht.Fo f r B0 t1 n1 Au W6 DB _ hF BK.fn.1 _ hB BK.blk.1 t2 n3 huv i hi I Ia.len f' DH args GP O1 Bn GH c hc hk Xd QW,?_,Ai⟩;rw[<-P7];exact CI
   rw[A4 GH];have qmX:(m.BW f').short=false:=D5;obtain⟨O2,q1,q2,q3⟩:=qcX h1 EJ qmX Ia FO GH DK Xe;have EU:=ay EJ Ia DK Xe;generalize (m.BW f').exec i args=R at *;have MU:R.1.frames=f'::r:=by rw[EU.frames,V2]
   obtain⟨w1,w2⟩:=q2.frame (f:=f') (by rw[MU];simp);rw[Ho]at w1;rw[TG,hv']at w2;have Gm:=q2.under EU.val;have IX:∀e∈f.vals,SV.BC O2.length e.2:=fun e he=>(huv e he).mono I;have huP:∀e∈CQ f.vals i.to R.2.1,SV.BC O2.length e.2:=fun x hx=>by
    rcases Xr hx with q|q
    ·exact IX x q
    rw[q];exact Gm
   unfold Mach.settle;rw[hv'];by_cases Pr:R.2.2=0
   ·rw[A4 (by simp[Pr])];have hC:=qfO ht.upto ht.Fo f r B0 t1 n1 Au W6 DB _ hF BK.fn.1 _ hB BK.blk.1 t2 n3 huv i hi I Ia.len f' DH args GP O1 Bn ⟨FO,GH⟩ R.2.1 R.2.2 q1 I q2.upto Gm R.1 q2.Fo w1 w2 IX n2 Pr;have CI:=q2.mR (f':={ f' with vals:=CQ f.vals i.to R.2.1 }) MU rfl huP;exact aci
   rw[A9 Pr];have hC:=qfR ht.upto ht.Fo f r B0 t1 n1 Au W6 DB _ hF BK.fn.1 _ hB BK.blk.1 t2 n3 huv i hi I Ia.len f' DH args GP O1 Bn ⟨FO,GH⟩ R.2.1 R.2.2 q1 I q2.upto Gm R.1 q2.Fo w1 w2 IX n2 Pr;have q4:=q2.av (R.1.stop R.2.2 0) rfl rfl rfl rfl rfl;have CI:=q4.mR (f':={ f' with vals:=CQ f.vals i.to R.2.1 }) MU rfl (by
    rw[B2];exact huP)
   exact aci
def TX.enc(a:TX):A2:=.Ab [.agg [.A3 1 (a.out.map aI) .sh,aI a.fin,aI a.val],aI a.n,aI a.e]
theorem qcq{f:FuncId}{a b d:A2}{sz:Nat}{R:A2->List A8->Prop}(h:Aq prog f O [a,b,.A3 sz [] .sh,d] R):Aq prog f O [a,b,.v (.slice none 0 0),d] R :=
 ⟨h.1,fun g vs hg ho ha=>h.2 g vs hg ho ⟨ha.1,fun i c u hc hu=>by
  match i,hc,hu with
  | 0,hc,hu=>exact ha.2 0 c u hc hu
  | 1,hc,hu=>exact ha.2 1 c u hc hu
  | 2,hc,hu =>
   simp only[LY,Dh,AM]at hc;subst hc;have:=(ha.2 2 _ u rfl hu).D0.1;subst this;exact rm
  | 3,hc,hu=>exact ha.2 3 c u hc hu
  | i+4,hc,_=>simp at hc⟩⟩
theorem eN(hu:HL u){fuel:Int}(h0:0<=fuel)(h1:fuel<=1000000):CY u ((Mach.start fuel).enter u u.main [] 0):=by
 have hs:CY u { Mach.start fuel with over:=true } :=
  ⟨QN,QN,h0,j5,QN,QN,QN,by simp[Mach.start,CR],QN,A6⟩
 have h:=hs.enter hu A6 j5 hu.main (args:=[]) A6 0;exact ac6
theorem qcA(hu:HL u){fuel:Int}(hp:(A7 (AB u u.main) 0).params=[]):Tl u ((Mach.start fuel).enter u u.main [] 0) [] [.gone,.cells [.A3 1 [] .ex,aI 0,aI 0],.cells (AV u ((Mach.start fuel).enter u u.main [] 0)),.spare 0,.map (.int .i64) [],.cells [aI u.main,aI 0,aI 0,aI 0,.mm 4],.cells [.mp 5 0]] where
 len:=rfl
 upto:=by simp[A8.upto,AQ,My,A2.upto,AV,Func.AX,Mach.enter,Mach.start]
 holds:=by
  intro p Vo;simp only[Ev,Mach.enter,Mach.start,Ep,BI,hp,C7,F9,CL,NA,Di,HY]at Vo;rcases Vo with rfl|rfl|rfl|rfl|rfl|rfl
  all_goals rfl
 nodup:=by
  simp[HO,Ev,Mach.enter,Mach.start,Ep,BI]
theorem qgM(h:m.over=true)(k:Nat):Mach.run u k m=m:=by
 cases k with
 | zero=>rfl
 | succ k=>simp[Mach.run,h]
theorem qbP(hu:HL u){fuel:Int}(hf0:0<=fuel)(E8:fuel<=1000000):BR prog 54 [u.enc,aI fuel] (D2 u fuel).enc:=by
 have hp:=hu.none;have Fb:=qcq (qbU (fuel:=fuel) hu.main (hu.ne _ (Nu hu.main.1 hu.main.2)).1 hp 4 .sh);have Au:=qcA hu (fuel:=fuel) hp;have qma:=eN hu hf0 E8;obtain⟨K,hK⟩:∃K,K=fuel.toNat+2:=⟨_,rfl⟩
 obtain⟨E,hE⟩:∃E,E=Mach.run u K ((Mach.start fuel).enter u u.main [] 0):=⟨_,rfl⟩
 have Df:D2 u fuel=if E.short then⟨[],0,0,0,13⟩else⟨E.out,E.fin,E.val,fuel-E.left,0⟩:=by
  rw[hE,hK];rfl
 rw[Df];have yB:((Mach.start fuel).enter u u.main [] 0).left=fuel:=rfl;unfold mW at Fb;generalize Dv:(Mach.start fuel).enter u u.main [] 0=m0 at *;refine zf true 0 func54 ntmps54 ?_;refine Cw ?_;refine ji ?_ ?_
 ·refine Cc ?_;refine No 2 6 rfl rfl ?_;refine BL ?_;refine BM ?_;refine .inr (.inl ⟨_,_,Fb,.inl (B4 (zj ?_))⟩);refine Ak ?_;refine DW (Al (BZ (ι:={p:Mach×List A2×List A8 // CY u p.1∧Tl u p.1 p.2.1 p.2.2∧p.1.left<=fuel∧∃k,p.1.left.toNat+2<=k∧Mach.run u k p.1=E}) (fun p=>⟨45,[(1,aI fuel),(4,.mp 1 0),(5,aI 0),(6,aI 0),(7,.mp 2 0)],p.1.2.2⟩) (fun p=>p.1.1.left.toNat) ⟨(m0,[],_),qma,Au,by simp only[yB];omega,K,by simp only[yB];omega,hE.symm⟩ ?_ ?_))
  ·exact JU
  rintro⟨⟨m,rest,O⟩,hm,ht,hlf,k,hk,Aj⟩;simp only at hm ht hlf hk Aj;have KQ:=ht.Fo;unfold AV at KQ;have qon:=hm.depth;have Qw:=hm.left;have GW:O[1]?=some (.cells [.A3 1 [] .ex,aI 0,aI 0]):=ht.holds (1,_) YR;have Ie:=Kr GW;have JY:=AE ht.Fo;have TH:=lf ht.upto ht.Fo 1 Qw I I;cases FT:m.over with
  | true =>
   rw[qgM FT]at Aj;subst Aj;rw[FT]at KQ;refine HZ KQ ?_;refine KL ?_;refine BO ?_;cases D5:m.short with
   | true =>
    rw[D5]at KQ;refine HZ KQ ?_;refine FF ?_;refine Ch GW ?_;refine F3 ?_;simp -dsimp only[simprocAttr,↓AG,zp,zr,results54,Ie];exact aj
   | false =>
    rw[D5]at KQ;refine HZ KQ ?_;refine FE ?_;refine KJ KQ GW ?_
    refine Ef ?_
    refine⟨Vv [1,2] O.length [.pure,.pure,.pure,.rd 1,.pure,.pure,.pure,.pure,.rd 1,.pure,.wr 2 [0],.pure,.pure] A6 Ai rfl rfl CW,Ga ?_⟩;refine rk ?_;refine F3 ?_;simp -dsimp only[simprocAttr,↓AG,zp,zr,results54,Ie];exact⟨jN,rfl⟩
  | false =>
   obtain⟨k,rfl⟩:∃j,k=j+1:=⟨k-1,I⟩
   have fv:(if(m.Ae 1).short then m.Ae 1 else Mach.run u k (Mach.step u (m.Ae 1)))=E:=by
    rw[<-Aj];simp[Mach.run,FT]
   have ht1:=ht.av (m.Ae 1) (Vz m 1).2.2.2.2.2.1 (Vz m 1).1 (Vz m 1).2.1 (by rw[(Vz m 1).2.2.1]) (Vz m 1).2.2.2.2.2.2;have QW:=ht1.Fo;have Pl:(O.set 2 (.cells (AV u (m.Ae 1))))[1]?=some (.cells [.A3 1 [] .ex,aI 0,aI 0]):=ht1.holds (1,_) YR;have zG:=Kr Pl;rw[FT]at KQ;by_cases Mm:m.left<1
   ·have GS:(m.Ae 1).short=true:=by simp[Mach.Ae,Mm]
    rw[GS,A9 rfl]at fv;have hEs:E.short=true:=by
     rw[<-fv];exact GS
    obtain⟨O1,Bn⟩:∃O1,O1=O.set 2 (.cells (AV u (m.Ae 1))):=⟨_,rfl⟩
    rw[<-Bn]at TH QW Pl;simp only[<-Bn]at zG;unfold AV at QW;rw[GS]at QW;refine ad2 KQ QW ?_;refine FF ?_;refine Ch Pl ?_;refine F3 ?_;simp -dsimp only[simprocAttr,↓AG,zp,zr,results54,zG,hEs];exact aj
   have S6:m.Ae 1 = { m with left:=m.left-1 }:=by simp[Mach.Ae,Mm]
   have GS:(m.Ae 1).short=false:=by
    rw[S6];exact(hm.over FT).2
   have o9:(m.Ae 1).over=false:=by
    rw[S6];exact FT
   have EJ:CY u (m.Ae 1):=by
    rw[S6];exact⟨fun f hf=>(hm.frames f hf).of_heap CX,fun a ha=>⟨(hm.Fy a ha).1,fun v hv=>((hm.Fy a ha).2 v hv).of_heap CX⟩,Ai,Ai,hm.out,hm.words,hm.fin,hm.val,hm.done,fun h=>hm.over h⟩
   have Gk:(m.Ae 1).frames.length+(m.Ae 1).left+1<=2 ^ 40:=by
    rw[S6];exact KM
   obtain⟨O2,qlg,q1,q2,q3⟩:=qdr hu ht1 EJ o9 Gk;have Hu:=EJ.step hu o9 Gk;have EH:(Mach.step u (m.Ae 1)).left<=m.left-1:=by
    have:=tR u (m.Ae 1) EJ hu o9;rw[S6]at this ⊢;exact Cd
   have qox:=Hu.left;rw[GS,A4 A6]at fv;obtain⟨O1,Bn⟩:∃O1,O1=O.set 2 (.cells (AV u (m.Ae 1))):=⟨_,rfl⟩
   rw[<-Bn]at TH QW q1;unfold AV at QW;rw[GS]at QW;refine ad2 KQ QW ?_;refine FE ?_;refine HA ?_;refine .inr (.inl ⟨_,_,q1,.inl (B4 (zj ?_))⟩);refine zl1 ?_;refine⟨⟨(Mach.step u (m.Ae 1),qlg,O2),Hu,q2,D6,k,D6,fv⟩,D6,?_⟩;exact JU
 exact Be
theorem qaK{u:Ad}:∀{l:List Ins},UK u l=0->∀i∈l,KX u i=0
 | [],_,f,h=>by simp at h
 | g::r,h,f,hf=>by
  have:=Mx h;rcases List.mem_cons.1 hf with q|q
  ·subst q;exact this.1
  exact qaK this.2 f q
theorem qaJ{u:Ad}:∀{l:List Block},RQ u l=0->∀b∈l,∀i∈b.ins,KX u i=0
 | [],_,f,h=>by simp at h
 | g::r,h,f,hf=>by
  have:=Mx h;rcases List.mem_cons.1 hf with q|q
  ·subst q;exact qaK this.1
  exact qaJ this.2 f q
theorem iD{u:Ad}:∀{l:List Func},M8 u l=0->∀f∈l,∀b∈f.blocks,∀i∈b.ins,KX u i=0
 | [],_,f,h=>by simp at h
 | g::r,h,f,hf=>by
  have:=Mx h;rcases List.mem_cons.1 hf with q|q
  ·subst q;exact qaJ this.1
  exact iD this.2 f q
theorem vo(h:KX u i=0):(i.op=13∨i.op=9->i.n<u.fns.length)∧(i.op=13->(A7 (AB u i.n) 0).params.length=i.args.length)∧(i.op=9->(A7 (AB u i.n) 0).params.length≠0):=by
 unfold KX at h;split at h
 ·exact⟨I,I,I⟩
 split at h
 ·simp at h
 split at h
 ·simp at h
 exact⟨I,I,I⟩
structure qkS(u:Ad):Prop where
 few:u.fns.length<=256
 main:0<=u.main∧u.main<u.fns.length
 none:(A7 (AB u u.main) 0).params=[]
 fns:∀f∈u.fns,Vd f
 calls:∀f∈u.fns,∀b∈f.blocks,∀i∈b.ins,KX u i=0
theorem vf(AO:u.fit)(h:GN u=0):qkS u:=by
 unfold GN at h;split at h
 ·simp at h
 split at h
 ·simp at h
 split at h
 ·simp at h
 rename_i h3;have h4:=Mx h;have h5:=h4.2;split at h5
 ·simp at h5
 rename_i h6;have hw:0<=u.main∧u.main<=(u.fns.length:Int)-1:=by simpa[within]using h3
 refine⟨I,I,List.length_eq_zero_iff.1 I,fun f hf=>Mp (AO.2.2 f hf) (iG h4.1 f hf),iD h5⟩
theorem lV(AO:u.fit)(h:GN u=0):HL u:=by
 have hw:=vf AO h;refine⟨hw.main,hw.few,hw.none,fun f hf=>⟨(hw.fns f hf).ne,ab1⟩,fun f hf b hb=>?_⟩;have hF:=hw.fns f hf;have hB:=hF.blk b hb;have hE:=LS hB.fin;refine⟨fun i hi=>?_,⟨hE.kind,?_,hE.jump,hE.cond,hE.switch,fun e he=>?_,by have:=hE.cases;omega⟩,abo⟩
 ·have Bo:=ew (hB.Yv i hi);have hc:=vo (hw.calls f hf b hb i hi);have XS:=((AO.2.2 f hf).2.2 b hb).2.2.2.1 i hi;have hlen:=Bo.len;refine⟨.inl Bo.op,I,⟨XS.1,XS.2.2.1⟩,fun q=>(Bo.c0 q).1,Bo.c2,fun q=>Bo.c1 (by have:=Bo.op;omega),Bo.c3,fun q=>⟨?_,hlen⟩,fun q=>?_,fun q=>?_,Bo.app,Bo.sel,fun _=>hlen,Bo.vec⟩
  ·have:=Bo.con q;unfold CR;omega
  ·have:=Bo.call (.inl q);have:=hc.1 (.inr q);exact⟨I,I,hlen⟩
  have:=Bo.call (.inr q);exact⟨I,hc.1 (.inl q),hc.2.1 q⟩
 ·by_cases h4:b.term.kind=4
  ·have:=hE.VO h4;omega
  have:=hE.n h4;omega
 have Fu:=hE.DN e he;have hm:=M' (f:=f) (k:=e.block) I I;have:=(hF.blk _ hm).few;exact⟨I,I,Fu.2,I⟩
def runM(u:Ad)(fuel:Int):TX :=
 if GN u≠0 then⟨[],0,0,0,GN u⟩
 else if within fuel 1 1000000=false then⟨[],0,0,0,4⟩
 else D2 u fuel
theorem lC(u:Ad)(AO:u.fit)(fuel:Int):BR prog 26 [u.enc,aI fuel] (runM u fuel).enc:=by
 have Jo:=sT u AO;have hw:=SW fuel 1 1000000;obtain⟨R,hR⟩:∃R,R=runM u fuel:=⟨_,rfl⟩
 rw[<-hR];unfold runM at hR;by_cases hc:GN u=0
 ·rw[A4 dZ]at hR;have hu:=lV AO hc;rw[hc]at Jo;cases Ni:within fuel 1 1000000 with
  | false =>
   rw[A9 Ni]at hR;rw[Ni]at hw;refine zf true 0 func26 ntmps26 ?_;refine Cw ?_;refine ji ?_ ?_
   ·refine Rj ?_;refine Cc ?_;refine FE ?_;refine GX ?_;refine zi hw ?_;refine Rn ?_;refine rz ?_;rw[hR];exact aj
   exact Be
  | true =>
   rw[A4 (by simp[Ni])]at hR;have hwr:=within_iff.1 Ni;have oA:=qbP hu (fuel:=fuel) I hwr.2;rw[<-hR]at oA;unfold TX.enc at oA;rw[Ni]at hw;refine zf true 0 func26 ntmps26 ?_;refine Cw ?_;refine ji ?_ ?_
   ·refine Rj ?_;refine Cc ?_;refine FE ?_;refine GX ?_;refine zi hw ?_;refine ML ?_;refine BM ?_;refine zi oA ?_;refine E9 ?_;refine rz ?_;exact⟨jN,rfl⟩
   exact Be
 rw[A9 hc]at hR;obtain⟨e,he⟩:∃e,e=GN u:=⟨_,rfl⟩
 rw[<-he]at hc Jo hR;have Ca:decide (e=0)=false:=Ac hc;refine zf true 0 func26 ntmps26 ?_;refine Cw ?_;refine ji ?_ ?_
 ·refine Rj ?_;refine Uo Ca ?_;refine rz ?_;rw[hR];exact aj
 exact Be
theorem qao(l m:List Int):BR prog 42 [AA l,AA m] (.v (.bool (decide (l=m)))):=by
 by_cases hlen:l.length=m.length
 ·have DB:decide ((l.length:Int)=m.length)=true:=Ar I;obtain⟨R,hR⟩:∃R,R=decide (l=m):=⟨_,rfl⟩
  rw[<-hR];refine zf true 0 func42 ntmps42 ?_;refine Cw ?_;refine LN 0 rfl (fun J6=>?_);simp only[BE]at J6;refine HZ DB ?_;apply AZ rfl<;>intro h
  ·cases h
  refine Az ?_;refine BF ?_;refine Al (BZ (ι:={k:Nat // k<=l.length∧R=decide (l.drop k=m.drop k)}) (fun k=>⟨26,[(0,AA l),(1,AA m),(4,.v (.bool false)),(12,AA l),(13,aI l.length),(14,aI k.1)],[]⟩) (fun k=>l.length-k.1) ⟨0,I,hR⟩ ?_ ?_)
  ·exact JU
  rintro⟨k,hk,Af⟩;refine C3 (fun h=>?_) (fun h=>?_)
  ·refine Az ?_;have AF:k<l.length:=Aa
   obtain⟨a,ha⟩:∃a,l[k]?=some a:=⟨l[k],Gu⟩
   obtain⟨b,hb⟩:∃b,m[k]?=some b:=⟨m[k]' I,AY _⟩
   rw[D9 ha,D9 hb]at Af;simp only[WC,Bool.decide_and]at Af;refine DR ha ?_;by_cases R7:b=a
   ·have oE:decide (b=a)=true:=Ar R7;rw[Ar R7.symm,PA]at Af;refine L6 hb oE ?_;refine ON ?_;refine Bw ?_;refine kM ?_ ?_
    ·exact BY
    rfl
   have oE:decide (b=a)=false:=Ac R7;rw[Ac (fun e=>R7 e.symm),iN]at Af;refine L6 hb oE ?_;refine E3 ?_;simp -dsimp only[simprocAttr,↓AG,zp,zr,results42];rw[Af]
  refine BO ?_;have Bh:k=l.length:=Ee
  subst Bh;rw[F',hlen,F']at Af;refine D7 ?_;simp -dsimp only[simprocAttr,↓AG,zp,zr,results42];rw[Af];rfl
 have DB:decide ((l.length:Int)=m.length)=false:=Ac I;rw[Ac (fun e=>hlen jg)];refine zf true 0 func42 ntmps42 ?_;refine Cw ?_;refine HZ DB ?_;refine E3 ?_;simp -dsimp only[simprocAttr,↓AG,zp,zr,results42]
abbrev ZC(out:List Int)(fin val:Int):A2:=.agg [.A3 1 (out.map aI) .sh,aI fin,aI val]
theorem zk(l m:List Int)(e f v w:Int):BR prog 27 [ZC l e v,ZC m f w] (.v (.bool ((decide (e=f)&&decide (v=w))&&decide (l=m)))):=by
 have hs:=qao l m;cases h1:decide (e=f)
 ·refine zf true 0 func27 ntmps27 ?_;refine Cw ?_;refine Ch h1 ?_;refine F3 ?_;exact rY
 cases h2:decide (v=w)
 ·refine zf true 0 func27 ntmps27 ?_;refine Cw ?_;refine KJ h1 h2 ?_;refine E9 ?_;exact rY
 refine zf true 0 func27 ntmps27 ?_;refine Cw ?_;refine KJ h1 h2 ?_;refine .inl ⟨_,hs,MK,B4 ?_⟩;refine Ri h1 h2 ?_;refine E9 ?_;exact rY
end Go.Proofs.YtjdnhamngpafmaaGreat
namespace Go.Av
theorem qd2{P:Program}{kb:Nat}{c:Code}{Q:E7->St->Prop}{n:Nat}{BG:List (Nat×A2)}{O:List A8}(k m:Nat)(hk:k<O.length)
  (h:AU P kb c Q ⟨n,BG,(O++List.replicate m (A8.spare 0)).set k (.cells ((List.range m).map fun j=>.A3 1 [] (.tok (O.length+j))))⟩):AU P kb c Q ⟨n,BG,O.set k (.cells (List.replicate m (.A3 1 [] .ex)))⟩:=by
 obtain⟨conv,Yt⟩:∃conv:Nat->List A2,conv=fun q=>((List.range q).map fun j=>A2.A3 1 [] (.tok (O.length+j)))++List.replicate (m-q) (.A3 1 [] .ex):=⟨_,rfl⟩
 have key:∀q,q<=m->AU P kb c Q ⟨n,BG,(O++List.replicate q (A8.spare 0)).set k (.cells (conv q))⟩->AU P kb c Q ⟨n,BG,O.set k (.cells (List.replicate m (.A3 1 [] .ex)))⟩:=fun q=>by
  induction q with
  | zero =>
   intro _ h;simpa[Yt]using h
  | succ q ih =>
   intro hq h;refine ih I (No k q (sz:=1) (cs:=conv q) (xs:=[]) ?_ ?_ ?_)
   ·rw[Bb Ai]
   ·rw[Yt];simp only;rw[Dg A6];simp only[BE,N7,FB];rw[show m-q=(m-(q+1))+1 from I,KG];rfl
   have e1:(O++List.replicate q (A8.spare 0)).set k (.cells (conv q))++[A8.spare ([]:List A2).length]=(O++List.replicate (q+1) (A8.spare 0)).set k (.cells (conv q)):=by
    rw[iT _ _ hk,iT _ _ hk,Ez];congr 1;rw[iU];rfl
   have e2:(conv q).set q (.A3 1 [] (.tok ((O++List.replicate q (A8.spare 0)).set k (.cells (conv q))).length))=conv (q+1):=by
    rw[Yt];simp only[B2,Bf,OG];rw[OF _ _ A6];simp only[BE,N7,FB];rw[show m-q=(m-(q+1))+1 from I,KG,OH,Zu,Dx,Ez];rfl
   rw[e1,e2,Hr];exact h
 refine key m (B6 _) ?_;simpa[Yt]using h
end Go.Av
namespace Go.Proofs.YtjdnhamngpafmaaGreat
open Go.Av Tryz
def JO(b:Nat)(ls:List (List Int)):List A2:=ls.mapIdx fun j l=>.A3 1 (l.map aI) (.tok (b+j))
variable {b j:Nat}{ls:List (List Int)}
theorem qgb{l:List Int}(h:ls[j]?=some l):(JO b ls)[j]?=some (.A3 1 (l.map aI) (.tok (b+j))):=by
 simp[JO,h]
theorem qgc(l:List Int):(JO b ls).set j (.A3 1 (l.map aI) (.tok (b+j)))=JO b (ls.set j l):=by
 apply Gg;intro i;simp only[JO,FD,UR,pS];by_cases e:j=i
 ·subst e;by_cases hl:j<ls.length
  ·simp[hl]
  simp[hl]
 simp[e]
theorem ld(b:Nat)(ls:List (List Int)):(JO b ls).length=ls.length:=by simp[JO]
theorem vq(b n:Nat):JO b (List.replicate n [])=(List.range n).map fun j=>.A3 1 [] (.tok (b+j)):=by
 apply Gg;intro i;simp only[JO,UR,Bv];by_cases h:i<n
 ·simp[h]
 simp[h]
theorem qdD(b:Nat)(ls:List (List Int)):(JO b ls).map A2.Dd=AP (ls.map AA):=by
 have h1:AP (ls.map AA)=ls.map AA:=by
  induction ls with
  | nil=>rfl
  | cons l r ih =>
   simp only[Bc,AP,GF]at ih ⊢;rw[ih];rfl
 rw[h1];apply Gg;intro i;simp only[JO,Bv,UR];cases ls[i]? with
 | none=>rfl
 | some l =>
  simp only[FV,AM];rw[gf]
theorem uy{n:Nat}(h:b+ls.length<=n):AQ n (JO b ls):=by
 rw[CF];intro x hx;obtain⟨j,hj⟩:=List.mem_iff_getElem?.1 hx;simp only[JO,UR]at hj;cases hl:ls[j]? with
 | none=>rw[hl]at hj;cases hj
 | some l =>
  rw[hl]at hj;simp only[FV,AM]at hj;subst hj;have:=AE hl;exact⟨BU _ _,show _<_ from I⟩
theorem LK{cs:List A2}(x:A2)(h:j<cs.length):As cs j [x]=cs.set j x:=by
 apply Gg;intro i;rw[Xl Ai,FD];simp only[CE,GD,Db];by_cases e:j=i
 ·subst e;simp[h]
 rw[A4 I,A4 e]
structure PO(ls:List (List Int))(O:List A8):Prop where
 len:O.length=ls.length+2
 arr:O[1]?=some (.cells (JO 2 ls))
 sp:∀j l,ls[j]?=some l->O[2+j]?=some (.spare l.length)
 up:∀o∈O,o.upto O.length
variable {O:List A8}
theorem PO.push(h:PO ls O){j:Nat}{l:List Int}(hj:ls[j]?=some l)(k:Int):PO (ls.set j (l++[k])) ((O.set (2+j) (.spare (l.length+1))).set 1 (.cells (JO 2 (ls.set j (l++[k]))))):=by
 have AF:=AE hj;have hl:=h.len;refine⟨jV,?_,fun i m hi=>?_,?_⟩
 ·rw[Bb Ai]
 ·rw[Ap I];by_cases e:j=i
  ·subst e;rw[Bb AF]at hi;simp only[AM]at hi;subst hi;rw[Bb I];simp
  rw[Ap e]at hi;rw[Ap I];exact h.sp i m hi
 have h1:∀o∈O.set (2+j) (.spare (l.length+1)),o.upto O.length:=DY h.up trivial;have h2:=DY (k:=1) (x:=.cells (JO 2 (ls.set j (l++[k])))) h1 (by
  show AQ _ _;exact uy (by simp[hl];omega))
 simpa using h2
def Ka(k:Nat)(ls:List (List Int))(e:Edge):List (List Int):=ls.set e.block.toNat ((ls[e.block.toNat]?.getD [])++[(k:Int)])
def LV(k:Nat)(ls:List (List Int))(es:List Edge):List (List Int):=es.foldl (Ka k) ls
def N3:Nat->List (List Int)->List Block->List (List Int)
 | _,ls,[]=>ls
 | k,ls,b::r=>N3 (k+1) (LV k ls b.term.to) r
def Eb(f:Func):List (List Int):=N3 0 (List.replicate f.blocks.length []) f.blocks
theorem su(k:Nat)(ls:List (List Int))(e:Edge):(Ka k ls e).length=ls.length:=by simp[Ka]
theorem kX(k:Nat):∀(es:List Edge) (ls:List (List Int)),(LV k ls es).length=ls.length
 | [],_=>rfl
 | e::r,ls=>by
  show(LV k (Ka k ls e) r).length=_;rw[kX k r,su]
theorem tM:∀(l:List Block) (k:Nat) (ls:List (List Int)),(N3 k ls l).length=ls.length
 | [],_,_=>rfl
 | b::r,k,ls=>by
  simp only[N3];rw[tM r,kX]
variable {f:Func}
theorem qkl{t:Term}(Ge:yL f t):t.to.length<=257:=by
 rcases(show(t.kind=0∨t.kind=4)∨t.kind=1∨t.kind=2∨t.kind=3 by have:=Ge.kind;omega)with q|q|q|q
 ·rw[Ge.to q];simp
 ·rw[Ge.jump q];omega
 ·rw[Ge.cond q];omega
 rw[Ge.switch q];have:=Ge.cases;omega
theorem vF(f:Func):(Eb f).length=f.blocks.length:=by simp[Eb,tM]
theorem ux(n:Nat):(List.replicate n [A2.A3 1 [] .ex]).flatten=List.replicate n (.A3 1 [] .ex):=by
 induction n with
 | zero=>rfl
 | succ n ih=>rw[KG,UW,ih,KG];rfl
def Ir(x v:Int):Int:=max x (v+1)
def Gx(b:Block):List Int:=b.params++b.ins.map Ins.to
def G8(f:Func):List Int:=f.blocks.flatMap Gx
def QC(f:Func):Int:=(G8 f).foldl Ir 0
theorem aeg(AN:∀o∈O,o.upto O.length){A:Nat}{x:Int}(hA:O[A]?=some (.cells [aI x]))(v:Int)(hv:0<=v∧v<=2 ^ 60) :
  Aq prog 61 O [aI v,.mp A 0] (fun r O'=>r=.Ab []∧O'=O.set A (.cells [aI (Ir x v)])):=by
 have Mf:=AE hA;have BA:(O.set A (.cells [aI (Ir x v)])).take O.length=O.set A (.cells [aI (Ir x v)]):=LI;have IX:∀o∈O.set A (.cells [aI (Ir x v)]),o.upto O.length:=DY AN ⟨trivial,trivial⟩;unfold Ir at *;refine zf true O.length func61 ntmps61 ?_;refine MM ?_;refine Dn ?_;refine Gi hA ?_
 refine Ef ?_
 refine Ga ?_;simp -dsimp only[simprocAttr,↓AG,zp,zr,results61,BA,B2];exact⟨IX,trivial⟩
def nK(f:Func):Prop:=∀v∈G8 f,0<=v∧v<=4095
variable {v:Int}
theorem lb{x:Int}(hx:x<=4096)(hv:v<=4095):Ir x v<=4096:=by
 unfold Ir;omega
theorem aef:∀(l:List Int) (x:Int),x<=4096->(∀v∈l,v<=4095)->l.foldl Ir x<=4096
 | [],_,hx,_=>hx
 | v::r,x,hx,h=>aef r _ (lb hx (h v A6)) (fun w hw=>h w (by simp[hw]))
theorem aee:∀(l:List Int) (x:Int),x<=l.foldl Ir x∧∀v∈l,v<l.foldl Ir x
 | [],_=>⟨OK _,A6⟩
 | v::r,x=>by
  have ih:=aee r (Ir x v);have:x<=Ir x v∧v<Ir x v:=by unfold Ir;omega
  simp only[HG];refine⟨I,fun w hw=>?_⟩;rcases List.mem_cons.1 hw with q|q
  ·subst q;omega
  exact ih.2 w q
theorem qcC(AN:∀o∈O,o.upto O.length){A:Nat}(f:Func)(hf:nK f)(CN:f.blocks.length<=2 ^ 47)(hbp:∀b∈f.blocks,b.params.length<=2 ^ 47∧b.ins.length<=2 ^ 47)(hA:O[A]?=some (.cells [aI 0])) :
  Aq prog 60 O [f.enc,.fn (.func 61) [] [.mp A 0]] (fun r O'=>r=.Ab []∧O'=O.set A (.cells [aI (QC f)])):=by
 have Mf:=AE hA;obtain⟨R,hR⟩:∃R,R=QC f:=⟨_,rfl⟩
 rw[<-hR];unfold QC G8 at hR;have hgt:∀x,(O.set A x)[A]?=some x:=fun x=>Bb Mf;have EC:∀x:Int,∀o∈O.set A (.cells [aI x]),o.upto (O.set A (.cells [aI x])).length:=fun x=>by
  rw[B2];exact DY AN ⟨trivial,trivial⟩
 have hlen:∀x,(O.set A x).length=O.length:=fun x=>B2;have FI:O.set A (.cells [aI 0])=O:=Y1 hA;have BA:∀x:Int,(O.set A (.cells [aI x])).take O.length=O.set A (.cells [aI x]):=fun x=>LI;have Au:∀x y,(O.set A x).set A y=O.set A y:=fun x y=>Hr ..;refine zf true O.length func60 ntmps60 ?_;refine Cw ?_;refine G4 2 ([aI f.name,AR f.blocks]) [(1,.fn (.func 61) [] [.mp A 0]),(2,.ip none [aI f.name,AR f.blocks])] rfl CX I Dc ?_ ?_ ?_
 ·exact AN
 ·simp[A2.upto,AQ,BU,Block.AX,Mf]
 refine Cc ?_;refine Al (BZ (ι:={x:Nat×Int // x.1<=f.blocks.length∧R=((f.blocks.drop x.1).flatMap Gx).foldl Ir x.2∧x.2<=4096}) (fun x=>⟨41,[(1,.fn (.func 61) [] [.mp A 0]),(11,AR f.blocks),(12,aI f.blocks.length),(13,aI x.1.1)],O.set A (.cells [aI x.1.2])⟩) (fun x=>f.blocks.length-x.1.1) ⟨(0,0),A6,hR,A6⟩ ?_ ?_)
 ·refine C6 ?_;exact FI.symm
 rintro⟨⟨k,x⟩,hk,Af,hx⟩;simp only at hk Af hx;refine C3 (fun h=>?_) (fun h=>?_)
 ·refine Az ?_;have AF:k<f.blocks.length:=Aa
  obtain⟨b,hb⟩:∃b,f.blocks[k]?=some b:=⟨f.blocks[k],Gu⟩
  have C5:=AK hb;have hbv:∀v∈Gx b,0<=v∧v<=4095:=fun v hv=>hf v (List.mem_flatMap.2 ⟨b,C5,hv⟩);rw[D9 hb]at Af;rw[GF,dE,Gx,dE]at Af;have hbp:=hbp b C5;have XW:=hlen (.cells [aI x]);refine DR hb ?_;refine G4 5 ([AA b.params,B7 b.ins,aI b.term.kind,aI b.term.arg,aI b.term.n,AA b.term.cases,An b.term.to]) [(1,.fn (.func 61) [] [.mp A 0]),(5,.ip none [AA b.params,B7 b.ins,aI b.term.kind,aI b.term.arg,aI b.term.n,AA b.term.cases,An b.term.to]),(11,AR f.blocks),(12,aI f.blocks.length),(13,aI k)] rfl CX I Dc ?_ ?_ ?_
  ·exact EC x
  ·simp[A2.upto,AQ,BU,Block.AX,Edge.AX,Ins.AX,Mf]
  refine BF ?_;refine Al (BZ (ι:={y:Nat×Int // y.1<=b.params.length∧R=((f.blocks.drop (k+1)).flatMap Gx).foldl Ir ((b.ins.map Ins.to).foldl Ir ((b.params.drop y.1).foldl Ir y.2))∧y.2<=4096}) (fun y=>⟨41,[(1,.fn (.func 61) [] [.mp A 0]),(5,.ip none [AA b.params,B7 b.ins,aI b.term.kind,aI b.term.arg,aI b.term.n,AA b.term.cases,An b.term.to]),(11,AR f.blocks),(12,aI f.blocks.length),(13,aI k),(18,AA b.params),(19,aI b.params.length),(20,aI y.1.1)],O.set A (.cells [aI y.1.2])⟩) (fun y=>b.params.length-y.1.1) ⟨(0,x),A6,Af,hx⟩ ?_ ?_)
  ·exact JU
  rintro⟨⟨j,y⟩,hj,Bk,hy⟩;simp only at hj Bk hy;refine C3 (fun h=>?_) (fun h=>?_)
  ·refine Az ?_;have yl:j<b.params.length:=Aa
   obtain⟨v,hv⟩:∃v,b.params[j]?=some v:=⟨b.params[j],by simp[yl]⟩
   rw[D9 hv,HG]at Bk;have hvr:=hbv v (by simp[Gx,AK hv]);have B0:=aeg (EC y) (hgt _) v ⟨hvr.1,I⟩;rw[Au]at B0;refine DR hv ?_;refine adP ?_;refine⟨⟨(j+1,Ir y v),yl,Bk,lb hy hvr.2⟩,Ai,?_⟩;refine Ba ?_ ?_
   ·exact BY
   rfl
  refine BO ?_;have Gl:j=b.params.length:=Ee
  subst Gl;rw[F',RY]at Bk;refine Cc ?_;refine Al (BZ (ι:={z:Nat×Int // z.1<=b.ins.length∧R=((f.blocks.drop (k+1)).flatMap Gx).foldl Ir (((b.ins.drop z.1).map Ins.to).foldl Ir z.2)∧z.2<=4096}) (fun z=>⟨41,[(1,.fn (.func 61) [] [.mp A 0]),(11,AR f.blocks),(12,aI f.blocks.length),(13,aI k),(29,B7 b.ins),(30,aI b.ins.length),(31,aI z.1.1)],O.set A (.cells [aI z.1.2])⟩) (fun z=>b.ins.length-z.1.1) ⟨(0,y),A6,Bk,hy⟩ ?_ ?_)
  ·exact JU
  rintro⟨⟨q,z⟩,hq,Kn,hz⟩;simp only at hq Kn hz;refine C3 (fun h=>?_) (fun h=>?_)
  ·refine Az ?_;have ym:q<b.ins.length:=Aa
   obtain⟨i,hi⟩:∃i,b.ins[q]?=some i:=⟨b.ins[q],by simp[ym]⟩
   rw[D9 hi,Bc,HG]at Kn;have hvr:=hbv i.to (by simp only[Gx,HY,JQ];exact .inr ⟨i,AK hi,rfl⟩);have B0:=aeg (EC z) (hgt _) i.to ⟨hvr.1,I⟩;rw[Au]at B0;have XW:=hlen (.cells [aI z]);refine DR hi ?_;refine G4 9 ([aI i.to,aI i.op,aI i.n,AA i.args]) [(1,.fn (.func 61) [] [.mp A 0]),(9,.ip none [aI i.to,aI i.op,aI i.n,AA i.args]),(11,AR f.blocks),(12,aI f.blocks.length),(13,aI k),(29,B7 b.ins),(30,aI b.ins.length),(31,aI q)] rfl CX I Dc ?_ ?_ ?_
   ·exact EC z
   ·simp[A2.upto,AQ,BU,Block.AX,Edge.AX,Ins.AX,Mf]
   refine adP ?_;refine⟨⟨(q+1,Ir z i.to),ym,Kn,lb hz hvr.2⟩,Ai,?_⟩;refine Ba ?_ ?_
   ·exact BY
   rfl
  refine BO ?_;have hqq:q=b.ins.length:=Ee
  subst hqq;rw[F',Ed,RY]at Kn;refine Bw ?_;refine⟨⟨(k+1,z),AF,Kn,hz⟩,Ai,?_⟩;refine Ba ?_ ?_
  ·exact BY
  rfl
 refine BO ?_;have Bh:k=f.blocks.length:=Ee
 subst Bh;rw[F',List.flatMap_nil,RY]at Af;subst Af
 skip
 simp -dsimp only[simprocAttr,↓AG,zp,zr,results60,BA,B2];have:=EC R;rw[hlen]at this;exact⟨this,trivial⟩
theorem qdX(f:Func)(hf:nK f)(CN:f.blocks.length<=2 ^ 47)(hbp:∀b∈f.blocks,b.params.length<=2 ^ 47∧b.ins.length<=2 ^ 47):BR prog 34 [f.enc] (aI (QC f)):=by
 have Ma:=qcC (O:=[.gone,.cells [aI 0]]) (A:=1) abE f hf CN hbp rfl;refine zf true 0 func34 ntmps34 ?_;refine KK ?_ ?_
 ·refine Cc ?_;refine BM ?_;refine .inr (.inl ⟨_,_,Ma,.inl (B4 (zj ?_))⟩);refine Ak ?_;refine D7 ?_;simp -dsimp only[simprocAttr,↓AG,zp,zr,results34]
 exact Be
def RP(k:Int)(l:List Int):Defs:=l.map fun p=>(p,(k,0))
def Sn(k:Int):Int->List Ins->Defs
 | _,[]=>[]
 | n,i::r=>(i.to,(k,n+1))::Sn k (n+1) r
def UI(k:Int)(b:Block):Defs:=RP k b.params++Sn k 0 b.ins
def Sm:Int->List Block->Defs
 | _,[]=>[]
 | k,b::r=>UI k b++Sm (k+1) r
variable {p:Int×Int}
theorem iE{ds:Defs}(h:(Ip ds v p).1=0):(Ip ds v p).2=ds++[(v,p)]:=by
 unfold Ip at h ⊢;split at h
 ·simp at h
 rename_i h1;rw[A4 h1];split at h
 ·simp at h
 rename_i h2;rw[A4 h2]
theorem sg(k:Int):∀(l:List Int) (ds:Defs),(Je k ds l).1=0->(Je k ds l).2=ds++RP k l
 | [],ds,_=>by simp[Je,RP]
 | p::r,ds,h=>by
  simp only[Je]at h ⊢;split at h
  ·rename_i AT;exact B3 h AT
  rename_i he;rw[A4 he,sg k r _ h,iE dW];simp[RP]
theorem xM(k:Int):∀(l:List Ins) (n:Int) (ds:Defs),(Ke k n ds l).1=0->(Ke k n ds l).2=ds++Sn k n l
 | [],n,ds,_=>by simp[Ke,Sn]
 | i::r,n,ds,h=>by
  simp only[Ke]at h ⊢;split at h
  ·rename_i AT;exact B3 h AT
  rename_i he;split at h
  ·rename_i hf;exact B3 h hf
  rename_i hf;rw[A4 he,A4 hf,xM k r _ _ h,iE dW];simp[Sn]
theorem ui{ds:Defs}{k:Int}(h:(KW f ds k).1=0):(KW f ds k).2=ds++UI k (A7 f k):=by
 unfold KW at h ⊢;split at h
 ·rename_i AT;exact B3 h AT
 rename_i hp;split at h
 ·rename_i AT;exact B3 h AT
 rename_i hi;rw[A4 hp,A4 hi];simp only;rw[xM k _ _ _ T5,sg k _ _ (by simpa using hp),UI,Ez]
theorem sR{f:Func}:∀(n k:Nat) (ds:Defs),k+n=f.blocks.length->(I0 f n k ds).1=0->(I0 f n k ds).2=ds++Sm k (f.blocks.drop k)
 | 0,k,ds,hk,_=>by
  rw[KD I];simp[I0,Sm]
 | n+1,k,ds,hk,h=>by
  simp only[I0]at h ⊢;split at h
  ·rename_i AT;exact B3 h AT
  rename_i he;rw[A4 he];have hb:f.blocks[k]?=some f.blocks[k]:=AY I;have ih:=sR n (k+1) (KW f ds k).2 I h;have e:((k+1:Nat):Int)=(k:Int)+1:=I
  rw[e]at ih;rw[ih,ui dW,D9 hb,Sm,Ez];congr 3;simp[A7,hb]
def Lj(f:Func):Defs:=Sm 0 f.blocks
theorem Vd.ds(AO:f.fit)(h:Cj f=0):(I0 f f.blocks.length 0 []).2=Lj f∧N5 f.blocks.length (Lj f):=by
 have he:(I0 f f.blocks.length 0 []).1=0:=by
  unfold Cj at h;split at h
  ·simp at h
  split at h
  ·simp at h
  split at h
  ·simp at h
  split at h
  ·rename_i h4;exact B3 h h4
  rename_i h4;simpa using h4
 have e:=sR f.blocks.length 0 [] I he;rw[I7,HF]at e;have hw:=(iB f.blocks.length 0 [] (.nil _) I A6 he).1;have e':(I0 f f.blocks.length 0 []).2=Lj f:=e;rw[e']at hw;exact⟨e',hw⟩
theorem tH{ds:Defs}(hn:(ds.map (·.1)).Nodup){v:Int}{p:Int×Int}:Hm ds v=some p↔(v,p)∈ds:=by
 induction ds with
 | nil=>simp[Hm]
 | cons e r ih =>
  obtain⟨a,q⟩:=e;simp only[Bc,UX,JQ,not_exists,not_and]at hn;have ih:=ih hn.2;simp only[Hm,CL,NB];by_cases h:a=v
  ·subst h;rw[A9 rfl];constructor
   ·intro h;simp only[AM]at h;exact .inl ⟨rfl,h.symm⟩
   rintro(⟨_,h⟩|h)
   ·rw[h]
   exact B3 rfl (hn.1 _ h)
  rw[A4 h,ih];constructor
  ·exact .inr
  rintro(⟨h1,_⟩|h1)
  ·exact B3 h1.symm h
  exact h1
theorem sE{k:Int}{v:Int}{p:Int×Int}:∀(l:List Ins) (n:Int),(v,p)∈Sn k n l↔∃(j:Nat) (i:Ins),l[j]?=some i∧i.to=v∧p=(k,n+j+1)
 | [],n=>by simp[Sn]
 | i::r,n=>by
  simp only[Sn,CL,NB];rw[sE r (n+1)];constructor
  ·rintro(⟨h1,h2⟩|⟨j,x,h1,h2,h3⟩)
   ·exact⟨0,i,rfl,h1.symm,KI⟩
   exact⟨j+1,x,h1,h2,by rw[h3];congr 1;omega⟩
  rintro⟨j,x,h1,h2,h3⟩;cases j with
  | zero =>
   simp only[Dh,AM]at h1;subst h1;exact .inl ⟨h2.symm,Ug⟩
  | succ j=>exact .inr ⟨j,x,h1,h2,by rw[h3];congr 1;omega⟩
theorem ael{v:Int}{p:Int×Int}:∀(l:List Block) (k:Int),(v,p)∈Sm k l↔∃(j:Nat) (b:Block),l[j]?=some b∧(v,p)∈UI (k+j) b
 | [],k=>by simp[Sm]
 | b::r,k=>by
  rw[Sm,HY,ael r (k+1)];constructor
  ·rintro(h|⟨j,x,h1,h2⟩)
   ·exact⟨0,b,rfl,Aa⟩
   exact⟨j+1,x,h1,by rw[show k+((j+1:Nat):Int)=k+1+j from I];exact h2⟩
  rintro⟨j,x,h1,h2⟩;cases j with
  | zero =>
   simp only[Dh,AM]at h1;subst h1;exact .inl KI
  | succ j=>exact .inr ⟨j,x,h1,by rw[show k+((j+1:Nat):Int)=k+1+j from I]at h2;exact h2⟩
def Rr(f:Func)(v:Int)(p:Int×Int):Prop:=∃(k:Nat) (b:Block),f.blocks[k]?=some b∧p.1=k∧((p.2=0∧v∈b.params)∨∃(j:Nat) (i:Ins),b.ins[j]?=some i∧i.to=v∧p.2=j+1)
theorem lP:(v,p)∈Lj f↔Rr f v p:=by
 obtain⟨p1,p2⟩:=p;rw[Lj,ael];constructor
 ·rintro⟨k,b,h1,h2⟩;rw[UI,HY]at h2;rcases h2 with h2|h2
  ·simp only[RP,JQ,NB]at h2;obtain⟨x,h3,h4,h5,h6⟩:=h2;subst h4;exact⟨k,b,h1,D6,.inl ⟨h6.symm,h3⟩⟩
  obtain⟨j,i,h3,h4,h5⟩:=(sE _ _).1 h2;simp only[NB]at h5;exact⟨k,b,h1,D6,.inr ⟨j,i,h3,h4,D6⟩⟩
 rintro⟨k,b,h1,h2,h3⟩;simp only at h2 h3;subst h2;refine⟨k,b,h1,?_⟩;rw[UI,HY];rcases h3 with⟨h3,h4⟩|⟨j,i,h3,h4,h5⟩
 ·subst h3;exact .inl (by simpa[RP]using h4)
 exact .inr ((sE _ _).2 ⟨j,i,h3,h4,by subst h5;simp⟩)
theorem sC(k:Int):∀(l:List Ins) (n:Int),(Sn k n l).map (·.1)=l.map Ins.to
 | [],_=>rfl
 | i::r,n=>by rw[Sn,Bc,sC k r,Bc]
theorem aev:∀(l:List Block) (k:Int),(Sm k l).map (·.1)=l.flatMap Gx
 | [],_=>rfl
 | b::r,k=>by
  rw[Sm,Dx,aev r,GF,UI,Dx,sC,Gx,RP,HV];congr 2;exact Y9 _
theorem lN(f:Func):(Lj f).map (·.1)=G8 f:=aev _ _
variable {k:Nat}
theorem qco{S:Ds}{e:Edge}(h:(Gd k S e).again=false):Gd k S e=S∧((S.at_ e.block.toNat).meet (S.at_ k)).add e.block.toNat=S.at_ e.block.toNat∧S.seen.has e.block.toNat=true:=by
 unfold Gd at h ⊢;simp only at h ⊢;split at h
 ·cases h
 rename_i hc;rw[A4 hc];simp only[LW,not_or,Decidable.not_not,ib]at hc;exact⟨rfl,hc⟩
theorem Ao{k:Nat}:∀(l:List Edge) {S:Ds},(l.foldl (Gd k) S).again=false->l.foldl (Gd k) S=S∧∀e∈l,((S.at_ e.block.toNat).meet (S.at_ k)).add e.block.toNat=S.at_ e.block.toNat∧S.seen.has e.block.toNat=true
 | [],S,_=>⟨rfl,A6⟩
 | e::r,S,h=>by
  rw[HG]at h;have ih:=Ao r h;rw[ih.1]at h;have h1:=qco h;rw[HG,ih.1,h1.1];rw[h1.1]at ih;refine⟨rfl,fun x hx=>?_⟩;rcases List.mem_cons.1 hx with q|q
  ·subst q;exact h1.2
  exact ih.2 x q
theorem F2:∀(l:List Block) (k:Nat) {S:Ds},(Jg k S l).again=false->Jg k S l=S∧∀(j:Nat) b,l[j]?=some b->S.seen.has (k+j)=true->∀e∈b.term.to,((S.at_ e.block.toNat).meet (S.at_ (k+j))).add e.block.toNat=S.at_ e.block.toNat∧S.seen.has e.block.toNat=true
 | [],k,S,_=>⟨rfl,fun j b h=>MI⟩
 | b::r,k,S,h=>by
  rw[Jg]at h;have ih:=F2 r (k+1) h;rw[ih.1]at h;have h1:OU k S b=S∧(S.seen.has k=true->∀e∈b.term.to,((S.at_ e.block.toNat).meet (S.at_ k)).add e.block.toNat=S.at_ e.block.toNat∧S.seen.has e.block.toNat=true):=by
   unfold OU at h ⊢;split
   ·rename_i hs;exact⟨rfl,fun q=>by rw[hs]at q;cases q⟩
   rename_i hs;rw[A4 hs]at h;have:=Ao _ h;exact⟨this.1,fun _=>this.2⟩
  rw[Jg,ih.1,h1.1];rw[h1.1]at ih;refine⟨rfl,fun j x hj hs=>?_⟩;cases j with
  | zero =>
   simp only[Dh,AM]at hj;subst hj;exact h1.2 hs
  | succ j =>
   rw[show k+(j+1)=k+1+j from I]at hs ⊢;exact ih.2 j x hj hs
theorem uT{f:Func}(he:∀b∈f.blocks,∀e∈b.term.to,0<=e.block∧e.block.toNat<f.blocks.length):∀(n:Nat) {S:Ds},JL f.blocks.length S->(S.again=true->S.weight<n)->(HE f n S).again=false
 | 0,S,_,h=>by
  cases hs:S.again with
  | false=>exact hs
  | true=>exact B3 (h hs) I
 | n+1,S,hS,h=>by
  simp only[HE];split
  ·rename_i ha;have hw:=h ha;have hr:=eo f.blocks (k:=0) (S:=⟨S.over,S.seen,false⟩) ⟨hS.few,hS.len,hS.fit,hS.seen,hS.self⟩ he;have hwS:(⟨S.over,S.seen,false⟩:Ds).weight=S.weight:=rfl;refine uT he n hr.1 fun q=>?_;rcases hr.2.2 q with q|q
   ·cases q
   omega
  rename_i ha;simpa using ha
structure Dz(S:Ds):Prop where
 zero:S.at_ 0=Bs.none.add 0
 seen:S.seen.has 0=true
theorem qk1{n:Nat}{S:Ds}(h:Dz S){e:Edge}(h1:1<=e.block)(h2:e.block.toNat<n)(h3:n<=128):Dz (Gd k S e):=by
 unfold Gd;simp only;split
 ·refine⟨?_,?_⟩
  ·have:=h.zero;unfold Ds.at_ at this ⊢;simp only;rw[Ap I];exact Cd
  simp only;rw[Bs.has_add _ _ _ I I,h.seen];rfl
 exact h
theorem xR{n k:Nat}(h3:n<=128):∀(l:List Edge) {S:Ds},Dz S->(∀e∈l,1<=e.block∧e.block.toNat<n)->Dz (l.foldl (Gd k) S)
 | [],_,h,_=>h
 | e::r,S,h,he=>xR h3 r (qk1 h (he e A6).1 (he e A6).2 h3) fun x hx=>he x QQ
theorem xT{n:Nat}(h3:n<=128):∀(l:List Block) {k:Nat} {S:Ds},Dz S->(∀b∈l,∀e∈b.term.to,1<=e.block∧e.block.toNat<n)->Dz (Jg k S l)
 | [],_,_,h,_=>h
 | b::r,k,S,h,he=>by
  refine xT h3 r (k:=k+1) ?_ fun x hx=>he x QQ;unfold OU;split
  ·exact h
  exact xR h3 _ h (he b A6)
theorem xS{f:Func}(h3:f.blocks.length<=128)(he:∀b∈f.blocks,∀e∈b.term.to,1<=e.block∧e.block.toNat<f.blocks.length):∀(n:Nat) {S:Ds},Dz S->Dz (HE f n S)
 | 0,_,h=>h
 | n+1,S,h=>by
  simp only[HE];split
  ·exact xS h3 he n (xT h3 _ (S:=⟨S.over,S.seen,false⟩) ⟨h.zero,h.seen⟩ he)
  exact h
theorem uU{f:Func}:∀(n:Nat) {S:Ds},S.again=true->(HE f n S).again=false->∃T:Ds,HE f n S=Jg 0 T f.blocks
 | 0,S,h1,h2=>by
  rw[HE,h1]at h2;cases h2
 | n+1,S,h1,h2=>by
  simp only[HE,h1,L4]at h2 ⊢;cases hr:(Jg 0 ⟨S.over,S.seen,false⟩ f.blocks).again with
  | false=>exact⟨_,uS hr n⟩
  | true=>exact uU n hr h2
def MC(f:Func)(k:Nat):Bs:=(JM f).1[k]?.getD .none
def Ky(f:Func)(k:Nat):Bool:=(JM f).2.has k
structure Z5(f:Func):Prop where
 seen:Ky f 0=true
 zero:∀j,j<128->((MC f 0).has j=true↔j=0)
 self:∀k,k<f.blocks.length->(MC f k).has k=true
 step:∀(k:Nat) b,f.blocks[k]?=some b->Ky f k=true->∀e∈b.term.to,Ky f e.block.toNat=true∧∀j,j<128->((MC f e.block.toNat).has j=true->j=e.block.toNat∨(MC f k).has j=true)
theorem qk2(h0:f.blocks≠[])(h1:f.blocks.length<=128)(he:∀b∈f.blocks,∀e∈b.term.to,1<=e.block∧e.block<f.blocks.length):Z5 f:=by
 have Fu:∀b∈f.blocks,∀e∈b.term.to,0<=e.block∧e.block.toNat<f.blocks.length:=fun b hb e hx=>abi
 have Gw:∀b∈f.blocks,∀e∈b.term.to,1<=e.block∧e.block.toNat<f.blocks.length:=fun b hb e hx=>abi
 have hl:=List.length_pos_iff.2 h0;have hS:=mA h0 h1;have hw0:=uq hS;have hz0:Dz (JN f):=⟨by unfold Ds.at_ JN;simp only;rw[Bb OL];rfl,by show(Bs.none.add 0).has 0=true;decide⟩
 have Ge:=uT Fu 20000 hS (fun _=>I);have hz:=xS h1 Gw 20000 hz0;obtain⟨T,hT⟩:=uU 20000 rfl Ge;have EU:JL f.blocks.length (HE f 20000 (JN f)):=by
  have key:∀(n:Nat) (S:Ds),JL f.blocks.length S->JL f.blocks.length (HE f n S):=fun n=>by
   induction n with
   | zero=>exact fun S h=>h
   | succ n ih =>
    intro S h;simp only[HE];split
    ·exact ih _ (eo f.blocks (k:=0) (S:=⟨S.over,S.seen,false⟩) ⟨h.few,h.len,h.fit,h.seen,h.self⟩ Fu).1
    exact h
  exact key _ _ hS
 have hTa:=F2 f.blocks 0 (S:=T) (by rw[<-hT];exact Ge);have yd:=hTa.2;rw[show T=HE f 20000 (JN f) from hTa.1.symm.trans hT.symm]at yd;have FT:∀k,MC f k=(HE f 20000 (JN f)).at_ k:=fun k=>rfl;have Pp:∀k,Ky f k=(HE f 20000 (JN f)).seen.has k:=fun k=>rfl;generalize HE f 20000 (JN f)=S at *;refine⟨by rw[Pp,hz.seen],fun j hj=>?_,fun k hk=>by rw[FT];exact EU.self k hk,fun k b hb hs e hx=>?_⟩
 ·rw[FT,hz.zero,Bs.has_add _ _ _ I hj];have:Bs.none.has j=false:=pt
  simp[this]
 have Xf:=Gw b (AK hb) e hx;obtain⟨q1,q2⟩:=yd k b hb (by rw[Db,<-Pp];exact hs) e hx;rw[Db]at q1;refine⟨by rw[Pp];exact q2,fun j hj q=>?_⟩;rw[FT,<-q1,Bs.has_add _ _ _ I hj,Bs.th]at q;rw[FT];simp only[Hq,F0,Cp]at q;rcases q with q|q
 ·exact .inr q.2
 exact JV
theorem tr{ds:Defs}(h:Hm ds v=some p):(v,p)∈ds:=by
 induction ds with
 | nil=>cases h
 | cons e r ih =>
  obtain⟨a,q⟩:=e;simp only[Hm]at h;split at h
  ·rename_i e;simp only[AM]at h;rw[e,h];simp
  exact List.mem_cons.2 (.inr (ih h))
def Ru(f:Func)(k:Nat)(n:Int)(v:Int):Prop:=∃p,Rr f v p∧(Ky f k=true->(p.1=k∧p.2<=n)∨(p.1≠k∧(MC f k).has p.1.toNat=true))
theorem mF{n:Int}(h:Ku (Lj f) (JM f).1 (JM f).2 k n v=true):Ru f k n v:=by
 unfold Ku at h;cases hl:Hm (Lj f) v with
 | none=>rw[hl]at h;cases h
 | some p =>
  rw[hl]at h;refine⟨p,lP.1 (tr hl),fun hs=>?_⟩;have Pn:(JM f).2.has k=true:=hs;simp only[Pn,Y8,iO,Hq,F0,Cp,OI,Kf]at h;exact h
structure fg(f:Func):Prop where
 ins:∀(k:Nat) b,f.blocks[k]?=some b->∀(n:Nat) i,b.ins[n]?=some i->∀a∈i.args,Ru f k n a
 arg:∀(k:Nat) b,f.blocks[k]?=some b->b.term.kind≠1->b.term.kind≠4->Ru f k b.ins.length b.term.arg
 args:∀(k:Nat) b,f.blocks[k]?=some b->∀e∈b.term.to,∀a∈e.args,Ru f k b.ins.length a
theorem aeh{ds:Defs}{over:List Bs}{seen:Bs}{k:Nat}:∀(l:List Ins) (n:Nat),Sk ds over seen k n l=true->∀(j:Nat) i,l[j]?=some i->∀a∈i.args,Ku ds over seen k ((n+j:Nat):Int) a=true
 | [],_,_=>fun j i h=>by simp at h
 | x::r,n,h=>fun j i hj a ha=>by
  simp only[Sk,F0,OJ]at h;cases j with
  | zero =>
   simp only[Dh,AM]at hj;subst hj;exact h.1 a ha
  | succ j =>
   rw[show n+(j+1)=n+1+j from I];exact aeh r (n+1) h.2 j i hj a ha
theorem aew{ds:Defs}{over:List Bs}{seen:Bs}:∀(l:List Block) (k:Nat),Q7 ds over seen k l=true->∀(j:Nat) b,l[j]?=some b->W8 ds over seen (k+j) b=true
 | [],_,_=>fun j i h=>by simp at h
 | x::r,k,h=>fun j b hj=>by
  simp only[Q7,F0]at h;cases j with
  | zero =>
   simp only[Dh,AM]at hj;subst hj;exact h.1
  | succ j =>
   rw[show k+(j+1)=k+1+j from I];exact aew r (k+1) h.2 j b hj
theorem qku(h:V1 f (Lj f)=0):fg f:=by
 have ha:Q7 (Lj f) (JM f).1 (JM f).2 0 f.blocks=true:=by
  unfold V1 at h;split at h
  ·assumption
  simp at h
 have hb:∀(k:Nat) b,f.blocks[k]?=some b->W8 (Lj f) (JM f).1 (JM f).2 k b=true:=fun k b hk=>by
  have:=aew f.blocks 0 ha k b hk
  rwa [Db]at this
 have hu:∀(k:Nat) b,f.blocks[k]?=some b->Rq b.term (Ku (Lj f) (JM f).1 (JM f).2 k b.ins.length)=true:=fun k b hk=>by
  have:=hb k b hk;simp only[W8,F0]at this;exact this.2
 refine⟨fun k b hk n i hn a ha=>?_,fun k b hk h1 h4=>?_,fun k b hk e he a ha=>?_⟩
 ·have:=hb k b hk;simp only[W8,F0]at this;have:=aeh b.ins 0 this.1 n i hn a ha;rw[Db]at this;exact mF this
 ·have:=hu k b hk;simp only[Rq,F0,Hq,Cp,h1,h4,false_or]at this;exact mF this.1
 have:=hu k b hk;simp only[Rq,F0,OJ]at this;exact mF (this.2 e he a ha)
structure XH(f:Func):Prop where
 fn:Vd f
 Tp:Z5 f
 NL:fg f
 vals:nK f
 nodup:(G8 f).Nodup
 DN:∀b∈f.blocks,∀e∈b.term.to,1<=e.block∧e.block<f.blocks.length
theorem Sa(AO:f.fit)(h:Cj f=0):XH f:=by
 have hw:=Mp AO h;obtain⟨hd,hdw⟩:=Vd.ds AO h;have he:∀b∈f.blocks,∀e∈b.term.to,1<=e.block∧e.block<f.blocks.length:=fun b hb e hx=>by
  have:=((LS (hw.blk b hb).fin).DN e hx).1;omega
 refine⟨hw,qk2 hw.ne hw.few he,qku (by rw[<-hd];exact hw.NL),fun v hv=>?_,?_,he⟩
 ·rw[<-lN]at hv;obtain⟨e,h1,rfl⟩:=List.mem_map.1 hv;exact hdw.range e h1
 rw[<-lN];exact hdw.nodup
theorem Rr.uniq(hv:XH f){v:Int}{p q:Int×Int}(h:Rr f v p)(h':Rr f v q):p=q:=by
 have hn:=hv.nodup;rw[<-lN]at hn;have e1:=(tH hn).2 (lP.2 h);have e2:=(tH hn).2 (lP.2 h');rw[e1]at e2;simpa using e2
theorem XH.below(hv:XH f){v:Int}(h:v∈G8 f):0<=v∧v<QC f∧QC f<=4096 :=
 ⟨(hv.vals v h).1,(aee (G8 f) 0).2 v h,aef _ _ I fun w hw=>(hv.vals w hw).2⟩
def fZ(f:Func):A2:=if Cj f=0 then .Ab [.A3 1 ((Eb f).map AA) .sh,aI 0]else .Ab [.A3 1 [] .sh,aI (Cj f)]
def Va(c:Nat)(ls:List (List Int)):Prop:=∀l∈ls,l.length<=c
theorem Va.push{c:Nat}(h:Va c ls){j:Nat}{l:List Int}(hj:ls[j]?=some l)(k:Int):Va (c+1) (ls.set j (l++[k])):=fun m hm=>by
 rcases KE hm with q|q
 ·have:=h m q;omega
 subst q;have:=h l (AK hj);exact KM
theorem Va.mono{c d:Nat}(h:Va c ls)(hd:c<=d):Va d ls:=fun l hl=>NC (h l hl) hd
theorem u9(f:Func)(AO:f.fit):BR prog 14 [f.enc] (fZ f):=by
 have Jo:=gi f AO;unfold fZ;by_cases hc:Cj f=0
 ·rw[A9 hc];rw[hc]at Jo;have hw:=Mp AO hc;have hn:f.blocks.length<=128:=hw.few;obtain⟨N,hN⟩:∃N,N=f.blocks.length:=⟨_,rfl⟩
  obtain⟨R,hR⟩:∃R,R=Eb f:=⟨_,rfl⟩
  have hRl:R.length=N:=by rw[hR,hN,Eb,tM];simp
  rw[<-hR];unfold Eb at hR;refine zf true 0 func14 ntmps14 ?_;refine KK ?_ ?_
  ·refine Rj ?_;refine AJ (fun h=>?_) (fun h=>?_)
   ·cases h
   refine Az ?_;refine B9 ?_;simp -dsimp only[simprocAttr,↓AG,zp,ux,<-hN];refine⟨I,I,?_⟩;refine Ak ?_;have hpo:PO (List.replicate N []) (([A8.gone,A8.cells []]++List.replicate N (A8.spare 0)).set 1 (.cells ((List.range N).map fun j=>.A3 1 [] (.tok ([A8.gone,A8.cells []].length+j))))):=by
    refine⟨A6,?_,fun j l hj=>?_,?_⟩
    ·rw[Bb A6,vq];rfl
    ·have CK:=AE hj;rw[OG]at CK;rw[Ap I,Dg A6];simp only[CE,GD,Db,Sz];simp[CK]at hj ⊢;rw[hj];rfl
    rw[<-vq];have:=DY (k:=1) (n:=N+2) (x:=.cells (JO 2 (List.replicate N []))) (O:=[A8.gone,A8.cells []]++List.replicate N (A8.spare 0)) (fun o ho=>by
     rcases List.mem_append.1 ho with q|q
     ·simp at q;rcases q with rfl|rfl<;>trivial
     rw[(List.mem_replicate.1 q).2];trivial) (uy Ai)
    exact NI
   show AU prog _ _ _ ⟨_,_,List.set [A8.gone,A8.cells []] 1 (.cells (List.replicate N (A2.A3 1 [] .ex)))⟩;refine qd2 1 N A6 ?_;generalize ([A8.gone,A8.cells []]++List.replicate N (A8.spare 0)).set 1 (.cells ((List.range N).map fun j=>.A3 1 [] (.tok ([A8.gone,A8.cells []].length+j))))=O0 at *;rw[<-hN]at hR;refine Ej ?_;simp -dsimp only[simprocAttr,↓AG,zp,<-hN];refine Ak ?_;refine Al (BZ (ι:={p:Nat×List (List Int)×List A8 // p.1<=N∧PO p.2.1 p.2.2∧p.2.1.length=N∧Va (p.1*257) p.2.1∧R=N3 p.1 p.2.1 (f.blocks.drop p.1)}) (fun p=>⟨50,[(1,.ip none [aI f.name,AR f.blocks]),(5,.ms 1 0 N N),(20,AR f.blocks),(21,aI N),(22,aI p.1.1)],p.1.2.2⟩) (fun p=>N-p.1.1) ⟨(0,_,O0),A6,hpo,A6,by intro l hl;simp[(List.mem_replicate.1 hl).2],hR⟩ ?_ ?_)
   ·refine C6 ?_
    all_goals rfl
   rintro⟨⟨k,ls,O⟩,hk,hp,Nb,Hc,Af⟩;simp only at hk hp Nb Hc Af;have hOl:=hp.len;have AN:=hp.up;refine C3 (fun h=>?_) (fun h=>?_)
   ·refine Az ?_;have AF:k<N:=Aa
    obtain⟨b,hb⟩:∃b,f.blocks[k]?=some b:=⟨f.blocks[k]' I,AY _⟩
    have C5:=AK hb;have Ge:=LS (hw.blk b C5).fin;have DM:b.term.to.length<=257:=by
     rcases(show(b.term.kind=0∨b.term.kind=4)∨b.term.kind=1∨b.term.kind=2∨b.term.kind=3 by have:=Ge.kind;omega)with q|q|q|q
     ·rw[Ge.to q];simp
     ·rw[Ge.jump q];omega
     ·rw[Ge.cond q];omega
     rw[Ge.switch q];have:=Ge.cases;omega
    rw[D9 hb]at Af;simp only[N3]at Af;obtain⟨L1,hL1⟩:∃L1,L1=LV k ls b.term.to:=⟨_,rfl⟩
    rw[<-hL1]at Af;refine DR hb ?_;refine G4 7 ([AA b.params,B7 b.ins,aI b.term.kind,aI b.term.arg,aI b.term.n,AA b.term.cases,An b.term.to]) [(1,.ip none [aI f.name,AR f.blocks]),(5,.ms 1 0 N N),(20,AR f.blocks),(21,aI N),(22,aI k),(6,aI k),(7,.ip none [AA b.params,B7 b.ins,aI b.term.kind,aI b.term.arg,aI b.term.n,AA b.term.cases,An b.term.to])] Dc CX I Dc ?_ ?_ ?_
    ·exact AN
    ·simp[A2.upto,AQ,BU,Edge.AX,Ins.AX,Block.AX,hOl]
    refine Cc ?_;refine Al (BZ (ι:={p:Nat×List (List Int)×List A8 // p.1<=b.term.to.length∧PO p.2.1 p.2.2∧p.2.1.length=N∧Va (k*257+p.1) p.2.1∧L1=LV k p.2.1 (b.term.to.drop p.1)}) (fun p=>⟨50,[(1,.ip none [aI f.name,AR f.blocks]),(5,.ms 1 0 N N),(20,AR f.blocks),(21,aI N),(22,aI k),(6,aI k),(29,An b.term.to),(30,aI b.term.to.length),(31,aI p.1.1)],p.1.2.2⟩) (fun p=>b.term.to.length-p.1.1) ⟨(0,ls,O),A6,hp,Nb,Hc,hL1⟩ ?_ ?_)
    ·refine C6 ?_
     all_goals rfl
    rintro⟨⟨z,ls,O⟩,hz,hp,Nb,Hc,CJ⟩;simp only at hz hp Nb Hc CJ;have hOl:=hp.len;have AN:=hp.up;refine C3 (fun h=>?_) (fun h=>?_)
    ·refine Az ?_;have IA:z<b.term.to.length:=Aa
     obtain⟨e,he⟩:∃e,b.term.to[z]?=some e:=⟨b.term.to[z],Uh⟩
     have GV:=(Ge.DN e (AK he)).1;rw[D9 he]at CJ;simp only[LV,HG]at CJ;obtain⟨j,hj⟩:∃j:Nat,e.block=(j:Int):=⟨e.block.toNat,I⟩
     have hjN:j<N:=I
     obtain⟨l,hl⟩:∃l,ls[j]?=some l:=⟨ls[j]' I,AY _⟩
     have Qn:Ka k ls e=ls.set j (l++[(k:Int)]):=by simp[Ka,hj,hl]
     rw[Qn]at CJ;have DO:=qgb (b:=2) hl;have Bg:=hp.sp j l hl;have Li:=hp.push hl k;have El:=qgc (b:=2) (ls:=ls) (j:=j) (l++[(k:Int)]);rw[Dx]at El;have hlb:=Hc l (AK hl);have ER:=hp.arr;have qlQ:=EY (k:=1) (j:=2+j) (y:=.spare (l.length+1)) ER I;refine DR he ?_;refine G4 9 ([aI e.block,AA e.args]) [(1,.ip none [aI f.name,AR f.blocks]),(5,.ms 1 0 N N),(20,AR f.blocks),(21,aI N),(22,aI k),(6,aI k),(29,An b.term.to),(30,aI b.term.to.length),(31,aI z),(9,.ip none [aI e.block,AA e.args])] Dc CX I Dc ?_ ?_ ?_
     ·exact AN
     ·simp[A2.upto,AQ,BU,Edge.AX,Ins.AX,Block.AX,hOl]
     refine Dn ?_;simp -dsimp only[simprocAttr,↓AG,zp,hj,ER,DO,Bg,qlQ,El,BH,HW,BE,B2];refine⟨I,I,I,I,by rw[ld];omega,?_⟩;refine⟨Vv [1,2+j] O.length [.pure,.pure,.pure,.pure,.pure,.pure,.pure,.rd 0,.pure,.pure,.wr 2 [1],.pure,.wr 2 [0]] Ai Ai rfl rfl CW,Ga ?_⟩;refine rk ?_;have fu:(JO 2 ls).set j (.A3 1 (l.map aI++[.v (.int .i64 k)]) (.tok (2+j)))=JO 2 (ls.set j (l++[(k:Int)])):=El;rw[LK _ (by rw[ld];omega),fu];refine Bw ?_;refine⟨⟨(z+1,_,_),D6,Li,by simp[Nb],Hc.push hl k,CJ⟩,Ai,?_⟩;refine Ba ?_ ?_
     ·exact BY
     rfl
    refine BO ?_;have Oz:z=b.term.to.length:=Ee
    subst Oz;rw[F']at CJ;simp only[LV,RY]at CJ;subst CJ;refine Bw ?_;refine⟨⟨(k+1,_,O),D6,hp,Nb,Hc.mono I,Af⟩,Ai,?_⟩;refine Ba ?_ ?_
    ·exact BY
    rfl
   refine BO ?_;have Bh:k=N:=Ee
   subst Bh;rw[hN,F']at Af;simp only[N3]at Af;subst Af;have qkx:=qdD 2 R;have B8:(JO 2 R).length=k:=by rw[ld,Nb]
   refine Cz 5 1 (o:=.cells (JO 2 R)) (.A3 1 (R.map AA) .sh) hp.arr Bd trivial rfl (Eh.ms (cs:=JO 2 R) hp.arr (by intro x hx;obtain⟨l,_,rfl⟩:=List.mem_map.1 hx;rfl) (by rw[BE,Nb]) (by rw[I7,HW,<-B8,Jk,qkx])) ?_;refine BL ?_;refine D7 ?_;simp -dsimp only[simprocAttr,↓AG,zp,zr,results14];simp only[AQ,A2.upto,FW];rw[CF];intro x hx;obtain⟨l,_,rfl⟩:=List.mem_map.1 hx;exact ai
  exact Be
 rw[A4 hc];obtain⟨e,he⟩:∃e,e=Cj f:=⟨_,rfl⟩
 rw[<-he]at hc Jo ⊢;have Ca:decide (e=0)=false:=Ac hc;refine zf true 0 func14 ntmps14 ?_;refine KK ?_ ?_
 ·refine Rj ?_;refine Uo Ca ?_;simp -dsimp only[simprocAttr,↓AG,zp,zr,results14];exact WZ
 exact Be
end Go.Proofs.YtjdnhamngpafmaaGreat
namespace Go.Av
theorem qnW{P:Program}{AD:Cn}(hT:CH P AD){o:Oper}{σ:St}{t e:TypeId}{len:Nat}{parts:Array (Nat×Operand)}{ti te:CU}{ps:List (Nat×A2)}{xs:List A2}
  (ho:o.op=.buildSlice t len parts) (hd:∀d,o.dst=some d->d<σ.n) (ht:AD t=some ti) (Ah:ti.desc=.slice e) (he:AD e=some te) (JK:0<te.size) (Hd:σ.K4 parts.toList=some ps) (Bt:∀p∈ps,p.2.flat)
  (XD:Q4 0 ps=some xs) (hlen:xs.length=len) (Ag:∀x∈xs,x.cells.length=te.size) (Lg:len*te.size<=2 ^ 24) (hz:len≠0):Cert P o σ (.os σ.objs.length len te.size) (.write (σ.objs++[.cells (AP xs)])) :=
 Cert.IP hd fun base Bl a g Ax h CO=>by
  have hO:g.objs=σ.objs:=CO.resolve_left A6;have hg:=Ax.good;have Gn:=ZT (a:=a) (g:=g) (fun x hx y hy=>h x dP y hy) Hd Bt;have hu:=GZ hT ht Ah;obtain⟨⟨i,z,h1,h2,h3,h4,h5,h6,h7,h8,h9⟩,_⟩:=hT e te he;have GS:=gz XD;have B1:∀x∈xs,∀c∈x.cells,c.scalar:=by
   have aux:∀{ps:List (Nat×A2)} {vs:List (Nat×Value)},VB g ps vs->∀p∈ps,∀c∈p.2.cells,c.scalar:=by
    intro ps vs hr;induction hr with
    | nil=>intro p hp;cases hp
    | cons hx hf r ih =>
     intro p hp;rcases List.mem_cons.1 hp with hp|hp
     ·subst hp;exact hx.ZQ hf
     exact ih p hp
   intro x hx c hc;have ED:∃k,(k,x)∈ps:=by
    obtain⟨k,hk⟩:=MF hx;exact rD GS
   obtain⟨k,hk⟩:=ED;exact aux Gn _ hk c hc
  have AT:¬len*i.size=0:=by
   rw[h2];intro e0;rcases Nat.mul_eq_zero.1 e0 with q|q<;>omega
  obtain⟨zs,JX⟩:∃zs:Array Value,zs=(WK (len*i.size)).map (z.cells[· % z.cells.size]!):=⟨_,rfl⟩
  have TR:zs.size=len*te.size:=qf
  obtain⟨zc,hzc,Nj,IY⟩:∃zc:List A2,(∀c∈zc,c.scalar)∧Co g zc zs∧zc.length=len*te.size:=by
   refine⟨(List.range (len*te.size)).map fun j=>te.zero.getD (j % te.size) (.v (.bool false)),fun c hc=>?_,⟨by simp[TR],fun j c u hj Ox=>?_⟩,A6⟩
   ·rw[JQ]at hc;obtain⟨j,_,e⟩:=hc;subst e;have AF:j % te.size<te.zero.length:=aH
    rw[KC,AY AF];exact h9 _ (MG AF)
   have CK:=AE hj;simp only[BE,N7]at CK;rw[Bv,J3 CK]at hj;simp only[FV,AM]at hj;subst hj;have AF:j % te.size<te.zero.length:=aH
   have HR:j % te.size<z.cells.size:=qg
   rw[JX]at Ox;simp only[UU,h2,WH,A9 CK,FV,AM]at Ox;subst Ox;exact rS h5 h6 HR
  have bc:∃cs',JH (fun i=>some (i*te.size,te.size)) zc ps=some cs':=by
   have aux:∀(ys:List A2) (k:Nat) (cs:List A2),(∀y∈ys,y.cells.length=te.size)->(k+ys.length)*te.size<=cs.length->∃cs',JH (fun i=>some (i*te.size,te.size)) cs ((ys.zipIdx k).map fun p=>(p.2,p.1))=some cs':=by
    intro ys;induction ys with
    | nil=>intro k cs _ _;exact⟨cs,rfl⟩
    | cons y ys ih =>
     intro k cs hy hl;simp only[T0,Bc,JH];simp only[CE]at hl;have Mk:(k+1)*te.size=k*te.size+te.size:=RZ k te.size;have bg:(k+1)*te.size<=(k+(ys.length+1))*te.size:=OE _ I;have hc:y.cells.length=te.size∧k*te.size+te.size<=cs.length:=⟨hy y A6,I⟩
     exact r6 hl
   rw[GS];exact aux xs 0 zc Ag a6
  obtain⟨cs',V5⟩:=bc;obtain⟨BJ,q1,q2,_⟩:=ck (fun i=>some (i*te.size,te.size)) Gn Nj V5;obtain⟨e1,_⟩:=kl xs 0 zc cs' qH a6;have e2:cs'=AP xs:=by
   rw[e1];exact rT
  subst e2;have Aj:(Instr.buildSlice t len (parts.map fun(i,x)=>(i,a.eval x))).run P g.w=.ok (.slice (some ⟨g.w.heap.size,0,none⟩) len len) (g.w.alloc (.cells BJ e)):=by
   have TE:¬len*i.size > 2 ^ 24:=qP
   rw[JX,<-h2]at q1;have SB:Instr.fill (fun i_1=>some (i_1*i.size,i.size)) ((WK (len*i.size)).map (z.cells[· % z.cells.size]!)) (parts.map fun(i,x)=>(i,a.eval x)).toList=some BJ:=by
    rw[Zy];exact q1
   exact qq h1 h1 h4 SB
  have hle:=Le.alloc hg (.cells BJ e) 0 (.cells (AP xs));have K9:BJ.size=len*te.size:=by
   rw[q2.1,<-hlen];have:∀ys:List A2,(∀y∈ys,y.cells.length=te.size)->(AP ys).length=ys.length*te.size:=fun ys=>by
    induction ys with
    | nil=>intro _;simp[AP]
    | cons y ys ih =>
     intro hy;have h1:=ih fun z hz=>hy z (by simp[hz]);have h2:=hy y A6;simp only[AP,GF,Bf,CE]at h1 ⊢;rw[h1,h2,RZ];omega
   exact this xs Ag
  have qmU:∀c∈AP xs,c.scalar:=fun c hc=>by
   simp only[AP,L0]at hc;obtain⟨x,hx,hc⟩:=hc;exact B1 x hx c hc
  refine⟨.slice (some ⟨g.w.heap.size,0,none⟩) len len,g.alloc (.cells BJ e) 0 (.cells (AP xs)),.inl (by simp[execOp,ho,Aj,G.alloc]),hle,Good.alloc hg _ 0 _ (.inr rfl) ⟨_,e,rfl,by rw[q2.1];exact B6 _,(q2.mono hle).2,qmU⟩,by simp[G.alloc,hO,Mode.post],?_⟩;rw[<-hO];exact .os (l:=⟨g.w.heap.size,0,BJ.size⟩) (RO hg) Nq Bd (B6 _) (by rw[K9];exact B6 _) (by
   have:len<=len*te.size:=iK _ JK;omega)
theorem Eh.os{O:List A8}{id len sz:Nat}{cs xs:List A2}(BN:O[id]?=some (.cells cs))(Ag:∀x∈xs,x.cells.length=sz)(hlen:xs.length=len)(hd:((cs.drop 0).take (len*sz)).map A2.Dd=AP xs):Eh O id (.os id len sz) (.A3 sz xs .sh):=fun g u l' hg hO he hle h=>by
 obtain⟨l,o1,Dm,h1,h2,_,Lp,_,Bm,eu⟩:=h.Yo;subst eu;rw[he]at h1;simp only[AM]at h1;subst h1;have Gz:g.objs[id]?=some (.cells cs):=YL
 obtain⟨arr,t',CA,CV,DK,BQ,Iw,_⟩:=hg.row Gz he;subst hlen;have key:∀(j:Nat) (c:A2),(AP xs)[j]?=some c->∃c',cs[0+j]?=some c'∧c'.Dd=c:=fun j c hj=>by
  rw[<-hd,Bv,PB]at hj;obtain⟨c',hj,e⟩:=hj;have:=Zm hj;rw[FC]at this;exact⟨c',this,e⟩
 refine .A3 Ag (fun x hx c hc=>?_) Lp Bm (fun _=>rfl) (fun j=>arr.getD (0+j) undef) (fun j c hj=>?_) (fun j c hj=>?_) trivial
 ·have ED:c∈AP xs:=by
   simp only[AP,L0];exact⟨x,hx,hc⟩
  obtain⟨j,hj⟩:=MF ED;obtain⟨c',CK,e⟩:=key j c hj;subst e;exact A2.ZN (Iw c' (AK CK))
 ·obtain⟨c',CK,e⟩:=key j c hj;have AF:=AE CK;refine rf ?_;simp only;exact acr
 obtain⟨c',CK,e⟩:=key j c hj;have AF:=AE CK;subst e;exact((BQ _ c' _ CK aak).mono hle).Dd
theorem qgt{P:Program}{AD:Cn}{md:Md}(hT:CH P AD){o:Oper}{l2:List Oper}{Q:E7->St->Prop}{σ:St}{t e:TypeId}{len d:Nat}{parts:Array (Nat×Operand)}{ti te:CU}{ps:List (Nat×A2)}{xs:List A2}
  (ho:o.op=.buildSlice t len parts) (IS:o.dst=some d) (hd:d<σ.n) (ht:AD t=some ti) (Ah:ti.desc=.slice e) (he:AD e=some te) (JK:0<te.size) (Hd:σ.K4 parts.toList=some ps) (Bt:∀p∈ps,p.2.flat)
  (XD:Q4 0 ps=some xs) (hlen:xs.length=len) (Ag:∀x∈xs,x.cells.length=te.size) (Lg:len*te.size<=2 ^ 24) (hz:len≠0)
  (h:G9 P AD md l2 0 [] ⟨σ.n,MR o.dst (.os σ.objs.length len te.size) σ.BG,σ.objs++[.cells (AP xs)]⟩ [] fun ρ _=>At ρ (Q .norm)):nJ P AD md o l2 Q σ :=
 ⟨_,_,qnW hT ho (fun d' e=>ab7) ht Ah he JK Hd Bt XD hlen Ag Lg hz,h⟩
end Go.Av
namespace Go.Proofs.YtjdnhamngpafmaaGreat
open Go.Av Tryz
def cI(oid:Nat)(l:List Int):A2:=if l=[]then .A3 1 [] .ex else .os oid l.length 1
theorem LH(x:Value):AP [A2.v x]=[A2.v x]:=rfl
theorem Kq(id len sz:Nat):(A2.os id len sz).cells=[A2.os id len sz]:=rfl
theorem qey{O:List A8}(AN:∀o∈O,o.upto O.length)(h1:O[1]?=some (.cells [.A3 1 [] .ex]))(k:Int) :
  Aq prog 76 O [aI k,.mp 1 0] (fun r O'=>r=.Ab []∧O'=(O++[A8.cells [aI k]]).set 1 (.cells [.os O.length 1 1])):=by
 have hl:=AE h1;have Om:∀X,(O++X)[1]?=some (.cells [.A3 1 [] .ex]):=fun X=>D8 h1;have Bh:O.length<=O.length+1:=I
 refine acR ?_;have BA:((O++[A8.cells [A2.v (.int .i64 k)]]).set 1 (.cells [.os O.length 1 1])).take (O.length+1)=(O++[A8.cells [A2.v (.int .i64 k)]]).set 1 (.cells [.os O.length 1 1]):=Cb A6;refine TW ?_;simp -dsimp only[simprocAttr,↓AG,zp,h1,Om,LH,Kq];refine⟨trivial,?_⟩;refine Ga ?_;simp -dsimp only[simprocAttr,↓AG,zp,zr,results76,BA,B2,Bf];exact⟨DY (Zc (fun o ho=>A8.IK I (AN o ho)) ⟨trivial,trivial⟩) ⟨show _<_ from I,trivial⟩,trivial⟩
theorem qgl{O:List A8}(AN:∀o∈O,o.upto O.length){oid:Nat}{l:List Int}(h1:O[1]?=some (.cells [.os oid l.length 1]))(h2:O[oid]?=some (.cells (l.map aI)))(ho:oid≠1)(J6:l.length<=1000)(k:Int) :
  Aq prog 76 O [aI k,.mp 1 0] (fun r O'=>r=.Ab []∧O'=(O.set oid .gone++[A8.cells ((l++[k]).map aI)]).set 1 (.cells [.os O.length (l.length+1) 1])):=by
 have hl:=AE h1;have Om:∀X,(O.set oid .gone++X)[1]?=some (.cells [.os oid l.length 1]):=fun X=>D8 (EY h1 ho);have Bh:O.length<=O.length+1:=I
 refine acR ?_;refine TW ?_;simp -dsimp only[simprocAttr,↓AG,zp,h1,Om,h2,LH,Kq];refine⟨A6,I,I,?_⟩;have Hv:(l.map aI).take (l.length*1)=l.map aI:=Cb A6;have BA:((O.set oid .gone++[A8.cells (l.map aI++[A2.v (.int .i64 k)])]).set 1 (.cells [.os O.length (l.length+1) 1])).take (O.length+1)=(O.set oid .gone++[A8.cells (l.map aI++[A2.v (.int .i64 k)])]).set 1 (.cells [.os O.length (l.length+1) 1]):=Cb A6;refine⟨trivial,?_⟩;refine Ga ?_;simp -dsimp only[simprocAttr,↓AG,zp,zr,results76,Hv,BA,B2,Bf];refine⟨DY (Zc (DY (fun o ho=>A8.IK I (AN o ho)) trivial) ?_) ⟨show _<_ from I,trivial⟩,trivial,A6⟩;show AQ _ _;have:=BU (O.length+1) (l++[k]);exact NI
end Go.Proofs.YtjdnhamngpafmaaGreat
namespace Go.Av
theorem RV.qlp{g:G}{sz:Nat}{xs:List A2}{a:Addr}{len cap:Nat}(h:RV g (.A3 sz xs .sh) (.slice (some a) len cap)):RV g (.A3 sz xs .nn) (.slice (some a) len cap):=by
 cases h with
 | A3 Ag B1 C1 Bm hs f hm hr ho=>exact .A3 Ag B1 C1 Bm hs f hm hr trivial
theorem Eh.qmC{O:List A8}{id off len cap sz:Nat}{cs xs:List A2}(BN:O[id]?=some (.cells cs))(Ag:∀x∈xs,x.cells.length=sz)(hlen:xs.length=len)(hd:((cs.drop off).take (len*sz)).map A2.Dd=AP xs):Eh O id (.ms id off len cap) (.A3 sz xs .nn):=fun g u l' hg hO he hle h=>by
 have k:=Eh.ms BN Ag hlen hd g u l' hg hO he hle h;obtain⟨l,o1,h1,h2,_,Lp,Bm,Dm,C1,eu⟩:=h.QD;subst eu;exact k.qlp
end Go.Av
namespace Go.Proofs.YtjdnhamngpafmaaGreat
open Go.Av Tryz
theorem SY(n:Nat)(l:List Bool):AQ n (l.map eB):=by
 rw[CF];intro x hx;obtain⟨b,_,rfl⟩:=List.mem_map.1 hx;trivial
theorem qa3(n:Nat):(List.replicate n [A2.v (.bool false)]).flatten=(List.replicate n false).map eB:=by
 induction n with
 | zero=>rfl
 | succ n ih=>rw[KG,UW,ih,KG];rfl
theorem vi(l:List Bool):AP (l.map eB)=l.map eB:=by
 induction l with
 | nil=>rfl
 | cons a r ih =>
  simp only[Bc,AP,GF]at ih ⊢;rw[ih];rfl
theorem qfq(l:List Bool):(l.map eB).map A2.Dd=l.map eB:=by
 rw[HV];rfl
theorem qeT(l:List Bool):(l.map eB).map A2.share=l.map eB:=by
 rw[HV];rfl
theorem qlM(l:List Bool):∀x∈l.map eB,x.cells.length=1:=fun x hx=>by
 obtain⟨b,_,rfl⟩:=List.mem_map.1 hx;rfl
variable {O:List A8}{l:List Bool}
theorem uV{id:Nat}{len cap:Nat}(h:O[id]?=some (.cells (l.map eB)))(hl:l.length=len):Eh O id (.ms id 0 len cap) (.A3 1 (l.map eB) .nn) :=
 Eh.qmC h (qlM l) OL (by rw[I7,Cb Ai,qfq,vi])
theorem fP{j:Nat}(h:j<l.length)(b:Bool):As (l.map eB) j [.v (.bool b)]=(l.set j b).map eB:=by
 rw[LK _ Aa,QM];rfl
def JP(l:List Bool)(v:Int)(b:Bool):List Bool:=l.set v.toNat b
def QE(l:List Bool)(vs:List Int):List Bool:=vs.foldl (fun s v=>JP s v true) l
def Mz(i:Ins)(now:List Bool):List Bool:=QE (JP now i.to false) i.args
def HP(l:List Ins)(now:List Bool):List Bool:=l.foldr Mz now
def QJ(ps:List Int):Nat->List Bool->List Bool->List Bool
 | _,[],out=>out
 | v,is::r,out=>QJ ps (v+1) r (if is&&!Lf ps v then out.set v true else out)
def G5(first:List (List Bool))(k:Int):List Bool:=first[k.toNat]?.getD []
def MB(f:Func)(first:List (List Bool))(out:List Bool)(e:Edge):List Bool:=QJ (A7 f e.block).params 0 (G5 first e.block) out
def IL(t:Term):Bool:=!decide (t.kind=1)&&!decide (t.kind=4)
def Z1(t:Term)(o:List Bool):List Bool:=t.to.foldl (fun o e=>QE o e.args) (if IL t then JP o t.arg true else o)
def OC(f:Func)(many:Nat)(first:List (List Bool))(t:Term):List Bool:=Z1 t (t.to.foldl (MB f first) (List.replicate many false))
def DC:Nat->List Bool->List Int
 | _,[]=>[]
 | v,is::r=>if is then(v:Int)::DC (v+1) r else DC (v+1) r
theorem Y'(l:List Bool)(v:Int)(b:Bool):(JP l v b).length=l.length:=by simp[JP]
theorem jS:∀(vs:List Int) (l:List Bool),(QE l vs).length=l.length
 | [],_=>rfl
 | v::r,l=>by
  have:=jS r (JP l v true);rw[Y']at this;exact Cd
theorem uh(i:Ins)(now:List Bool):(Mz i now).length=now.length:=by rw[Mz,jS,Y']
theorem ca:∀(l:List Ins) (now:List Bool),(HP l now).length=now.length
 | [],_=>rfl
 | i::r,now=>by
  have:=ca r now;simp only[HP,List.foldr_cons]at this ⊢;rw[uh,this]
theorem kT(ps:List Int):∀(S:List Bool) (v:Nat) (out:List Bool),(QJ ps v S out).length=out.length
 | [],_,_=>rfl
 | is::r,v,out=>by
  rw[QJ,kT ps r];split<;>simp
theorem kp(f:Func)(first:List (List Bool)):∀(l:List Edge) (out:List Bool),(l.foldl (MB f first) out).length=out.length
 | [],_=>rfl
 | e::r,out=>by
  rw[HG,kp f first r,MB,kT]
theorem ug:∀(l:List Edge) (out:List Bool),(l.foldl (fun o e=>QE o e.args) out).length=out.length
 | [],_=>rfl
 | e::r,out=>by
  rw[HG,ug r,jS]
theorem qex(t:Term)(o:List Bool):(Z1 t o).length=o.length:=by
 rw[Z1,ug];split
 ·rw[Y']
 rfl
theorem kq(f:Func)(many:Nat)(first:List (List Bool))(t:Term):(OC f many first t).length=many:=by
 rw[OC,qex,kp,OG]
structure Sr where
 seen:List Bool
 st:List (Int×Int)
 out:List Int
def Ea(f:Func)(b:Int):List Edge:=(A7 f b).term.to
def HN(f:Func)(b e:Int):Int:=((Ea f b)[e.toNat]?.getD default).block
def Jf(f:Func)(S:Sr):Sr :=
 match S.st with
 | []=>S
 | (b,e)::r =>
  if e=(Ea f b).length then⟨S.seen,r,S.out++[b]⟩
  else if S.seen[(HN f b e).toNat]?.getD false=true then⟨S.seen,(b,e+1)::r,S.out⟩
  else⟨S.seen.set (HN f b e).toNat true,(HN f b e,0)::(b,e+1)::r,S.out⟩
def Kb(f:Func):Nat->Sr->Sr
 | 0,S=>S
 | n+1,S=>if S.st.isEmpty then S else Kb f n (Jf f S)
def Hi(f:Func):Sr:=⟨(List.replicate f.blocks.length false).set 0 true,[(0,0)],[]⟩
def Q9(f:Func):List Int:=(Kb f 100000 (Hi f)).out
structure S7(f:Func)(S:Sr):Prop where
 len:S.seen.length=f.blocks.length
 blk:∀p∈S.st,0<=p.1∧p.1<f.blocks.length∧0<=p.2∧p.2<=(Ea f p.1).length
 few:S.out.length+S.st.length<=S.seen.countP id
 outs:∀b∈S.out,0<=b∧b<f.blocks.length
def stW:List (Int×Int)->Nat
 | []=>0
 | p::r=>(258-p.2.toNat)+stW r
def SD(S:Sr):Nat:=300*(S.seen.length-S.seen.countP id)+stW S.st
structure FN(f:Func):Prop where
 ne:f.blocks≠[]
 few:f.blocks.length<=128
 to:∀b∈f.blocks,b.term.to.length<=257
 DN:∀b∈f.blocks,∀e∈b.term.to,1<=e.block∧e.block<f.blocks.length
variable {f:Func}
theorem Vd.gr(h:Vd f):FN f :=
 ⟨h.ne,h.few,fun b hb=>qkl (LS (h.blk b hb).fin),fun b hb e he=>by
  have:=((LS (h.blk b hb).fin).DN e he).1;omega⟩
theorem FN.next(h:FN f){b e:Int}(hb:0<=b∧b<f.blocks.length)(h0:0<=e)(h1:e<(Ea f b).length):∃x,(Ea f b)[e.toNat]?=some x∧x.block=HN f b e∧1<=HN f b e∧HN f b e<f.blocks.length:=by
 have AF:e.toNat<(Ea f b).length:=I
 have hx:(Ea f b)[e.toNat]?=some (Ea f b)[e.toNat]:=AY AF;refine⟨_,hx,by rw[HN,hx];rfl,?_⟩;have:=h.DN _ (M' hb.1 hb.2) (Ea f b)[e.toNat] (MG AF);rw[HN,hx];exact Cd
theorem zg{k:Nat}(hk:k<l.length)(h:l[k]?.getD false=false):(l.set k true).countP id=l.countP id+1:=by
 induction l generalizing k with
 | nil=>simp at hk
 | cons a r ih =>
  cases k with
  | zero =>
   simp only[Dh,Fp]at h;subst h;simp
  | succ k =>
   simp only[LY]at h;have:=ih Ue h;simp only[US,YE,this];omega
theorem kd(hg:FN f){S:Sr}(h:S7 f S)(AT:S.st≠[]):S7 f (Jf f S)∧SD (Jf f S)<SD S:=by
 obtain⟨seen,st,out⟩:=S;cases st with
 | nil=>exact B3 rfl AT
 | cons p r =>
  obtain⟨b,e⟩:=p;obtain⟨h1,h2,h3,h4⟩:=h;simp only at h1 h2 h3 h4;have hp:=h2 (b,e) A6;simp only at hp;have DM:(Ea f b).length<=257:=hg.to _ (M' hp.1 hp.2.1);have hc:seen.countP id<=seen.length:=PC;simp only[CE]at h3;simp only[Jf];by_cases he:e=(Ea f b).length
  ·rw[A9 he];refine⟨⟨h1,fun p hp=>h2 p de,by simp only[Bf,CE,GD];omega,fun x hx=>?_⟩,?_⟩
   ·rcases List.mem_append.1 hx with q|q
    ·exact h4 x q
    simp only[Fq]at q;subst q;exact⟨hp.1,hp.2.1⟩
   simp only[SD,stW];omega
  rw[A4 he];obtain⟨x,hx,Lt,F7,Ib⟩:=hg.next ⟨hp.1,hp.2.1⟩ hp.2.2.1 I
  by_cases hs:seen[(HN f b e).toNat]?.getD false=true
  ·rw[A9 hs];refine⟨⟨h1,fun p hpm=>?_,Ug,h4⟩,?_⟩
   ·rcases List.mem_cons.1 hpm with q|q
    ·subst q;exact⟨hp.1,hp.2.1,D6,D6⟩
    exact h2 p aO
   simp only[SD,stW];omega
  rw[A4 hs];have Pn:seen[(HN f b e).toNat]?.getD false=false:=a8
  have hk:(HN f b e).toNat<seen.length:=I
  have BQ:=zg hk Pn;have B8:(seen.set (HN f b e).toNat true).countP id<=(seen.set (HN f b e).toNat true).length:=PC;rw[B2]at B8;refine⟨⟨JT,fun p hpm=>?_,by simp only[CE,BQ];omega,h4⟩,?_⟩
  ·rcases List.mem_cons.1 hpm with q|q
   ·subst q;exact⟨D6,Ib,A6,A6⟩
   rcases List.mem_cons.1 q with q|q
   ·subst q;exact⟨hp.1,hp.2.1,D6,D6⟩
   exact h2 p aO
  simp only[SD,stW,B2,BQ];omega
theorem ky{f:Func}(hg:FN f):∀(n:Nat) (S:Sr),S7 f S->SD S<n->S7 f (Kb f n S)∧(Kb f n S).st=[]
 | 0,S,_,h=>by omega
 | n+1,S,h,hw=>by
  simp only[Kb];cases Au:S.st with
  | nil=>simpa[Au]using h
  | cons p r =>
   simp only[iZ,JS,Gf];have:=kd hg h qa;exact ky hg n _ this.1 I
theorem kO(hg:FN f):S7 f (Hi f)∧SD (Hi f)<100000:=by
 have hl:0<f.blocks.length:=by
  cases hb:f.blocks with
  | nil=>exact B3 hb hg.ne
  | cons=>simp
 have NK:=hg.few;have hc:((List.replicate f.blocks.length false).set 0 true).countP id=1:=by
  rw[zg OL jV];simp[List.countP_replicate]
 refine⟨⟨by simp[Hi],fun p hp=>?_,by simp only[Hi,hc];simp,by simp[Hi]⟩,?_⟩
 ·simp only[Hi,Fq]at hp;subst hp;exact⟨A6,Ai,A6,A6⟩
 simp only[SD,Hi,hc,B2,OG,stW];exact KM
def Ji:List (Int×Int)->List A2
 | []=>[]
 | p::r=>Ji r++[aI p.1,aI p.2]
theorem W3:∀l:List (Int×Int),(Ji l).length=l.length*2
 | []=>rfl
 | p::r=>by
  simp only[Ji,Bf,W3 r,CE,GD];omega
theorem tS(n:Nat):∀l:List (Int×Int),AQ n (Ji l)
 | []=>trivial
 | p::r=>by
  rw[CF];intro x hx;rcases List.mem_append.1 hx with q|q
  ·exact CF.1 (tS n r) x q
  simp only[CL,GG,Di]at q;rcases q with rfl|rfl<;>trivial
structure So where
 S:Sr
 sid:Nat
 oid:Nat
 O:List A8
def eW(O:List A8)(id:Nat):List A2 :=
 match O[id]? with
 | some (.cells cs)=>cs
 | _=>[]
def al(O:List A8)(oid:Nat)(out:List Int)(b:Int):List A8 :=
 if out=[]then(O++[A8.cells [aI b]]).set 1 (.cells [.os O.length 1 1])
 else(O.set oid .gone++[A8.cells ((out++[b]).map aI)]).set 1 (.cells [.os O.length (out.length+1) 1])
def QG(f:Func)(X:So):So :=
 match X.S.st with
 | []=>X
 | (b,e)::r =>
  if e=(Ea f b).length then⟨Jf f X.S,X.sid,X.O.length,al X.O X.oid X.S.out b⟩
  else
   let cs:=(eW X.O X.sid).set (r.length*2+1) (aI (e+1));let O1:=X.O.set X.sid (.cells cs)
   if X.S.seen[(HN f b e).toNat]?.getD false=true then⟨Jf f X.S,X.sid,X.oid,O1⟩
   else
    let O2:=O1.set 2 (.cells ((X.S.seen.set (HN f b e).toNat true).map eB))
    ⟨Jf f X.S,O2.length,X.oid,O2.set X.sid .gone++[A8.cells (cs.take ((r.length+1)*2)++[aI (HN f b e),aI 0])]⟩
def N4(f:Func):Nat->So->So
 | 0,X=>X
 | n+1,X=>if X.S.st.isEmpty then X else N4 f n (QG f X)
theorem wF(f:Func)(X:So):(QG f X).S=Jf f X.S:=by
 unfold QG;cases Au:X.S.st with
 | nil=>simp[Jf,Au]
 | cons p r =>
  simp only;split
  ·rfl
  split<;>rfl
theorem mS(f:Func):∀(n:Nat) (X:So),(N4 f n X).S=Kb f n X.S
 | 0,X=>rfl
 | n+1,X=>by
  simp only[N4,Kb];split
  ·rfl
  rw[mS f n,wF]
structure SO(X:So):Prop where
 up:∀o∈X.O,o.upto X.O.length
 out:X.O[1]?=some (.cells [cI X.oid X.S.out])
 outs:X.S.out≠[]->X.O[X.oid]?=some (.cells (X.S.out.map aI))∧X.oid≠X.sid∧2<X.oid
 seen:X.O[2]?=some (.cells (X.S.seen.map eB))
 stk:∃MV,X.O[X.sid]?=some (.cells (Ji X.S.st++MV))
 sne:2<X.sid
theorem SO.step{X:So}(h:SO X):SO (QG f X):=by
 obtain⟨⟨seen,st,out⟩,sid,oid,O⟩:=X;obtain⟨h1,h2,h3,h4,⟨MV,h5⟩,h6⟩:=h;simp only at h1 h2 h3 h4 h5 h6;have l1:=AE h2;have l2:=AE h4;have l5:=AE h5;cases st with
 | nil=>exact⟨h1,h2,h3,h4,⟨MV,h5⟩,h6⟩
 | cons p r =>
  obtain⟨b,e⟩:=p;simp only[QG,Jf];by_cases he:e=(Ea f b).length
  ·rw[A9 he,A9 he];by_cases ho:out=[]
   ·subst ho;simp only[al,L4,HF];refine⟨?_,?_,fun _=>⟨?_,D6,D6⟩,?_,⟨[aI b,aI e]++MV,?_⟩,h6⟩
    ·have:=DY (n:=O.length+1) (k:=1) (x:=.cells [.os O.length 1 1]) (Zc (fun o ho=>A8.IK I (h1 o ho)) (x:=.cells [aI b]) ⟨trivial,trivial⟩) ⟨show _<_ from I,trivial⟩;exact NI
    ·simp only;rw[Bb Ai];rfl
    ·simp only;rw[Ap I,Dg (B6 _)];simp
    ·simp only;rw[Ap I,EV l2];exact h4
    simp only;rw[Ap I,EV l5,h5];simp[Ji]
   obtain⟨k1,k2,k3⟩:=h3 ho;have lo:=AE k1;simp only[al,A4 ho];refine⟨?_,?_,fun _=>⟨?_,D6,D6⟩,?_,⟨[aI b,aI e]++MV,?_⟩,h6⟩
   ·have:=DY (n:=O.length+1) (k:=1) (x:=.cells [.os O.length (out.length+1) 1]) (Zc (DY (k:=oid) (x:=.gone) (fun o ho=>A8.IK I (h1 o ho)) trivial) (x:=.cells ((out++[b]).map aI)) (BU _ _)) ⟨show _<_ from I,trivial⟩;exact NI
   ·simp only;rw[Bb Ai];simp[cI]
   ·simp only;rw[Ap I,Dg A6];simp
   ·simp only;rw[Ap I,EV qD,Ap I];exact h4
   simp only;rw[Ap I,EV (by simpa using l5),Ap I,h5];simp[Ji]
  rw[A4 he,A4 he];have BQ:(eW O sid).set (r.length*2+1) (aI (e+1))=Ji ((b,e+1)::r)++MV:=by
   simp only[eW,h5,Ji];rw[Ez,OF _ _ qV,W3,show r.length*2+1-r.length*2=1 from I];simp
  rw[BQ];have Ox:AQ O.length MV:=by
   rw[CF];intro x hx;have:=h1 _ (AK h5);exact CF.1 this x (List.mem_append.2 (.inr hx))
  have IZ:AQ O.length (Ji ((b,e+1)::r)++MV):=by
   rw[CF];intro x hx;rcases List.mem_append.1 hx with q|q
   ·exact CF.1 (tS _ _) x q
   exact CF.1 Ox x q
  by_cases hs:seen[(HN f b e).toNat]?.getD false=true
  ·rw[A9 hs,A9 hs];refine⟨?_,?_,fun ho=>?_,?_,⟨MV,?_⟩,h6⟩
   ·have:=DY (n:=O.length) (k:=sid) (x:=.cells (Ji ((b,e+1)::r)++MV)) h1 IZ;exact NI
   ·simp only;rw[Ap I];exact h2
   ·obtain⟨k1,k2,k3⟩:=h3 ho;refine⟨?_,k2,k3⟩;simp only;rw[Ap (fun q=>k2 q.symm)];exact k1
   ·simp only;rw[Ap I];exact h4
   simp only;rw[Bb l5]
  rw[A4 hs,A4 hs]
  skip
  have BA:(Ji ((b,e+1)::r)++MV).take ((r.length+1)*2)=Ji ((b,e+1)::r):=by
   rw[Zo (by rw[W3];simp),Cb (by rw[W3];simp)]
  rw[BA];refine⟨?_,?_,fun ho=>?_,?_,⟨[],?_⟩,?_⟩
  ·have a1:=DY (n:=O.length) (k:=sid) (x:=.cells (Ji ((b,e+1)::r)++MV)) h1 IZ;have a2:=DY (k:=2) (x:=.cells ((seen.set (HN f b e).toNat true).map eB)) a1 (SY _ _);have a3:=DY (k:=sid) (x:=.gone) a2 trivial;have a4:=Zc (n:=O.length+1) (x:=.cells (Ji ((b,e+1)::r)++[aI (HN f b e),aI 0])) (fun o ho=>A8.IK I (a3 o ho)) (by
    show AQ _ _;have:=tS (O.length+1) ((HN f b e,0)::(b,e+1)::r);exact this)
   simpa using a4
  ·simp only;rw[EV Ai,Ap I,Ap I,Ap I];exact h2
  ·obtain⟨k1,k2,k3⟩:=h3 ho;have lo:=AE k1;refine⟨?_,Ai,k3⟩;simp only;rw[EV (by simpa using lo),Ap (fun q=>k2 q.symm),Ap I,Ap (fun q=>k2 q.symm)];exact k1
  ·simp only;rw[EV qD,Ap I,Bb qD]
  ·simp only[B2];rw[Dg A6];simp[Ji]
  exact KM
structure SmW(f:Func):Prop where
 few:f.blocks.length<=128
 params:∀b∈f.blocks,b.params.length<=4096
 ins:∀b∈f.blocks,b.ins.length<=1024
 nf:∀b∈f.blocks,∀i∈b.ins,i.args.length<=16
 cases:∀b∈f.blocks,b.term.cases.length<=256
 to:∀b∈f.blocks,b.term.to.length<=257
 nO:∀b∈f.blocks,∀e∈b.term.to,e.args.length<=4096
def B5(es:List Edge):List A2:=es.flatMap fun e=>[aI e.block,AA e.args]
def Jh(id:Nat)(es:List Edge):A2:=if es=[]then .A3 2 [] .ex else .os id es.length 2
def Iz(id:Nat)(es:List Edge):A2:=if es=[]then .A3 2 [] .sh else .os id es.length 2
def Fx(id:Nat)(b:Block):List A2:=[AA b.params,B7 b.ins,aI b.term.kind,aI b.term.arg,aI b.term.n,AA b.term.cases,Iz id b.term.to]
def C9(ids:List Nat)(bs:List Block):List A2:=(List.zipWith Fx ids bs).flatten
def I2(id:Nat)(bs:List Block):A2:=if bs=[]then .A3 7 [] .ex else .os id bs.length 7
theorem tx(id:Nat)(es:List Edge):(Jh id es).Dd=Iz id es:=by
 unfold Jh Iz;split<;>rfl
theorem tw(id:Nat)(es:List Edge):(Iz id es).Dd=Iz id es:=by
 unfold Iz;split<;>rfl
theorem vj(es:List Edge)(e:Edge):B5 (es++[e])=B5 es++[aI e.block,AA e.args]:=by simp[B5]
theorem Q5(es:List Edge):(B5 es).length=es.length*2:=by
 induction es with
 | nil=>rfl
 | cons e r ih =>
  have:B5 (e::r)=[aI e.block,AA e.args]++B5 r:=rfl;rw[this,Bf,ih];simp only[CE,GD];omega
theorem lD(n:Nat)(es:List Edge):AQ n (B5 es):=by
 rw[CF];intro c hc;simp only[B5,L0]at hc;obtain⟨e,_,hc⟩:=hc;simp only[CL,GG,Di]at hc;rcases hc with rfl|rfl
 ·trivial
 exact ai
theorem qai(es:List Edge):(B5 es).map A2.Dd=AP (es.map Edge.enc):=by
 induction es with
 | nil=>rfl
 | cons e r ih =>
  have h1:B5 (e::r)=[aI e.block,AA e.args]++B5 r:=rfl;have h2:AP ((e::r).map Edge.enc)=[aI e.block,AA e.args]++AP (r.map Edge.enc):=rfl;rw[h1,h2,Dx,ih];rfl
variable {ids:List Nat}
theorem tK{bs:List Block}(h:ids.length=bs.length)(id:Nat)(b:Block):C9 (ids++[id]) (bs++[b])=C9 ids bs++Fx id b:=by
 unfold C9;rw[List.zipWith_append h];simp
theorem UE:∀{ids:List Nat} {bs:List Block},ids.length=bs.length->(C9 ids bs).length=bs.length*7
 | [],[],_=>rfl
 | i::ids,b::bs,h=>by
  have e:C9 (i::ids) (b::bs)=Fx i b++C9 ids bs:=rfl;rw[e,Bf,UE Aa];simp only[Fx,CE,GD];omega
 | [],b::bs,h=>by simp at h
 | i::ids,[],h=>MI
variable {n:Nat}
theorem qg1{id:Nat}(b:Block)(h:b.term.to≠[]->id<n):AQ n (Fx id b):=by
 refine⟨⟨BU _ _,trivial⟩,⟨Ins.AX _ _,trivial⟩,trivial,trivial,trivial,⟨BU _ _,trivial⟩,?_,trivial⟩;unfold Iz;split
 ·exact s6
 rename_i q;exact h q
structure XG(b0:Nat)(ids:List Nat)(bs:List Block)(O:List A8):Prop where
 li:ids.length=bs.length
 own:∀(j id:Nat) (b:Block),ids[j]?=some id->bs[j]?=some b->b.term.to≠[]->b0<=id∧O[id]?=some (.cells (B5 b.term.to))
 inj:∀(i j id:Nat) (b c:Block),ids[i]?=some id->ids[j]?=some id->bs[i]?=some b->bs[j]?=some c->b.term.to≠[]->c.term.to≠[]->i=j
structure TY(f:Func)(done:List Block)(AS:Nat)(ids:List Nat)(O:List A8):Prop where
 up:∀o∈O,o.upto O.length
 r0:O[0]?=some .gone
 r1:O[1]?=some (.cells [aI 0,.A3 7 [] .ex])
 r3:O[3]?=some (.cells [aI 0,.A3 7 [] .ex])
 out:O[4]?=some (.cells [aI f.name,I2 AS done])
 blk:done≠[]->5<=AS∧O[AS]?=some (.cells (C9 ids done))
 cp:XG 5 ids done O
 ne:∀(j id:Nat) (b:Block),ids[j]?=some id->done[j]?=some b->b.term.to≠[]->id≠AS
theorem uK:∀{ids:List Nat} {bs:List Block},(∀(j id:Nat) (b:Block),ids[j]?=some id->bs[j]?=some b->b.term.to≠[]->id<n)->AQ n (C9 ids bs):=by
 intro ids bs h;rw[CF];intro c hc;unfold C9 at hc;obtain⟨l,hl,hc⟩:=List.mem_flatten.1 hc;obtain⟨j,hj⟩:=List.mem_iff_getElem?.1 hl;rw[iM]at hj;cases h1:ids[j]? with
 | none=>rw[h1]at hj;cases hj
 | some id =>
  cases h2:bs[j]? with
  | none=>rw[h1,h2]at hj;cases hj
  | some b =>
   rw[h1,h2]at hj;simp only[AM]at hj;subst hj;exact CF.1 (qg1 b (h j id b h1 h2)) c hc
theorem TY.snoc{done:List Block}{AS:Nat}{O1:List A8}(h:TY f done AS ids O){b:Block}{tid:Nat}(hlen:O.length<=O1.length)(AN:∀o∈O1,o.upto O1.length)
  (FI:∀k,k<O.length->(done≠[]->k≠AS)->O1[k]?=O[k]?) (ht:b.term.to≠[]->O.length<=tid∧O1[tid]?=some (.cells (B5 b.term.to))) {cs ar:List A2} (BQ:cs=C9 (ids++[tid]) (done++[b])) (R8:ar=[aI f.name,.os O1.length (done.length+1) 7]) :
  TY f (done++[b]) O1.length (ids++[tid]) ((O1++[A8.cells cs]).set 4 (.cells ar)):=by
 have h4:=AE h.out;have Vk:=h.cp.li;have M9:∀k,k<O.length->k≠4->(done≠[]->k≠AS)->((O1++[A8.cells cs]).set 4 (.cells ar))[k]?=O[k]?:=fun k hk hk4 Lh=>by
  rw[Ap (Ne.symm hk4),EV I,FI k hk Lh]
 have NP:done≠[]->5<=AS:=fun q=>(h.blk q).1;have TM:∀(j id:Nat) (c:Block),(ids++[tid])[j]?=some id->(done++[b])[j]?=some c->(ids[j]?=some id∧done[j]?=some c)∨(j=ids.length∧id=tid∧c=b):=fun j id c h1 h2=>by
  by_cases hj:j<ids.length
  ·rw[EV hj]at h1;rw[EV I]at h2;exact .inl ⟨h1,h2⟩
  have Pj:=AE h1;rw[Bf,IU]at Pj;have Bk:j=ids.length:=I
  subst Bk;rw[Dg (B6 _),FB]at h1;rw[Dg I,<-Vk,FB]at h2;simp only[Dh,AM]at h1 h2;exact rn
 have ES:∀(j id:Nat) (c:Block),ids[j]?=some id->done[j]?=some c->c.term.to≠[]->5<=id∧id<O.length∧O1[id]?=some (.cells (B5 c.term.to)):=fun j id c h1 h2 h3=>by
  obtain⟨o1,o2⟩:=h.cp.own j id c h1 h2 h3;have hl:=AE o2;exact acS
 have IQ:∀(j id:Nat) (c:Block),(ids++[tid])[j]?=some id->(done++[b])[j]?=some c->c.term.to≠[]->5<=id∧id<O1.length∧O1[id]?=some (.cells (B5 c.term.to)):=fun j id c h1 h2 h3=>by
  rcases TM j id c h1 h2 with⟨q1,q2⟩|⟨_,q2,q3⟩
  ·obtain⟨p1,p2,p3⟩:=ES j id c q1 q2 h3;exact⟨p1,I,p3⟩
  rw[q3]at h3 ⊢;rw[q2];obtain⟨t1,t2⟩:=ht h3;exact⟨I,AE t2,t2⟩
 subst BQ;subst R8;exact {
  up:=by
   intro o ho;rw[B2,Bf,IU];rcases KE ho with q|q
   ·rcases List.mem_append.1 q with q|q
    ·exact Ul
    rw[Fq]at q;subst q;exact uK fun j id c h1 h2 h3=>by
     have:=(IQ j id c h1 h2 h3).2.1;omega
   subst q;exact aW
  r0:=aaU
  r1:=aaV
  r3:=aaW
  out:=by
   rw[Bb YM];have:I2 O1.length (done++[b])=.os O1.length (done.length+1) 7:=by
    unfold I2;rw[A4 A6,Bf];rfl
   rw[this]
  blk:=fun _=>by
   exact acf
  cp:={
   li:=by rw[Bf,Bf,Vk];rfl
   own:=fun j id c h1 h2 h3=>by
    obtain⟨p1,p2,p3⟩:=IQ j id c h1 h2 h3;exact adS
   inj:=fun i j id c d h1 h2 h3 h4 h5 h6=>by
    rcases TM i id c h1 h3 with⟨p1,p2⟩|⟨p1,p2,p3⟩
    ·rcases TM j id d h2 h4 with⟨q1,q2⟩|⟨q1,q2,q3⟩
     ·exact h.cp.inj i j id c d p1 q1 p2 q2 h5 h6
     have:=(ES i id c p1 p2 h5).2.1;rw[q3]at h6;have:=(ht h6).1;omega
    rcases TM j id d h2 h4 with⟨q1,q2⟩|⟨q1,q2,q3⟩
    ·have:=(ES j id d q1 q2 h6).2.1;rw[p3]at h5;have:=(ht h5).1;omega
    omega }
  ne:=fun j id c h1 h2 h3=>by
   have:=(IQ j id c h1 h2 h3).2.1;omega }
structure NQ(O:List A8)(cs:List A2)(n:Nat)(O2:List A8):Prop where
 len:O2.length=O.length+2
 up:∀o∈O2,o.upto O2.length
 Iu:∀k,k<O.length->O2[k]?=O[k]?
 cell:O2[O.length]?=some (.cells cs)
 sp:O2[O.length+1]?=some (.spare n)
theorem NQ.start(AN:∀o∈O,o.upto O.length){cs:List A2}(BQ:AQ (O.length+2) cs):NQ O cs 0 (O++[.cells cs,.spare 0]) where
 len:=A6
 up:=fun o ho=>by
  rw[Bf];rcases List.mem_append.1 ho with q|q
  ·exact Ul
  simp only[CL,GG,Di]at q;rcases q with rfl|rfl
  ·exact BQ
  trivial
 Iu:=fun k hk=>by rw[EV hk]
 cell:=by
  rw[Dg (B6 _),FB];rfl
 sp:=by
  rw[Dg I,show O.length+1-O.length=1 from I];rfl
variable {O2:List A8}
theorem NQ.one{cs:List A2}(h:NQ O cs n O2){cs':List A2}(BQ:AQ (O.length+2) cs'):NQ O cs' n (O2.set O.length (.cells cs')) where
 len:=jO
 up:=by
  rw[B2];exact DY h.up (by rw[h.len];exact BQ)
 Iu:=fun k hk=>ab4
 cell:=ab5
 sp:=by rw[Ap I,h.sp]
theorem NQ.room{cs:List A2}(h:NQ O cs n O2)(m:Nat):NQ O cs m (O2.set (O.length+1) (.spare m)) where
 len:=jO
 up:=by
  rw[B2];exact DY h.up trivial
 Iu:=fun k hk=>ab4
 cell:=by rw[Ap I,h.cell]
 sp:=ab5
structure Oc(O:List A8)(cs:A2->List A2)(tid:Nat)(es:List Edge)(O3:List A8):Prop where
 len:O.length+2<=O3.length
 up:∀o∈O3,o.upto O3.length
 Iu:∀k,k<O.length->O3[k]?=O[k]?
 cell:O3[O.length]?=some (.cells (cs (Jh tid es)))
 own:es≠[]->O.length+2<=tid∧O3[tid]?=some (.cells (B5 es))
theorem Oc.start{cs:A2->List A2}(h:NQ O (cs (.A3 2 [] .ex)) n O2):Oc O cs 0 [] O2 where
 len:=py
 up:=h.up
 Iu:=h.Iu
 cell:=h.cell
 own:=fun q=>B3 rfl q
theorem Oc.push{cs:A2->List A2}{tid:Nat}{es:List Edge}{O3 O4:List A8}(h:Oc O cs tid es O3)(e:Edge)(BQ:∀v n,v.upto n->O.length+2<=n->AQ n (cs v))(hlen:O4.length=O3.length)(AN:∀o∈O4,o.upto O3.length)
  (FI:∀k,(es≠[]->k≠tid)->O4[k]?=O3[k]?) {c a:List A2} (hc:c=B5 (es++[e])) (ha:a=cs (.os O3.length (es.length+1) 2)):Oc O cs O3.length (es++[e]) ((O4++[A8.cells c]).set O.length (.cells a)):=by
 have hl:=h.len;have hx:Jh O3.length (es++[e])=.os O3.length (es.length+1) 2:=by
  unfold Jh;rw[A4 A6,Bf];rfl
 subst hc;subst ha;exact {
  len:=by rw[B2,Bf,hlen];omega
  up:=by
   intro o ho;rw[B2,Bf,IU,hlen];rcases KE ho with q|q
   ·rcases List.mem_append.1 q with q|q
    ·exact Ul
    rw[Fq]at q;subst q;exact lD _ _
   subst q;exact BQ _ _ (show O3.length<O3.length+1 from I) I
  Iu:=fun k hk=>by
   rw[Ap I,EV I,FI k (fun q=>by have:=(h.own q).1;omega),h.Iu k hk]
  cell:=by
   rw[Bb YM,hx]
  own:=fun _=>by
   refine⟨I,?_⟩;rw[Ap I,Dg I,hlen,FB];rfl }
def CpR(f:Func)(r:A2)(O:List A8):Prop:=∃(ids:List Nat) (AS:Nat),r=.agg [aI f.name,.os AS f.blocks.length 7]∧(∀o∈O,o.upto O.length)∧O[0]?=some .gone∧O[1]?=some (.cells [aI 0,.A3 7 [] .ex]) ∧
 (5<=AS∧O[AS]?=some (.cells (C9 ids f.blocks)))∧XG 5 ids f.blocks O∧∀(j id:Nat) (b:Block),ids[j]?=some id->f.blocks[j]?=some b->b.term.to≠[]->id≠AS
theorem sW(f:Func):TY f [] 0 [] [.gone,.cells [aI 0,.A3 7 [] .ex],.gone,.cells [aI 0,.A3 7 [] .ex],.cells [aI f.name,.A3 7 [] .ex]] where
 up:=fun o ho=>by
  simp only[CL,GG,Di]at ho;rcases ho with rfl|rfl|rfl|rfl|rfl
  ·trivial
  ·exact aU
  ·trivial
  ·exact aU
  exact aU
 r0:=rfl
 r1:=rfl
 r3:=rfl
 out:=rfl
 blk:=fun q=>B3 rfl q
 cp:=⟨rfl,fun j id b h=>MI,fun i j id b c h=>MI⟩
 ne:=fun j id b h=>MI
theorem TY.done{AS:Nat}(h:TY f f.blocks AS ids O)(AT:f.blocks≠[]){cs:List A2}(BQ:AQ O.length cs):CpR f (.agg [aI f.name,.os AS f.blocks.length 7]) (O.set 3 (.cells cs)):=by
 obtain⟨b1,b2⟩:=h.blk AT;refine⟨ids,AS,rfl,?_,?_,?_,⟨b1,?_⟩,⟨h.cp.li,fun j id b q1 q2 q3=>?_,h.cp.inj⟩,h.ne⟩
 ·rw[B2];exact DY h.up BQ
 ·rw[Ap I];exact h.r0
 ·rw[Ap I];exact h.r1
 ·rw[Ap I];exact b2
 obtain⟨o1,o2⟩:=h.cp.own j id b q1 q2 q3;exact⟨o1,q9⟩
def QA(f:Func):So:=⟨Hi f,3,0,[.gone,.cells [.A3 1 [] .ex],.cells ((Hi f).seen.map eB),.cells [aI 0,aI 0]]⟩
theorem kN(f:Func):SO (QA f) where
 up:=by
  intro o ho;simp only[QA,CL,GG,Di]at ho;rcases ho with rfl|rfl|rfl|rfl
  ·trivial
  ·exact⟨⟨trivial,trivial⟩,trivial⟩
  ·exact SY _ _
  exact⟨trivial,trivial,trivial⟩
 out:=rfl
 outs:=fun h=>B3 rfl h
 seen:=rfl
 stk:=⟨[],rfl⟩
 sne:=by simp[QA]
theorem aep(f:Func)(hg:FN f) :
  Aq prog 75 [.gone,.cells [.A3 1 [] .ex]] [f.enc,.fn (.func 76) [] [.mp 1 0]] (fun r O'=>r=.Ab []∧O'=(N4 f 100000 (QA f)).O):=by
 have qoB:=hg.few;have hl:0<f.blocks.length:=by
  cases hb:f.blocks with
  | nil=>exact B3 hb hg.ne
  | cons=>simp
 obtain⟨N,hN⟩:∃N,N=f.blocks.length:=⟨_,rfl⟩
 obtain⟨F,hF⟩:∃F,F=N4 f 100000 (QA f):=⟨_,rfl⟩
 rw[<-hF];have Bh:[A8.gone,A8.cells [A2.A3 1 [] .ex]].length<=F.O.length:=by
  have key:∀(n:Nat) (X:So),SO X->SO (N4 f n X):=fun n=>by
   induction n with
   | zero=>exact fun X h=>h
   | succ n ih =>
    intro X h;simp only[N4];split
    ·exact h
    exact ih _ h.step
  have:=AE (key 100000 _ (kN f)).out;rw[<-hF]at this;simp only[CE,GD];omega
 refine Ly hT true (F.O.length) func75 rfl CW (by simp[ntmps75]) I8 ?_;show AU prog _ _ _ ⟨81,_,_⟩;refine Cw ?_;refine Cz 2 2 (.ip none [aI f.name,AR f.blocks]) rfl Bd trivial rfl ?_ ?_;rotate_left;refine BL ?_
 ·refine Ei 2 [(1,.fn (.func 76) [] [.mp 1 0]),(2,.ip none [aI f.name,AR f.blocks])] A6 I [.gone,.cells [.A3 1 [] .ex]] ?_ ?_ ?_ ?_ ?_
  ·rfl
  ·exact YV
  ·exact Es
  ·exact YV
  refine B9 ?_;simp -dsimp only[simprocAttr,↓AG,zp,qa3,<-hN];refine⟨I,I,?_⟩;refine Ak ?_;refine BM ?_;have PJ:As ((List.replicate N false).map eB) 0 [.v (.bool true)]=(Hi f).seen.map eB:=by
   rw[LK _ Ai];simp only[Hi,<-hN,QM];rfl
  refine⟨I,Ai,?_⟩;rw[PJ];refine Ak ?_;refine DW (gq ⟨false,false⟩ hT 1 rfl rfl rfl A6 ?_);refine BL ?_;refine qgt hT rfl rfl A6 rfl rfl rfl A6 rfl aaJ rfl rfl aaN A6 A6 ?_;refine Ki ?_;have yQ:=kO hg;refine Al (BZ (ι:={X:So // SO X∧S7 f X.S∧∃n,SD X.S<n∧F=N4 f n X}) (fun X=>⟨81,[(1,.fn (.func 76) [] [.mp 1 0]),(2,.ip none [aI f.name,AR f.blocks]),(4,.ms 2 0 N N),(5,.os X.1.sid X.1.S.st.length 2)],X.1.O⟩) (fun X=>SD X.1.S) ⟨QA f,kN f,yQ.1,100000,yQ.2,hF⟩ ?_ ?_)
  ·refine Ba ?_ ?_
   all_goals first|rfl|exact Sub.refl _
  rintro⟨X,hX,hS,n,hn,hnF⟩;have hXs:=hX.step (f:=f);obtain⟨⟨seen,st,out⟩,sid,oid,O⟩:=X;obtain⟨h1,h2,h3,h4,⟨MV,h5⟩,h6⟩:=id hX;simp only at h1 h2 h3 h4 h5 h6 hn;cases st with
  | nil =>
   refine BF ?_;refine KL ?_;refine BO ?_;have hFO:F.O=O:=by
    rw[hnF];cases n with
    | zero=>rfl
    | succ n=>rfl
   skip
   simp -dsimp only[simprocAttr,↓AG,zp,zr,results75];rw[hFO];exact⟨A6,by rw[Cb (B6 _)];exact h1,trivial,Cb (B6 _)⟩
  | cons p r =>
   obtain⟨b,e⟩:=p;have BD:=kd hg hS A6;obtain⟨n,rfl⟩:∃n',n=n'+1:=⟨n-1,I⟩
   have ZA:F=N4 f n (QG f ⟨⟨seen,(b,e)::r,out⟩,sid,oid,O⟩):=hnF;have hSs:=wF f ⟨⟨seen,(b,e)::r,out⟩,sid,oid,O⟩;have hp:=hS.blk (b,e) A6;simp only at hp;have qoy:r.length<=128:=by
    have a1:=hS.few;have a2:seen.countP id<=seen.length:=PC;have a3:=hS.len;simp only[CE]at a1 a3;omega
   have Pl:((r.length+1:Nat):Int)-1=(r.length:Nat):=I
   obtain⟨B,hB⟩:∃B,B=A7 f b:=⟨_,rfl⟩
   have hBg:=K2 hp.1 hp.2.1;rw[<-hB]at hBg;have DM:Ea f b=B.term.to:=by rw[hB];rfl
   have Lk:(Ji ((b,e)::r)++MV)[r.length*2]?=some (aI b):=by
    rw[Ji,Ez,Dg qV,W3,FB];rfl
   have Hg:(Ji ((b,e)::r)++MV)[r.length*2+1]?=some (aI e):=by
    rw[Ji,Ez,Dg qV,W3,show r.length*2+1-r.length*2=1 from I];rfl
   obtain⟨cs,BQ⟩:∃cs,cs=Ji ((b,e)::r)++MV:=⟨_,rfl⟩
   rw[<-BQ]at Lk Hg h5;refine BF ?_;apply AZ rfl<;>intro h
   ·refine Az ?_;refine Al ?_;refine QS Pl ?_;refine B9 ?_;refine QR h5 Lk hBg ?_
    refine Gv ?_;by_cases he:e=(Ea f b).length
    ·have Ca:decide (e=(B.term.to.length:Int))=true:=Ar (by rw[he,DM]);have J5:Jf f ⟨seen,(b,e)::r,out⟩=⟨seen,r,out++[b]⟩:=by simp only[Jf];rw[A9 he]
     have Pq:QG f ⟨⟨seen,(b,e)::r,out⟩,sid,oid,O⟩=⟨⟨seen,r,out++[b]⟩,sid,O.length,al O oid out b⟩:=by simp only[QG];rw[A9 he,J5]
     rw[Pq]at hXs ZA;simp only[J5]at BD;have MX:Aq prog 76 O [aI b,.mp 1 0] (fun r' O'=>r'=.Ab []∧O'=al O oid out b):=by
      unfold al;by_cases ho:out=[]
      ·rw[A9 ho];exact qey h1 (by rw[h2,ho];rfl) b
      rw[A4 ho];obtain⟨k1,k2,k3⟩:=h3 ho;have a1:=hS.few;have a2:seen.countP id<=seen.length:=PC;have a3:=hS.len;simp only at a1 a3;exact qgl h1 (by rw[h2,cI,A4 ho]) k1 I I b
     refine L5 h5 Hg Ca ?_;refine Ak ?_;refine FF ?_;refine KJ h5 Lk ?_;refine .inr (.inl ⟨_,_,MX,.inl (B4 (zj ?_))⟩);refine Ak ?_;refine QS Pl ?_;refine BO ?_;refine⟨⟨_,hXs,BD.1,n,?_,ZA⟩,?_,?_⟩
     ·have:=BD.2;simp only at this hn ⊢;omega
     ·exact BD.2
     refine C6 ?_
     all_goals rfl
    have Ca:decide (e=(B.term.to.length:Int))=false:=Ac (by rw[<-DM];exact he);obtain⟨x,hx,Lt,F7,Ib⟩:=hg.next ⟨hp.1,hp.2.1⟩ hp.2.2.1 I
    rw[DM]at hx;refine L5 h5 Hg Ca ?_;refine ML ?_;refine B9 ?_;refine QR h5 Hg hx ?_
    refine D1 ?_;obtain⟨j,hj⟩:∃j:Nat,HN f b e=(j:Int):=⟨(HN f b e).toNat,I⟩
    have hjN:j<seen.length:=by
     have a3:=hS.len;simp only at a3;omega
    rw[hj]at Lt F7 Ib;obtain⟨sv,Nf⟩:∃sv,seen[j]?=some sv:=⟨seen[j],AY hjN⟩
    have zL:(seen.map eB)[j]?=some (.v (.bool sv)):=by rw[Bv,Nf];rfl
    have B8:(r.length+1)*2<=cs.length:=by
     rw[BQ,Bf,W3];simp
    obtain⟨VV,gL⟩:∃VV,VV=cs.set (r.length*2+1) (aI (e+1)):=⟨_,rfl⟩
    have PJ:As cs (r.length*2+1) [.v (.int .i64 (e+1))]=VV:=by rw[LK _ I,gL]
    have qol:(r.length+1)*2<=VV.length:=by rw[gL,B2];exact B8
    obtain⟨O1,Bn⟩:∃O1,O1=O.set sid (.cells VV):=⟨_,rfl⟩
    have g5:O1[sid]?=some (.cells VV):=by rw[Bn];exact Wh h5
    have g4:O1[2]?=some (.cells (seen.map eB)):=by rw[Bn];exact EY h4 I
    have z':eW O sid=cs:=by simp only[eW,h5]
    have qod:(Ea f b).length<=257:=hg.to _ (M' hp.1 hp.2.1);refine L6 h5 Hg ?_;rw[PJ,<-Bn];cases sv with
    | true =>
     have J5:Jf f ⟨seen,(b,e)::r,out⟩=⟨seen,(b,e+1)::r,out⟩:=by simp only[Jf];rw[A4 he,hj,BH,Nf,A9 (show(some true).getD false=true from rfl)]
     have Pq:QG f ⟨⟨seen,(b,e)::r,out⟩,sid,oid,O⟩=⟨⟨seen,(b,e+1)::r,out⟩,sid,oid,O1⟩:=by simp only[QG];rw[A4 he,J5,z',hj,BH,Nf,A9 (show(some true).getD false=true from rfl),<-gL,Bn]
     rw[Pq]at hXs ZA;simp only[J5]at BD;refine B9 ?_;simp -dsimp only[simprocAttr,↓AG,zp,g4,Lt,BH,zL,HW]
     refine D1 ?_;refine KL ?_;refine zn1 ?_;refine⟨⟨_,hXs,BD.1,n,?_,ZA⟩,?_,?_⟩
     ·have:=BD.2;simp only at this hn ⊢;omega
     ·exact BD.2
     refine C6 ?_
     all_goals rfl
    | false =>
     have J5:Jf f ⟨seen,(b,e)::r,out⟩=⟨seen.set j true,((j:Int),0)::(b,e+1)::r,out⟩:=by simp only[Jf];rw[A4 he,hj,BH,Nf,A4 A6]
     obtain⟨O2,Jp⟩:∃O2,O2=O1.set 2 (.cells ((seen.set j true).map eB)):=⟨_,rfl⟩
     have k5:O2[sid]?=some (.cells VV):=by rw[Jp];exact EY g5 I
     have Pq:QG f ⟨⟨seen,(b,e)::r,out⟩,sid,oid,O⟩=⟨⟨seen.set j true,((j:Int),0)::(b,e+1)::r,out⟩,O2.length,oid,O2.set sid .gone++[A8.cells (VV.take ((r.length+1)*2)++[aI j,aI 0])]⟩:=by
      simp only[QG];rw[A4 he,J5,z',hj,BH,Nf,A4 A6,<-gL,<-Bn,<-Jp]
     rw[Pq]at hXs ZA;simp only[J5]at BD;have qm6:As (seen.map eB) j [.v (.bool true)]=(seen.set j true).map eB:=by
      rw[LK _ (by simpa using hjN),QM];rfl
     refine B9 ?_;simp -dsimp only[simprocAttr,↓AG,zp,g4,Lt,BH,zL,HW]
     refine D1 ?_;refine FF ?_;refine B9 ?_;refine aa g4 Lt ?_
     refine D1 ?_;rw[qm6,<-Jp];refine Dn ?_;refine Ri k5 Lt ?_
     refine Ef ?_
     refine zl1 ?_;refine⟨⟨_,hXs,BD.1,n,?_,ZA⟩,?_,?_⟩
     ·have:=BD.2;simp only at this hn ⊢;omega
     ·exact BD.2
     refine C6 ?_
     all_goals rfl
   exact Ht h
 exact Be
def bP(l:List Int)(i:Nat)(m:List Int):Prop:=m.length=l.length∧∀k,k<l.length->m[k]?=if k<i∨l.length<=k+i then l[l.length-1-k]? else l[k]?
theorem qdf(l:List Int):bP l 0 l:=⟨rfl,fun k hk=>by rw[A4 I]⟩
theorem qde{l m:List Int}{i:Nat}(h:bP l i m)(hi:2*i+1<l.length){a b:Int}(ha:m[i]?=some a)(hb:m[l.length-1-i]?=some b):bP l (i+1) ((m.set i b).set (l.length-1-i) a):=by
 obtain⟨h1,h2⟩:=h;refine⟨JT,fun k hk=>?_⟩;have e1:=h2 i I;have e2:=h2 (l.length-1-i) I;rw[A4 I]at e1 e2;rw[FD,FD];simp only[B2];by_cases q1:l.length-1-i=k
 ·rw[A9 q1,A9 I,A9 I,<-ha,e1];congr 1;omega
 rw[A4 q1];by_cases q2:i=k
 ·rw[A9 q2,A9 I,A9 I,<-hb,e2,q2]
 rw[A4 q2,h2 k hk];by_cases q3:k<i∨l.length<=k+i
 ·rw[A9 q3,A9 I]
 rw[A4 q3,A4 I]
theorem qdd{l m:List Int}{i:Nat}(h:bP l i m)(hi:l.length<=2*i+1):m=l.reverse:=by
 obtain⟨h1,h2⟩:=h;apply Gg;intro k;by_cases hk:k<l.length
 ·rw[h2 k hk,pJ hk];split
  ·rfl
  congr 1;omega
 rw[H3 I,H3 Ai]
theorem ads(AN:∀o∈O,o.upto O.length){oid:Nat}{l:List Int}(ho:O[oid]?=some (.cells (l.map aI)))(J6:l.length<=1000) :
  Aq prog 77 O [.os oid l.length 1] (fun r O'=>r=.Ab []∧O'=O.set oid (.cells (l.reverse.map aI))):=by
 have Jx:=AE ho;have FI:O.set oid (.cells (l.map aI))=O:=Y1 ho;have hgt:∀x,(O.set oid x)[oid]?=some x:=fun x=>Bb Jx;have BA:∀m:List Int,(O.set oid (.cells (m.map aI))).take O.length=O.set oid (.cells (m.map aI)):=fun m=>LI;have EC:∀m:List Int,∀o∈O.set oid (.cells (m.map aI)),o.upto O.length:=fun m=>DY AN (BU _ _);refine zf true O.length func77 ntmps77 ?_;refine MM ?_;refine WY ?_;refine Al (BZ (ι:={x:Nat×List Int // x.1<=l.length∧bP l x.1 x.2}) (fun x=>⟨28,[(0,.os oid l.length 1),(2,aI x.1.1),(3,aI ((l.length:Int)-1-x.1.1))],O.set oid (.cells (x.1.2.map aI))⟩) (fun x=>l.length-x.1.1) ⟨(0,l),A6,qdf l⟩ ?_ ?_)
 ·refine C6 ?_;exact FI.symm
 rintro⟨⟨i,m⟩,hi,hr⟩;simp only at hi hr;have JY:=hr.1;refine BF ?_;apply AZ rfl<;>intro h
 ·refine Az ?_;have AF:2*i+1<l.length:=by
   have:=T' h;omega
  obtain⟨j,hj⟩:∃j,j=l.length-1-i:=⟨_,rfl⟩
  have hji:(l.length:Int)-1-i=(j:Nat):=I
  obtain⟨a,ha⟩:∃a,m[i]?=some a:=⟨m[i]' I,AY _⟩
  obtain⟨b,hb⟩:∃b,m[j]?=some b:=⟨m[j]' I,AY _⟩
  have yF:=qde hr AF ha (by rw[<-hj];exact hb);rw[<-hj]at yF;have hma:(m.map aI)[i]?=some (aI a):=by rw[Bv,ha];rfl
  have hmb:(m.map aI)[j]?=some (aI b):=qW
  have He:As (m.map aI) i [.v (.int .i64 b)]=(m.set i b).map aI:=by
   rw[LK _ Ai,QM]
  have Vq:As ((m.set i b).map aI) j [.v (.int .i64 a)]=((m.set i b).set j a).map aI:=by
   rw[LK _ Ai];simp only[QM]
  refine DW (Al ?_);refine Dn ?_;simp -dsimp only[simprocAttr,↓AG,zp,hgt,hji,hma,hmb,BH,HW,He,Vq,Hr,B2];refine⟨I,I,I,I,I,I,?_⟩;refine⟨Vv [oid] O.length [.pure,.pure,.pure,.pure,.pure,.pure,.pure,.rd 0,.pure,.pure,.pure,.rd 0,.pure,.wr 1 [0],.pure,.wr 1 [0]] A6 Ai rfl rfl CW,Ga ?_⟩;refine rk ?_;refine Bw ?_;refine⟨⟨(i+1,_),D6,yF⟩,Ai,?_⟩;refine Ba ?_ ?_
  ·exact⟨Sub.int A6,Sub.int I⟩
  rfl
 refine BO ?_;have FM:l.length<=2*i+1:=by
  have:=G0 h;omega
 rw[qdd hr FM]
 skip
 simp -dsimp only[simprocAttr,↓AG,zp,zr,results77,BA,B2];exact⟨EC _,trivial⟩
def Cf(f:Func):List Int:=(Q9 f).reverse
def fX(f:Func):A2:=if Cj f=0 then .Ab [AA (Cf f),aI 0]else .Ab [AA [],aI (Cj f)]
theorem xk{f:Func}:∀(n:Nat) (S:Sr),(S.st=[]->S.out≠[])->(Kb f n S).st=[]->(Kb f n S).out≠[]
 | 0,S,h,he=>h he
 | n+1,S,h,he=>by
  simp only[Kb]at he ⊢;cases Au:S.st with
  | nil =>
   rw[Au]at he;simp only[List.isEmpty_nil,L4]at he ⊢;exact h Au
  | cons p r =>
   rw[Au]at he;simp only[iZ,JS,Gf]at he ⊢;refine xk n _ (fun q=>?_) he;obtain⟨b,e⟩:=p;simp only[Jf,Au]at q ⊢;split
   ·simp
   rename_i AT;rw[A4 AT]at q;split at q<;>simp at q
theorem lp{f:Func}:∀(n:Nat) (X:So),SO X->SO (N4 f n X)
 | 0,X,h=>h
 | n+1,X,h=>by
  simp only[N4];split
  ·exact h
  exact lp n _ h.step
theorem gy(hg:FN f):Q9 f≠[]∧(Q9 f).length<=128∧∀b∈Q9 f,0<=b∧b<f.blocks.length:=by
 have h0:=kO hg;have h1:=ky hg 100000 _ h0.1 h0.2;have h2:=xk 100000 (Hi f) (fun q=>by simp[Hi]at q) h1.2;have a1:=h1.1.few;have a2:(Kb f 100000 (Hi f)).seen.countP id<=(Kb f 100000 (Hi f)).seen.length:=PC;have a3:=h1.1.len;have a4:=hg.few;exact⟨h2,by unfold Q9;omega,h1.1.outs⟩
theorem sM(l:List Int):(l.map aI).map A2.Dd=AP (l.map aI):=by
 induction l with
 | nil=>rfl
 | cons a r ih =>
  simp only[Bc,AP,GF]at ih ⊢;rw[ih];rfl
theorem tv(f:Func)(AO:f.fit):BR prog 52 [f.enc] (fX f):=by
 have Jo:=gi f AO;unfold fX;by_cases hc:Cj f=0
 ·rw[A9 hc];rw[hc]at Jo;have hg:=(Mp AO hc).gr;have J5:=aep f hg;obtain⟨f1,f2,_⟩:=gy hg;have hXS:(N4 f 100000 (QA f)).S=Kb f 100000 (Hi f):=mS f 100000 (QA f);have hX:=lp (f:=f) 100000 _ (kN f);obtain⟨X,hXe⟩:∃X,X=N4 f 100000 (QA f):=⟨_,rfl⟩
  rw[<-hXe]at J5 hX hXS;have Cm:X.S.out=Q9 f:=by rw[hXS];rfl
  unfold Cf;obtain⟨l,hl⟩:∃l,l=Q9 f:=⟨_,rfl⟩
  rw[<-hl]at f1 f2 Cm ⊢;have h1:=hX.out;rw[Cm,cI,A4 f1]at h1;obtain⟨h2,h3,h4⟩:=hX.outs (by rw[Cm];exact f1);rw[Cm]at h2;have AN:=hX.up;obtain⟨S,sid,oid,O⟩:=X;simp only at h1 h2 h3 h4 AN J5;have yN:=ads AN h2 I;have Om:(O.set oid (.cells (l.reverse.map aI)))[1]?=some (.cells [.os oid l.length 1]):=EY h1 I;have Qz:(O.set oid (.cells (l.reverse.map aI)))[oid]?=some (.cells (l.reverse.map aI)):=Wh h2;refine zf true 0 func52 ntmps52 ?_;refine KK ?_ ?_
  ·refine ac2 h1 Om ?_;refine Cz 2 oid (o:=.cells (l.reverse.map aI)) (AA l.reverse) Qz Bd trivial rfl (Eh.os (cs:=l.reverse.map aI) Qz ?_ ?_ ?_) ?_
   ·intro x hx;obtain⟨c,_,rfl⟩:=List.mem_map.1 hx;rfl
   ·simp
   ·rw[I7,Cb A6];exact sM _
   refine BL ?_;refine F3 ?_;simp -dsimp only[simprocAttr,↓AG,zp,zr,results52];exact adM
  exact Be
 rw[A4 hc];obtain⟨e,he⟩:∃e,e=Cj f:=⟨_,rfl⟩
 rw[<-he]at hc Jo ⊢;have Ca:decide (e=0)=false:=Ac hc;refine zf true 0 func52 ntmps52 ?_;refine KK ?_ ?_
 ·refine Rj ?_;refine Uo Ca ?_;simp -dsimp only[simprocAttr,↓AG,zp,zr,results52];exact WZ
 exact Be
end Go.Proofs.YtjdnhamngpafmaaGreat
