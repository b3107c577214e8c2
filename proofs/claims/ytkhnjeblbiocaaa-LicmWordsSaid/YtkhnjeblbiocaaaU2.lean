/-
  Texts bound together by a program of mine: YtkhnjeblbiocaaaPud, YtkhnjeblbiocaaaT49, YtkhnjeblbiocaaaT50, YtkhnjeblbiocaaaPh, YtkhnjeblbiocaaaT51, YtkhnjeblbiocaaaPi, YtkhnjeblbiocaaaPde, YtkhnjeblbiocaaaT59, YtkhnjeblbiocaaaT52, YtkhnjeblbiocaaaPda, YtkhnjeblbiocaaaT53, YtkhnjeblbiocaaaPdf, YtkhnjeblbiocaaaPdg, YtkhnjeblbiocaaaPdh, YtkhnjeblbiocaaaT101, YtkhnjeblbiocaaaT102, YtkhnjeblbiocaaaT103, YtkhnjeblbiocaaaT107, YtkhnjeblbiocaaaT165, YtkhnjeblbiocaaaT166.
-/
import Derived.Test.YtkhnjeblbiocaaaU1
import Derived.Test.YtkhnjeblbiocaaaChecked
import Derived.KernelRfl
import Derived.Shelf.Slices.In.SortNone
import Derived.Shelf.Sort.Plain
set_option linter.all false
set_option maxRecDepth 100000
set_option maxHeartbeats 4000000

namespace Go.Proofs.Ytkhnjeblbiocaaa
open Go.Av Go.Sort
def NR:Go.Shelf.Ren:=⟨fun|125=>91|128=>115|129=>116|189=>71|215=>129|216=>112|257=>90|294=>106|295=>107|296=>108|297=>109|298=>110|299=>111|300=>113|301=>114|328=>124|329=>125|330=>126|331=>127|332=>128|343=>131|n=>n,fun|0=>0|3=>3|4=>4|5=>5|9=>9|28=>26|46=>142|51=>167|53=>130|131=>149|182=>160|183=>161|218=>173|222=>177|228=>180|229=>181|n=>n,fun n=>n⟩
theorem OM:Go.Proofs.Lays.n189 Try.prog NR:={
 mixed:=by kernel_rfl,
 f125:=Try.func91.trans (congrArg some (by kernel_rfl)),
 f128:=Try.func115.trans (congrArg some (by kernel_rfl)),
 f129:=Try.func116.trans (congrArg some (by kernel_rfl)),
 f189:=Try.func71.trans (congrArg some (by kernel_rfl)),
 f215:=Try.func129.trans (congrArg some (by kernel_rfl)),
 f216:=Try.func112.trans (congrArg some (by kernel_rfl)),
 f257:=Try.func90.trans (congrArg some (by kernel_rfl)),
 f294:=Try.func106.trans (congrArg some (by kernel_rfl)),
 f295:=Try.func107.trans (congrArg some (by kernel_rfl)),
 f296:=Try.func108.trans (congrArg some (by kernel_rfl)),
 f297:=Try.func109.trans (congrArg some (by kernel_rfl)),
 f298:=Try.func110.trans (congrArg some (by kernel_rfl)),
 f299:=Try.func111.trans (congrArg some (by kernel_rfl)),
 f300:=Try.func113.trans (congrArg some (by kernel_rfl)),
 f301:=Try.func114.trans (congrArg some (by kernel_rfl)),
 f328:=Try.func124.trans (congrArg some (by kernel_rfl)),
 f329:=Try.func125.trans (congrArg some (by kernel_rfl)),
 f330:=Try.func126.trans (congrArg some (by kernel_rfl)),
 f331:=Try.func127.trans (congrArg some (by kernel_rfl)),
 f332:=Try.func128.trans (congrArg some (by kernel_rfl)),
 f343:=Try.func131.trans (congrArg some (by kernel_rfl)),
 t0:=Try.underlying0,
 a0:=Try.isAgg0,
 z0:=Try.sizeOf0,
 v0:=Try.zeroValue0,
 t3:=Try.underlying3,
 a3:=Try.isAgg3,
 z3:=Try.sizeOf3,
 v3:=Try.zeroValue3,
 t4:=Try.underlying4,
 a4:=Try.isAgg4,
 z4:=Try.sizeOf4,
 v4:=Try.zeroValue4,
 t5:=Try.underlying5,
 a5:=Try.isAgg5,
 z5:=Try.sizeOf5,
 v5:=Try.zeroValue5,
 t9:=Try.underlying9,
 a9:=Try.isAgg9,
 z9:=Try.sizeOf9,
 v9:=Try.zeroValue9,
 t28:=Try.underlying26,
 a28:=Try.isAgg26,
 z28:=Try.sizeOf26,
 v28:=Try.zeroValue26,
 t46:=Try.underlying142,
 a46:=Try.isAgg142,
 z46:=Try.sizeOf142,
 v46:=Try.zeroValue142,
 t51:=Try.underlying167,
 a51:=Try.isAgg167,
 z51:=Try.sizeOf167,
 v51:=Try.zeroValue167,
 t53:=Try.underlying130,
 a53:=Try.isAgg130,
 z53:=Try.sizeOf130,
 v53:=Try.zeroValue130,
 t131:=Try.underlying149,
 a131:=Try.isAgg149,
 z131:=Try.sizeOf149,
 v131:=Try.zeroValue149,
 t182:=Try.underlying160,
 a182:=Try.isAgg160,
 z182:=Try.sizeOf160,
 v182:=Try.zeroValue160,
 t183:=Try.underlying161,
 a183:=Try.isAgg161,
 z183:=Try.sizeOf161,
 v183:=Try.zeroValue161,
 t218:=Try.underlying173,
 a218:=Try.isAgg173,
 z218:=Try.sizeOf173,
 v218:=Try.zeroValue173,
 t222:=Try.underlying177,
 a222:=Try.isAgg177,
 z222:=Try.sizeOf177,
 v222:=Try.zeroValue177,
 t228:=Try.underlying180,
 a228:=Try.isAgg180,
 z228:=Try.sizeOf180,
 v228:=Try.zeroValue180,
 t229:=Try.underlying181,
 a229:=Try.isAgg181,
 z229:=Try.sizeOf181,
 v229:=Try.zeroValue181 }
theorem Oy:M3 Try.prog 71:=fun blk off cap zs w h1 h2 h3=>Any.slices_Sort_int OM blk off cap zs w h1 h2 h3
theorem Mn:Go.Av.vr Try.prog 71:=⟨_,Try.func71,by kernel_rfl,by kernel_rfl⟩
theorem Pj{O:List ak}{id:Nat}{zs:List Int}(ho:O[id]?=some (.cells (zs.map aI)))(hl:zs.length<=1000) :
  bc Try.prog 71 O [.os id zs.length 1] (fun r O'=>r=.df []∧O'=O.set id (.cells ((LB zs).map aI))):=N3 Mn Oy ho hl
theorem MT(p:Option Addr)(cap:Nat)(w:World):Calls Try.prog 71 #[.slice p 0 cap] w fun e w'=>e=.returned (.tuple #[])∧w'=w:=Any.slices_Sort_int_none OM p cap w
theorem PX(O:List ak):bc Try.prog 71 O [.aE 1 [] .sh] (fun r O'=>r=.df []∧O'=O):=by
 refine⟨Mn,fun g vs hg Bw Pc=>?_⟩;obtain⟨h1,h2⟩:=Pc;simp only[List.length_singleton]at h1;have G0:vs[0]?=some (vs[0]'(by omega)):=Array.getElem?_eq_getElem _;have hr:=h2 0 _ _ rfl G0;have hv:∃p cap,vs = #[.slice p 0 cap]:=by
  have:∃p cap,vs[0]'(by omega)=.slice p 0 cap:=by
   generalize vs[0]'(by omega)=u at hr;cases hr with
   | nil=>exact⟨_,_,rfl⟩
   | aE=>exact⟨_,_,rfl⟩
  obtain⟨p,cap,e⟩:=this;refine⟨p,cap,?_⟩;apply Array.ext
  ·simpa using h1
  intro i Kg EJ;have:i=0:=by omega
  subst this;exact e
 obtain⟨p,cap,rfl⟩:=hv;refine(MT p cap g.w).mono ?_;rintro e w' ⟨rfl,rfl⟩;exact⟨g,_,.df [],rfl,rfl,Le.refl g,hg,.df rfl (by simp),rfl,Bw⟩
end Go.Proofs.Ytkhnjeblbiocaaa
namespace Go.Proofs.Ytkhnjeblbiocaaa
open Go.Av


end Go.Proofs.Ytkhnjeblbiocaaa
namespace Go.Av

end Go.Av
namespace Go.Proofs.Ytkhnjeblbiocaaa
open Go.Av
def Mu{X:Type}(step:X->Nat->List Bool->X)(l:List bE):Nat->X->List Bool->X
 | 0,x,s=>step x 0 s
 | n+1,x,s=>match l[n]? with
  | none=>x
  | some i=>Mu step l n (step x (n+1) s) (OE i s)






theorem Mc{X:Type}{step:X->Nat->List Bool->X}{l:List bE}{J:Nat->X->List Bool->Prop}(hs:∀n x s i,l[n]?=some i->J (n+1) x s->J n (step x (n+1) s) (OE i s)):∀n x s,n<=l.length->J n x s->∃x' s',J 0 x' s'∧Mu step l n x s=step x' 0 s'
 | 0,x,s,_,h=>⟨x,s,h,rfl⟩
 | n+1,x,s,hn,h=>by
  obtain⟨i,hi⟩:∃i,l[n]?=some i:=⟨l[n],List.getElem?_eq_getElem _⟩
  obtain⟨x',s',h1,h2⟩:=Mc hs n _ _ (by omega) (hs n x s i hi h);refine⟨x',s',h1,?_⟩;simp only[Mu,hi];exact h2
def setAt(f:Func)(S:List (List Bool))(k n:Nat):List Bool:=Qs ((aD f k).ins.drop n) (S[k]?.getD [])
theorem Ov{f:Func}{S:List (List Bool)}{k n:Nat}{i:bE}(h:(aD f k).ins[n]?=some i):setAt f S k n=OE i (setAt f S k (n+1)):=by
 unfold setAt;rw[bS h];rfl
def P0(v w:Nat)(s:List Bool):Bool:=s[v]?.getD false&&s[w]?.getD false
def Nq(v w:Nat)(x:Bool)(_:Nat)(s:List Bool):Bool:=x ||P0 v w s
theorem inBlock{f:Func}{S:List (List Bool)}{k v w:Nat}{s0:List Bool}(Aj:S[k]?=some s0)(x0:Bool) :
  Mu (Nq v w) (aD f k).ins (aD f k).ins.length x0 s0=true↔x0=true∨∃n,n<=(aD f k).ins.length∧P0 v w (setAt f S k n)=true:=by
 obtain⟨x',s',⟨ef,gM,eh⟩,he⟩:=Mc (step:=Nq v w) (l:=(aD f k).ins) (J:=fun n x s=>s=setAt f S k n∧n<=(aD f k).ins.length∧(x=true↔x0=true∨∃m,n<m∧m<=(aD f k).ins.length∧P0 v w (setAt f S k m)=true)) (fun n x s i hi ⟨ef,gM,eh⟩=>by
   subst ef;refine⟨(Ov hi).symm,by omega,?_⟩;rw[Nq,Bool.or_eq_true,eh];constructor
   ·rintro((q|⟨m,q1,q2,q3⟩)|q)
    ·exact .inl q
    ·exact .inr ⟨m,by omega,q2,q3⟩
    exact .inr ⟨n+1,by omega,gM,q⟩
   rintro(q|⟨m,q1,q2,q3⟩)
   ·exact .inl (.inl q)
   by_cases e:m=n+1
   ·subst e;exact .inr q3
   exact .inl (.inr ⟨m,by omega,q2,q3⟩))
  (aD f k).ins.length x0 s0 (Nat.le_refl _) ⟨by simp[setAt,Aj,Qs],Nat.le_refl _,⟨fun q=>.inl q,fun q=>by
   rcases q with q|⟨m,q1,q2,_⟩
   ·exact q
   omega⟩⟩
 subst ef;rw[he,Nq,Bool.or_eq_true,eh];constructor
 ·rintro((q|⟨m,q1,q2,q3⟩)|q)
  ·exact .inl q
  ·exact .inr ⟨m,q2,q3⟩
  exact .inr ⟨0,by omega,q⟩
 rintro(q|⟨m,q2,q3⟩)
 ·exact .inl (.inl q)
 by_cases e:m=0
 ·subst e;exact .inr q3
 exact .inl (.inr ⟨m,by omega,q2,q3⟩)



theorem Pf(f:Func)(bB:f.fit)(hc:bo f=0):∃(O:List ak) (zU:Nat),O[zU]?=some (.cells ((o4 f).map aI))∧(∀o∈O,o.upto O.length) ∧
  bc Try.prog 70 [] [f.enc] (fun r O'=>r=.df [.os zU (o4 f).length 1,aI 0]∧O'=O):=by
 have oF:=lP f bB;rw[hc]at oF;have hg:=(dV bB hc).gr;have EX:=Mm f hg;obtain⟨f1,f2,_⟩:=Lp hg;have Rz:(KW f 100000 (E1 f)).S=KD f 100000 (ql f):=Nz f 100000 (E1 f);have hX:=MS (f:=f) 100000 _ (Lb f);obtain⟨X,SF⟩:∃X,X=KW f 100000 (E1 f):=⟨_,rfl⟩
 rw[<-SF]at EX hX Rz;have KM:X.S.out=C2 f:=by rw[Rz];rfl
 unfold o4;obtain⟨l,hl⟩:∃l,l=C2 f:=⟨_,rfl⟩
 rw[<-hl]at f1 f2 KM ⊢;have h1:=hX.out;rw[KM,PO,if_neg f1]at h1;obtain⟨h2,h3,h4⟩:=hX.outs (by rw[KM];exact f1);rw[KM]at h2;have bC:=hX.up;obtain⟨S,sid,zU,O⟩:=X;simp only at h1 h2 h3 h4 bC EX;have yh:=I h2;have QV:=LR bC h2 (by omega);have Ge:(O.set zU (.cells (l.reverse.map aI)))[1]?=some (.cells [.os zU l.length 1]):=bx h1 (by omega);have HE:(O.set zU (.cells (l.reverse.map aI)))[zU]?=some (.cells (l.reverse.map aI)):=vz h2;have fY:∀o∈O.set zU (.cells (l.reverse.map aI)),o.upto O.length:=bF bC (az _ _);have wo:(O.set zU (.cells (l.reverse.map aI))).length=O.length:=by simp
 have iz:(O.set zU (.cells (l.reverse.map aI))).take O.length=O.set zU (.cells (l.reverse.map aI)):=cG;refine⟨O.set zU (.cells (l.reverse.map aI)),zU,HE,by rw[wo];exact fY,?_⟩;rw[List.length_reverse];generalize O.set zU (.cells (l.reverse.map aI))=O2 at *;have gT:([]:List ak).length<=O.length:=Nat.zero_le _;refine gb hT true (O.length) Try.func70 rfl (by kernel_rfl) (by simp[Try.ntmps70]) (by assumption) ?_;show cc Try.prog _ _ _ ⟨17,_,_⟩;dsimp only[Tmp,TypeId,ax];refine aA (ah ?_);refine aH 1 0 (.ip none [aI f.name,ay f.blocks]) rfl (by simp[ak.aF]) trivial rfl ?_ ?_;rotate_left;simp -dsimp only[simprocAttr,↓aa,zp]
 ·refine b8 ?_;refine zi oF ?_;refine ah ?_;refine aA (ah ?_);refine cE rfl ?_;refine cA ?_;refine aA (ah ?_);refine aA ?_;refine .inr (.inl ⟨_,_,EX,.inl (au (zj ?_))⟩);refine ah ?_;refine aX ?_;simp -dsimp only[simprocAttr,↓aa,zp,h1];refine .inr (.inl ⟨_,_,QV,.inl (au (zj ?_))⟩);refine ah ?_;refine aX ?_;simp -dsimp only[simprocAttr,↓aa,zp,Ge];refine ah ?_;refine aq ?_;simp -dsimp only[simprocAttr,↓aa,zp,zr,Try.results70,iz,wo];exact⟨fY,⟨yh,trivial,trivial⟩,rfl⟩
 exact cw.mp rfl rfl
def Q2(f:Func):ae:=if bo f=0 then .df [a6 (La f),aI 0]else .df [a6 [],aI (bo f)]
theorem MM(f:Func)(bB:f.fit):bw Try.prog 55 [f.enc] (Q2 f):=by
 unfold Q2;by_cases hc:bo f=0
 ·rw[if_pos hc];obtain⟨O,zU,h1,h2,Ri⟩:=Pf f bB hc;have wj:=(NX (dV bB hc).gr).few;have QA:=Pj (O:=O) (id:=zU) (zs:=o4 f) h1 (by omega);have h3:(O.set zU (.cells ((LB (o4 f)).map aI)))[zU]?=some (.cells ((LB (o4 f)).map aI)):=vz h1;have o5:=(Lc (o4 f)).length_eq;unfold La;generalize O.set zU (.cells ((LB (o4 f)).map aI))=O2 at *;obtain⟨l,hl⟩:∃l,l=LB (o4 f):=⟨_,rfl⟩
  rw[<-hl]at h3 o5 ⊢;rw[<-o5]at QA Ri;refine zf true 0 Try.func55 Try.ntmps55 ?_;dsimp only[Tmp,TypeId,ax];refine aA (ah ?_);refine aH 1 0 (.ip none [aI f.name,ay f.blocks]) rfl (by simp[ak.aF]) trivial rfl ?_ ?_;rotate_left;simp -dsimp only[simprocAttr,↓aa,zp]
  ·refine bT 0 [(1,.ip none [aI f.name,ay f.blocks])] (by omega) (by omega) [] ?_ ?_ ?_ ?_ ?_
   ·rfl
   ·simp[ak.upto]
   ·simp[gj,St.get,bu,a7,Go.Av.look,Sub.refl]
   ·simp[ak.upto,aw,ae.upto,az,Func.ai,Block.ai,Edge.ai,bE.ai]
   refine aA ?_;refine .inr (.inl ⟨_,_,Ri,.inl (au (zj ?_))⟩);refine ah ?_;refine aA ?_;refine .inr (.inl ⟨_,_,QA,.inl (au (zj ?_))⟩);refine ah ?_;refine aA (ah ?_);refine aH 2 zU (o:=.cells (l.map aI)) (a6 l) h3 (by simp[ak.aF]) trivial rfl (cw.os (cs:=l.map aI) h3 ?_ ?_ ?_) ?_
   ·intro x hx;obtain⟨c,_,rfl⟩:=List.mem_map.1 hx;rfl
   ·simp
   ·rw[List.drop_zero,List.take_of_length_le (by simp)];exact L9 _
   simp -dsimp only[simprocAttr,↓aa,zp];refine aq ?_;simp -dsimp only[simprocAttr,↓aa,zp,zr,Try.results55];exact⟨⟨az _ _,trivial⟩,trivial,trivial⟩
  exact cw.mp rfl rfl
 rw[if_neg hc];have Ri:=Ol f bB;unfold Oj at Ri;rw[if_neg hc]at Ri;generalize bo f=e at *;refine zf true 0 Try.func55 Try.ntmps55 ?_;dsimp only[Tmp,TypeId,ax];refine aA (ah ?_);refine aH 1 0 (.ip none [aI f.name,ay f.blocks]) rfl (by simp[ak.aF]) trivial rfl ?_ ?_;rotate_left;simp -dsimp only[simprocAttr,↓aa,zp]
 ·refine aA ?_;refine zi Ri ?_;refine ah ?_;refine aA ?_;refine .inr (.inl ⟨_,_,(PX _),.inl (au (zj ?_))⟩);refine ah ?_;refine aA (ah ?_);refine aq ?_;simp -dsimp only[simprocAttr,↓aa,zp,zr,Try.results55];simp[aw,ae.upto]
 exact cw.mp rfl rfl
theorem OA(f:Func)(bB:f.fit)(hc:bo f=0):bw Try.prog 31 [f.enc] (.df [.aE 1 ((w5 f).map eB) .sh,aI 0]):=by
 have hv:=KZ bB hc;have Kh:f.blocks.length<=128:=hv.fn.few;have QU:=MM f bB;unfold Q2 at QU;rw[if_pos hc]at QU;have dh:=MG f hv.vals bB.2.1 fun b hb=>⟨(bB.2.2 b hb).2.1,(bB.2.2 b hb).2.2.1⟩
 have H2:=NX hv.fn.gr;obtain⟨N,hN⟩:∃N:Nat,p' f=(N:Int):=⟨(p' f).toNat,by have:=LY f;omega⟩
 have Up:N<=4096:=by
  have:p' f<=4096:=KL (Ce f) 0 (by omega) fun v FT=>(hv.vals v FT).2;omega
 have E4:∀v∈Ce f,∃j:Nat,v=(j:Int)∧j<N:=fun v hm=>by
  have:=hv.below hm;exact⟨v.toNat,by omega,by omega⟩
 have pz:∀(k:Nat) b,f.blocks[k]?=some b->∀(z:Nat) v,b.params[z]?=some v->∃j:Nat,v=(j:Int)∧j<N:=fun k b hb z v hz =>
  E4 v (List.mem_flatMap.2 ⟨b,List.mem_of_getElem? hb,List.mem_append_left _ (List.mem_of_getElem? hz)⟩)
 have QO:∀(k:Nat) b,f.blocks[k]?=some b->∀(z:Nat) i,b.ins[z]?=some i->∃j:Nat,i.to=(j:Int)∧j<N:=fun k b hb z i hz =>
  E4 i.to (List.mem_flatMap.2 ⟨b,List.mem_of_getElem? hb,List.mem_append_right _ (List.mem_map.2 ⟨i,List.mem_of_getElem? hz,rfl⟩)⟩)
 have RU:∀(z:Nat) v,(La f)[z]?=some v->∃k:Nat,v=(k:Int)∧k<f.blocks.length:=fun z v hz=>by
  have h1:=H2.range v (Lo.1 (List.mem_of_getElem? hz));exact⟨v.toNat,by omega,by omega⟩
 have SJ:∀(k:Nat) b,f.blocks[k]?=some b->∀(z:Nat) e,b.term.to[z]?=some e->(∃j:Nat,e.block=(j:Int)∧j<f.blocks.length)∧e.args.length=(aD f e.block).params.length∧∀(m:Nat) a,e.args[m]?=some a->∃j:Nat,a=(j:Int)∧j<N:=fun k b hb z e hz=>by
  have jc:=List.mem_of_getElem? hb;have Rf:=List.mem_of_getElem? hz;obtain⟨e1,e2⟩:=(jE (hv.fn.blk b jc).fin).db e Rf;exact⟨⟨e.block.toNat,by omega,by omega⟩,e2,fun m a ha=>E4 a (K3 (hv.pC.args k b hb e Rf a (List.mem_of_getElem? ha)))⟩
 have uH:(La f).length<=128:=by
  rw[PU];exact H2.few
 obtain⟨W,hW⟩:∃W,W=w5 f:=⟨_,rfl⟩
 have TJ:W.length=N:=by rw[hW,MU,hN];rfl
 rw[<-hW];unfold w5 Po at hW;rw[hN,Int.toNat_natCast]at hW;obtain⟨W0,Sl⟩:∃W0,W0=P8 0 f.blocks (List.replicate N false):=⟨_,rfl⟩
 have SC:W0.length=N:=by rw[Sl,NB,List.length_replicate]
 rw[<-Sl]at hW;rw[hN]at dh;have hS:=fun w:List Bool=>OP f w;have S6:∀w:List Bool,QG f w=(La f).foldl (QF f) (w,false):=fun w=>rfl;obtain⟨R,hR⟩:∃R,R=La f:=⟨_,rfl⟩
 rw[<-hR]at QU RU uH S6;clear hR E4;refine zf true 0 Try.func31 Try.ntmps31 ?_;dsimp only[Tmp,TypeId,ax];refine aA (ah ?_);refine aH 1 0 (.ip none [aI f.name,ay f.blocks]) rfl (by simp[ak.aF]) trivial rfl ?_ ?_;rotate_left;simp -dsimp only[simprocAttr,↓aa,zp]
 ·refine aA ?_;refine .inl ⟨_,QU,by simp only[aw,ae.upto,zt,zu,az,KJ],au ?_⟩;simp -dsimp only[simprocAttr,↓aa,zp];refine ah ?_;refine b8 (ah ?_);apply aP rfl<;>intro h
  ·cases h
  refine cA ?_;refine aA ?_;refine .inl ⟨_,dh,by simp only[aw,ae.upto,zt,zu,az,KJ],au ?_⟩;simp -dsimp only[simprocAttr,↓aa,zp,Me,Int.toNat_natCast]
  repeat(refine⟨by omega,?_⟩)
  refine ah ?_;refine b8 (ah ?_);refine aj (aU (ι:={x:Nat×List Bool // x.1<=f.blocks.length∧x.2.length=N∧W0=P8 x.1 (f.blocks.drop x.1) x.2}) (fun x=>⟨122,[(1,.ip none [aI f.name,ay f.blocks]),(4,a6 R),(6,.ms 1 0 N N),(32,ay f.blocks),(33,aI f.blocks.length),(34,aI x.1.1)],[.gone,.cells (x.1.2.map eB)]⟩) (fun x=>f.blocks.length-x.1.1) ⟨(0,List.replicate N false),Nat.zero_le _,by simp,Sl⟩ ?_ ?_)
  ·refine zq rfl ?_ ?_;simp -dsimp only[simprocAttr,↓aa,zp,zc];rfl
  rintro⟨⟨k,w⟩,hk,LI,cO⟩;simp only at hk LI cO;refine aA (ah ?_);apply gW rfl<;>intro h
  ·refine cA ?_;have aZ:k<f.blocks.length:=by simpa using h
   obtain⟨b,hb⟩:∃b,f.blocks[k]?=some b:=⟨f.blocks[k],List.getElem?_eq_getElem aZ⟩
   rw[bS hb,P8]at cO;have jc:=List.mem_of_getElem? hb;have wj:=(hv.fn.blk b jc).few;refine aK (aj ?_);refine aX ?_;simp -dsimp only[simprocAttr,↓aa,zp,hb];refine ah ?_;refine aH 8 2 (.ip none [a6 b.params,bD b.ins,aI b.term.kind,aI b.term.arg,aI b.term.n,a6 b.term.cases,aJ b.term.to]) rfl (by simp[ak.aF]) trivial rfl ?_ ?_;rotate_left;simp -dsimp only[simprocAttr,↓aa,zp];rotate_left
   ·exact cw.mp rfl rfl
   refine bT 2 [(1,.ip none [aI f.name,ay f.blocks]),(4,a6 R),(6,.ms 1 0 N N),(32,ay f.blocks),(33,aI f.blocks.length),(34,aI k),(7,aI k),(8,.ip none [a6 b.params,bD b.ins,aI b.term.kind,aI b.term.arg,aI b.term.n,a6 b.term.cases,aJ b.term.to])] (by simp) (by omega) [.gone,.cells (w.map eB)] ?_ ?_ ?_ ?_ ?_
   ·rfl
   ·simp[ak.upto,KJ]
   ·simp[gj,St.get,bu,a7,Go.Av.look,Sub.refl]
   ·simp[ak.upto,aw,ae.upto,az,Func.ai,Block.ai,Edge.ai,bE.ai]
   refine b8 (ah ?_);obtain⟨x,hx⟩:∃x,x=decide ((0:Int)<(k:Int)):=⟨_,rfl⟩
   obtain⟨V,hV⟩:∃V,V=Q8 x b.params w:=⟨_,rfl⟩
   have S8:V.length=N:=by rw[hV,ND,LI]
   rw[<-hx,<-hV]at cO;unfold Q8 at hV;refine aj (aU (ι:={y:Nat×List Bool // y.1<=b.params.length∧y.2.length=N∧V=(b.params.drop y.1).foldl (fun w v=>w.set v.toNat x) y.2}) (fun y=>⟨122,[(1,.ip none [aI f.name,ay f.blocks]),(4,a6 R),(6,.ms 1 0 N N),(32,ay f.blocks),(33,aI f.blocks.length),(34,aI k),(7,aI k),(8,.ip none [a6 b.params,bD b.ins,aI b.term.kind,aI b.term.arg,aI b.term.n,a6 b.term.cases,aJ b.term.to]),(40,a6 b.params),(41,aI b.params.length),(42,aI y.1.1)],[.gone,.cells (y.1.2.map eB)]⟩) (fun y=>b.params.length-y.1.1) ⟨(0,w),Nat.zero_le _,LI,hV⟩ ?_ ?_)
   ·refine zq rfl ?_ ?_;simp -dsimp only[simprocAttr,↓aa,zp,zc];rfl
   rintro⟨⟨z,w⟩,hz,LI,Lh⟩;simp only at hz LI Lh;refine aA (ah ?_);apply gW rfl<;>intro h
   ·refine cA ?_;have qt:z<b.params.length:=by simpa using h
    obtain⟨v,G0⟩:∃v,b.params[z]?=some v:=⟨b.params[z],List.getElem?_eq_getElem qt⟩
    obtain⟨j,rfl,hj⟩:=pz k b hb z v G0;rw[bS G0,List.foldl_cons,Int.toNat_natCast]at Lh;have fQ:=Oc (l:=w) (j:=j) (by omega) x;refine aK (aj ?_);refine aX ?_;simp -dsimp only[simprocAttr,↓aa,zp,G0]
    repeat(refine⟨by omega,?_⟩)
    refine ah ?_;refine j1 ?_;simp -dsimp only[simprocAttr,↓aa,zp,<-hx,fQ,LI,Int.toNat_natCast,Nat.mul_one]
    repeat(refine⟨by omega,?_⟩)
    refine ah ?_;refine dc ?_
    repeat(refine⟨by omega,?_⟩)
    refine fV ?_;refine⟨⟨(z+1,w.set j x),qt,by simp[LI],Lh⟩,by simp;omega,?_⟩;refine zq rfl ?_ ?_;simp -dsimp only[simprocAttr,↓aa,zp,zc]
    ·exact Sub.int (by simp)
    rfl
   refine aR ?_;simp -dsimp only[bX,ne_eq,Nat.reduceEqDiff,reduceCtorEq];have Cw:z=b.params.length:=by simp at h;omega
   subst Cw;rw[List.drop_length,List.foldl_nil]at Lh;subst Lh;refine aA (ah ?_);obtain⟨U,c6⟩:∃U,U=Q7 b.ins V:=⟨_,rfl⟩
   have TG:U.length=N:=by rw[c6,NC,S8]
   rw[<-c6]at cO;unfold Q7 at c6;refine aj (aU (ι:={y:Nat×List Bool // y.1<=b.ins.length∧y.2.length=N∧U=(b.ins.drop y.1).foldl (fun w i=>w.set i.to.toNat (Li i.op)) y.2}) (fun y=>⟨122,[(1,.ip none [aI f.name,ay f.blocks]),(4,a6 R),(6,.ms 1 0 N N),(32,ay f.blocks),(33,aI f.blocks.length),(34,aI k),(7,aI k),(8,.ip none [a6 b.params,bD b.ins,aI b.term.kind,aI b.term.arg,aI b.term.n,a6 b.term.cases,aJ b.term.to]),(53,bD b.ins),(54,aI b.ins.length),(55,aI y.1.1)],[.gone,.cells (y.1.2.map eB)]⟩) (fun y=>b.ins.length-y.1.1) ⟨(0,V),Nat.zero_le _,S8,c6⟩ ?_ ?_)
   ·refine zq rfl ?_ ?_;simp -dsimp only[simprocAttr,↓aa,zp,zc];rfl
   rintro⟨⟨z,w⟩,hz,LI,Lh⟩;simp only at hz LI Lh;refine aA (ah ?_);apply gW rfl<;>intro h
   ·refine cA ?_;have qt:z<b.ins.length:=by simpa using h
    obtain⟨i,hi⟩:∃i,b.ins[z]?=some i:=⟨b.ins[z],List.getElem?_eq_getElem qt⟩
    obtain⟨j,nP,hj⟩:=QO k b hb z i hi;rw[bS hi,List.foldl_cons,nP,Int.toNat_natCast]at Lh;have fQ:=Oc (l:=w) (j:=j) (by omega) (Li i.op);have T7:=Nt i.op;refine aK (aj ?_);refine aX ?_;simp -dsimp only[simprocAttr,↓aa,zp,hi];refine ah ?_;refine aH 12 2 (.ip none [aI i.to,aI i.op,aI i.n,a6 i.args]) rfl (by simp[ak.aF]) trivial rfl ?_ ?_;rotate_left;simp -dsimp only[simprocAttr,↓aa,zp];rotate_left
    ·exact cw.mp rfl rfl
    refine bT 2 [(1,.ip none [aI f.name,ay f.blocks]),(4,a6 R),(6,.ms 1 0 N N),(32,ay f.blocks),(33,aI f.blocks.length),(34,aI k),(7,aI k),(8,.ip none [a6 b.params,bD b.ins,aI b.term.kind,aI b.term.arg,aI b.term.n,a6 b.term.cases,aJ b.term.to]),(53,bD b.ins),(54,aI b.ins.length),(55,aI z),(12,.ip none [aI i.to,aI i.op,aI i.n,a6 i.args])] (by simp) (by omega) [.gone,.cells (w.map eB)] ?_ ?_ ?_ ?_ ?_
    ·rfl
    ·simp[ak.upto,KJ]
    ·simp[gj,St.get,bu,a7,Go.Av.look,Sub.refl]
    ·simp[ak.upto,aw,ae.upto,az,Func.ai,Block.ai,Edge.ai,bE.ai]
    refine j1 ?_;simp -dsimp only[simprocAttr,↓aa,zp,nP];refine .inl ⟨_,T7,by simp only[aw,ae.upto,zt,zu,az,KJ],au ?_⟩;simp -dsimp only[simprocAttr,↓aa,zp,fQ,LI,Int.toNat_natCast,Nat.mul_one]
    repeat(refine⟨by omega,?_⟩)
    refine⟨ob (by kernel_rfl),?_⟩;refine ah ?_;refine dc ?_
    repeat(refine⟨by omega,?_⟩)
    refine fV ?_;refine⟨⟨(z+1,w.set j (Li i.op)),qt,by simp[LI],Lh⟩,by simp;omega,?_⟩;refine zq rfl ?_ ?_;simp -dsimp only[simprocAttr,↓aa,zp,zc]
    ·exact Sub.int (by simp)
    rfl
   refine aR ?_;simp -dsimp only[bX,ne_eq,Nat.reduceEqDiff,reduceCtorEq];have Cw:z=b.ins.length:=by simp at h;omega
   subst Cw;rw[List.drop_length,List.foldl_nil]at Lh;subst Lh;refine dc ?_
   repeat(refine⟨by omega,?_⟩)
   refine fV ?_;refine⟨⟨(k+1,U),aZ,TG,cO⟩,by simp;omega,?_⟩;refine zq rfl ?_ ?_;simp -dsimp only[simprocAttr,↓aa,zp,zc]
   ·exact Sub.int (by simp)
   rfl
  refine aR ?_;simp -dsimp only[bX,ne_eq,Nat.reduceEqDiff,reduceCtorEq];have gT:k=f.blocks.length:=by simp at h;omega
  subst gT;rw[List.drop_length,P8]at cO;subst cO;clear Sl;refine b8 (ah ?_);refine aj (aU (ι:={x:Bool×List Bool // x.2.length=N∧(x.1=true->∃n,LG x.2<n∧W=LC f n x.2)∧(x.1=false->W=x.2)}) (fun x=>⟨122,[(1,.ip none [aI f.name,ay f.blocks]),(4,a6 R),(6,.ms 1 0 N N),(13,.v (.bool x.1.1))],[.gone,.cells (x.1.2.map eB)]⟩) (fun x=>2*LG x.1.2+(if x.1.1=true then 1 else 0)) ⟨(true,W0),SC,fun _=>⟨N+1,(by have:=Mv W0;show LG W0<N+1;omega),hW⟩,fun q=>by cases q⟩ ?_ ?_)
  ·refine zq rfl ?_ ?_;simp -dsimp only[simprocAttr,↓aa,zp,zc];rfl
  rintro⟨⟨ag,w0⟩,R2,cO,RI⟩;simp only at R2 cO RI;refine b8 (ah ?_);apply aP rfl<;>intro h
  ·refine cA ?_;subst h;obtain⟨n,nR,r9⟩:=cO rfl;obtain⟨n,rfl⟩:∃n',n=n'+1:=⟨n-1,by omega⟩
   unfold LC at r9;have Rx:=hS w0;rw[S6]at r9 Rx;obtain⟨S,S5⟩:∃S,S=R.foldl (QF f) (w0,false):=⟨_,rfl⟩
   rw[<-S5]at r9 Rx;refine aj ?_;refine aA (ah ?_);refine aA (ah ?_);refine aj (aU (ι:={y:Nat×List Bool×Bool // y.1<=R.length∧y.2.1.length=N∧S=(R.drop y.1).foldl (QF f) y.2}) (fun y=>⟨122,[(1,.ip none [aI f.name,ay f.blocks]),(4,a6 R),(6,.ms 1 0 N N),(13,.v (.bool y.1.2.2)),(69,a6 R),(70,aI R.length),(71,aI y.1.1)],[.gone,.cells (y.1.2.1.map eB)]⟩) (fun y=>R.length-y.1.1) ⟨(0,w0,false),Nat.zero_le _,R2,S5⟩ ?_ ?_)
   ·refine zq rfl ?_ ?_;simp -dsimp only[simprocAttr,↓aa,zp,zc];rfl
   rintro⟨⟨z,w,ag⟩,hz,LI,Lh⟩;simp only at hz LI Lh;refine aA (ah ?_);apply gW rfl<;>intro h
   ·refine cA ?_;have qt:z<R.length:=by simpa using h
    obtain⟨v,G0⟩:∃v,R[z]?=some v:=⟨R[z],List.getElem?_eq_getElem qt⟩
    obtain⟨k,rfl,hk⟩:=RU z v G0;obtain⟨b,hb⟩:∃b,f.blocks[k]?=some b:=⟨f.blocks[k],List.getElem?_eq_getElem hk⟩
    have TQ:aD f (k:Int)=b:=by simp[aD,hb]
    rw[bS G0,List.foldl_cons]at Lh;obtain⟨T,Ry⟩:∃T,T=QF f (w,ag) (k:Int):=⟨_,rfl⟩
    have Ut:T.1.length=N:=by rw[Ry,(P2 f (w,ag) k).len,LI]
    rw[<-Ry]at Lh;unfold QF at Ry;rw[TQ]at Ry;have Te:b.term.to.length<=2 ^ 47:=(bB.2.2 b (List.mem_of_getElem? hb)).2.2.2.2.2.2.2.2.2.1;refine aK (aj ?_);refine aX ?_;simp -dsimp only[simprocAttr,↓aa,zp,G0]
    repeat(refine⟨by omega,?_⟩)
    refine ah ?_;refine aX ?_;simp -dsimp only[simprocAttr,↓aa,zp,hb,Int.toNat_natCast]
    repeat(refine⟨by omega,?_⟩)
    refine ah ?_;refine aj (aU (ι:={y:Nat×List Bool×Bool // y.1<=b.term.to.length∧y.2.1.length=N∧T=(b.term.to.drop y.1).foldl (Rl f) y.2}) (fun y=>⟨122,[(1,.ip none [aI f.name,ay f.blocks]),(4,a6 R),(6,.ms 1 0 N N),(13,.v (.bool y.1.2.2)),(69,a6 R),(70,aI R.length),(71,aI z),(81,aJ b.term.to),(82,aI b.term.to.length),(83,aI y.1.1)],[.gone,.cells (y.1.2.1.map eB)]⟩) (fun y=>b.term.to.length-y.1.1) ⟨(0,w,ag),Nat.zero_le _,LI,Ry⟩ ?_ ?_)
    ·refine zq rfl ?_ ?_;simp -dsimp only[simprocAttr,↓aa,zp,zc];rfl
    rintro⟨⟨z2,w,ag⟩,Ug,LI,Lv⟩;simp only at Ug LI Lv;refine aA (ah ?_);apply gW rfl<;>intro h
    ·refine cA ?_;have RO:z2<b.term.to.length:=by simpa using h
     obtain⟨e,he⟩:∃e,b.term.to[z2]?=some e:=⟨b.term.to[z2],List.getElem?_eq_getElem RO⟩
     obtain⟨⟨c,Td,eJ⟩,km,Pa⟩:=SJ k b hb z2 e he;obtain⟨B,hB⟩:∃B,f.blocks[c]?=some B:=⟨f.blocks[c],List.getElem?_eq_getElem eJ⟩
     have Rc:aD f e.block=B:=by rw[Td];simp[aD,hB]
     rw[Rc]at km;rw[bS he,List.foldl_cons]at Lv;obtain⟨E,hE⟩:∃E,E=Rl f (w,ag) e:=⟨_,rfl⟩
     have Un:E.1.length=N:=by rw[hE,(P1 f (w,ag) e).len,LI]
     rw[<-hE]at Lv;unfold Rl at hE;rw[Rc]at hE;have Tf:=(hv.fn.blk B (List.mem_of_getElem? hB)).few;have sV:(B.params.zip e.args).length=B.params.length:=by rw[List.length_zip];omega
     refine aK (aj ?_);refine aX ?_;simp -dsimp only[simprocAttr,↓aa,zp,he]
     repeat(refine⟨by omega,?_⟩)
     refine ah ?_;refine aH 17 2 (.ip none [aI e.block,a6 e.args]) rfl (by simp[ak.aF]) trivial rfl ?_ ?_;rotate_left;simp -dsimp only[simprocAttr,↓aa,zp];rotate_left
     ·exact cw.mp rfl rfl
     refine bT 2 [(1,.ip none [aI f.name,ay f.blocks]),(4,a6 R),(6,.ms 1 0 N N),(13,.v (.bool ag)),(69,a6 R),(70,aI R.length),(71,aI z),(81,aJ b.term.to),(82,aI b.term.to.length),(83,aI z2),(17,.ip none [aI e.block,a6 e.args])] (by simp) (by omega) [.gone,.cells (w.map eB)] ?_ ?_ ?_ ?_ ?_
     ·rfl
     ·simp[ak.upto,KJ]
     ·simp[gj,St.get,bu,a7,Go.Av.look,Sub.refl]
     ·simp[ak.upto,aw,ae.upto,az,Func.ai,Block.ai,Edge.ai,bE.ai]
     refine aX ?_;simp -dsimp only[simprocAttr,↓aa,zp,Td,hB,Int.toNat_natCast]
     repeat(refine⟨by omega,?_⟩)
     refine ah ?_;refine aj (aU (ι:={y:Nat×List Bool×Bool // y.1<=B.params.length∧y.2.1.length=N∧E=((B.params.zip e.args).drop y.1).foldl Q6 y.2}) (fun y=>⟨122,[(1,.ip none [aI f.name,ay f.blocks]),(4,a6 R),(6,.ms 1 0 N N),(13,.v (.bool y.1.2.2)),(69,a6 R),(70,aI R.length),(71,aI z),(81,aJ b.term.to),(82,aI b.term.to.length),(83,aI z2),(17,.ip none [aI c,a6 e.args]),(93,a6 B.params),(94,aI B.params.length),(95,aI y.1.1)],[.gone,.cells (y.1.2.1.map eB)]⟩) (fun y=>B.params.length-y.1.1) ⟨(0,w,ag),Nat.zero_le _,LI,hE⟩ ?_ ?_)
     ·refine zq rfl ?_ ?_;simp -dsimp only[simprocAttr,↓aa,zp,zc];rfl
     rintro⟨⟨m,w,ag⟩,kB,LI,MI⟩;simp only at kB LI MI;refine aA (ah ?_);apply gW rfl<;>intro h
     ·refine cA ?_;have Sp:m<B.params.length:=by simpa using h
      obtain⟨p,hp⟩:∃p,B.params[m]?=some p:=⟨B.params[m],List.getElem?_eq_getElem Sp⟩
      obtain⟨a,ha⟩:∃a,e.args[m]?=some a:=⟨e.args[m]'(by omega),List.getElem?_eq_getElem _⟩
      obtain⟨j,rfl,hj⟩:=pz c B hB m p hp;obtain⟨i,rfl,hi⟩:=Pa m a ha;have Uh:(B.params.zip e.args)[m]?=some ((j:Int),(i:Int)):=List.getElem?_zip_eq_some.2 ⟨hp,ha⟩;rw[bS Uh,List.foldl_cons]at MI;obtain⟨x,hx⟩:∃x,w[j]?=some x:=⟨w[j]'(by omega),List.getElem?_eq_getElem _⟩
      obtain⟨y,hy⟩:∃y,w[i]?=some y:=⟨w[i]'(by omega),List.getElem?_eq_getElem _⟩
      have SU:(w.map eB)[j]?=some (eB x):=by rw[List.getElem?_map,hx];rfl
      have FV:(w.map eB)[i]?=some (eB y):=by rw[List.getElem?_map,hy];rfl
      have hA:Q6 (w,ag) ((j:Int),(i:Int))=if x=true∧y=false then(w.set j false,true)else(w,ag):=by simp[Q6,hx,hy]
      rw[hA]at MI;have fQ:=Oc (l:=w) (j:=j) (by omega) false;refine aK (aj ?_);refine aX ?_;simp -dsimp only[simprocAttr,↓aa,zp,hp]
      repeat(refine⟨by omega,?_⟩)
      refine ah ?_;cases x with
      | false =>
       simp only[Bool.false_eq_true,false_and,if_false]at MI;refine aX ?_;simp -dsimp only[simprocAttr,↓aa,zp,SU,eB,Int.toNat_natCast,Nat.mul_one]
       repeat(refine⟨by omega,?_⟩)
       refine ah ?_;refine cE rfl ?_;refine jR ?_;refine dc ?_
       repeat(refine⟨by omega,?_⟩)
       refine fV ?_;refine⟨⟨(m+1,w,ag),Sp,LI,MI⟩,by simp;omega,?_⟩;refine zq rfl ?_ ?_;simp -dsimp only[simprocAttr,↓aa,zp,zc]
       ·exact Sub.int (by simp)
       rfl
      | true =>
       cases y with
       | true =>
        simp only[Bool.true_eq_false,and_false,if_false]at MI;refine aX ?_;simp -dsimp only[simprocAttr,↓aa,zp,SU,FV,ha,eB,Int.toNat_natCast,Nat.mul_one]
        repeat(refine⟨by omega,?_⟩)
        refine ah ?_;refine cE rfl ?_;refine jR ?_;refine dc ?_
        repeat(refine⟨by omega,?_⟩)
        refine fV ?_;refine⟨⟨(m+1,w,ag),Sp,LI,MI⟩,by simp;omega,?_⟩;refine zq rfl ?_ ?_;simp -dsimp only[simprocAttr,↓aa,zp,zc]
        ·exact Sub.int (by simp)
        rfl
       | false =>
        simp only[and_self,if_true]at MI;refine aX ?_;simp -dsimp only[simprocAttr,↓aa,zp,SU,FV,ha,eB,Int.toNat_natCast,Nat.mul_one]
        repeat(refine⟨by omega,?_⟩)
        refine ah ?_;refine cS rfl ?_;refine j1 ?_;simp -dsimp only[simprocAttr,↓aa,zp,fQ,LI,Int.toNat_natCast,Nat.mul_one]
        repeat(refine⟨by omega,?_⟩)
        refine ah ?_;refine dc ?_
        repeat(refine⟨by omega,?_⟩)
        refine fV ?_;refine⟨⟨(m+1,w.set j false,true),Sp,by simp[LI],MI⟩,by simp;omega,?_⟩;refine zq rfl ?_ ?_;simp -dsimp only[simprocAttr,↓aa,zp,zc]
        ·exact Sub.int (by simp)
        rfl
     refine aR ?_;simp -dsimp only[bX,ne_eq,Nat.reduceEqDiff,reduceCtorEq];have JI:m=B.params.length:=by simp at h;omega
     subst JI;rw[<-sV,List.drop_length,List.foldl_nil]at MI;subst MI;refine dc ?_
     repeat(refine⟨by omega,?_⟩)
     refine fV ?_;refine⟨⟨(z2+1,w,ag),RO,LI,Lv⟩,by simp;omega,?_⟩;refine zq rfl ?_ ?_;simp -dsimp only[simprocAttr,↓aa,zp,zc]
     ·exact Sub.int (by simp)
     rfl
    refine aR ?_;simp -dsimp only[bX,ne_eq,Nat.reduceEqDiff,reduceCtorEq];have Cw:z2=b.term.to.length:=by simp at h;omega
    subst Cw;rw[List.drop_length,List.foldl_nil]at Lv;subst Lv;refine dc ?_
    repeat(refine⟨by omega,?_⟩)
    refine fV ?_;refine⟨⟨(z+1,w,ag),qt,LI,Lh⟩,by simp;omega,?_⟩;refine zq rfl ?_ ?_;simp -dsimp only[simprocAttr,↓aa,zp,zc]
    ·exact Sub.int (by simp)
    rfl
   refine aR ?_;simp -dsimp only[bX,ne_eq,Nat.reduceEqDiff,reduceCtorEq];have Cw:z=R.length:=by simp at h;omega
   subst Cw;rw[List.drop_length,List.foldl_nil]at Lh;subst Lh;refine⟨⟨(ag,w),LI,fun q=>?_,fun q=>?_⟩,?_,?_⟩
   ·subst q;have:=Rx.new rfl rfl;simp only at this r9;exact⟨n,by simp only;omega,by simpa using r9⟩
   ·subst q;simpa using r9
   ·cases ag with
    | true =>
     have:=Rx.new rfl rfl;simp only at this;simp;omega
    | false =>
     have:=Rx.Rb;simp only at this;simp;omega
   refine zq rfl ?_ ?_;simp -dsimp only[simprocAttr,↓aa,zp,zc];rfl
  refine aR ?_;simp -dsimp only[bX,ne_eq,Nat.reduceEqDiff,reduceCtorEq];subst h;have TK:=RI rfl;subst TK;refine aH 6 1 (o:=.cells (W.map eB)) (.aE 1 (W.map eB) .nn) rfl (by simp[ak.aF]) trivial rfl (OW rfl TJ) ?_;simp -dsimp only[simprocAttr,↓aa,zp];refine aA (ah ?_);refine aq ?_;simp -dsimp only[simprocAttr,↓aa,zp,zr,Try.results31];exact⟨⟨KJ _ _,trivial⟩,trivial,trivial⟩
 exact cw.mp rfl rfl
theorem MZ(u:bR)(bB:u.fit):bw Try.prog 10 [u.enc] (.v (.bool true)):=by
 have Tp:=xj;by_cases he:(runM u 1000).e=0∧(runM u 1000).fin≠5
 ·have bz:=Sa u bB 1000 he;have hc:dr u=0:=Classical.byContradiction fun q=>by
   have:=he.1;unfold runM at this;rw[if_pos q]at this;exact q this
  obtain⟨k1,k2,k3,k4,c4,eM⟩:=Lj hc;have hW:=tZ bB hc;have Rj:=N1 u k2 fun f hf=>⟨(hW.fns f hf).few,(hW.fns f hf).ins⟩
  have PF:=ON bB hc;have oF:=mY _ PF;have NP:=u6 _ PF 1000000;have ry:=OV u (fun q=>by rw[q]at k1;simp at k1) k2 fun f hf=>⟨SW (bB.2.2 f hf) (k4 f hf),(hW.fns f hf).ne⟩
  have hA:runM u 1000=bm u 1000:=by
   unfold runM;rw[if_neg (by simp[hc]),if_neg (by decide)]
  have Qf:=fun(h:dr (L5 u)=0)=>N6 bB hc h (by rw[<-hA];exact he.1);rw[<-hA]at Qf;have QU:∀h:dr (L5 u)=0,runM (L5 u) 1000000=bm (L5 u) 1000000:=fun h=>by
   unfold runM;rw[if_neg (by simp[h]),if_neg (by decide)]
  have hV:∀f∈u.fns,OB f:=fun f hf=>KZ (bB.2.2 f hf) (k4 f hf);have Tq:∀f∈u.fns,bw Try.prog 31 [f.enc] (.df [.aE 1 ((w5 f).map eB) .sh,aI 0]):=fun f hf=>OA f (bB.2.2 f hf) (k4 f hf);have dh:∀f∈u.fns,bw Try.prog 17 [f.enc] (aI (p' f)):=fun f hf=>MG f (hV f hf).vals (bB.2.2 f hf).2.1 fun b hb=>⟨((bB.2.2 f hf).2.2 b hb).2.1,((bB.2.2 f hf).2.2 b hb).2.2.1⟩
  have Kf:∀f∈u.fns,0<=p' f∧p' f<=4096:=fun f hf=>⟨LY f,KL (Ce f) 0 (by omega) fun v hv=>((hV f hf).vals v hv).2⟩
  have RZ:(L5 u).enc=.agg [a9 (u.fns.map NS),aI u.main]:=rfl;rw[RZ]at oF NP;generalize Um:runM (L5 u) 1000000=B at *;generalize runM u 1000=A at *;obtain⟨out,fin,val,n,e⟩:=A;simp only at he Qf bz;obtain⟨cp,Bt⟩:∃cp,cp=dr (L5 u):=⟨_,rfl⟩
  rw[<-Bt]at oF Qf QU;clear PF Bt;obtain⟨fns,main⟩:=u;have B7:(⟨fns,main⟩:bR).enc=.agg [a9 fns,aI main]:=rfl;unfold BW at bz;rw[B7]at bz ry Rj ⊢;simp only at oF NP ry Rj k1 k2 k4 hV Tq dh Kf;obtain⟨N,hN⟩:∃N,N=fns.length:=⟨_,rfl⟩
  refine zf true 0 Try.func10 Try.ntmps10 ?_;dsimp only[Tmp,TypeId,ax];refine aA (ah ?_);refine aH 1 0 (.ip none [a9 fns,aI main]) rfl (by simp[ak.aF]) trivial rfl ?_ ?_;rotate_left;simp -dsimp only[simprocAttr,↓aa,zp];rotate_left
  ·exact cw.mp rfl rfl
  refine b8 ?_;refine zi Tp ?_;refine ah ?_;apply aP rfl<;>intro h
  ·cases h
  refine cA ?_;refine aA ?_;refine zi bz ?_;refine ah ?_;refine aH 3 1 (.ip none [.aE 1 (out.map aI) .sh,aI fin,aI val]) rfl (by simp[ak.aF]) trivial rfl ?_ ?_;rotate_left;simp -dsimp only[simprocAttr,↓aa,zp];rotate_left
  ·exact cw.mp rfl rfl
  cases hs:PW ⟨fns,main⟩with
  | false =>
   rw[hs]at Rj;refine b8 ?_;refine zi Rj ?_;refine ah ?_;refine cS rfl ?_;refine aA (ah ?_);refine aq ?_;simp -dsimp only[simprocAttr,↓aa,zp,zr,Try.results10]
  | true =>
   rw[hs]at Rj;refine b8 ?_;refine zi Rj ?_;refine ah ?_;apply aP rfl<;>intro h
   ·cases h
   refine cA ?_;refine aK (NG ⟨false,false⟩ hT 1 rfl rfl rfl (by simp) ?_);simp -dsimp only[simprocAttr,↓aa,zp];refine⟨SX [.gone,.gone] ⟨fns,main⟩,NI rfl (by simp) rfl rfl ry,fun r O hR=>?_⟩;obtain⟨bP,bids,hr,lA,bC,iS,hO,iI,wv,iw⟩:=hR;subst hr;simp only at hO iI iw iS;have iS:2<=bP:=iS;simp -dsimp only[simprocAttr,↓aa,zp];refine ah ?_;show cc Try.prog _ _ _ ⟨_,_,O++[.cells [.os bP fns.length 2,aI main]]⟩;have gK:=I hO;have Sh:∀i,i<O.length->(O++[ak.cells [.os bP fns.length 2,aI main]])[i]?=O[i]?:=fun i hi=>List.getElem?_append_left hi;have Rv:QI O.length bP main bids fns fns (O++[ak.cells [.os bP fns.length 2,aI main]]):={
    up:=fun o ho=>by
     rw[List.length_append,List.length_singleton];rcases List.mem_append.1 ho with q|q
     ·exact ak.cu (by omega) (bC o q)
     rw[List.mem_singleton.1 q];exact⟨by show bP<O.length+1;omega,trivial,trivial⟩
    u:=gF _ _
    fs:=(Sh bP gK).trans hO
    bl:=iI
    len:=rfl
    own:=fun j b f h1 h2=>by
     obtain⟨q1,q2,q3⟩:=iw j b f h1 h2;have q4:=I q3;exact⟨by omega,q2,(Sh b q4).trans q3⟩
    cd:=wv
    c5:=by omega }
   have RK:∀i,i<2->(O++[ak.cells [.os bP fns.length 2,aI main]])[i]?=some .gone:=fun i hi=>by
    rw[Sh i (by omega),lA i hi]
    match i,hi with
    | 0,_=>rfl
    | 1,_=>rfl
   have xw:∀b∈bids,2<=b:=fun b hb=>by
    obtain⟨j,hj⟩:=List.mem_iff_getElem?.1 hb;have QP:=I hj;have:=iw j b _ hj (List.getElem?_eq_getElem (by omega:j<fns.length));exact this.1
   obtain⟨X,hX⟩:∃X,X=O.length:=⟨_,rfl⟩
   have Uu:2<X:=by omega
   rw[<-hX]at Rv;generalize O++[ak.cells [.os bP fns.length 2,aI main]]=O1 at *;have h8:=Rv.u;rw[<-hX];clear lA bC hO iw Sh gK hX;refine dd ?_;simp -dsimp only[simprocAttr,↓aa,zp,h8,<-hN]
   repeat(refine⟨by omega,?_⟩)
   refine ah ?_;refine aj (aU (ι:={Y:Nat×List ak // Y.1<=N∧Y.2.length=O1.length∧QI X bP main bids fns ((fns.take Y.1).map NS++fns.drop Y.1) Y.2∧∀i,i<2->Y.2[i]?=some .gone}) (fun Y=>⟨138,[(1,.ip none [a9 fns,aI main]),(3,.ip none [.aE 1 (out.map aI) .sh,aI fin,aI val]),(6,.mp X 0),(39,aI N),(40,aI Y.1.1)],Y.1.2⟩) (fun Y=>N-Y.1.1) ⟨(0,O1),Nat.zero_le _,rfl,Rv,RK⟩ ?_ ?_)
   ·refine zq rfl ?_ ?_;simp -dsimp only[simprocAttr,↓aa,zp,zc]
    all_goals rfl
   rintro⟨⟨k,O2⟩,hk,Rw,hL,GO⟩;simp only at hk Rw hL GO;refine aA (ah ?_);apply gW rfl<;>intro h
   ·refine cA ?_;have aZ:k<N:=by simpa using h
    obtain⟨f,hf⟩:∃f,fns[k]?=some f:=⟨fns[k]'(by omega),List.getElem?_eq_getElem _⟩
    obtain⟨b,hb⟩:∃b,bids[k]?=some b:=⟨bids[k]'(by omega),List.getElem?_eq_getElem _⟩
    have Bv:=List.mem_of_getElem? hf;have iq:(fns.take k).length=k:=by rw[List.length_take,<-hN];omega
    have Sk:((fns.take k).map NS++fns.drop k)[k]?=some f:=by
     rw[List.getElem?_append_right (by rw[List.length_map,iq];exact Nat.le_refl _),List.length_map,iq,Nat.sub_self,List.getElem?_drop,Nat.add_zero,hf]
    obtain⟨Uv,TO,SH⟩:=hL.own k b f hb Sk;have oI:=hL.u;have wi:=hL.fs;have PE:=ME hb hf;have dp:=Mf hb hf;have eJ:(qh bids fns).length=fns.length*2:=Ll iI;have Sm:=I oI;have TX:=I wi;have Eu:=I SH;have nT:=bw.look (O:=O2) (Tq f Bv) SH Oi;have Ch:=bw.look (O:=O2) (dh f Bv) SH PL;have LI:=MU f;obtain⟨Cu,yk⟩:=Kf f Bv;have Kh:f.blocks.length<=128:=(hV f Bv).fn.few;have Qh:decide ((((w5 f).length:Nat):Int)=p' f)=true:=decide_eq_true (by omega);have Sq:NS f=⟨f.name,LH (w5 f) (p' f) f.blocks⟩:=rfl;have jc:∀(j:Nat) c,f.blocks[j]?=some c->c.params.length+c.ins.length<=4096∧∀p∈c.params,∃i:Nat,p=(i:Int)∧i<(w5 f).length:=fun j c hc=>by
     have yU:=List.mem_of_getElem? hc;refine⟨((hV f Bv).fn.blk c yU).few,fun p hp=>?_⟩;have:=(hV f Bv).below (List.mem_flatMap.2 ⟨c,yU,List.mem_append_left _ hp⟩);exact⟨p.toNat,by omega,by omega⟩
    obtain⟨W,TI⟩:∃W,W=w5 f:=⟨_,rfl⟩
    rw[<-TI]at nT Qh Sq jc LI;obtain⟨x0,vn⟩:∃x,x=p' f:=⟨_,rfl⟩
    rw[<-vn]at Ch Qh Sq Cu yk;refine aK (aj ?_);refine aA (ah ?_);refine aX ?_;simp -dsimp only[simprocAttr,↓aa,zp,oI,wi,Int.toNat_natCast]
    repeat(refine⟨by omega,?_⟩)
    refine ah ?_;refine aX ?_;simp -dsimp only[simprocAttr,↓aa,zp,oI,wi,dp,PE,eJ,Int.toNat_natCast]
    repeat(refine⟨by omega,?_⟩)
    refine .inr (.inr ⟨_,nT,au (zj ?_)⟩);refine ah ?_;refine dd ?_;simp -dsimp only[simprocAttr,↓aa,zp,oI,wi,dp,PE,eJ,Qh,List.length_map,Int.toNat_natCast]
    repeat(refine⟨by omega,?_⟩)
    refine .inr (.inr ⟨_,Ch,au ?_⟩);simp -dsimp only[simprocAttr,↓aa,zp,Qh];refine ah ?_;apply aP rfl<;>intro h
    ·cases h
    refine cA ?_;refine aX ?_;simp -dsimp only[simprocAttr,↓aa,zp,oI,wi,dp,PE,eJ,Int.toNat_natCast]
    repeat(refine⟨by omega,?_⟩)
    refine .inr (.inr ⟨_,Ch,au (zj ?_)⟩);refine ah ?_;refine aX ?_;simp -dsimp only[simprocAttr,↓aa,zp,oI,wi,PE,eJ,Int.toNat_natCast]
    repeat(refine⟨by omega,?_⟩)
    refine ah ?_;obtain⟨Lk,S3⟩:∃Lk,Lk=(fns.take k).map NS++fns.drop k:=⟨_,rfl⟩
    rw[<-S3]at hL Sk;have Rv:QI X bP main bids fns (Lk.set k ⟨f.name,[]++f.blocks.drop 0⟩) O2:=by
     have:Lk.set k ⟨f.name,[]++f.blocks.drop 0⟩=Lk:=Ph Sk;rw[this];exact hL
    obtain⟨R,hR⟩:∃R,R=LH W x0 f.blocks:=⟨_,rfl⟩
    rw[<-hR]at Sq;refine aj (aU (ι:={Z:Nat×Int×List Block×List ak // Z.1<=f.blocks.length∧Z.2.2.1.length=Z.1∧(x0<=Z.2.1∧Z.2.1<=x0+4096*(Z.1:Int))∧R=Z.2.2.1++LH W Z.2.1 (f.blocks.drop Z.1)∧Z.2.2.2.length=O1.length∧QI X bP main bids fns (Lk.set k ⟨f.name,Z.2.2.1++f.blocks.drop Z.1⟩) Z.2.2.2∧∀i,i<2->Z.2.2.2[i]?=some .gone}) (fun Z=>⟨138,[(1,.ip none [a9 fns,aI main]),(3,.ip none [.aE 1 (out.map aI) .sh,aI fin,aI val]),(6,.mp X 0),(39,aI N),(40,aI k),(8,.mp bP (k*2)),(9,.aE 1 (W.map eB) .sh),(11,aI Z.1.2.1),(73,aI f.blocks.length),(74,aI Z.1.1)],Z.1.2.2.2⟩) (fun Z=>f.blocks.length-Z.1.1) ⟨(0,x0,[],O2),Nat.zero_le _,rfl,⟨Int.le_refl _,by show x0<=x0+4096*((0:Nat):Int);omega⟩,hR,Rw,Rv,GO⟩ ?_ ?_)
    ·refine zq rfl ?_ ?_;simp -dsimp only[simprocAttr,↓aa,zp,zc]
     all_goals rfl
    rintro⟨⟨j,x,D,O3⟩,hj,Si,hx,cO,PB,Qv,PG⟩;simp only at hj Si hx cO PB Qv PG;refine aA (ah ?_);apply gW rfl<;>intro h
    ·refine cA ?_;have nQ:j<f.blocks.length:=by simpa using h
     obtain⟨c,hc⟩:∃c,f.blocks[j]?=some c:=⟨f.blocks[j],List.getElem?_eq_getElem nQ⟩
     obtain⟨tI,RD⟩:=jc j c hc;have S2:(D++f.blocks.drop j)[j]?=some c:=by rw[List.getElem?_append_right (by omega),Si,Nat.sub_self,List.getElem?_drop,Nat.add_zero,hc]
     have m6:=I Sk;have h3:=Qv.own k b _ hb (List.getElem?_set_self m6);have SG:=h3.2.2;simp only at SG;have Uc:=Qv.u;have IM:=Qv.fs;have RA:=I SG;obtain⟨xx,mZ⟩:=P9 S2;have QM:(ao ((D++f.blocks.drop j).map Block.enc)).length=f.blocks.length*7:=by rw[LD,List.length_append,List.length_drop];congr 1;omega
     refine aK (aj ?_);refine aA (ah ?_);refine aX ?_;simp -dsimp only[simprocAttr,↓aa,zp,IM,PE,eJ,Int.toNat_natCast]
     repeat(refine⟨by omega,?_⟩)
     refine ah ?_;refine aA (ah ?_);refine sr 14 rfl ?_;simp -dsimp only[simprocAttr,↓aa,zp];have Uo:(O3++[ak.spare 0]).length=O3.length+1:=by simp
     have DM:∀(s:ak) i,i<O3.length->(O3++[s])[i]?=O3[i]?:=fun s i hi=>List.getElem?_append_left hi;have QN:=fun s=>(DM s b RA).trans SG;refine dd ?_;simp -dsimp only[simprocAttr,↓aa,zp,QN,xx,QM,Int.toNat_natCast]
     repeat(refine⟨by omega,?_⟩)
     refine ah ?_;obtain⟨Q,hQ⟩:∃Q,Q=KO W x c.params:=⟨_,rfl⟩
     refine aj (aU (ι:={V:Nat×List bE // V.1<=c.params.length∧V.2.length<=V.1∧Q=V.2++KO W (x+V.2.length) (c.params.drop V.1)}) (fun V=>⟨138,[(1,.ip none [a9 fns,aI main]),(3,.ip none [.aE 1 (out.map aI) .sh,aI fin,aI val]),(6,.mp X 0),(39,aI N),(40,aI k),(8,.mp bP (k*2)),(9,.aE 1 (W.map eB) .sh),(11,aI (x+V.1.2.length)),(73,aI f.blocks.length),(74,aI j),(13,.mp b (j*7)),(14,.aE 4 (V.1.2.map bE.enc) (.tok O3.length)),(86,a6 c.params),(87,aI c.params.length),(88,aI V.1.1)],O3++[.spare V.1.2.length]⟩) (fun V=>c.params.length-V.1.1) ⟨(0,[]),Nat.zero_le _,Nat.le_refl _,by rw[hQ];simp⟩ ?_ ?_)
     ·refine zq rfl ?_ ?_;simp -dsimp only[simprocAttr,↓aa,zp,zc]
      all_goals rfl
     rintro⟨⟨z,ys⟩,hz,Ht,Lv⟩;simp only at hz Ht Lv;refine aA (ah ?_);apply gW rfl<;>intro h
     ·refine cA ?_;have qt:z<c.params.length:=by simpa using h
      obtain⟨p,hp⟩:∃p,c.params[z]?=some p:=⟨c.params[z],List.getElem?_eq_getElem qt⟩
      obtain⟨i,rfl,hi⟩:=RD p (List.mem_of_getElem? hp);obtain⟨y,hy⟩:∃y,W[i]?=some y:=⟨W[i],List.getElem?_eq_getElem hi⟩
      rw[bS hp,KO]at Lv;have j7:W.getD (i:Int).toNat false=y:=by simp[hy]
      rw[j7]at Lv;refine aK (aj ?_);refine aX ?_;simp -dsimp only[simprocAttr,↓aa,zp,hp]
      repeat(refine⟨by omega,?_⟩)
      refine ah ?_;cases y with
      | false =>
       rw[if_neg (by simp)]at Lv;refine aX ?_;simp -dsimp only[simprocAttr,↓aa,zp,hy,eB,Int.toNat_natCast]
       repeat(refine⟨by omega,?_⟩)
       refine ah ?_;refine cE rfl ?_;refine jR ?_;refine dc ?_
       repeat(refine⟨by omega,?_⟩)
       refine fV ?_;refine⟨⟨(z+1,ys),qt,by simp only;omega,Lv⟩,by simp;omega,?_⟩;refine zq rfl ?_ ?_;simp -dsimp only[simprocAttr,↓aa,zp,zc]
       ·exact Sub.int (by simp)
       rfl
      | true =>
       rw[if_pos rfl]at Lv;have fQ:=gF O3 (ak.spare ys.length);have SN:ys.map bE.enc++[.agg [aI (x+ys.length),aI 1,aI 0,.aE 1 [aI (i:Int),aI (i:Int)] .sh]]=(ys++[(⟨x+ys.length,1,0,[(i:Int),(i:Int)]⟩:bE)]).map bE.enc:=by
        rw[List.map_append];rfl
       refine aX ?_;simp -dsimp only[simprocAttr,↓aa,zp,hy,eB,Int.toNat_natCast]
       repeat(refine⟨by omega,?_⟩)
       refine ah ?_;refine cS rfl ?_;refine aX ?_;simp -dsimp only[simprocAttr,↓aa,zp,fQ,List.length_map]
       repeat(refine⟨by omega,?_⟩)
       refine ah ?_;rw[SN];refine dc ?_
       repeat(refine⟨by omega,?_⟩)
       refine ah ?_;refine dc ?_
       repeat(refine⟨by omega,?_⟩)
       refine fV ?_;refine⟨⟨(z+1,ys++[(⟨x+ys.length,1,0,[(i:Int),(i:Int)]⟩:bE)]),qt,by simp;omega,?_⟩,by simp;omega,?_⟩
       ·rw[Lv,List.append_assoc,List.length_append,List.length_singleton];simp only[List.singleton_append,Int.natCast_add,Int.add_assoc];rfl
       refine zq rfl ?_ ?_;simp -dsimp only[simprocAttr,↓aa,zp,zc]
       ·exact⟨Sub.int (by simp;omega),Sub.int (by simp)⟩
       simp
     refine aR ?_;simp -dsimp only[bX,ne_eq,Nat.reduceEqDiff,reduceCtorEq];have Cw:z=c.params.length:=by simp at h;omega
     subst Cw;rw[List.drop_length,KO,List.append_nil]at Lv;subst Lv;have fQ:=gF O3 (ak.spare Q.length);have TL:=QN (.spare Q.length);have TM:=QN (.spare (Q.length+c.ins.length));refine j1 ?_;simp -dsimp only[simprocAttr,↓aa,zp,TL,TM,fQ,mZ,QM,List.length_map,Int.toNat_natCast]
     repeat(refine⟨by omega,?_⟩)
     refine ah ?_;rw[GB _ (by rw[QM];omega),<-List.map_append];have TA:(ao ((D++f.blocks.drop j).map Block.enc)).length=(ao (((D++f.blocks.drop j).set j ⟨c.params,Q++c.ins,c.term⟩).map Block.enc)).length:=by rw[LD,LD,List.length_set]
     refine Mb b (ao (((D++f.blocks.drop j).set j ⟨c.params,Q++c.ins,c.term⟩).map Block.enc)) (List.getElem?_set_self (by rw[List.length_append];omega)) (by rw[List.length_set,TA]) (MX _) (fun i x y hx hy=>Pt S2 i x y hx hy) ?_;rw[List.set_set];have gw:(D++f.blocks.drop j).set j ⟨c.params,Q++c.ins,c.term⟩=(D++[(⟨c.params,Q++c.ins,c.term⟩:Block)])++f.blocks.drop (j+1):=by
      rw[List.set_append_right _ _ (by omega),Si,Nat.sub_self,bS hc,List.set_cons_zero,List.append_assoc];rfl
     rw[gw];have Sj:=Qv.set hb ⟨f.name,(D++[(⟨c.params,Q++c.ins,c.term⟩:Block)])++f.blocks.drop (j+1)⟩;rw[List.set_set]at Sj;have RL:∀i,i<2->(O3.set b (.cells (ao (((D++[(⟨c.params,Q++c.ins,c.term⟩:Block)])++f.blocks.drop (j+1)).map Block.enc))))[i]?=some .gone:=fun i hi=>by
      have:=xw b (List.mem_of_getElem? hb);rw[List.getElem?_set_ne (by omega),PG i hi]
     have QY:=Sj.up;rw[List.length_set]at QY;simp only at Sj QY;refine bT O3.length [(1,.ip none [a9 fns,aI main]),(3,.ip none [.aE 1 (out.map aI) .sh,aI fin,aI val]),(6,.mp X 0),(39,aI N),(40,aI k),(8,.mp bP (k*2)),(9,.aE 1 (W.map eB) .sh),(11,aI (x+Q.length)),(73,aI f.blocks.length),(74,aI j)] (by simp) (Nat.zero_le _) (O3.set b (.cells (ao (((D++[(⟨c.params,Q++c.ins,c.term⟩:Block)])++f.blocks.drop (j+1)).map Block.enc)))) (by rw[List.set_append_left _ _ RA,List.take_left' (by simp)]) QY ?_ ?_ ?_
     ·simp[gj,St.get,bu,a7,Go.Av.look,Sub.refl]
     ·simp[aw,ae.upto,az,KJ,Func.ai];have:=I Uc;have:=I IM;omega
     have T2:(O3.set b (.cells (ao (((D++[(⟨c.params,Q++c.ins,c.term⟩:Block)])++f.blocks.drop (j+1)).map Block.enc)))).length=O1.length:=by rw[List.length_set,PB]
     generalize O3.set b (.cells (ao (((D++[(⟨c.params,Q++c.ins,c.term⟩:Block)])++f.blocks.drop (j+1)).map Block.enc)))=O5 at *;refine dc ?_
     repeat(refine⟨by omega,?_⟩)
     refine fV ?_;have Ur:Q.length<=4096:=by
      have:=KS W x c.params;rw[<-hQ]at this;omega
     refine⟨⟨(j+1,x+Q.length,D++[(⟨c.params,Q++c.ins,c.term⟩:Block)],O5),nQ,by simp[Si],⟨by simp only;omega,by simp only;omega⟩,?_,T2,Sj,RL⟩,by simp;omega,?_⟩
     ·rw[cO,bS hc,LH,<-hQ,List.append_assoc];rfl
     refine zq rfl ?_ ?_;simp -dsimp only[simprocAttr,↓aa,zp,zc]
     ·exact Sub.int (by simp)
     rfl
    refine aR ?_;simp -dsimp only[bX,ne_eq,Nat.reduceEqDiff,reduceCtorEq];have oH:j=f.blocks.length:=by simp at h;omega
    subst oH;rw[List.drop_length,LH,List.append_nil]at cO;rw[List.drop_length,List.append_nil]at Qv;subst cO;rw[<-Sq,S3,PS NS hf]at Qv;refine dc ?_
    repeat(refine⟨by omega,?_⟩)
    refine fV ?_;refine⟨⟨(k+1,O3),aZ,PB,Qv,PG⟩,by simp;omega,?_⟩;refine zq rfl ?_ ?_;simp -dsimp only[simprocAttr,↓aa,zp,zc]
    ·exact Sub.int (by simp)
    rfl
   refine aR ?_;simp -dsimp only[bX,ne_eq,Nat.reduceEqDiff,reduceCtorEq];have gT:k=N:=by simp at h;omega
   subst gT;rw[hN,List.take_length,List.drop_length,List.append_nil]at hL;have uF:(fns.map NS).length=fns.length:=by rw[List.length_map]
   refine Ps X bP bids (fns.map NS) main (by rw[uF];exact iI) (by rw[uF];exact hL.u) ?_ hL.c5 wv (fun j b g hj hg=>hL.own j b g hj hg) fun O' q8 SE mw=>?_
   ·rw[NM iI uF fun j f g h1 h2=>?_]
    ·exact hL.fs
    rw[List.getElem?_map,h1]at h2;simp only[Option.map_some,Option.some.injEq]at h2;subst h2;exact⟨rfl,LN _ _ _⟩
   have Qx:∀i,i<2->O'[i]?=some .gone:=fun i hi=>by
    have Kh:i ∉ bids:=fun q=>by
     have:=xw i q;omega
    rw[mw i (by omega) (by omega) Kh,GO i hi]
   have Sm:=I SE;generalize fns.map NS=gs at *;refine aH 6 X (o:=.cells [a9 gs,aI main]) (.ip none [a9 gs,aI main]) SE (by simp[ak.aF]) trivial rfl (cw.mp SE rfl) ?_;simp -dsimp only[simprocAttr,↓aa,zp];refine bT 2 [(1,.ip none [a9 fns,aI main]),(3,.ip none [.aE 1 (out.map aI) .sh,aI fin,aI val]),(6,.ip none [a9 gs,aI main])] (by rw[List.length_set];omega) (Nat.zero_le _) [.gone,.gone] (PZ (by rw[List.getElem?_set_ne (by omega)];exact Qx 0 (by omega)) (by rw[List.getElem?_set_ne (by omega)];exact Qx 1 (by omega))) ?_ ?_ ?_ ?_
   ·simp[ak.upto]
   ·simp[gj,St.get,bu,a7,Go.Av.look,Sub.refl]
   ·simp[aw,ae.upto,az,Func.ai]
   by_cases Qe:cp=0
   ·have d0:decide (cp=0)=true:=decide_eq_true Qe;have Tz:=QU Qe;have uE:=Qf Qe;rw[<-Tz]at uE;obtain⟨R7,Rt,Sc,n2,e2⟩:=B;simp only at uE;unfold BB.enc at NP;simp only at NP;have EX:=lD out R7 fin Rt val Sc;unfold BW at EX;refine dd ?_;simp -dsimp only[simprocAttr,↓aa,zp,d0];refine .inl ⟨_,oF,by simp only[aw,ae.upto,zt,zu,az],au ?_⟩;simp -dsimp only[simprocAttr,↓aa,zp,d0];refine ah ?_;refine cE rfl ?_;refine cA ?_;refine aA ?_;refine zi NP ?_;refine ah ?_;refine aH 17 2 (.ip none [.aE 1 (R7.map aI) .sh,aI Rt,aI Sc]) rfl (by simp[ak.aF]) trivial rfl ?_ ?_;rotate_left;simp -dsimp only[simprocAttr,↓aa,zp]
    ·rcases uE with q|⟨q1,q2,q3,q4⟩
     ·subst q;refine aX ?_;simp -dsimp only[simprocAttr,↓aa,zp,decide_true];refine ah ?_;refine aq ?_;simp -dsimp only[simprocAttr,↓aa,zp,zr,Try.results10]
     subst q1 q2 q3 q4;simp only[decide_true,Bool.and_self]at EX;refine aX ?_;simp -dsimp only[simprocAttr,↓aa,zp,decide_true];refine .inl ⟨_,EX,by simp only[aw,ae.upto,zt,zu,az],au ?_⟩;simp -dsimp only[simprocAttr,↓aa,zp,decide_true];refine ah ?_;refine aq ?_;simp -dsimp only[simprocAttr,↓aa,zp,zr,Try.results10]
    exact cw.mp rfl rfl
   have d0:decide (cp=0)=false:=decide_eq_false Qe;refine dd ?_;simp -dsimp only[simprocAttr,↓aa,zp,d0];refine .inl ⟨_,oF,by simp only[aw,ae.upto,zt,zu,az],au ?_⟩;simp -dsimp only[simprocAttr,↓aa,zp,d0];refine ah ?_;refine cS rfl ?_;refine aA (ah ?_);refine aq ?_;simp -dsimp only[simprocAttr,↓aa,zp,zr,Try.results10]
 obtain⟨r,m,Tm⟩:=R9 u bB 1000 he;unfold BW at Tm;refine zf true 0 Try.func10 Try.ntmps10 ?_;dsimp only[Tmp,TypeId,ax];refine aA (ah ?_);refine aH 1 0 (.ip none [a9 u.fns,aI u.main]) rfl (by simp[ak.aF]) trivial rfl ?_ ?_;rotate_left;simp -dsimp only[simprocAttr,↓aa,zp]
 ·refine b8 ?_;refine zi Tp ?_;refine ah ?_;refine cE rfl ?_;refine cA ?_;refine aA ?_;refine zi Tm ?_;refine ah ?_;refine b8 (ah ?_);refine cS rfl ?_;refine aA (ah ?_);refine aq ?_;simp -dsimp only[simprocAttr,↓aa,zp,zr,Try.results10]
 exact cw.mp rfl rfl
end Go.Proofs.Ytkhnjeblbiocaaa
