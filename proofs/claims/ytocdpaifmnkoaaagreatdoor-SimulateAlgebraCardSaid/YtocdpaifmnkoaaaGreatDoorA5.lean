/-
  Texts bound together by a program of mine: YtocdpaifmnkoaaaGreatDoorT205, YtocdpaifmnkoaaaGreatDoorQh, YtocdpaifmnkoaaaGreatDoorT206, YtocdpaifmnkoaaaGreatDoorT207, YtocdpaifmnkoaaaGreatDoorT208, YtocdpaifmnkoaaaGreatDoorT209, YtocdpaifmnkoaaaGreatDoorPj, YtocdpaifmnkoaaaGreatDoorT210, YtocdpaifmnkoaaaGreatDoorT211, YtocdpaifmnkoaaaGreatDoorT212, YtocdpaifmnkoaaaGreatDoorT213, YtocdpaifmnkoaaaGreatDoorT214, YtocdpaifmnkoaaaGreatDoorT215, YtocdpaifmnkoaaaGreatDoorT216, YtocdpaifmnkoaaaGreatDoorT217, YtocdpaifmnkoaaaGreatDoorQk, YtocdpaifmnkoaaaGreatDoorT219, YtocdpaifmnkoaaaGreatDoorT220, YtocdpaifmnkoaaaGreatDoorT218, YtocdpaifmnkoaaaGreatDoorT41, YtocdpaifmnkoaaaGreatDoorT43, YtocdpaifmnkoaaaGreatDoorT48, YtocdpaifmnkoaaaGreatDoorPg, YtocdpaifmnkoaaaGreatDoorPk, YtocdpaifmnkoaaaGreatDoorT44, YtocdpaifmnkoaaaGreatDoorT45, YtocdpaifmnkoaaaGreatDoorT46, YtocdpaifmnkoaaaGreatDoorT54, YtocdpaifmnkoaaaGreatDoorPl, YtocdpaifmnkoaaaGreatDoorPdb, YtocdpaifmnkoaaaGreatDoorPdc, YtocdpaifmnkoaaaGreatDoorT55, YtocdpaifmnkoaaaGreatDoorAvv, YtocdpaifmnkoaaaGreatDoorT56, YtocdpaifmnkoaaaGreatDoorPdd, YtocdpaifmnkoaaaGreatDoorT38, YtocdpaifmnkoaaaGreatDoorT63, YtocdpaifmnkoaaaGreatDoorT57, YtocdpaifmnkoaaaGreatDoorT221, YtocdpaifmnkoaaaGreatDoorT222, YtocdpaifmnkoaaaGreatDoorT223, YtocdpaifmnkoaaaGreatDoorT224, YtocdpaifmnkoaaaGreatDoorT225.
-/
import Derived.Test.YtocdpaifmnkoaaaGreatDoorA4
set_option linter.all false
set_option maxRecDepth 100000
set_option maxHeartbeats 4000000

namespace Go.Proofs.YtocdpaifmnkoaaaGreatDoor
open Go.Av
theorem Fw{O:List aq}{id:Nat}{c:Int}(ho:O[id]?=some (.cells [aI c,aI 1])) :
  aK Tryz.prog 197 O [.ms id 0 1 1,.fn (.func 188) [] []] fun r O'=>r=aI (if c=0 then 0 else -1)∧O'=O:=by
 have hz:=Gl c;by_cases hc:c=0
 ·rw[if_pos hc];rw[decide_eq_true hc]at hz;refine l8 hT Tryz.func197 rfl (by kernel_rfl) (by simp[Tryz.ntmps197]) ?_;show cG Tryz.prog _ _ _ ⟨19,_,_⟩;dsimp only[Tmp,TypeId,slotsOf];refine az (ai ?_);refine bS (ai ?_);refine ah (a8 (ι:=Unit) (fun _=>⟨19,[(0,.ms id 0 1 1),(1,.fn (.func 188) [] []),(7,aI 1),(8,aI 0)],O⟩) (fun _=>0) () ?_ ?_)
  ·refine zq rfl ?_ ?_;simp -dsimp only[simprocAttr,↓I,zp,zc];rfl
  rintro⟨⟩;refine az (ai ?_);apply fK rfl<;>intro h;rotate_left
  ·cases h
  refine bZ ?_;refine aL (ah ?_);refine az (ai ?_);refine aG ?_;simp -dsimp only[simprocAttr,↓I,zp,ho];refine .inl ⟨_,hz,by simp only[av,aa.upto,zt,zu,ay,aU],ae ?_⟩;simp -dsimp only[simprocAttr,↓I,zp];refine ai ?_;apply aF rfl<;>intro h;rotate_left
  ·cases h
  refine az (ai ?_);refine ak ?_;simp -dsimp only[simprocAttr,↓I,zp,ry,Tryz.results197,eV,kV,iu,gR,fv,gk]
 rw[if_neg hc];rw[decide_eq_false hc]at hz;refine l8 hT Tryz.func197 rfl (by kernel_rfl) (by simp[Tryz.ntmps197]) ?_;show cG Tryz.prog _ _ _ ⟨19,_,_⟩;dsimp only[Tmp,TypeId,slotsOf];refine az (ai ?_);refine bS (ai ?_);refine ah (a8 (ι:=Bool) (fun b=>cond b ⟨19,[(0,.ms id 0 1 1),(1,.fn (.func 188) [] []),(7,aI 1),(8,aI 1)],O⟩ ⟨19,[(0,.ms id 0 1 1),(1,.fn (.func 188) [] []),(7,aI 1),(8,aI 0)],O⟩) (fun b=>cond b 0 1) false ?_ ?_)
 ·refine zq rfl ?_ ?_;simp -dsimp only[simprocAttr,↓I,zp,zc,cond_false];rfl
 rintro(_|_)
 ·dsimp only[cond_false];refine az (ai ?_);apply fK rfl<;>intro h;rotate_left
  ·cases h
  refine bZ ?_;refine aL (ah ?_);refine az (ai ?_);refine aG ?_;simp -dsimp only[simprocAttr,↓I,zp,ho];refine .inl ⟨_,hz,by simp only[av,aa.upto,zt,zu,ay,aU],ae ?_⟩;simp -dsimp only[simprocAttr,↓I,zp];refine ai ?_;apply aF rfl<;>intro h
  ·cases h
  refine k7 ?_;refine dA ?_
  repeat(refine⟨by omega,?_⟩)
  refine kv ?_;refine⟨true,by decide,?_⟩;refine zq rfl ?_ ?_;simp -dsimp only[simprocAttr,↓I,zp,zc,cond_true];rfl
 dsimp only[cond_true];refine az (ai ?_);apply fK rfl<;>intro h
 ·cases h
 refine aN ?_;simp -dsimp only[bH,ne_eq,Nat.reduceEqDiff,reduceCtorEq];refine az (ai ?_);refine ak ?_;simp -dsimp only[simprocAttr,↓I,zp,ry,Tryz.results197,eV,kV,iu,gR,fv,gk]
theorem H6:bw Tryz.prog 197 [.aB 2 [] .sh,.fn (.func 188) [] []] (aI (-1)):=by
 refine zf true 0 Tryz.func197 Tryz.ntmps197 ?_;dsimp only[Tmp,TypeId,slotsOf];refine az (ai ?_);refine bS (ai ?_);refine ah (a8 (ι:=Unit) (fun _=>⟨19,[(7,aI 0),(8,aI 0)],[]⟩) (fun _=>0) () ?_ ?_)
 ·refine zq rfl ?_ ?_;simp -dsimp only[simprocAttr,↓I,zp,zc];rfl
 rintro⟨⟩;refine az (ai ?_);apply fK rfl<;>intro h
 ·cases h
 refine aN ?_;simp -dsimp only[bH,ne_eq,Nat.reduceEqDiff,reduceCtorEq];refine az (ai ?_);refine ak ?_;simp -dsimp only[simprocAttr,↓I,zp,zr,Tryz.results197]
theorem G8:bw Tryz.prog 187 [.aB 2 [] .sh,.fn (.func 188) [] []] (.aB 2 [] .sh):=by
 refine zf true 0 Tryz.func187 Tryz.ntmps187 ?_;dsimp only[Tmp,TypeId,slotsOf];refine az (ai ?_);refine az ?_;refine .inl ⟨_,H6,by simp only[av,aa.upto,zt,zu,ay,aU],ae ?_⟩;simp -dsimp only[simprocAttr,↓I,zp];refine ai ?_;refine bS (ai ?_);apply aF rfl<;>intro h;rotate_left
 ·cases h
 refine az (ai ?_);refine ak ?_;simp -dsimp only[simprocAttr,↓I,zp,zr,Tryz.results187];simp[av]
theorem ET{O:List aq}{id:Nat}{c:Int}(ho:O[id]?=some (.cells [aI c,aI 1])) :
  aK Tryz.prog 187 O [.ms id 0 1 1,.fn (.func 188) [] []] fun r O'=>r=.ms id 0 (if c=0 then 0 else 1) 1∧O'=O.set id (.cells [aI c,aI (if c=0 then 0 else 1)]):=by
 have hz:=Fw ho;by_cases hc:c=0
 ·rw[if_pos hc]at hz ⊢;refine l8 hT Tryz.func187 rfl (by kernel_rfl) (by simp[Tryz.ntmps187]) ?_;show cG Tryz.prog _ _ _ ⟨42,_,_⟩;dsimp only[Tmp,TypeId,slotsOf];refine az (ai ?_);refine az ?_;refine .inr (.inr ⟨_,hz,ae (zj ?_)⟩);refine ai ?_;refine bS (ai ?_);apply aF rfl<;>intro h
  ·cases h
  refine bZ ?_;refine bS (ai ?_);refine ah (a8 (ι:=Unit) (fun _=>⟨42,[(0,.ms id 0 1 1),(1,.fn (.func 188) [] []),(5,aI 0),(6,aI 1)],O⟩) (fun _=>0) () ?_ ?_)
  ·refine zq rfl ?_ ?_;simp -dsimp only[simprocAttr,↓I,zp,zc];rfl
  rintro⟨⟩;refine bS (ai ?_);apply aF rfl<;>intro h
  ·cases h
  refine aN ?_;simp -dsimp only[bH,ne_eq,Nat.reduceEqDiff,reduceCtorEq];refine aG ?_;simp -dsimp only[simprocAttr,↓I,zp,ho];refine ai ?_;have hid:=ag ho;have AE:(O.set id (.cells (bz [aI c,aI 1] 0 [[aI 0,aI 0]].flatten)))[id]?=some (.cells (bz [aI c,aI 1] 0 [[aI 0,aI 0]].flatten)):=List.getElem?_set_self hid;refine aG ?_;simp -dsimp only[simprocAttr,↓I,zp,AE];refine ai ?_;refine ak ?_;simp -dsimp only[simprocAttr,↓I,zp,ry,Tryz.results187,eV,kV,iu,gR,fv,gk];subst hc;rfl
 rw[if_neg hc]at hz ⊢;have fQ:O.set id (.cells [aI c,aI 1])=O:=by
  apply List.ext_getElem?;intro i;rw[List.getElem?_set];split
  ·rename_i e;subst e;rw[if_pos (ag ho),ho]
  rfl
 refine l8 hT Tryz.func187 rfl (by kernel_rfl) (by simp[Tryz.ntmps187]) ?_;show cG Tryz.prog _ _ _ ⟨42,_,_⟩;dsimp only[Tmp,TypeId,slotsOf];refine az (ai ?_);refine az ?_;refine .inr (.inr ⟨_,hz,ae (zj ?_)⟩);refine ai ?_;refine bS (ai ?_);apply aF rfl<;>intro h;rotate_left
 ·cases h
 refine az (ai ?_);refine ak ?_;simp -dsimp only[simprocAttr,↓I,zp,ry,Tryz.results187,eV,kV,iu,gR,fv,gk];rw[if_neg hc,fQ]
end Go.Proofs.YtocdpaifmnkoaaaGreatDoor
namespace Go.Av
def mw(T:St->Prop)(Q:dT->St->Prop):dT->St->Prop
 | .norm,σ=>T σ
 | e,σ=>Q e σ
def tF(P:Program)(kb:Nat)(c:Code)(Q:dT->St->Prop):Nat->St->Prop
 | 0,_=>False
 | n+1,σ=>cG P kb c (mw (tF P kb c Q n) Q) σ
theorem cU{P:Program}{kb:Nat}{c:Code}{Q:dT->St->Prop}{n:Nat}{σ:St}(h:cG P kb c (mw (tF P kb c Q n) Q) σ):mw (tF P kb c Q (n+1)) Q .norm σ:=h
theorem kI(T:St->Prop)(Q:dT->St->Prop)(σ:St):mw T Q .ret σ=Q .ret σ:=rfl
theorem a7(T:St->Prop)(Q:dT->St->Prop)(σ:St)(id:Nat):mw T Q (.exit id) σ=Q (.exit id) σ:=rfl
theorem bJ{P:Program}{kb:Nat}{c:Code}{Q:dT->St->Prop}{σ:St}(n:Nat)(h:cG P kb c (mw (tF P kb c Q n) Q) σ):cG P kb (.loop c) Q σ:=by
 intro base a g hb hr b k cs;have key:∀n σ a g,tF P kb c Q n σ->Rel base σ a g->∃e a' w',Pe base Q e a' w'∧Arrives P (lone (b.at a (.code c::.inLoop c::k)) cs g.w) b k cs e a' w':=by
  intro n;induction n with
  | zero=>intro σ a g h;exact h.elim
  | succ n ih =>
   intro σ a g h hr;obtain⟨e,B6,J7,hq,fP⟩:=h base a g hb hr b (.inLoop c::k) cs;cases e with
   | normal =>
    obtain⟨uM,pr,h1,h2,h3⟩:=hq;subst h1;obtain⟨Po,Ph,RE,HU,yC⟩:=ih pr B6 uM h3 h2;exact⟨Po,Ph,RE,HU,.of_steps (Steps.trans fP (.one step_inLoop)) yC⟩
   | exit id =>
    obtain⟨uM,pr,h1,h2,h3⟩:=hq;exact⟨.exit id,B6,J7,⟨uM,pr,h1,h2,h3⟩,.pass (x:=.inLoop c) rfl (fun _ _=>.inl (by simp)) fP⟩
   | goto l=>exact hq.elim
   | ret =>
    obtain⟨uM,pr,h1,h2,h3⟩:=hq;exact⟨.ret,B6,J7,⟨uM,pr,h1,h2,h3⟩,.pass (x:=.inLoop c) rfl (fun _ _=>.inl (by simp)) fP⟩
   | panic ch=>exact hq.elim
   | outgrown=>exact hq.elim
 obtain⟨e,a',w',hq,fP⟩:=key (n+1) σ a g h hr;exact⟨e,a',w',hq,.of_steps (.one step_loop) fP⟩
end Go.Av
namespace Go.Proofs.YtocdpaifmnkoaaaGreatDoor
open Go.Av
theorem wF(x0 x1 x2 x4 x5 x6:aq)(L:List cQ){q:Int}(hq:cu q)(hL:L.length<=1000000000)(hx:∀o∈[x0,x1,x2,x4,x5,x6],o.upto 15) :
  aK Tryz.prog 164 (pO x0 x1 x2 x4 x5 x6 L) [.mp 13 0,.agg [aI q,.aB 2 (eQ []) .sh]] fun r O'=>r=aI (cH L 0 q).1∧O'=pO x0 x1 x2 x4 x5 x6 (cH L 0 q).2:=by
 have hs:=vC [] (by simp);have hw:=ff q (by unfold cu at hq;omega) (by unfold cu at hq;omega);rw[eT hq]at hw;have hn:=(mR x0 x1 x2 x4 x5 x6 L q (by unfold cu at hq;unfold i64;omega) hL hx).frame (by rfl) (by simp[av,aa.upto,pO]) (bA hx L) [.cells [aI q,.aB 2 (eQ []) .sh]];have aW:=bA hx (dC L 0 q []).2;rw[show cH L 0 q=dC L 0 q [] by simp[cH]];unfold pO at hn aW ⊢;refine zf true 15 Tryz.func164 Tryz.ntmps164 ?_;dsimp only[Tmp,TypeId,slotsOf];refine az (ai ?_);refine az ?_;refine .inl ⟨_,hs,by simp only[av,aa.upto,zt,zu,ay,aU],ae ?_⟩;simp -dsimp only[simprocAttr,↓I,zp];refine ai ?_;refine az (ai ?_);refine bS (ai ?_);refine ah (bJ 0 ?_);refine az (ai ?_);apply fK rfl<;>intro h
 ·cases h
 refine aN ?_;simp -dsimp only[bH,ne_eq,Nat.reduceEqDiff,reduceCtorEq,a7];refine az ?_;refine .inl ⟨_,G8,by simp only[av,aa.upto,zt,zu,ay,aU],ae ?_⟩;simp -dsimp only[simprocAttr,↓I,zp];refine ai ?_;refine az ?_;refine .inl ⟨_,hw,by simp only[av,aa.upto,zt,zu,ay,aU],ae ?_⟩;simp -dsimp only[simprocAttr,↓I,zp];refine ai ?_;refine aL (ah ?_);refine az (ai ?_);apply aF rfl<;>intro h;rotate_left
 ·cases h
 refine az ?_;refine .inr (.inl ⟨_,_,hn,.inl (ae (zj ?_))⟩);refine ai ?_;refine ak ?_;simp -dsimp only[simprocAttr,↓I,zp,zr,Tryz.results164];exact aW
theorem cO{k n:Nat}{A B:List aq}(hA:∀o∈A,o.upto n)(h9:n<=k)(hB:∀o∈B,o.upto k):∀o∈A++B,o.upto k:=fun o ho=>by
 rcases List.mem_append.1 ho with q|q
 ·exact aq.cR h9 (hA o q)
 exact hB o q
theorem mG(cs:List aa):aw [.agg cs]=cs:=by simp[aw,aa.cells]
theorem wG(x0 x1 x2 x4 x5 x6:aq)(L:List cQ)(ps:List Int)(c:Int){q:Int}(nE:ps=[c]∨∃a b,ps=[a,b]∧cu a∧cu b∧c=jv (a+b))(hc:cu c)(hq:cu q)(hL:L.length<=1000000000)(jr:1<L.length)(hx:∀o∈[x0,x1,x2,x4,x5,x6],o.upto 15) :
  aK Tryz.prog 164 (pO x0 x1 x2 x4 x5 x6 L) [.mp 13 0,.agg [aI q,.aB 2 (eQ ps) .sh]] fun r O'=>r=aI (cH L c q).1∧O'=pO x0 x1 x2 x4 x5 x6 (cH L c q).2:=by
 have hs:=vC ps (by rcases nE with rfl|⟨a,b,rfl,_⟩<;>simp);have hw:=ff q (by unfold cu at hq;omega) (by unfold cu at hq;omega);rw[eT hq]at hw;have aW:=bA hx (cH L c q).2;unfold pO at aW ⊢;refine zf true 15 Tryz.func164 Tryz.ntmps164 ?_;dsimp only[Tmp,TypeId,slotsOf];refine az (ai ?_);refine az ?_;refine .inl ⟨_,hs,by simp only[av,aa.upto,zt,zu,ay,aU],ae ?_⟩;simp -dsimp only[simprocAttr,↓I,zp];refine ai ?_;refine az (ai ?_);refine jb (⟨111,[(0,.mp 13 0),(3,.mp 15 0),(5,.ms 17 0 1 1)],[.gone,.gone,.gone,.gone,.gone,.gone,x0,x1,x2,.map .str (jf 0 L),x4,x5,x6,.cells [.aB 4 (L.map cQ.enc) (.tok 14),.mm 9,.mm 10,.mm 11,.mm 12],.spare L.length,.cells [aI q,.aB 2 (eQ ps) .sh],.cells [aI (ps.headD 0),aI 1],.cells [aI c,aI 1]]⟩) ?_ ?_
 ·rcases nE with rfl|⟨a,b,rfl,ha,hb,tu⟩
  ·have hg:=pF (l:=[c]) (i:=0) rfl;refine az (ai ?_);refine ah (bJ 1 ?_);refine az (ai ?_);apply fK rfl<;>intro h;rotate_left
   ·cases h
   refine bZ ?_;refine aL (ah ?_);refine aG ?_;simp -dsimp only[simprocAttr,↓I,zp,hg];refine ai ?_;refine az (ai ?_);refine az ?_;refine⟨ob (by kernel_rfl),?_⟩;refine ai ?_;apply aF rfl<;>intro h
   ·cases h
   refine V7 ?_;simp -dsimp only[simprocAttr,↓I,zp,mG]
   repeat(refine⟨by omega,?_⟩)
   refine ai ?_;refine dA (ai ?_);refine cU ?_;refine az (ai ?_);apply fK rfl<;>intro h
   ·cases h
   refine aN ?_;simp -dsimp only[bH,ne_eq,Nat.reduceEqDiff,reduceCtorEq,a7];refine zq rfl ?_ ?_;simp -dsimp only[simprocAttr,↓I,zp,zc];rfl
  have PW:=pF (l:=[a,b]) (i:=0) rfl;have k8:=pF (l:=[a,b]) (i:=1) rfl;have K3:=zJ a b ha hb;rw[<-tu]at K3;refine az (ai ?_);refine ah (bJ 2 ?_);refine az (ai ?_);apply fK rfl<;>intro h;rotate_left
  ·cases h
  refine bZ ?_;refine aL (ah ?_);refine aG ?_;simp -dsimp only[simprocAttr,↓I,zp,PW];refine ai ?_;refine az (ai ?_);refine az ?_;refine⟨ob (by kernel_rfl),?_⟩;refine ai ?_;apply aF rfl<;>intro h
  ·cases h
  refine V7 ?_;simp -dsimp only[simprocAttr,↓I,zp,mG]
  repeat(refine⟨by omega,?_⟩)
  refine ai ?_;refine dA (ai ?_);refine cU ?_;refine az (ai ?_);apply fK rfl<;>intro h;rotate_left
  ·cases h
  refine bZ ?_;refine aL (ah ?_);refine aG ?_;simp -dsimp only[simprocAttr,↓I,zp,k8];refine ai ?_;refine az (ai ?_);refine az ?_;refine⟨ob (by kernel_rfl),?_⟩;refine ai ?_;apply aF rfl<;>intro h;rotate_left
  ·cases h
  refine dA ?_;refine .inl ⟨_,K3,by simp only[av,aa.upto,zt,zu,ay,aU],ae ?_⟩;simp -dsimp only[simprocAttr,↓I,zp];refine⟨ob (by kernel_rfl),?_⟩;refine ai ?_;refine dA (ai ?_);refine cU ?_;refine az (ai ?_);apply fK rfl<;>intro h
  ·cases h
  refine cK 18 [(0,.mp 13 0),(3,.mp 15 0),(5,.ms 17 0 1 1)] (by simp) (by simp) ([.gone,.gone,.gone,.gone,.gone,.gone,x0,x1,x2,.map .str (jf 0 L),x4,x5,x6,.cells [.aB 4 (L.map cQ.enc) (.tok 14),.mm 9,.mm 10,.mm 11,.mm 12],.spare L.length]++[.cells [aI q,.aB 2 (eQ [a,b]) .sh],.cells [aI a,aI 1],.cells [aI c,aI 1]]) rfl (cO (bA hx L) (by omega) (by simp[aq.upto,av,aa.upto,aU])) (by simp[jw,St.get,Go.Av.look,Sub.refl]) (by simp[aa.upto]) ?_;refine aN ?_;simp -dsimp only[bH,ne_eq,Nat.reduceEqDiff,reduceCtorEq,a7];refine zq rfl ?_ ?_;simp -dsimp only[simprocAttr,↓I,zp,zc];rfl
 have hd:=ET (O:=[.gone,.gone,.gone,.gone,.gone,.gone,x0,x1,x2,.map .str (jf 0 L),x4,x5,x6,.cells [.aB 4 (L.map cQ.enc) (.tok 14),.mm 9,.mm 10,.mm 11,.mm 12],.spare L.length,.cells [aI q,.aB 2 (eQ ps) .sh],.cells [aI (ps.headD 0),aI 1],.cells [aI c,aI 1]]) (id:=17) (c:=c) rfl;by_cases h0:c=0
 ·rw[if_pos h0,if_pos h0]at hd;have hn:=(mR x0 x1 x2 x4 x5 x6 L q (by unfold cu at hq;unfold i64;omega) hL hx).frame (by rfl) (by simp[av,aa.upto,pO]) (bA hx L) [.cells [aI q,.aB 2 (eQ ps) .sh],.cells [aI (ps.headD 0),aI 1],.cells [aI c,aI 0]];have Oo:cH L c q=dC L 0 q []:=by simp[cH,h0]
  rw[Oo]at aW ⊢;unfold pO at hn;refine az ?_;refine .inr (.inl ⟨_,_,hd,.inl (ae (zj ?_))⟩);refine ai ?_;refine az ?_;refine .inl ⟨_,hw,by simp only[av,aa.upto,zt,zu,ay,aU],ae ?_⟩;simp -dsimp only[simprocAttr,↓I,zp];refine ai ?_;refine aL (ah ?_);refine az (ai ?_);apply aF rfl<;>intro h;rotate_left
  ·cases h
  refine az ?_;refine .inr (.inl ⟨_,_,hn,.inl (ae (zj ?_))⟩);refine ai ?_;refine ak ?_;simp -dsimp only[simprocAttr,↓I,zp,zr,Tryz.results164];exact aW
 rw[if_neg h0,if_neg h0]at hd;refine az ?_;refine .inr (.inl ⟨_,_,hd,.inl (ae (zj ?_))⟩);refine ai ?_;refine az ?_;refine .inl ⟨_,hw,by simp only[av,aa.upto,zt,zu,ay,aU],ae ?_⟩;simp -dsimp only[simprocAttr,↓I,zp];refine ai ?_;by_cases h1:c=1∧q=0
 ·have e1:decide (c=1)=true:=decide_eq_true h1.1;have e2:decide (q=0)=true:=decide_eq_true h1.2;have Oo:cH L c q=(1,L):=by simp[cH,h1]
  rw[Oo]at aW ⊢;refine aL (ah ?_);refine az (ai ?_);apply aF rfl<;>intro h
  ·cases h
  refine az (ai ?_);apply aF rfl<;>intro h
  ·cases h
  refine aG ?_;simp -dsimp only[simprocAttr,↓I,zp,e1,e2];refine ai ?_;apply aF rfl<;>intro h;rotate_left
  ·cases h
  refine az (ai ?_);refine ak ?_;simp -dsimp only[simprocAttr,↓I,zp,zr,Tryz.results164];exact aW
 have Oo:cH L c q=dC L 201 q [c,1]:=by simp only[cH,if_neg h0,if_neg h1]
 rw[Oo]at aW ⊢;have hi:=(lE x0 x1 x2 x4 x5 x6 L 201 q [c,1] (by simp) (by intro k hk;simp at hk;unfold cu at hc hq;unfold i64;rcases hk with rfl|rfl|rfl|rfl<;>omega) (by
  intro i a ha hi
  match i,ha with
  | 0,_=>simp at hi
  | 1,ha =>
   simp at ha;subst ha;exact⟨1,L[1],rfl,List.getElem?_eq_getElem jr⟩
  | i+2,ha=>simp at ha) hL hx).frame (by rfl) (by simp[av,aa.upto,pO]) (bA hx L) [.cells [aI q,.aB 2 (eQ ps) .sh],.cells [aI (ps.headD 0),aI 1],.cells [aI c,aI 1],.cells [aI c,aI 1],.spare 2]
 unfold pO at hi;refine jb (⟨111,[(0,.mp 13 0),(3,.mp 15 0),(5,.ms 17 0 1 1)],[.gone,.gone,.gone,.gone,.gone,.gone,x0,x1,x2,.map .str (jf 0 L),x4,x5,x6,.cells [.aB 4 (L.map cQ.enc) (.tok 14),.mm 9,.mm 10,.mm 11,.mm 12],.spare L.length,.cells [aI q,.aB 2 (eQ ps) .sh],.cells [aI (ps.headD 0),aI 1],.cells [aI c,aI 1]]⟩) ?_ ?_
 ·by_cases h2:c=1
  ·have e1:decide (c=1)=true:=decide_eq_true h2;have e2:decide (q=0)=false:=decide_eq_false fun e=>h1 ⟨h2,e⟩;refine ah ?_;refine az (ai ?_);apply aF rfl<;>intro h
   ·cases h
   refine az (ai ?_);apply aF rfl<;>intro h
   ·cases h
   refine aG ?_;simp -dsimp only[simprocAttr,↓I,zp,e1,e2];refine ai ?_;apply aF rfl<;>intro h
   ·cases h
   (refine bc ?_;simp -dsimp only[bH,ne_eq,Nat.reduceEqDiff,reduceCtorEq])
   refine zq rfl ?_ ?_;simp -dsimp only[simprocAttr,↓I,zp,zc];rfl
  have e1:decide (c=1)=false:=decide_eq_false h2;refine ah ?_;refine az (ai ?_);apply aF rfl<;>intro h
  ·cases h
  refine az (ai ?_);apply aF rfl<;>intro h
  ·cases h
  refine aG ?_;simp -dsimp only[simprocAttr,↓I,zp,e1];refine ai ?_;apply aF rfl<;>intro h
  ·cases h
  (refine bc ?_;simp -dsimp only[bH,ne_eq,Nat.reduceEqDiff,reduceCtorEq])
  refine zq rfl ?_ ?_;simp -dsimp only[simprocAttr,↓I,zp,zc];rfl
 refine az (ai ?_);refine bS (ai ?_);refine ah (bJ 1 ?_);refine az (ai ?_);apply fK rfl<;>intro h;rotate_left
 ·cases h
 refine bZ ?_;refine aL (ah ?_);refine az (ai ?_);refine dA (ai ?_);refine dA (ai ?_);refine cU ?_;refine az (ai ?_);apply fK rfl<;>intro h
 ·cases h
 refine aN ?_;simp -dsimp only[bH,ne_eq,Nat.reduceEqDiff,reduceCtorEq,a7];refine az ?_;refine .inr (.inl ⟨_,_,(aK.iL (args:=[.mp 13 0,aI 201,aI q,.aB 1 [aI c,aI 1] (.tok 19)]) hi),.inl (ae (zj ?_))⟩);refine ai ?_;refine ak ?_;simp -dsimp only[simprocAttr,↓I,zp,zr,Tryz.results164];exact aW
theorem eC(x0 x1 x2 x4 x5 x6:aq)(L:List cQ)(ps:List Int)(c:Int){q:Int}(nE:(ps=[]∧c=0)∨ps=[c]∨∃a b,ps=[a,b]∧cu a∧cu b∧c=jv (a+b))(hc:cu c)(hq:cu q)(hL:L.length<=1000000000)(jr:1<L.length)(hx:∀o∈[x0,x1,x2,x4,x5,x6],o.upto 15) :
  aK Tryz.prog 164 (pO x0 x1 x2 x4 x5 x6 L) [.mp 13 0,.agg [aI q,.aB 2 (eQ ps) .sh]] fun r O'=>r=aI (cH L c q).1∧O'=pO x0 x1 x2 x4 x5 x6 (cH L c q).2:=by
 rcases nE with⟨rfl,rfl⟩|h
 ·exact wF x0 x1 x2 x4 x5 x6 L hq hL hx
 exact wG x0 x1 x2 x4 x5 x6 L ps c h hc hq hL jr hx
theorem BB(x0 x1 x2 x4 x5 x6:aq)(L:List cQ){p q n:Int}(hp:cu p)(hq:cu q)(hn:cu n)(zF:cu (p*n))(OM:cu (q*n))(hL:L.length<=1000000000)(jr:1<L.length)(hx:∀o∈[x0,x1,x2,x4,x5,x6],o.upto 15) :
  aK Tryz.prog 163 (pO x0 x1 x2 x4 x5 x6 L) [.mp 13 0,.agg [aI q,.aB 2 (eQ [p]) .sh],.agg [aI n,.aB 2 (eQ []) .sh]] fun r O'=>r=aI (cH L (p*n) (q*n)).1∧O'=pO x0 x1 x2 x4 x5 x6 (cH L (p*n) (q*n)).2:=by
 have h1:=mh q n hq hn;rw[eT OM]at h1;have h2:=mh p n hp hn;rw[eT zF]at h2;have hg:=pF (l:=[p]) (i:=0) rfl;have hc:=(eC x0 x1 x2 x4 x5 x6 L [p*n] (p*n) (.inr (.inl rfl)) zF OM hL jr hx).frame (by rfl) (by simp[av,aa.upto,pO,aU]) (bA hx L);have aW:=bA hx (cH L (p*n) (q*n)).2;unfold pO at aW hc ⊢;refine zf true 15 Tryz.func163 Tryz.ntmps163 ?_;dsimp only[Tmp,TypeId,slotsOf];refine az (ai ?_);refine az ?_;refine .inl ⟨_,h1,by simp only[av,aa.upto,zt,zu,ay,aU],ae ?_⟩;simp -dsimp only[simprocAttr,↓I,zp];refine ai ?_;refine bS (ai ?_);refine ah (bJ 1 ?_);refine az (ai ?_);apply fK rfl<;>intro h;rotate_left
 ·cases h
 refine bZ ?_;refine aL (ah ?_);refine aG ?_;simp -dsimp only[simprocAttr,↓I,zp,hg];refine ai ?_;refine dA ?_;refine .inl ⟨_,h2,by simp only[av,aa.upto,zt,zu,ay,aU],ae ?_⟩;simp -dsimp only[simprocAttr,↓I,zp];refine⟨ob (by kernel_rfl),?_⟩;refine ai ?_;refine dA (ai ?_);refine cU ?_;refine az (ai ?_);apply fK rfl<;>intro h
 ·cases h
 refine aN ?_;simp -dsimp only[bH,ne_eq,Nat.reduceEqDiff,reduceCtorEq,a7];refine bS (ai ?_);refine ah (bJ 0 ?_);refine az (ai ?_);apply fK rfl<;>intro h
 ·cases h
 refine aN ?_;simp -dsimp only[bH,ne_eq,Nat.reduceEqDiff,reduceCtorEq,a7];refine az ?_;refine .inr (.inl ⟨_,_,(aK.iL (hc _)),.inl (ae (zj ?_))⟩);refine ai ?_;refine ak ?_;simp -dsimp only[simprocAttr,↓I,zp,zr,Tryz.results163];exact aW
theorem BC(x0 x1 x2 x4 x5 x6:aq)(L:List cQ){p q n:Int}(hp:cu p)(hq:cu q)(hn:cu n)(zF:cu (p*n))(OM:cu (q*n))(hL:L.length<=1000000000)(jr:1<L.length)(hx:∀o∈[x0,x1,x2,x4,x5,x6],o.upto 15) :
  aK Tryz.prog 163 (pO x0 x1 x2 x4 x5 x6 L) [.mp 13 0,.agg [aI n,.aB 2 (eQ []) .sh],.agg [aI q,.aB 2 (eQ [p]) .sh]] fun r O'=>r=aI (cH L (p*n) (q*n)).1∧O'=pO x0 x1 x2 x4 x5 x6 (cH L (p*n) (q*n)).2:=by
 have h1:=mh n q hn hq;rw[Int.mul_comm n q,eT OM]at h1;have h2:=mh p n hp hn;rw[eT zF]at h2;have hg:=pF (l:=[p]) (i:=0) rfl;have hc:=(eC x0 x1 x2 x4 x5 x6 L [p*n] (p*n) (.inr (.inl rfl)) zF OM hL jr hx).frame (by rfl) (by simp[av,aa.upto,pO,aU]) (bA hx L);have aW:=bA hx (cH L (p*n) (q*n)).2;unfold pO at aW hc ⊢;refine zf true 15 Tryz.func163 Tryz.ntmps163 ?_;dsimp only[Tmp,TypeId,slotsOf];refine az (ai ?_);refine az ?_;refine .inl ⟨_,h1,by simp only[av,aa.upto,zt,zu,ay,aU],ae ?_⟩;simp -dsimp only[simprocAttr,↓I,zp];refine ai ?_;refine bS (ai ?_);refine ah (bJ 0 ?_);refine az (ai ?_);apply fK rfl<;>intro h
 ·cases h
 refine aN ?_;simp -dsimp only[bH,ne_eq,Nat.reduceEqDiff,reduceCtorEq,a7];refine bS (ai ?_);refine ah (bJ 1 ?_);refine az (ai ?_);apply fK rfl<;>intro h;rotate_left
 ·cases h
 refine bZ ?_;refine aL (ah ?_);refine aG ?_;simp -dsimp only[simprocAttr,↓I,zp,hg];refine ai ?_;refine az ?_;refine .inl ⟨_,h2,by simp only[av,aa.upto,zt,zu,ay,aU],ae ?_⟩;simp -dsimp only[simprocAttr,↓I,zp];refine⟨ob (by kernel_rfl),?_⟩;refine ai ?_;refine az (ai ?_);refine ah (bJ 0 ?_);refine az (ai ?_);apply fK rfl<;>intro h
 ·cases h
 refine aN ?_;simp -dsimp only[bH,ne_eq,Nat.reduceEqDiff,reduceCtorEq,a7];refine dA (ai ?_);refine cU ?_;refine az (ai ?_);apply fK rfl<;>intro h
 ·cases h
 refine aN ?_;simp -dsimp only[bH,ne_eq,Nat.reduceEqDiff,reduceCtorEq,a7];refine az ?_;refine .inr (.inl ⟨_,_,(aK.iL (hc _)),.inl (ae (zj ?_))⟩);refine ai ?_;refine ak ?_;simp -dsimp only[simprocAttr,↓I,zp,zr,Tryz.results163];exact aW
theorem BA(x0 x1 x2 x4 x5 x6:aq)(L:List cQ){q n:Int}(hq:cu q)(hn:cu n)(OM:cu (q*n))(hL:L.length<=1000000000)(jr:1<L.length)(hx:∀o∈[x0,x1,x2,x4,x5,x6],o.upto 15) :
  aK Tryz.prog 163 (pO x0 x1 x2 x4 x5 x6 L) [.mp 13 0,.agg [aI q,.aB 2 (eQ []) .sh],.agg [aI n,.aB 2 (eQ []) .sh]] fun r O'=>r=aI (cH L 0 (q*n)).1∧O'=pO x0 x1 x2 x4 x5 x6 (cH L 0 (q*n)).2:=by
 have h1:=mh q n hq hn;rw[eT OM]at h1;have hc:=(eC x0 x1 x2 x4 x5 x6 L [] 0 (.inl ⟨rfl,rfl⟩) (by unfold cu;omega) OM hL jr hx).frame (by rfl) (by simp[av,aa.upto,pO,aU]) (bA hx L);have aW:=bA hx (cH L 0 (q*n)).2;unfold pO at aW hc ⊢;refine zf true 15 Tryz.func163 Tryz.ntmps163 ?_;dsimp only[Tmp,TypeId,slotsOf];refine az (ai ?_);refine az ?_;refine .inl ⟨_,h1,by simp only[av,aa.upto,zt,zu,ay,aU],ae ?_⟩;simp -dsimp only[simprocAttr,↓I,zp];refine ai ?_;refine bS (ai ?_);refine ah (bJ 0 ?_);refine az (ai ?_);apply fK rfl<;>intro h
 ·cases h
 refine aN ?_;simp -dsimp only[bH,ne_eq,Nat.reduceEqDiff,reduceCtorEq,a7];refine bS (ai ?_);refine ah (bJ 0 ?_);refine az (ai ?_);apply fK rfl<;>intro h
 ·cases h
 refine aN ?_;simp -dsimp only[bH,ne_eq,Nat.reduceEqDiff,reduceCtorEq,a7];refine az ?_;refine .inr (.inl ⟨_,_,(aK.iL (hc _)),.inl (ae (zj ?_))⟩);refine ai ?_;refine ak ?_;simp -dsimp only[simprocAttr,↓I,zp,zr,Tryz.results163];exact aW
theorem lG:lp 0=[]:=rfl
theorem O4{p:Int}(h:p≠0):lp p=[p]:=by rw[lp,if_neg h]
theorem DA(x0 x1 x2 x4 x5 x6:aq)(L:List cQ){p1 q1 p2 q2:Int}(h:p1=0∨p2=0)(Ko:cu p1)(Kp:cu q1)(P':cu p2)(Fs:cu q2)(KX:cu (p1*q2))(Pu:cu (p2*q1))(tz:cu (q1*q2))(hL:L.length<=1000000000)(jr:1<L.length)(hx:∀o∈[x0,x1,x2,x4,x5,x6],o.upto 15) :
  aK Tryz.prog 163 (pO x0 x1 x2 x4 x5 x6 L) [.mp 13 0,.agg [aI q1,.aB 2 (eQ (lp p1)) .sh],.agg [aI q2,.aB 2 (eQ (lp p2)) .sh]] fun r O'=>r=aI (cH L (p1*q2+p2*q1) (q1*q2)).1∧O'=pO x0 x1 x2 x4 x5 x6 (cH L (p1*q2+p2*q1) (q1*q2)).2:=by
 by_cases e1:p1=0
 ·subst e1;by_cases e2:p2=0
  ·subst e2;rw[show(0:Int)*q2+0*q1=0 by omega];exact BA x0 x1 x2 x4 x5 x6 L Kp Fs tz hL jr hx
  rw[show(0:Int)*q2+p2*q1=p2*q1 by omega,Int.mul_comm q1 q2,lG,O4 e2];exact BC x0 x1 x2 x4 x5 x6 L P' Fs Kp Pu (by rw[Int.mul_comm];exact tz) hL jr hx
 have e2:p2=0:=h.resolve_left e1;subst e2;rw[show p1*q2+0*q1=p1*q2 by omega,lG,O4 e1];exact BB x0 x1 x2 x4 x5 x6 L Ko Kp Fs KX tz hL jr hx
theorem j6(x0 x1 x2 x4 x5 x6:aq)(L:List cQ){t:Nat}{q late:Int}(h:L[t]?=some ⟨0,q,[],late⟩)(hx:∀o∈[x0,x1,x2,x4,x5,x6],o.upto 15) :
  aK Tryz.prog 162 (pO x0 x1 x2 x4 x5 x6 L) [.mp 13 0,aI t] fun r O'=>r=.agg [aI q,.aB 2 (eQ []) .ex]∧O'=pO x0 x1 x2 x4 x5 x6 L:=by
 have aW:=bA hx L;unfold pO at aW ⊢;have hg:=kA h;refine zf false 15 Tryz.func162 Tryz.ntmps162 ?_;dsimp only[Tmp,TypeId,slotsOf];refine az (ai ?_);refine aG ?_;simp -dsimp only[simprocAttr,↓I,zp,hg];refine ai ?_;refine bS (ai ?_);refine ah ?_;refine az (ai ?_);apply aF rfl<;>intro h;rotate_left
 ·cases h
 refine az (ai ?_);refine ak ?_;simp -dsimp only[simprocAttr,↓I,zp,zr,Tryz.results162];exact⟨aW,by simp[av,aa.upto],by simp[eQ]⟩
theorem Bx(x0 x1 x2 x4 x5 x6:aq)(L:List cQ){n late:Int}(h:L[1]?=some ⟨200,n,[],late⟩)(hx:∀o∈[x0,x1,x2,x4,x5,x6],o.upto 15) :
  aK Tryz.prog 162 (pO x0 x1 x2 x4 x5 x6 L) [.mp 13 0,aI (1:Nat)] fun r O'=>r=.agg [aI 0,.aB 2 (eQ [1]) .ex]∧O'=pO x0 x1 x2 x4 x5 x6 L:=by
 have aW:=bA hx L;unfold pO at aW ⊢;have hg:=kA h;refine zf false 15 Tryz.func162 Tryz.ntmps162 ?_;dsimp only[Tmp,TypeId,slotsOf];refine az (ai ?_);refine aG ?_;simp -dsimp only[simprocAttr,↓I,zp,hg];refine ai ?_;refine bS (ai ?_);refine ah ?_;refine az (ai ?_);apply aF rfl<;>intro h
 ·cases h
 refine az (ai ?_);apply aF rfl<;>intro h
 ·cases h
 refine k7 ?_;refine az (ai ?_);refine ak ?_;simp -dsimp only[simprocAttr,↓I,zp,zr,Tryz.results162];exact⟨aW,by simp[av,aa.upto],by simp[eQ]⟩
theorem Bw(x0 x1 x2 x4 x5 x6:aq)(L:List cQ){t:Nat}{p q late:Int}(h:L[t]?=some ⟨201,q,[p,1],late⟩)(hx:∀o∈[x0,x1,x2,x4,x5,x6],o.upto 15) :
  aK Tryz.prog 162 (pO x0 x1 x2 x4 x5 x6 L) [.mp 13 0,aI t] fun r O'=>r=.agg [aI q,.aB 2 (eQ [p]) (.tok 18)]∧O'=pO x0 x1 x2 x4 x5 x6 L++[.cells [aI q,.aB 2 (eQ [p]) (.tok 18)],.cells [aI 201,aI q,bp [p,1],aI late],.cells [aI q,.aB 2 (eQ [p]) (.tok 18)],.spare 1]:=by
 have aW:=bA hx L;unfold pO at aW ⊢;have hg:=kA h;refine zf false 19 Tryz.func162 Tryz.ntmps162 ?_;dsimp only[Tmp,TypeId,slotsOf];refine az (ai ?_);refine aG ?_;simp -dsimp only[simprocAttr,↓I,zp,hg];refine ai ?_;refine bS (ai ?_);refine ah ?_;refine az (ai ?_);apply aF rfl<;>intro h
 ·cases h
 refine az (ai ?_);apply aF rfl<;>intro h;rotate_left
 ·cases h
 refine az (ai ?_);refine bS (ai ?_);refine ah (a8 (ι:=Bool) (fun b=>cond b ⟨56,[(0,.mp 13 0),(1,aI t),(4,.mp 15 0),(5,.mp 16 0),(6,.mp 17 0),(7,aI 2)],[.gone,.gone,.gone,.gone,.gone,.gone,x0,x1,x2,.map .str (jf 0 L),x4,x5,x6,.cells [.aB 4 (L.map cQ.enc) (.tok 14),.mm 9,.mm 10,.mm 11,.mm 12],.spare L.length,.cells [aI 0,.aB 2 [] .ex],.cells [aI 201,aI q,bp [p,1],aI late],.cells [aI q,.aB 2 [.agg [aI p,aI 1]] (.tok 18)],.spare 1]⟩ ⟨56,[(0,.mp 13 0),(1,aI t),(4,.mp 15 0),(5,.mp 16 0),(6,.mp 17 0),(7,aI 0)],[.gone,.gone,.gone,.gone,.gone,.gone,x0,x1,x2,.map .str (jf 0 L),x4,x5,x6,.cells [.aB 4 (L.map cQ.enc) (.tok 14),.mm 9,.mm 10,.mm 11,.mm 12],.spare L.length,.cells [aI 0,.aB 2 [] .ex],.cells [aI 201,aI q,bp [p,1],aI late],.cells [aI q,.aB 2 [] .ex]]⟩) (fun b=>cond b 0 1) false ?_ ?_)
 ·refine zq rfl ?_ ?_;simp -dsimp only[simprocAttr,↓I,zp,zc,cond_false];rfl
 rintro(_|_)
 ·dsimp only[cond_false];refine bS (ai ?_);apply aF rfl<;>intro h;rotate_left
  ·cases h
  refine bZ ?_;refine aL (ah ?_);refine dw hT hm ?_;simp -dsimp only[simprocAttr,↓I,zp];refine⟨ob (by kernel_rfl),?_⟩;refine ai ?_;refine dA ?_
  repeat(refine⟨by omega,?_⟩)
  refine kv ?_;refine⟨true,by decide,?_⟩;refine zq rfl ?_ ?_;simp -dsimp only[simprocAttr,↓I,zp,zc,cond_true];rfl
 dsimp only[cond_true];refine bS (ai ?_);apply aF rfl<;>intro h
 ·cases h
 refine aN ?_;simp -dsimp only[bH,ne_eq,Nat.reduceEqDiff,reduceCtorEq];refine az (ai ?_);refine ak ?_;simp -dsimp only[simprocAttr,↓I,zp,zr,Tryz.results162];exact⟨cO (k:=19) (bA hx L) (by omega) (B:=[.cells [aI q,.aB 2 [.agg [aI p,aI 1]] (.tok 18)],.cells [aI 201,aI q,bp [p,1],aI late],.cells [aI q,.aB 2 [.agg [aI p,aI 1]] (.tok 18)],.spare 1]) (by simp[aq.upto,av,aa.upto]),by simp[av,aa.upto],rfl,rfl⟩
theorem wg(x0 x1 x2 x4 x5 x6:aq)(L:List cQ){a b:Nat}{p1 q1 p2 q2:Int}(ha:lY L a p1 q1)(hb:lY L b p2 q2)(h:p1=0∨p2=0)(Ko:cu p1)(Kp:cu q1)(P':cu p2)(Fs:cu q2)(KX:cu (p1*q2))(Pu:cu (p2*q1))(tz:cu (q1*q2))(hL:L.length<=1000000000)(jr:1<L.length)(hx:∀o∈[x0,x1,x2,x4,x5,x6],o.upto 15) :
  aK Tryz.prog 124 (pO x0 x1 x2 x4 x5 x6 L) [.mp 13 0,aI 3,aI a,aI b] fun r O'=>r=aI (cH L (p1*q2+p2*q1) (q1*q2)).1∧O'=pO x0 x1 x2 x4 x5 x6 (cH L (p1*q2+p2*q1) (q1*q2)).2:=by
 have h1:=kY x0 x1 x2 x4 x5 x6 L ha hx;have h2:=kY x0 x1 x2 x4 x5 x6 L hb hx;have ht:=(DA x0 x1 x2 x4 x5 x6 L h Ko Kp P' Fs KX Pu tz hL jr hx).frame (by rfl) (by simp[av,aa.upto,pO,aU]) (bA hx L);generalize hM:cH L (p1*q2+p2*q1) (q1*q2)=M at *;have aW:=bA hx M.2;have nv:decide (((M.1:Nat):Int)<0)=false:=decide_eq_false (by omega);unfold pO at aW h1 h2 ht ⊢;refine zf true 15 Tryz.func124 Tryz.ntmps124 ?_;dsimp only[Tmp,TypeId,slotsOf];refine az (ai ?_);refine az ?_;refine .inr (.inr ⟨_,h1,ae (zj ?_)⟩);refine .inr (.inr ⟨_,h2,ae (zj ?_)⟩);refine ai ?_;refine az (ai ?_);refine bS (ai ?_);refine ah ?_;refine az (ai ?_);apply aF rfl<;>intro h;rotate_left
 ·cases h
 refine dA ?_;refine .inr (.inl ⟨_,_,(ht _),.inl (ae (zj ?_))⟩);refine ai ?_;refine bR ?_;simp -dsimp only[simprocAttr,↓I,zp,nv];refine ai ?_;apply aF rfl<;>intro h
 ·cases h
 refine bZ ?_;refine az (ai ?_);refine ak ?_;simp -dsimp only[simprocAttr,↓I,zp,zr,Tryz.results124];exact aW
theorem tQ(x0 x1 x2 x4 x5 x6:aq)(L:List cQ){a b:Nat}{q1 q2 late:Int}(ha:L[a]?=some ⟨0,q1,[],late⟩)(hb:lY L b 0 q2)(Kp:cu q1)(Fs:cu q2)(tz:cu (q1+q2))(hL:L.length<=1000000000)(jr:1<L.length)(hx:∀o∈[x0,x1,x2,x4,x5,x6],o.upto 15) :
  aK Tryz.prog 124 (pO x0 x1 x2 x4 x5 x6 L) [.mp 13 0,aI 1,aI a,aI b] fun r O'=>r=aI (cH L 0 (q1+q2)).1∧O'=pO x0 x1 x2 x4 x5 x6 (cH L 0 (q1+q2)).2:=by
 have h1:=j6 x0 x1 x2 x4 x5 x6 L ha hx;have h2:=(kY x0 x1 x2 x4 x5 x6 L hb hx).frame (by rfl) (by simp[av,aa.upto,pO,aU]) (bA hx L);have hc:=(eC x0 x1 x2 x4 x5 x6 L _ 0 (.inl ⟨rfl,rfl⟩) (by unfold cu;omega) tz hL jr hx).frame (by rfl) (by simp[av,aa.upto,pO,aU]) (bA hx L);generalize hM:cH L 0 (q1+q2)=M at *;have aW:=bA hx M.2;have heq:eQ []++(eQ (lp 0)).map aa.share=eQ []:=by simp[lG,eQ]
 have HT:=tz;unfold cu at HT;have nv:decide (((M.1:Nat):Int)<0)=false:=decide_eq_false (by omega);unfold pO at aW h1 h2 hc ⊢;refine zf true 15 Tryz.func124 Tryz.ntmps124 ?_;dsimp only[Tmp,TypeId,slotsOf];refine az (ai ?_);refine az ?_;refine .inr (.inr ⟨_,h1,ae (zj ?_)⟩);refine .inr (.inr ⟨_,(h2 _),ae (zj ?_)⟩);refine ai ?_;refine az (ai ?_);refine bS (ai ?_);refine ah ?_;refine az (ai ?_);apply aF rfl<;>intro h
 ·cases h
 refine az (ai ?_);apply aF rfl<;>intro h
 ·cases h
 refine fE ?_;simp -dsimp only[simprocAttr,↓I,zp,heq,pG,lG,List.length_nil,List.length_cons]
 repeat(refine⟨by omega,?_⟩)
 refine .inr (.inl ⟨_,_,aK.iL (hc _),.inl (ae (zj ?_))⟩);refine⟨ob (by kernel_rfl),?_⟩;refine ai ?_;refine bR ?_;simp -dsimp only[simprocAttr,↓I,zp,nv];refine ai ?_;apply aF rfl<;>intro h
 ·cases h
 refine bZ ?_;refine az (ai ?_);refine ak ?_;simp -dsimp only[simprocAttr,↓I,zp,zr,Tryz.results124];exact aW
theorem tS(x0 x1 x2 x4 x5 x6:aq)(L:List cQ){b:Nat}{q2 n late:Int}(ha:L[1]?=some ⟨200,n,[],late⟩)(hb:lY L b 0 q2)(Fs:cu q2)(tz:cu (0+q2))(hL:L.length<=1000000000)(jr:1<L.length)(hx:∀o∈[x0,x1,x2,x4,x5,x6],o.upto 15) :
  aK Tryz.prog 124 (pO x0 x1 x2 x4 x5 x6 L) [.mp 13 0,aI 1,aI (1:Nat),aI b] fun r O'=>r=aI (cH L 1 (0+q2)).1∧O'=pO x0 x1 x2 x4 x5 x6 (cH L 1 (0+q2)).2:=by
 have h1:=Bx x0 x1 x2 x4 x5 x6 L ha hx;have h2:=(kY x0 x1 x2 x4 x5 x6 L hb hx).frame (by rfl) (by simp[av,aa.upto,pO,aU]) (bA hx L);rw[Int.zero_add]at tz;have hc:=(eC x0 x1 x2 x4 x5 x6 L _ 1 (.inr (.inl rfl)) (by unfold cu;omega) tz hL jr hx).frame (by rfl) (by simp[av,aa.upto,pO,aU]) (bA hx L);rw[Int.zero_add];generalize hM:cH L 1 q2=M at *;have aW:=bA hx M.2;have heq:eQ [1]++(eQ (lp 0)).map aa.share=eQ [1]:=by simp[lG,eQ]
 have HT:=tz;unfold cu at HT;have nv:decide (((M.1:Nat):Int)<0)=false:=decide_eq_false (by omega);unfold pO at aW h1 h2 hc ⊢;refine zf true 15 Tryz.func124 Tryz.ntmps124 ?_;dsimp only[Tmp,TypeId,slotsOf];refine az (ai ?_);refine az ?_;refine .inr (.inr ⟨_,h1,ae (zj ?_)⟩);refine .inr (.inr ⟨_,(h2 _),ae (zj ?_)⟩);refine ai ?_;refine az (ai ?_);refine bS (ai ?_);refine ah ?_;refine az (ai ?_);apply aF rfl<;>intro h
 ·cases h
 refine az (ai ?_);apply aF rfl<;>intro h
 ·cases h
 refine fE ?_;simp -dsimp only[simprocAttr,↓I,zp,heq,pG,lG,List.length_nil,List.length_cons]
 repeat(refine⟨by omega,?_⟩)
 refine .inr (.inl ⟨_,_,aK.iL (hc _),.inl (ae (zj ?_))⟩);refine⟨ob (by kernel_rfl),?_⟩;refine ai ?_;refine bR ?_;simp -dsimp only[simprocAttr,↓I,zp,nv];refine ai ?_;apply aF rfl<;>intro h
 ·cases h
 refine bZ ?_;refine az (ai ?_);refine ak ?_;simp -dsimp only[simprocAttr,↓I,zp,zr,Tryz.results124];exact aW
theorem tR(x0 x1 x2 x4 x5 x6:aq)(L:List cQ){a b:Nat}{p q1 q2 late:Int}(ha:L[a]?=some ⟨201,q1,[p,1],late⟩)(hb:lY L b 0 q2)(hp:cu p)(Kp:cu q1)(Fs:cu q2)(tz:cu (q1+q2))(hL:L.length<=1000000000)(jr:1<L.length)(hx:∀o∈[x0,x1,x2,x4,x5,x6],o.upto 15) :
  aK Tryz.prog 124 (pO x0 x1 x2 x4 x5 x6 L) [.mp 13 0,aI 1,aI a,aI b] fun r O'=>r=aI (cH L p (q1+q2)).1∧O'=pO x0 x1 x2 x4 x5 x6 (cH L p (q1+q2)).2:=by
 have h1:=Bw x0 x1 x2 x4 x5 x6 L ha hx;have h2:=(kY x0 x1 x2 x4 x5 x6 L hb hx).frame (by rfl) (by simp[av,aa.upto,pO,aU]) (bA hx L);have hc:=(eC x0 x1 x2 x4 x5 x6 L _ p (.inr (.inl rfl)) hp tz hL jr hx).frame (by rfl) (by simp[av,aa.upto,pO,aU]) (bA hx L);generalize hM:cH L p (q1+q2)=M at *;have aW:=bA hx M.2;have heq:eQ [p]++(eQ (lp 0)).map aa.share=eQ [p]:=by simp[lG,eQ]
 have HT:=tz;unfold cu at HT;have nv:decide (((M.1:Nat):Int)<0)=false:=decide_eq_false (by omega);unfold pO at aW h1 h2 hc ⊢;refine zf true 15 Tryz.func124 Tryz.ntmps124 ?_;dsimp only[Tmp,TypeId,slotsOf];refine az (ai ?_);refine az ?_;refine .inr (.inl ⟨_,_,h1,.inl (ae (zj ?_))⟩);refine .inr (.inr ⟨_,(h2 _),ae (zj ?_)⟩);refine ai ?_;refine az (ai ?_);refine bS (ai ?_);refine ah ?_;refine az (ai ?_);apply aF rfl<;>intro h
 ·cases h
 refine az (ai ?_);apply aF rfl<;>intro h
 ·cases h
 refine fE ?_;simp -dsimp only[simprocAttr,↓I,zp,heq,pG,lG,List.length_nil,List.length_cons]
 repeat(refine⟨by omega,?_⟩)
 refine .inr (.inl ⟨_,_,aK.iL (hc _),.inl (ae (zj ?_))⟩);refine⟨ob (by kernel_rfl),?_⟩;refine ai ?_;refine bR ?_;simp -dsimp only[simprocAttr,↓I,zp,nv];refine ai ?_;apply aF rfl<;>intro h
 ·cases h
 refine bZ ?_;refine az (ai ?_);refine ak ?_;simp -dsimp only[simprocAttr,↓I,zp,zr,Tryz.results124];exact aW
end Go.Proofs.YtocdpaifmnkoaaaGreatDoor
namespace Go.Av
theorem pC{P:Program}{aP:ee}(hT:b8 P aP){o:Oper}{σ:St}{t e:TypeId}{len:Nat}{parts:Array (Nat×Operand)}{ti te:cr}{ps:List (Nat×aa)}{xs:List aa}
  (ho:o.op=.buildSlice t len parts) (hd:∀d,o.dst=some d->d<σ.n) (ht:aP t=some ti) (aT:ti.desc=.slice e) (he:aP e=some te) (pQ:0<te.size) (vV:σ.fh parts.toList=some ps) (ix:∀p∈ps,p.2.flat)
  (HV:gQ 0 ps=some xs) (hlen:xs.length=len) (c7:∀x∈xs,x.cells.length=te.size) (VH:len*te.size<=2 ^ 24) (hz:len≠0):Cert P o σ (.os σ.objs.length len te.size) (.write (σ.objs++[.cells (aw xs)])) :=
 Cert.gG hd fun base fL a g bV h gW=>by
  have hO:g.objs=σ.objs:=gW.resolve_left (by simp);have hg:=bV.good;have Lm:=jX (a:=a) (g:=g) (fun x hx y hy=>h x (by simpa[ho,Op.operands]using hx) y hy) vV ix;have hu:=bY hT ht aT;obtain⟨⟨i,z,h1,h2,h3,h4,h5,h6,h7,h8,h9⟩,_⟩:=hT e te he;have nE:=og HV;have dI:∀x∈xs,∀c∈x.cells,c.scalar:=by
   have aux:∀{ps:List (Nat×aa)} {vs:List (Nat×Value)},BR g ps vs->∀p∈ps,∀c∈p.2.cells,c.scalar:=by
    intro ps vs hr;induction hr with
    | nil=>intro p hp;cases hp
    | cons hx hf r ih =>
     intro p hp;rcases List.mem_cons.1 hp with hp|hp
     ·subst hp;exact hx.jd hf
     exact ih p hp
   intro x hx c hc;have kC:∃k,(k,x)∈ps:=by
    obtain⟨k,hk⟩:=List.getElem?_of_mem hx;refine⟨0+k,?_⟩;rw[nE,List.mem_map];refine⟨(x,0+k),?_,rfl⟩;rw[List.mem_iff_getElem?];exact⟨k,by simp[hk]⟩
   obtain⟨k,hk⟩:=kC;exact aux Lm _ hk c hc
  have da:¬len*i.size=0:=by
   rw[h2];intro e0;rcases Nat.mul_eq_zero.1 e0 with q|q<;>omega
  obtain⟨zs,yH⟩:∃zs:Array Value,zs=(Array.range (len*i.size)).map (z.cells[· % z.cells.size]!):=⟨_,rfl⟩
  have CR:zs.size=len*te.size:=by rw[yH];simp[h2]
  obtain⟨zc,VU,vZ,H4⟩:∃zc:List aa,(∀c∈zc,c.scalar)∧jq g zc zs∧zc.length=len*te.size:=by
   refine⟨(List.range (len*te.size)).map fun j=>te.zero.getD (j % te.size) (.v (.bool false)),fun c hc=>?_,⟨by simp[CR],fun j c u hj Ld=>?_⟩,by simp⟩
   ·rw[List.mem_map]at hc;obtain⟨j,_,e⟩:=hc;subst e;have bd:j % te.size<te.zero.length:=by rw[h6];exact Nat.mod_lt _ pQ
    rw[List.getD_eq_getElem?_getD,List.getElem?_eq_getElem bd];exact h9 _ (List.getElem_mem bd)
   have jo:=ag hj;simp only[List.length_map,List.length_range]at jo;rw[List.getElem?_map,List.getElem?_range jo]at hj;simp only[Option.map_some,Option.some.injEq]at hj;subst hj;have bd:j % te.size<te.zero.length:=by rw[h6];exact Nat.mod_lt _ pQ
   have kg:j % te.size<z.cells.size:=by rw[h5];exact bd
   rw[yH]at Ld;simp only[Array.getElem?_map,h2,Array.getElem?_range,if_pos jo,Option.map_some,Option.some.injEq]at Ld;subst Ld;rw[List.getD_eq_getElem?_getD,List.getElem?_eq_getElem bd];refine h8 g (j % te.size) _ _ (List.getElem?_eq_getElem bd) ?_;rw[h5,h6];simp[kg]
  have HH:∃cs',jg (fun i=>some (i*te.size,te.size)) zc ps=some cs':=by
   have aux:∀(ys:List aa) (k:Nat) (cs:List aa),(∀y∈ys,y.cells.length=te.size)->(k+ys.length)*te.size<=cs.length->∃cs',jg (fun i=>some (i*te.size,te.size)) cs ((ys.zipIdx k).map fun p=>(p.2,p.1))=some cs':=by
    intro ys;induction ys with
    | nil=>intro k cs _ _;exact⟨cs,rfl⟩
    | cons y ys ih =>
     intro k cs hy hl;simp only[List.zipIdx_cons,List.map_cons,jg];simp only[List.length_cons]at hl;have Kl:(k+1)*te.size=k*te.size+te.size:=Nat.succ_mul k te.size;have D9:(k+1)*te.size<=(k+(ys.length+1))*te.size:=Nat.mul_le_mul_right _ (by omega);have hc:y.cells.length=te.size∧k*te.size+te.size<=cs.length:=⟨hy y (by simp),by omega⟩
     rw[if_pos hc];refine ih (k+1) _ (fun z hz=>hy z (List.mem_cons_of_mem _ hz)) ?_;rw[iO (by omega),show k+1+ys.length=k+(ys.length+1) by omega];exact hl
   rw[nE];exact aux xs 0 zc c7 (by rw[H4,hlen,Nat.zero_add];exact Nat.le_refl _)
  obtain⟨cs',CI⟩:=HH;obtain⟨b7,q1,q2,_⟩:=oE (fun i=>some (i*te.size,te.size)) Lm vZ CI;obtain⟨e1,_⟩:=rL xs 0 zc cs' (by rw[<-nE];exact CI) (by rw[H4,hlen,Nat.zero_add];exact Nat.le_refl _);have e2:cs'=aw xs:=by
   rw[e1];simp only[Nat.zero_mul,List.take_zero,List.nil_append,Nat.zero_add];rw[List.drop_of_length_le (by rw[H4,hlen];omega),List.append_nil]
  subst e2;have bL:(Instr.buildSlice t len (parts.map fun(i,x)=>(i,a.eval x))).run P g.w=.ok (.slice (some ⟨g.w.heap.size,0,none⟩) len len) (g.w.alloc (.cells b7 e)):=by
   have Fc:¬len*i.size > 2 ^ 24:=by rw[h2];omega
   rw[yH,<-h2]at q1;have O7:Instr.fill (fun VV=>some (VV*i.size,i.size)) ((Array.range (len*i.size)).map (z.cells[· % z.cells.size]!)) (parts.map fun(i,x)=>(i,a.eval x)).toList=some b7:=by
    rw[Array.toList_map];exact q1
   simp only[Instr.buildSlice,run_underlying hu,Go.sizeOf,typeInfo,Go.zeroValue,Sem.run_bind,run_program,Result.andThen_ok,h1,Sem.run_pure,Go.newRow];rw[if_neg Fc,if_neg da];simp only[Sem.run_bind,Sem.run_pure,Result.andThen_ok,run_program,h1,h4,O7,run_newObj];rfl
  have hle:=Le.alloc hg (.cells b7 e) 0 (.cells (aw xs));have eG:b7.size=len*te.size:=by
   rw[q2.1,<-hlen];have:∀ys:List aa,(∀y∈ys,y.cells.length=te.size)->(aw ys).length=ys.length*te.size:=fun ys=>by
    induction ys with
    | nil=>intro _;simp[aw]
    | cons y ys ih =>
     intro hy;have h1:=ih fun z hz=>hy z (by simp[hz]);have h2:=hy y (by simp);simp only[aw,List.flatMap_cons,List.length_append,List.length_cons]at h1 ⊢;rw[h1,h2,Nat.succ_mul];omega
   exact this xs c7
  have VD:∀c∈aw xs,c.scalar:=fun c hc=>by
   simp only[aw,List.mem_flatMap]at hc;obtain⟨x,hx,hc⟩:=hc;exact dI x hx c hc
  refine⟨.slice (some ⟨g.w.heap.size,0,none⟩) len len,g.alloc (.cells b7 e) 0 (.cells (aw xs)),.inl (by simp[execOp,ho,bL,G.alloc]),hle,Good.alloc hg _ 0 _ (.inr rfl) ⟨_,e,rfl,by rw[q2.1];exact Nat.le_refl _,(q2.mono hle).2,VD⟩,by simp[G.alloc,hO,Mode.post],?_⟩;rw[<-hO];exact .os (l:=⟨g.w.heap.size,0,b7.size⟩) (gZ hg) eS (by simp[aq.aJ]) (Nat.le_refl _) (by rw[eG];exact Nat.le_refl _) (by
   have:len<=len*te.size:=Nat.le_mul_of_pos_right _ pQ;omega)
theorem cw.os{O:List aq}{id len sz:Nat}{cs xs:List aa}(hid:O[id]?=some (.cells cs))(c7:∀x∈xs,x.cells.length=sz)(hlen:xs.length=len)(hd:((cs.drop 0).take (len*sz)).map aa.br=aw xs):cw O id (.os id len sz) (.aB sz xs .sh):=fun g u l' hg hO he hle h=>by
 obtain⟨l,o1,iw,h1,h2,_,Oy,_,cW,eu⟩:=h.vg;subst eu;rw[he]at h1;simp only[Option.some.injEq]at h1;subst h1;have fV:g.objs[id]?=some (.cells cs):=by rw[hO];exact hid
 obtain⟨arr,t',gy,di,mA,iq,o4,_⟩:=hg.row fV he;subst hlen;have key:∀(j:Nat) (c:aa),(aw xs)[j]?=some c->∃c',cs[0+j]?=some c'∧c'.br=c:=fun j c hj=>by
  rw[<-hd,List.getElem?_map,Option.map_eq_some_iff]at hj;obtain⟨c',hj,e⟩:=hj;have:=mu hj;rw[List.getElem?_drop]at this;exact⟨c',this,e⟩
 refine .aB c7 (fun x hx c hc=>?_) Oy cW (fun _=>rfl) (fun j=>arr.getD (0+j) undef) (fun j c hj=>?_) (fun j c hj=>?_) trivial
 ·have kC:c∈aw xs:=by
   simp only[aw,List.mem_flatMap];exact⟨x,hx,hc⟩
  obtain⟨j,hj⟩:=List.getElem?_of_mem kC;obtain⟨c',jo,e⟩:=key j c hj;subst e;exact aa.eL (o4 c' (List.mem_of_getElem? jo))
 ·obtain⟨c',jo,e⟩:=key j c hj;have bd:=ag jo;refine⟨?_,mK hg he fV trivial _⟩;show g.w.cell? _=_;simp only;rw[cell_of_row di];simp[Array.getD_eq_getD_getElem?,show j<arr.size by omega]
 obtain⟨c',jo,e⟩:=key j c hj;have bd:=ag jo;subst e;exact((iq _ c' _ jo (by simp[Array.getD_eq_getD_getElem?,show j<arr.size by omega])).mono hle).br
theorem A2{P:Program}{aP:ee}{md:Md}(hT:b8 P aP){o:Oper}{l2:List Oper}{Q:dT->St->Prop}{σ:St}{t e:TypeId}{len d:Nat}{parts:Array (Nat×Operand)}{ti te:cr}{ps:List (Nat×aa)}{xs:List aa}
  (ho:o.op=.buildSlice t len parts) (iJ:o.dst=some d) (hd:d<σ.n) (ht:aP t=some ti) (aT:ti.desc=.slice e) (he:aP e=some te) (pQ:0<te.size) (vV:σ.fh parts.toList=some ps) (ix:∀p∈ps,p.2.flat)
  (HV:gQ 0 ps=some xs) (hlen:xs.length=len) (c7:∀x∈xs,x.cells.length=te.size) (VH:len*te.size<=2 ^ 24) (hz:len≠0)
  (h:fq P aP md l2 0 [] ⟨σ.n,qW o.dst (.os σ.objs.length len te.size) σ.bt,σ.objs++[.cells (aw xs)]⟩ [] fun ρ _=>At ρ (Q .norm)):GD P aP md o l2 Q σ :=
 ⟨_,_,pC hT ho (fun d' e=>by rw[iJ]at e;cases e;exact hd) ht aT he pQ vV ix HV hlen c7 VH hz,h⟩
end Go.Av
namespace Go.Proofs.YtocdpaifmnkoaaaGreatDoor
open Go.Av
theorem zb(x0 x1 x2 x4 x5 x6:aq)(L:List cQ){n late:Int}(h:L[1]?=some ⟨200,n,[],late⟩)(hx:∀o∈[x0,x1,x2,x4,x5,x6],o.upto 15) :
  aK Tryz.prog 162 (pO x0 x1 x2 x4 x5 x6 L) [.mp 13 0,aI (1:Nat)] fun r O'=>r=.agg [aI 0,.os 17 1 2]∧O'=pO x0 x1 x2 x4 x5 x6 L++[.cells [aI 0,.os 17 1 2],.cells [aI 200,aI n,bp [],aI late],.cells [aI 1,aI 1]]:=by
 have aW:=bA hx L;unfold pO at aW ⊢;have hg:=kA h;refine zf false 18 Tryz.func162 Tryz.ntmps162 ?_;dsimp only[Tmp,TypeId,slotsOf];refine az (ai ?_);refine aG ?_;simp -dsimp only[simprocAttr,↓I,zp,hg];refine ai ?_;refine bS (ai ?_);refine ah ?_;refine az (ai ?_);apply aF rfl<;>intro h
 ·cases h
 refine az (ai ?_);apply aF rfl<;>intro h
 ·cases h
 refine k7 ?_;refine aL (mE ⟨false,false⟩ hT 2 rfl rfl rfl (by simp) ?_);simp -dsimp only[simprocAttr,↓I,zp];refine A2 hT rfl rfl (by simp) rfl rfl rfl (by simp) rfl (by intro p hp;simp at hp;subst hp;trivial) rfl rfl (by intro x hx;simp at hx;subst hx;rfl) (by simp) (by simp) ?_;have kB:(aa.os 17 1 2).cells=[.os 17 1 2]:=rfl;simp -dsimp only[simprocAttr,↓I,zp,kB,List.length_singleton];refine⟨trivial,?_⟩;refine ai ?_;refine ak ?_;simp -dsimp only[simprocAttr,↓I,zp,zr,Tryz.results162];exact⟨cO (k:=18) (bA hx L) (by omega) (B:=[.cells [aI 0,.os 17 1 2],.cells [aI 200,aI n,bp [],aI late],.cells [aI 1,aI 1]]) (by simp[aq.upto,av,aa.upto]),by simp[av,aa.upto],rfl⟩
theorem za(x0 x1 x2 x4 x5 x6:aq)(L:List cQ){t:Nat}{p q late:Int}(h:L[t]?=some ⟨201,q,[p,1],late⟩)(hx:∀o∈[x0,x1,x2,x4,x5,x6],o.upto 15) :
  aK Tryz.prog 162 (pO x0 x1 x2 x4 x5 x6 L) [.mp 13 0,aI t] fun r O'=>r=.agg [aI q,.ms 18 0 1 1]∧O'=pO x0 x1 x2 x4 x5 x6 L++[.cells [aI q,.ms 18 0 1 1],.cells [aI 201,aI q,bp [p,1],aI late],.cells [aI q,.ms 18 0 1 1],.cells [aI p,aI 1]]:=by
 have aW:=bA hx L;unfold pO at aW ⊢;have hg:=kA h;refine zf false 19 Tryz.func162 Tryz.ntmps162 ?_;dsimp only[Tmp,TypeId,slotsOf];refine az (ai ?_);refine aG ?_;simp -dsimp only[simprocAttr,↓I,zp,hg];refine ai ?_;refine bS (ai ?_);refine ah ?_;refine az (ai ?_);apply aF rfl<;>intro h
 ·cases h
 refine az (ai ?_);apply aF rfl<;>intro h;rotate_left
 ·cases h
 refine az (ai ?_);refine bS (ai ?_);refine ah (a8 (ι:=Bool) (fun b=>cond b ⟨56,[(0,.mp 13 0),(1,aI t),(4,.mp 15 0),(5,.mp 16 0),(6,.mp 17 0),(7,aI 2)],[.gone,.gone,.gone,.gone,.gone,.gone,x0,x1,x2,.map .str (jf 0 L),x4,x5,x6,.cells [.aB 4 (L.map cQ.enc) (.tok 14),.mm 9,.mm 10,.mm 11,.mm 12],.spare L.length,.cells [aI 0,.aB 2 [] .ex],.cells [aI 201,aI q,bp [p,1],aI late],.cells [aI q,.ms 18 0 1 1],.cells [aI p,aI 1]]⟩ ⟨56,[(0,.mp 13 0),(1,aI t),(4,.mp 15 0),(5,.mp 16 0),(6,.mp 17 0),(7,aI 0)],[.gone,.gone,.gone,.gone,.gone,.gone,x0,x1,x2,.map .str (jf 0 L),x4,x5,x6,.cells [.aB 4 (L.map cQ.enc) (.tok 14),.mm 9,.mm 10,.mm 11,.mm 12],.spare L.length,.cells [aI 0,.aB 2 [] .ex],.cells [aI 201,aI q,bp [p,1],aI late],.cells [aI q,.aB 2 [] .ex]]⟩) (fun b=>cond b 0 1) false ?_ ?_)
 ·refine zq rfl ?_ ?_;simp -dsimp only[simprocAttr,↓I,zp,zc,cond_false];rfl
 rintro(_|_)
 ·dsimp only[cond_false];refine bS (ai ?_);apply aF rfl<;>intro h;rotate_left
  ·cases h
  refine bZ ?_;refine aL (ah ?_);refine zR hT hm ?_;simp -dsimp only[simprocAttr,↓I,zp,mG];refine⟨ob (by kernel_rfl),?_⟩;refine ai ?_;refine dA ?_
  repeat(refine⟨by omega,?_⟩)
  refine kv ?_;refine⟨true,by decide,?_⟩;refine zq rfl ?_ ?_;simp -dsimp only[simprocAttr,↓I,zp,zc,cond_true];rfl
 dsimp only[cond_true];refine bS (ai ?_);apply aF rfl<;>intro h
 ·cases h
 refine aN ?_;simp -dsimp only[bH,ne_eq,Nat.reduceEqDiff,reduceCtorEq];refine az (ai ?_);refine ak ?_;simp -dsimp only[simprocAttr,↓I,zp,zr,Tryz.results162];exact⟨cO (k:=19) (bA hx L) (by omega) (B:=[.cells [aI q,.ms 18 0 1 1],.cells [aI 201,aI q,bp [p,1],aI late],.cells [aI q,.ms 18 0 1 1],.cells [aI p,aI 1]]) (by simp[aq.upto,av,aa.upto]),by simp[av,aa.upto]⟩
theorem mM{O:List aq}{id:Nat}{bt cF:List (Nat×aa)}(h:∀p∈cF,Go.Av.look bt p.1=some p.2):∀s y,Go.Av.look cF s=some y->∃x,Go.Av.look bt s=some x∧cw O id x y:=fun s y hy =>
 ⟨y,h _ (nY hy),cw.refl y⟩
theorem tT(x0 x1 x2 x4 x5 x6:aq)(L:List cQ){a b:Nat}{q1 q2 l1 l2:Int}(ha:L[a]?=some ⟨0,q1,[],l1⟩)(hb:L[b]?=some ⟨0,q2,[],l2⟩)(tz:cu (q1-q2))(hL:L.length<=1000000000)(jr:1<L.length)(hx:∀o∈[x0,x1,x2,x4,x5,x6],o.upto 15) :
  aK Tryz.prog 124 (pO x0 x1 x2 x4 x5 x6 L) [.mp 13 0,aI 2,aI a,aI b] fun r O'=>r=aI (cH L 0 (q1-q2)).1∧O'=pO x0 x1 x2 x4 x5 x6 (cH L 0 (q1-q2)).2:=by
 have h1:=j6 x0 x1 x2 x4 x5 x6 L ha hx;have h2:=j6 x0 x1 x2 x4 x5 x6 L hb hx;have hc:=(eC x0 x1 x2 x4 x5 x6 L _ 0 (.inl ⟨rfl,rfl⟩) (by unfold cu;omega) tz hL jr hx).frame (by rfl) (by simp[av,aa.upto,pO,aU]) (bA hx L);generalize hM:cH L 0 (q1-q2)=M at *;have aW:=bA hx M.2;have HT:=tz;unfold cu at HT;have nv:decide (((M.1:Nat):Int)<0)=false:=decide_eq_false (by omega);unfold pO at aW h1 h2 hc ⊢;refine zf true 15 Tryz.func124 Tryz.ntmps124 ?_;dsimp only[Tmp,TypeId,slotsOf];refine az (ai ?_);refine az ?_;refine .inr (.inr ⟨_,h1,ae (zj ?_)⟩);refine .inr (.inr ⟨_,h2,ae (zj ?_)⟩);refine ai ?_;refine az (ai ?_);refine bS (ai ?_);refine ah ?_;refine az (ai ?_);apply aF rfl<;>intro h
 ·cases h
 refine az (ai ?_);apply aF rfl<;>intro h;rotate_left
 ·cases h
 refine bS (ai ?_);refine ah (bJ 0 ?_);refine az (ai ?_);apply fK rfl<;>intro h
 ·cases h
 refine aN ?_;simp -dsimp only[bH,ne_eq,Nat.reduceEqDiff,reduceCtorEq,a7];have heq:eQ []++(eQ []).map aa.share=eQ []:=by rw[uH];rfl
 refine dw hT hm ?_;simp -dsimp only[simprocAttr,↓I,zp,heq,pG,List.length_nil,List.length_cons]
 repeat(refine⟨by omega,?_⟩)
 refine .inr (.inl ⟨_,_,aK.iL (hc _),.inl (ae (zj ?_))⟩);refine⟨ob (by kernel_rfl),?_⟩;refine ai ?_;refine bR ?_;simp -dsimp only[simprocAttr,↓I,zp,nv];refine ai ?_;apply aF rfl<;>intro h
 ·cases h
 refine bZ ?_;refine az (ai ?_);refine ak ?_;simp -dsimp only[simprocAttr,↓I,zp,zr,Tryz.results124];exact aW
theorem tV(x0 x1 x2 x4 x5 x6:aq)(L:List cQ){a:Nat}{q1 l1 n l2:Int}(ha:L[a]?=some ⟨0,q1,[],l1⟩)(hb:L[1]?=some ⟨200,n,[],l2⟩)(tz:cu (q1))(hL:L.length<=1000000000)(jr:1<L.length)(hx:∀o∈[x0,x1,x2,x4,x5,x6],o.upto 15) :
  aK Tryz.prog 124 (pO x0 x1 x2 x4 x5 x6 L) [.mp 13 0,aI 2,aI a,aI (1:Nat)] fun r O'=>r=aI (cH L (-1) (q1)).1∧O'=pO x0 x1 x2 x4 x5 x6 (cH L (-1) (q1)).2:=by
 have h1:=j6 x0 x1 x2 x4 x5 x6 L ha hx;have h2:=zb x0 x1 x2 x4 x5 x6 L hb hx;have hc:=(eC x0 x1 x2 x4 x5 x6 L _ (-1) (.inr (.inl rfl)) (by unfold cu;omega) tz hL jr hx).frame (by rfl) (by simp[av,aa.upto,pO,aU]) (bA hx L);have hs:=vF 0 1 (by unfold cu;omega) (by unfold cu;omega);rw[eT (by unfold cu;omega)]at hs;generalize hM:cH L (-1) (q1)=M at *;have aW:=bA hx M.2;have HT:=tz;unfold cu at HT;have nv:decide (((M.1:Nat):Int)<0)=false:=decide_eq_false (by omega);unfold pO at aW h1 h2 hc ⊢;refine zf true 15 Tryz.func124 Tryz.ntmps124 ?_;dsimp only[Tmp,TypeId,slotsOf];refine az (ai ?_);refine az ?_;refine .inr (.inr ⟨_,h1,ae (zj ?_)⟩);refine .inr (.inl ⟨_,_,h2,.inl (ae (zj ?_))⟩);refine ai ?_;refine az (ai ?_);refine bS (ai ?_);refine ah ?_;refine az (ai ?_);apply aF rfl<;>intro h
 ·cases h
 refine az (ai ?_);apply aF rfl<;>intro h;rotate_left
 ·cases h
 refine bS (ai ?_);refine ah (bJ 1 ?_);refine az (ai ?_);apply fK rfl<;>intro h;rotate_left
 ·cases h
 refine bZ ?_;refine aL (ah ?_);refine az (ai ?_);refine dA ?_;refine .inl ⟨_,hs,by simp only[av,aa.upto,zt,zu,ay,aU],ae ?_⟩;simp -dsimp only[simprocAttr,↓I,zp];refine⟨ob (by kernel_rfl),?_⟩;refine ai ?_;refine dA (ai ?_);refine cU ?_;refine az (ai ?_);apply fK rfl<;>intro h
 ·cases h
 refine iG 17 rfl (by simp[aq.aJ]) trivial [(0,.mp 13 0),(9,.mp 18 0),(10,.mp 19 0)] ?_ 19 (by omega) _ [aI 0,.aB 2 (eQ [-1]) .sh] rfl rfl ?_ ?_ ?_
 ·exact mM (by intro p hp;simp at hp;rcases hp with rfl|rfl|rfl<;>rfl)
 ·intro d hd;simp at hd;rcases hd with rfl|rfl<;>trivial
 ·intro j c d hc hd
  match j,hc,hd with
  | 0,hc,hd =>
   simp at hc hd;subst hc;subst hd;exact cw.refl _
  | 1,hc,hd =>
   simp at hc hd;subst hc;subst hd;exact cw.os (cs:=[aI (-1),aI 1]) rfl (by intro x hx;simp[eQ]at hx;subst hx;rfl) rfl rfl
  | j+2,hc,hd=>simp at hc
 refine aN ?_;simp -dsimp only[bH,ne_eq,Nat.reduceEqDiff,reduceCtorEq,a7];have heq:eQ []++(eQ [-1]).map aa.share=eQ [-1]:=by rw[uH];rfl
 refine dw hT hm ?_;simp -dsimp only[simprocAttr,↓I,zp,heq,pG,List.length_nil,List.length_cons]
 repeat(refine⟨by omega,?_⟩)
 refine .inr (.inl ⟨_,_,aK.iL (hc _),.inl (ae (zj ?_))⟩);refine⟨ob (by kernel_rfl),?_⟩;refine ai ?_;refine bR ?_;simp -dsimp only[simprocAttr,↓I,zp,nv];refine ai ?_;apply aF rfl<;>intro h
 ·cases h
 refine bZ ?_;refine az (ai ?_);refine ak ?_;simp -dsimp only[simprocAttr,↓I,zp,zr,Tryz.results124];exact aW
theorem tU(x0 x1 x2 x4 x5 x6:aq)(L:List cQ){a b:Nat}{p q1 l1 q2 l2:Int}(ha:L[a]?=some ⟨0,q1,[],l1⟩)(hb:L[b]?=some ⟨201,q2,[p,1],l2⟩)(hp:cu p)(zF:cu (0-p))(tz:cu (q1-q2))(hL:L.length<=1000000000)(jr:1<L.length)(hx:∀o∈[x0,x1,x2,x4,x5,x6],o.upto 15) :
  aK Tryz.prog 124 (pO x0 x1 x2 x4 x5 x6 L) [.mp 13 0,aI 2,aI a,aI b] fun r O'=>r=aI (cH L (0-p) (q1-q2)).1∧O'=pO x0 x1 x2 x4 x5 x6 (cH L (0-p) (q1-q2)).2:=by
 have h1:=j6 x0 x1 x2 x4 x5 x6 L ha hx;have h2:=za x0 x1 x2 x4 x5 x6 L hb hx;have hc:=(eC x0 x1 x2 x4 x5 x6 L _ (0-p) (.inr (.inl rfl)) zF tz hL jr hx).frame (by rfl) (by simp[av,aa.upto,pO,aU]) (bA hx L);have hs:=vF 0 p (by unfold cu;omega) hp;rw[eT zF]at hs;generalize (0:Int)-p=c at *;generalize hM:cH L c (q1-q2)=M at *;have aW:=bA hx M.2;have HT:=tz;unfold cu at HT;have nv:decide (((M.1:Nat):Int)<0)=false:=decide_eq_false (by omega);unfold pO at aW h1 h2 hc ⊢;refine zf true 15 Tryz.func124 Tryz.ntmps124 ?_;dsimp only[Tmp,TypeId,slotsOf];refine az (ai ?_);refine az ?_;refine .inr (.inr ⟨_,h1,ae (zj ?_)⟩);refine .inr (.inl ⟨_,_,h2,.inl (ae (zj ?_))⟩);refine ai ?_;refine az (ai ?_);refine bS (ai ?_);refine ah ?_;refine az (ai ?_);apply aF rfl<;>intro h
 ·cases h
 refine az (ai ?_);apply aF rfl<;>intro h;rotate_left
 ·cases h
 refine bS (ai ?_);refine ah (bJ 1 ?_);refine az (ai ?_);apply fK rfl<;>intro h;rotate_left
 ·cases h
 refine bZ ?_;refine aL (ah ?_);refine az (ai ?_);refine dA ?_;refine .inl ⟨_,hs,by simp only[av,aa.upto,zt,zu,ay,aU],ae ?_⟩;simp -dsimp only[simprocAttr,↓I,zp];refine⟨ob (by kernel_rfl),?_⟩;refine ai ?_;refine dA (ai ?_);refine cU ?_;refine az (ai ?_);apply fK rfl<;>intro h
 ·cases h
 refine iG 18 rfl (by simp[aq.aJ]) trivial [(0,.mp 13 0),(9,.mp 19 0),(10,.mp 20 0)] ?_ 20 (by omega) _ [aI q2,.aB 2 (eQ [c]) .sh] rfl rfl ?_ ?_ ?_
 ·exact mM (by intro p hp;simp at hp;rcases hp with rfl|rfl|rfl<;>rfl)
 ·intro d hd;simp at hd;rcases hd with rfl|rfl<;>trivial
 ·intro j y d hc hd
  match j,hc,hd with
  | 0,hc,hd =>
   simp at hc hd;subst hc;subst hd;exact cw.refl _
  | 1,hc,hd =>
   simp at hc hd;subst hc;subst hd;exact cw.ms (cs:=[aI c,aI 1]) rfl (by intro x hx;simp[eQ]at hx;subst hx;rfl) rfl rfl
  | j+2,hc,hd=>simp at hc
 refine aN ?_;simp -dsimp only[bH,ne_eq,Nat.reduceEqDiff,reduceCtorEq,a7];have heq:eQ []++(eQ [c]).map aa.share=eQ [c]:=by rw[uH];rfl
 refine dw hT hm ?_;simp -dsimp only[simprocAttr,↓I,zp,heq,pG,List.length_nil,List.length_cons]
 repeat(refine⟨by omega,?_⟩)
 refine .inr (.inl ⟨_,_,aK.iL (hc _),.inl (ae (zj ?_))⟩);refine⟨ob (by kernel_rfl),?_⟩;refine ai ?_;refine bR ?_;simp -dsimp only[simprocAttr,↓I,zp,nv];refine ai ?_;apply aF rfl<;>intro h
 ·cases h
 refine bZ ?_;refine az (ai ?_);refine ak ?_;simp -dsimp only[simprocAttr,↓I,zp,zr,Tryz.results124];exact aW
theorem lY.zero{L:List cQ}{t:Nat}{p q:Int}(h:lY L t p q)(hp:p=0):∃late,L[t]?=some ⟨0,q,[],late⟩:=by
 cases h with
 | int h=>exact⟨_,h⟩
 | var h=>cases hp
 | sum h1 _ _=>exact absurd hp h1
structure RJ(op p1 q1 p2 q2 p q:Int):Prop where
 w1:cu p1
 v1:cu q1
 w2:cu p2
 v2:cu q2
 w:cu p
 v:cu q
 P9:(op=1∧p2=0∧p=p1∧q=q1+q2)∨(op=2∧p1=0∧p=0-p2∧q=q1-q2)∨(op=3∧(p1=0∨p2=0)∧p=p1*q2+p2*q1∧q=q1*q2∧cu (p1*q2)∧cu (p2*q1))
theorem BY(x0 x1 x2 x4 x5 x6:aq)(L:List cQ){a b:Nat}{op p1 q1 p2 q2 p q:Int}(ha:lY L a p1 q1)(hb:lY L b p2 q2)(h:RJ op p1 q1 p2 q2 p q)(hL:L.length<=1000000000)(jr:1<L.length)(hx:∀o∈[x0,x1,x2,x4,x5,x6],o.upto 15) :
  aK Tryz.prog 124 (pO x0 x1 x2 x4 x5 x6 L) [.mp 13 0,aI op,aI a,aI b] fun r O'=>r=aI (cH L p q).1∧O'=pO x0 x1 x2 x4 x5 x6 (cH L p q).2:=by
 rcases h.P9 with⟨rfl,rfl,rfl,rfl⟩|⟨rfl,rfl,rfl,rfl⟩|⟨rfl,h0,rfl,rfl,KX,Pu⟩
 ·cases ha with
  | int ha=>exact tQ x0 x1 x2 x4 x5 x6 L ha hb h.v1 h.v2 h.v hL jr hx
  | var ha =>
   have:=tS x0 x1 x2 x4 x5 x6 L ha hb h.v2 h.v hL jr hx;exact this
  | sum _ _ ha=>exact tR x0 x1 x2 x4 x5 x6 L ha hb h.w h.v1 h.v2 h.v hL jr hx
 ·obtain⟨l1,ha⟩:=ha.zero rfl;cases hb with
  | int hb=>exact tT x0 x1 x2 x4 x5 x6 L ha hb h.v hL jr hx
  | var hb =>
   have:=tV x0 x1 x2 x4 x5 x6 L ha hb (by have:=h.v;rwa [Int.sub_zero]at this) hL jr hx;rw[Int.sub_zero];exact this
  | sum _ _ hb=>exact tU x0 x1 x2 x4 x5 x6 L ha hb h.w2 h.w h.v hL jr hx
 exact wg x0 x1 x2 x4 x5 x6 L ha hb h0 h.w1 h.v1 h.w2 h.v2 KX Pu h.v hL jr hx
theorem zO(x0 x1 x2 x4 x5 x6:aq)(L:List cQ){q:Int}(l:List Int)(hq:i64 q)(hL:L.length<=1000000000)(hx:∀o∈[x0,x1,x2,x4,x5,x6],o.upto 15) :
  aK Tryz.prog 81 (pO x0 x1 x2 x4 x5 x6 L) [.mp 13 0,aI 0,aI q,bp l] fun r O'=>r=aI (dC L 0 q []).1∧O'=pO x0 x1 x2 x4 x5 x6 (dC L 0 q []).2:=by
 have hn:=mR x0 x1 x2 x4 x5 x6 L q hq hL hx;have aW:=bA hx (dC L 0 q []).2;unfold pO at hn aW ⊢;refine zf true 15 Tryz.func81 Tryz.ntmps81 ?_;dsimp only[Tmp,TypeId,slotsOf];refine az (ai ?_);refine bS (ai ?_);refine ah ?_;refine az (ai ?_);apply aF rfl<;>intro h;rotate_left
 ·cases h
 refine az ?_;refine .inr (.inl ⟨_,_,hn,.inl (ae (zj ?_))⟩);refine ai ?_;refine ak ?_;simp -dsimp only[simprocAttr,↓I,zp,zr,Tryz.results81];exact aW
theorem zP(x0 x1 x2 x4 x5 x6:aq)(L:List cQ){a b:Nat}{op p1 q1 p2 q2 p q n:Int}(ha:lY L a p1 q1)(hb:lY L b p2 q2)(h:RJ op p1 q1 p2 q2 p q)(hL:L.length<=1000000000)(jr:1<L.length)(hx:∀o∈[x0,x1,x2,x4,x5,x6],o.upto 15) :
  aK Tryz.prog 81 (pO x0 x1 x2 x4 x5 x6 L) [.mp 13 0,aI op,aI n,bp [(a:Int),(b:Int)]] fun r O'=>r=aI (cH L p q).1∧O'=pO x0 x1 x2 x4 x5 x6 (cH L p q).2:=by
 have hn:=BY x0 x1 x2 x4 x5 x6 L ha hb h hL jr hx;have aW:=bA hx (cH L p q).2;unfold pO at hn aW ⊢;have gz:op=1∨op=2∨op=3:=by rcases h.P9 with⟨e,_⟩|⟨e,_⟩|⟨e,_⟩<;>simp[e]
 rcases gz with rfl|rfl|rfl
 ·refine zf true 15 Tryz.func81 Tryz.ntmps81 ?_;dsimp only[Tmp,TypeId,slotsOf];refine az (ai ?_);refine bS (ai ?_);refine ah ?_;refine az (ai ?_);apply aF rfl<;>intro h
  ·cases h
  refine bS (ai ?_);apply aF rfl<;>intro h;rotate_left
  ·cases h
  refine bZ ?_;apply aF rfl<;>intro h;rotate_left
  ·cases h
  refine az ?_;refine .inr (.inl ⟨_,_,hn,.inl (ae (zj ?_))⟩);refine⟨ob (by kernel_rfl),?_⟩;refine ai ?_;refine ak ?_;simp -dsimp only[simprocAttr,↓I,zp,zr,Tryz.results81];exact aW
 ·refine zf true 15 Tryz.func81 Tryz.ntmps81 ?_;dsimp only[Tmp,TypeId,slotsOf];refine az (ai ?_);refine bS (ai ?_);refine ah ?_;refine az (ai ?_);apply aF rfl<;>intro h
  ·cases h
  refine bS (ai ?_);apply aF rfl<;>intro h
  ·cases h
  refine az (ai ?_);apply aF rfl<;>intro h;rotate_left
  ·cases h
  refine bZ ?_;apply aF rfl<;>intro h;rotate_left
  ·cases h
  refine az ?_;refine .inr (.inl ⟨_,_,hn,.inl (ae (zj ?_))⟩);refine⟨ob (by kernel_rfl),?_⟩;refine ai ?_;refine ak ?_;simp -dsimp only[simprocAttr,↓I,zp,zr,Tryz.results81];exact aW
 refine zf true 15 Tryz.func81 Tryz.ntmps81 ?_;dsimp only[Tmp,TypeId,slotsOf];refine az (ai ?_);refine bS (ai ?_);refine ah ?_;refine az (ai ?_);apply aF rfl<;>intro h
 ·cases h
 refine bS (ai ?_);apply aF rfl<;>intro h
 ·cases h
 refine az (ai ?_);apply aF rfl<;>intro h
 ·cases h
 refine dA (ai ?_);apply aF rfl<;>intro h;rotate_left
 ·cases h
 refine az ?_;refine .inr (.inl ⟨_,_,hn,.inl (ae (zj ?_))⟩);refine⟨ob (by kernel_rfl),?_⟩;refine ai ?_;refine ak ?_;simp -dsimp only[simprocAttr,↓I,zp,zr,Tryz.results81];exact aW
def Oa(op:Int):Prop:=op=0∨op=1∨op=2∨op=3
theorem FU{op:Int}(h:Oa op):bw Tryz.prog 86 [aI op] (.v (.bool true)):=by
 rcases h with rfl|rfl|rfl|rfl
 ·refine zf true 0 Tryz.func86 Tryz.ntmps86 ?_;dsimp only[Tmp,TypeId,slotsOf];refine az (ai ?_);refine bS (ai ?_);refine ah ?_;refine bS (ai ?_);apply aF rfl<;>intro h;rotate_left
  ·cases h
  refine bZ ?_;apply aF rfl<;>intro h;rotate_left
  ·cases h
  refine az (ai ?_);refine ak ?_;simp -dsimp only[simprocAttr,↓I,zp,zr,Tryz.results86]
 ·refine zf true 0 Tryz.func86 Tryz.ntmps86 ?_;dsimp only[Tmp,TypeId,slotsOf];refine az (ai ?_);refine bS (ai ?_);refine ah ?_;refine bS (ai ?_);apply aF rfl<;>intro h
  ·cases h
  refine az (ai ?_);apply aF rfl<;>intro h;rotate_left
  ·cases h
  refine bZ ?_;apply aF rfl<;>intro h;rotate_left
  ·cases h
  refine az (ai ?_);refine ak ?_;simp -dsimp only[simprocAttr,↓I,zp,zr,Tryz.results86]
 ·refine zf true 0 Tryz.func86 Tryz.ntmps86 ?_;dsimp only[Tmp,TypeId,slotsOf];refine az (ai ?_);refine bS (ai ?_);refine ah ?_;refine bS (ai ?_);apply aF rfl<;>intro h
  ·cases h
  refine az (ai ?_);apply aF rfl<;>intro h
  ·cases h
  refine az (ai ?_);apply aF rfl<;>intro h;rotate_left
  ·cases h
  refine bZ ?_;apply aF rfl<;>intro h;rotate_left
  ·cases h
  refine az (ai ?_);refine ak ?_;simp -dsimp only[simprocAttr,↓I,zp,zr,Tryz.results86]
 refine zf true 0 Tryz.func86 Tryz.ntmps86 ?_;dsimp only[Tmp,TypeId,slotsOf];refine az (ai ?_);refine bS (ai ?_);refine ah ?_;refine bS (ai ?_);apply aF rfl<;>intro h
 ·cases h
 refine az (ai ?_);apply aF rfl<;>intro h
 ·cases h
 refine az (ai ?_);apply aF rfl<;>intro h
 ·cases h
 refine az (ai ?_);apply aF rfl<;>intro h;rotate_left
 ·cases h
 refine bZ ?_;apply aF rfl<;>intro h;rotate_left
 ·cases h
 refine az (ai ?_);refine ak ?_;simp -dsimp only[simprocAttr,↓I,zp,zr,Tryz.results86]
theorem jL{op:Int}(h:Oa op):bw Tryz.prog 80 [aI op] (.v (.bool true)):=by
 have hp:=FU h;refine zf true 0 Tryz.func80 Tryz.ntmps80 ?_;dsimp only[Tmp,TypeId,slotsOf];refine az (ai ?_);refine az ?_;refine .inl ⟨_,hp,by simp only[av,aa.upto,zt,zu,ay,aU],ae ?_⟩;simp -dsimp only[simprocAttr,↓I,zp];refine ai ?_;refine ak ?_;simp -dsimp only[simprocAttr,↓I,zp,zr,Tryz.results80]
theorem zI(l:List Int):(l.map aI).map aa.br=aw (l.map aI):=by
 induction l with
 | nil=>rfl
 | cons x r ih =>
  rw[List.map_cons,List.map_cons,ih];rfl
theorem vG{O:List aq}(aW:∀o∈O,o.upto O.length){sid eid:Nat}{c1 c2 c3 c4 c6:aa}{E:List (Value×aa)}{l ts:List Int}(hs:O[sid]?=some (.cells [c1,c2,c3,c4,.mm eid,c6]))(he:O[eid]?=some (.map (.int .i64) E))
  (vY:∀(i:Nat) (v t:Int),l[i]?=some v->ts[i]?=some t->bC E (.int .i64 v)=some (aI t)) (hl:ts.length=l.length) (hb:l.length<=1000) :
  aK Tryz.prog 79 O [.mp sid 0,bp l] fun r O'=>r=bp ts∧O'=O:=by
 have fk:O.length<=O.length:=Nat.le_refl _;have h1:∀Y,(O++Y)[sid]?=some (.cells [c1,c2,c3,c4,.mm eid,c6]):=fun Y=>rj hs Y;have h2:∀Y,(O++Y)[eid]?=some (.map (.int .i64) E):=fun Y=>rj he Y;refine dE hT true (O.length) Tryz.func79 rfl (by kernel_rfl) (by simp[Tryz.ntmps79]) (by assumption) ?_;show cG Tryz.prog _ _ _ ⟨29,_,_⟩;dsimp only[Tmp,TypeId,slotsOf];refine az (ai ?_);refine aG ?_;simp -dsimp only[simprocAttr,↓I,zp,List.length_map]
 repeat(refine⟨by omega,?_⟩)
 rw[show(List.replicate l.length [aI 0]).flatten=(List.replicate l.length (0:Int)).map aI by simp[List.map_replicate,List.flatten_replicate_singleton]];refine ai ?_;obtain⟨n,hn⟩:∃n,n=l.length:=⟨_,rfl⟩
 rw[<-hn];refine bR ?_;simp -dsimp only[simprocAttr,↓I,zp,List.length_map,<-hn];refine ai ?_;refine ah (a8 (ι:={p:Nat×List Int // p.1<=n∧p.2.length=n∧p.2.take p.1=ts.take p.1}) (fun p=>⟨29,[(0,.mp sid 0),(5,.ms O.length 0 n n),(11,bp l),(12,aI n),(13,aI p.1.1)],O++[.cells (p.1.2.map aI)]⟩) (fun p=>n-p.1.1) ⟨(0,List.replicate n 0),by simp,by simp,by simp⟩ ?_ ?_)
 ·refine zq rfl ?_ ?_;simp -dsimp only[simprocAttr,↓I,zp,zc];rfl
 rintro⟨⟨i,F⟩,hi,hF,Ub⟩;simp only at hi hF Ub;refine az (ai ?_);apply fK rfl<;>intro h
 ·refine bZ ?_;have sx:i<n:=by simpa using h
  obtain⟨v,hv⟩:∃v,l[i]?=some v:=⟨l[i]'(by omega),List.getElem?_eq_getElem _⟩
  obtain⟨t,ht⟩:∃t,ts[i]?=some t:=⟨ts[i]'(by omega),List.getElem?_eq_getElem _⟩
  have P0:=vY i v t hv ht;refine aL (ah ?_);refine aG ?_;simp -dsimp only[simprocAttr,↓I,zp,hv];refine ai ?_;refine fE ?_;simp -dsimp only[simprocAttr,↓I,zp,h1,h2,P0,j4,oh,List.length_map]
  repeat(refine⟨by omega,?_⟩)
  have sB:bz (F.map aI) (i*1) [aI t]=(F.set i t).map aI:=by
   rw[Nat.mul_one,gS _ (by rw[List.length_map];omega),List.map_set]
  rw[sB];refine ai ?_;refine dA ?_
  repeat(refine⟨by omega,?_⟩)
  refine kv ?_;refine⟨⟨(i+1,F.set i t),by simp only;omega,by simp only[List.length_set];exact hF,?_⟩,by simp only;omega,?_⟩
  ·simp only;rw[List.take_add_one,List.getElem?_set_self (by omega),List.take_add_one,ht,<-Ub];congr 1;apply List.ext_getElem?;intro j;simp only[List.getElem?_take,List.getElem?_set];split
   ·rw[if_neg (by omega)]
   rfl
  refine zq rfl ?_ ?_;simp -dsimp only[simprocAttr,↓I,zp,zc]
  ·exact Sub.int (by simp)
  rfl
 refine aN ?_;simp -dsimp only[bH,ne_eq,Nat.reduceEqDiff,reduceCtorEq];have Ov:i=n:=by simp at h;omega
 subst Ov;have Xw:F=ts:=by
  rw[List.take_of_length_le (by omega),List.take_of_length_le (by omega)]at Ub;exact Ub
 subst Xw;refine aR 5 O.length (o:=.cells (F.map aI)) (bp F) (j4 _ _) (by simp[aq.aJ]) trivial rfl (cw.ms (cs:=F.map aI) (j4 _ _) (by intro x hx;obtain⟨y,_,rfl⟩:=List.mem_map.1 hx;rfl) (by rw[List.length_map];exact hF) (by rw[List.drop_zero,Nat.mul_one,List.take_of_length_le (by rw[List.length_map];omega),zI])) ?_;simp -dsimp only[simprocAttr,↓I,zp,oh];refine az (ai ?_);refine ak ?_;simp -dsimp only[simprocAttr,↓I,zp,zr,Tryz.results79,List.take_left];exact aW
abbrev eM:aq:=.map (.int .i64) []
abbrev pM:aq:=.map .pair []
def rO(er:List aa)(x2:aq)(L:List cQ)(eU ef eg:aq)(W D:List (Value×aa)):List aq :=
 [.gone,.gone,.gone,.gone,.gone,.gone,eM,.cells (.mp 13 0::er),x2,.map .str (jf 0 L),eM,eM,eM,.cells [.aB 4 (L.map cQ.enc) (.tok 14),.mm 9,.mm 10,.mm 11,.mm 12],.spare L.length,eU,ef,eg,.map (.int .i64) W,pM,.map (.int .i64) D,eM,pM,pM,pM,.cells [.mm 18,.mm 19,.mm 20,.mm 21,.mm 22,.mm 23,.mm 24,.v (.bool false)]]
def ku(W:List (Value×aa))(l:List Int):List (Value×aa):=l.foldl (fun W t=>cB W (.int .i64 t) (aI 1)) W
theorem jP{k:Nat}{key:Value}{n:Int}:∀{W:List (Value×aa)},ba k W->ba k (cB W key (aI n))
 | [],_=>⟨trivial,trivial⟩
 | x::r,h=>by
  simp only[cB];split
  ·exact⟨trivial,h.2⟩
  exact⟨h.1,jP h.2⟩
theorem od{k:Nat}:∀{l:List Int} {W:List (Value×aa)},ba k W->ba k (ku W l)
 | [],_,h=>h
 | _::r,_,h=>od (l:=r) (jP h)
structure tG(er:List aa)(x2 eU ef eg:aq):Prop where
 er:av 15 er
 x2:x2.upto 15
 eU:eU.upto 26
 ef:ef.upto 26
 eg:eg.upto 26
theorem dZ{er:List aa}{x2 eU ef eg:aq}(h:tG er x2 eU ef eg)(L:List cQ){W D:List (Value×aa)}(hW:ba 26 W)(hD:ba 26 D):∀o∈rO er x2 L eU ef eg W D,o.upto 26:=fun o ho=>by
 simp only[rO,List.mem_cons,List.not_mem_nil,or_false]at ho;have hm:∀{k:Nat},k<26->(aa.mm k).upto 26:=fun h=>h;rcases ho with rfl|rfl|rfl|rfl|rfl|rfl|rfl|rfl|rfl|rfl|rfl|rfl|rfl|rfl|rfl|rfl|rfl|rfl|rfl|rfl|rfl|rfl|rfl|rfl|rfl|rfl
 iterate 7 trivial
 ·exact⟨show 13<26 by decide,gp (by decide) _ h.er⟩
 ·exact aq.cR (by decide) h.x2
 ·exact rK 26 L 0
 iterate 3 trivial
 ·exact⟨⟨cQ.aj _ _,show 14<26 by decide⟩,hm (by decide),hm (by decide),hm (by decide),hm (by decide),trivial⟩
 ·trivial
 ·exact h.eU
 ·exact h.ef
 ·exact h.eg
 ·exact hW
 ·trivial
 ·exact hD
 iterate 4 trivial
 exact⟨hm (by decide),hm (by decide),hm (by decide),hm (by decide),hm (by decide),hm (by decide),hm (by decide),trivial,trivial⟩
theorem OY:lj Tryz.prog 3 (.int .i64):=lj.of Tryz.underlying3 rfl
theorem A0(er:List aa)(x2:aq)(L:List cQ)(eU ef eg T0:aq)(W D:List (Value×aa))(l:List Int)(hb:l.length<=1000)(hu:tG er x2 eU ef eg)(hW:ba 26 W)(hD:ba 26 D)(hz:T0.upto 28) :
  aK Tryz.prog 128 (rO er x2 L eU ef eg W D++[.cells [.mp 25 0],T0]) [bp l,.mp 26 0] fun r O'=>r=.cN []∧O'=rO er x2 L eU ef eg (ku W l) D++[.cells [.mp 25 0],T0]:=by
 have aW:=cO (k:=28) (dZ hu L (od (l:=l) hW) hD) (by omega) (B:=[.cells [.mp 25 0],T0]) (by
  intro o ho;simp at ho;rcases ho with rfl|rfl
  ·exact⟨show 25<28 by decide,trivial⟩
  exact hz)
 unfold rO at aW ⊢;refine zf true 28 Tryz.func128 Tryz.ntmps128 ?_;dsimp only[Tmp,TypeId,slotsOf];refine aG ?_;simp -dsimp only[simprocAttr,↓I,zp,au,List.length_map];refine ai ?_;obtain⟨Z,hZ⟩:∃Z,Z=ku W l:=⟨_,rfl⟩
 rw[<-hZ]at aW ⊢;refine ah (a8 (ι:={p:Nat×List (Value×aa) // p.1<=l.length∧Z=ku p.2 (l.drop p.1)}) (fun p=>⟨17,[(1,.mp 26 0),(5,bp l),(6,aI l.length),(7,aI p.1.1)],[.gone,.gone,.gone,.gone,.gone,.gone,eM,.cells (.mp 13 0::er),x2,.map .str (jf 0 L),eM,eM,eM,.cells [.aB 4 (L.map cQ.enc) (.tok 14),.mm 9,.mm 10,.mm 11,.mm 12],.spare L.length,eU,ef,eg,.map (.int .i64) p.1.2,pM,.map (.int .i64) D,eM,pM,pM,pM,.cells [.mm 18,.mm 19,.mm 20,.mm 21,.mm 22,.mm 23,.mm 24,.v (.bool false)],.cells [.mp 25 0],T0]⟩) (fun p=>l.length-p.1.1) ⟨(0,W),by simp,hZ⟩ ?_ ?_)
 ·refine zq rfl ?_ ?_;simp -dsimp only[simprocAttr,↓I,zp,au,zc];rfl
 rintro⟨⟨i,V⟩,hi,hV⟩;simp only at hi hV;refine aG ?_;simp -dsimp only[simprocAttr,↓I,zp,au];refine ai ?_;apply fK rfl<;>intro h
 ·refine bZ ?_;have sx:i<l.length:=by simpa using h
  obtain⟨v,hv⟩:∃v,l[i]?=some v:=⟨l[i],by simp[sx]⟩
  rw[dL hv]at hV;refine aL (ah ?_);refine aG ?_;simp -dsimp only[simprocAttr,↓I,zp,au,hv];refine ai ?_;refine fE ?_;simp -dsimp only[simprocAttr,↓I,zp,au];refine ai ?_;refine fE ?_;simp -dsimp only[simprocAttr,↓I,zp,au]
  repeat(refine⟨by omega,?_⟩)
  refine kv ?_;refine⟨⟨(i+1,_),by simp only;omega,hV⟩,by simp only;omega,?_⟩;refine zq rfl ?_ ?_;simp -dsimp only[simprocAttr,↓I,zp,au,zc]
  ·exact Sub.int (by simp)
  rfl
 refine aN ?_;simp -dsimp only[bH,ne_eq,Nat.reduceEqDiff,reduceCtorEq];have sx:i=l.length:=by simp at h;omega
 subst sx;rw[List.drop_length]at hV;simp only[ku,List.foldl_nil]at hV;subst hV
 skip
 simp -dsimp only[simprocAttr,↓I,zp,au,zr,Tryz.results128];exact⟨aW,trivial⟩
def UD(L:List cQ)(ts:List Int):Prop:=∀t∈ts,∃(j:Nat) (x:cQ),t=j∧L[j]?=some x
theorem gl(x0 x1 x2 x4 x5 x6:aq)(L M:List cQ)(X:List aq)(n:Nat):∀i,i<n->i ∉ [9,13,14]->(pO x0 x1 x2 x4 x5 x6 M++X)[i]?=(pO x0 x1 x2 x4 x5 x6 L++X)[i]?:=fun i _ hn=>by
 match i with
 | 0=>rfl
 | 1=>rfl
 | 2=>rfl
 | 3=>rfl
 | 4=>rfl
 | 5=>rfl
 | 6=>rfl
 | 7=>rfl
 | 8=>rfl
 | 9=>exact absurd (by simp) hn
 | 10=>rfl
 | 11=>rfl
 | 12=>rfl
 | 13=>exact absurd (by simp) hn
 | 14=>exact absurd (by simp) hn
 | k+15=>rfl
theorem tG.pZ{er:List aa}{x2 eU ef eg:aq}(h:tG er x2 eU ef eg):∀o∈[eM,.cells (.mp 13 0::er),x2,eM,eM,eM],o.upto 15:=fun o ho=>by
 simp only[List.mem_cons,List.not_mem_nil,or_false]at ho;rcases ho with rfl|rfl|rfl|rfl|rfl|rfl
 ·trivial
 ·exact⟨show 13<15 by decide,h.er⟩
 ·exact h.x2
 iterate 3 trivial
theorem CW(er:List aa)(x2:aq)(L:List cQ)(eU ef eg:aq)(W D:List (Value×aa)){op n:Int}(to:Int)(al ts:List Int)(gz:Oa op)(hn:i64 n)(hb:ts.length<=1000)(vY:UD L ts)(Pv:∀t∈ts,i64 t)(hL:L.length<=1000000000)(hu:tG er x2 eU ef eg)(hW:ba 26 W)(hD:ba 26 D) :
  aK Tryz.prog 84 (rO er x2 L eU ef eg W D) [.mp 7 0,.mp 25 0,.agg [aI to,aI op,aI n,bp al],bp ts] fun r O'=>r=.cN []∧O'=rO er x2 (dC L (1000+op) n ts).2 eU ef eg (if op=0 then W else ku W ts) (cB D (.int .i64 (dC L (1000+op) n ts).1) (aI 1)):=by
 have hi:=(lE eM (.cells (.mp 13 0::er)) x2 eM eM eM L (1000+op) n ts (by omega) (by
  intro k hk;simp only[List.mem_cons]at hk;rcases hk with rfl|rfl|hk
  ·unfold i64;rcases gz with rfl|rfl|rfl|rfl<;>omega
  ·exact hn
  exact Pv k hk) (fun i a ha _=>vY a (List.mem_of_getElem? ha)) hL hu.pZ).frame (by rfl) (by simp[av,aa.upto,pO,ay]) (bA hu.pZ L)
 have aW:=dZ hu (dC L (1000+op) n ts).2 (W:=if op=0 then W else ku W ts) (D:=cB D (.int .i64 (dC L (1000+op) n ts).1) (aI 1)) (by split;exact hW;exact od hW) (jP hD);have X':-9223372036854775808<=1000+op∧1000+op<=9223372036854775807:=by rcases gz with rfl|rfl|rfl|rfl<;>omega
 have D7:=A0 er x2 L eU ef eg (.cells [aI to,aI op,aI n,bp al]) W D ts hb hu hW hD ⟨trivial,trivial,trivial,⟨ay _ _,trivial⟩,trivial⟩;unfold pO at hi;unfold rO at aW D7 ⊢;rcases gz with rfl|rfl|rfl|rfl
 ·refine zf true 26 Tryz.func84 Tryz.ntmps84 ?_;dsimp only[Tmp,TypeId,slotsOf];refine aG ?_;simp -dsimp only[simprocAttr,↓I,zp,au];refine ai ?_;refine aG ?_;simp -dsimp only[simprocAttr,↓I,zp,au];refine ai ?_;refine bR ?_;simp -dsimp only[simprocAttr,↓I,zp,au];refine ai ?_;refine ah ?_;refine bR ?_;simp -dsimp only[simprocAttr,↓I,zp,au];refine ai ?_;apply aF rfl<;>intro h
  ·cases h
  refine aG ?_;simp -dsimp only[simprocAttr,↓I,zp,au];refine ai ?_;apply aF rfl<;>intro h
  ·cases h
  refine aG ?_;simp -dsimp only[simprocAttr,↓I,zp,au];refine ai ?_;apply aF rfl<;>intro h
  ·cases h
  refine aG ?_;simp -dsimp only[simprocAttr,↓I,zp,au];refine ai ?_;apply aF rfl<;>intro h
  ·cases h
  refine aG ?_;simp -dsimp only[simprocAttr,↓I,zp,au];refine ai ?_;apply aF rfl<;>intro h
  ·cases h
  refine aG ?_;simp -dsimp only[simprocAttr,↓I,zp,au];refine ai ?_;apply aF rfl<;>intro h
  ·cases h
  refine aG ?_;simp -dsimp only[simprocAttr,↓I,zp,au];refine ai ?_;apply aF rfl<;>intro h
  ·cases h
  refine aG ?_;simp -dsimp only[simprocAttr,↓I,zp,au];refine ai ?_;apply aF rfl<;>intro h
  ·cases h
  refine aG ?_;simp -dsimp only[simprocAttr,↓I,zp,au];refine ai ?_;apply aF rfl<;>intro h
  ·cases h
  refine fE ?_;simp -dsimp only[simprocAttr,↓I,zp,au];refine ai ?_;apply aF rfl<;>intro h
  ·cases h
  refine aG ?_;simp -dsimp only[simprocAttr,↓I,zp,au];refine ai ?_;apply aF rfl<;>intro h
  ·cases h
  refine bR ?_;simp -dsimp only[simprocAttr,↓I,zp,au];refine ai ?_;apply aF rfl<;>intro h
  ·cases h
  refine fE ?_;simp -dsimp only[simprocAttr,↓I,zp,au];refine ai ?_;apply aF rfl<;>intro h
  ·cases h
  refine aG ?_;simp -dsimp only[simprocAttr,↓I,zp,au];refine ai ?_;apply aF rfl<;>intro h
  ·cases h
  refine bR ?_;simp -dsimp only[simprocAttr,↓I,zp,au];refine ai ?_;apply aF rfl<;>intro h
  ·cases h
  refine fE ?_;simp -dsimp only[simprocAttr,↓I,zp,au];refine ai ?_;apply aF rfl<;>intro h
  ·cases h
  refine aG ?_;simp -dsimp only[simprocAttr,↓I,zp,au];refine ai ?_;apply aF rfl<;>intro h
  ·cases h
  refine k7 ?_;refine bR ?_;simp -dsimp only[simprocAttr,↓I,zp,au];refine ai ?_;apply aF rfl<;>intro h
  ·cases h
  refine bZ ?_;refine fE ?_;simp -dsimp only[simprocAttr,↓I,zp,au]
  repeat(refine⟨by omega,?_⟩)
  refine .inr (.inl ⟨_,_,hi _,.inr ⟨28,[9,13,14],gl eM (.cells (.mp 13 0::er)) x2 eM eM eM L _ _ 28,ae ?_⟩⟩);simp -dsimp only[simprocAttr,↓I,zp,au];refine⟨ob (by kernel_rfl),?_⟩;refine aY ?_;simp -dsimp only[simprocAttr,↓I,zp,au,zr,Tryz.results84];exact⟨aW,trivial⟩
 ·refine zf true 26 Tryz.func84 Tryz.ntmps84 ?_;dsimp only[Tmp,TypeId,slotsOf];refine aG ?_;simp -dsimp only[simprocAttr,↓I,zp,au];refine ai ?_;refine aG ?_;simp -dsimp only[simprocAttr,↓I,zp,au];refine ai ?_;refine bR ?_;simp -dsimp only[simprocAttr,↓I,zp,au];refine ai ?_;refine ah ?_;refine bR ?_;simp -dsimp only[simprocAttr,↓I,zp,au];refine ai ?_;apply aF rfl<;>intro h;rotate_left
  ·cases h
  refine bZ ?_;apply aF rfl<;>intro h;rotate_left
  ·cases h
  refine fE ?_;simp -dsimp only[simprocAttr,↓I,zp,au];refine .inr (.inl ⟨_,_,D7,.inl (ae ?_)⟩);simp -dsimp only[simprocAttr,↓I,zp,au];refine ai ?_;refine bR ?_;simp -dsimp only[simprocAttr,↓I,zp,au];refine ai ?_;apply aF rfl<;>intro h
  ·cases h
  refine bZ ?_;refine fE ?_;simp -dsimp only[simprocAttr,↓I,zp,au]
  repeat(refine⟨by omega,?_⟩)
  refine .inr (.inl ⟨_,_,hi _,.inr ⟨28,[9,13,14],gl eM (.cells (.mp 13 0::er)) x2 eM eM eM L _ _ 28,ae ?_⟩⟩);simp -dsimp only[simprocAttr,↓I,zp,au];refine⟨ob (by kernel_rfl),?_⟩;refine aY ?_;simp -dsimp only[simprocAttr,↓I,zp,au,zr,Tryz.results84];exact⟨aW,trivial⟩
 ·refine zf true 26 Tryz.func84 Tryz.ntmps84 ?_;dsimp only[Tmp,TypeId,slotsOf];refine aG ?_;simp -dsimp only[simprocAttr,↓I,zp,au];refine ai ?_;refine aG ?_;simp -dsimp only[simprocAttr,↓I,zp,au];refine ai ?_;refine bR ?_;simp -dsimp only[simprocAttr,↓I,zp,au];refine ai ?_;refine ah ?_;refine bR ?_;simp -dsimp only[simprocAttr,↓I,zp,au];refine ai ?_;apply aF rfl<;>intro h
  ·cases h
  refine aG ?_;simp -dsimp only[simprocAttr,↓I,zp,au];refine ai ?_;apply aF rfl<;>intro h;rotate_left
  ·cases h
  refine bZ ?_;apply aF rfl<;>intro h;rotate_left
  ·cases h
  refine fE ?_;simp -dsimp only[simprocAttr,↓I,zp,au];refine .inr (.inl ⟨_,_,D7,.inl (ae ?_)⟩);simp -dsimp only[simprocAttr,↓I,zp,au];refine ai ?_;refine bR ?_;simp -dsimp only[simprocAttr,↓I,zp,au];refine ai ?_;apply aF rfl<;>intro h
  ·cases h
  refine bZ ?_;refine fE ?_;simp -dsimp only[simprocAttr,↓I,zp,au]
  repeat(refine⟨by omega,?_⟩)
  refine .inr (.inl ⟨_,_,hi _,.inr ⟨28,[9,13,14],gl eM (.cells (.mp 13 0::er)) x2 eM eM eM L _ _ 28,ae ?_⟩⟩);simp -dsimp only[simprocAttr,↓I,zp,au];refine⟨ob (by kernel_rfl),?_⟩;refine aY ?_;simp -dsimp only[simprocAttr,↓I,zp,au,zr,Tryz.results84];exact⟨aW,trivial⟩
 refine zf true 26 Tryz.func84 Tryz.ntmps84 ?_;dsimp only[Tmp,TypeId,slotsOf];refine aG ?_;simp -dsimp only[simprocAttr,↓I,zp,au];refine ai ?_;refine aG ?_;simp -dsimp only[simprocAttr,↓I,zp,au];refine ai ?_;refine bR ?_;simp -dsimp only[simprocAttr,↓I,zp,au];refine ai ?_;refine ah ?_;refine bR ?_;simp -dsimp only[simprocAttr,↓I,zp,au];refine ai ?_;apply aF rfl<;>intro h
 ·cases h
 refine aG ?_;simp -dsimp only[simprocAttr,↓I,zp,au];refine ai ?_;apply aF rfl<;>intro h
 ·cases h
 refine aG ?_;simp -dsimp only[simprocAttr,↓I,zp,au];refine ai ?_;apply aF rfl<;>intro h;rotate_left
 ·cases h
 refine bZ ?_;apply aF rfl<;>intro h;rotate_left
 ·cases h
 refine fE ?_;simp -dsimp only[simprocAttr,↓I,zp,au];refine .inr (.inl ⟨_,_,D7,.inl (ae ?_)⟩);simp -dsimp only[simprocAttr,↓I,zp,au];refine ai ?_;refine bR ?_;simp -dsimp only[simprocAttr,↓I,zp,au];refine ai ?_;apply aF rfl<;>intro h
 ·cases h
 refine bZ ?_;refine fE ?_;simp -dsimp only[simprocAttr,↓I,zp,au]
 repeat(refine⟨by omega,?_⟩)
 refine .inr (.inl ⟨_,_,hi _,.inr ⟨28,[9,13,14],gl eM (.cells (.mp 13 0::er)) x2 eM eM eM L _ _ 28,ae ?_⟩⟩);simp -dsimp only[simprocAttr,↓I,zp,au];refine⟨ob (by kernel_rfl),?_⟩;refine aY ?_;simp -dsimp only[simprocAttr,↓I,zp,au,zr,Tryz.results84];exact⟨aW,trivial⟩
theorem DJ(x0 x1 x2 x4 x5 x6:aq)(L:List cQ){t:Nat}{x:cQ}(h:L[t]?=some x)(gz:x.op=0∨x.op=201)(hx:∀o∈[x0,x1,x2,x4,x5,x6],o.upto 15) :
  aK Tryz.prog 172 (pO x0 x1 x2 x4 x5 x6 L) [.mp 13 0,aI t] fun r O'=>r=.v (.bool true)∧O'=pO x0 x1 x2 x4 x5 x6 L:=by
 have aW:=bA hx L;have hg:=kA h;unfold pO at aW ⊢;rcases gz with e|e
 ·rw[e]at hg;refine zf true 15 Tryz.func172 Tryz.ntmps172 ?_;dsimp only[Tmp,TypeId,slotsOf];refine aG ?_;simp -dsimp only[simprocAttr,↓I,zp,au];refine ai ?_;refine bR ?_;simp -dsimp only[simprocAttr,↓I,zp,au,hg];refine ai ?_;refine ah ?_;refine bR ?_;simp -dsimp only[simprocAttr,↓I,zp,au];refine ai ?_;apply aF rfl<;>intro h;rotate_left
  ·cases h
  refine bZ ?_;apply aF rfl<;>intro h;rotate_left
  ·cases h
  refine aG ?_;simp -dsimp only[simprocAttr,↓I,zp,au];refine ai ?_;refine ak ?_;simp -dsimp only[simprocAttr,↓I,zp,au,zr,Tryz.results172];exact aW
 rw[e]at hg;refine zf true 15 Tryz.func172 Tryz.ntmps172 ?_;dsimp only[Tmp,TypeId,slotsOf];refine aG ?_;simp -dsimp only[simprocAttr,↓I,zp,au];refine ai ?_;refine bR ?_;simp -dsimp only[simprocAttr,↓I,zp,au,hg];refine ai ?_;refine ah ?_;refine bR ?_;simp -dsimp only[simprocAttr,↓I,zp,au];refine ai ?_;apply aF rfl<;>intro h
 ·cases h
 refine aG ?_;simp -dsimp only[simprocAttr,↓I,zp,au];refine ai ?_;apply aF rfl<;>intro h;rotate_left
 ·cases h
 refine bZ ?_;apply aF rfl<;>intro h;rotate_left
 ·cases h
 refine aG ?_;simp -dsimp only[simprocAttr,↓I,zp,au];refine ai ?_;refine ak ?_;simp -dsimp only[simprocAttr,↓I,zp,au,zr,Tryz.results172];exact aW
def Pf(L:List cQ)(W:List (Value×aa))(t:Int):Prop:=bC W (.int .i64 t)=some (aI 1)∨(bC W (.int .i64 t)=none∧∃(j:Nat) (x:cQ),t=j∧L[j]?=some x∧(x.op=0∨x.op=201))
theorem Gk(er:List aa)(x2:aq)(L:List cQ)(eU ef eg:aq)(W D:List (Value×aa)){t:Int}(h:Pf L W t)(hu:tG er x2 eU ef eg)(hW:ba 26 W)(hD:ba 26 D) :
  aK Tryz.prog 136 (rO er x2 L eU ef eg W D) [.mp 7 0,.mp 25 0,aI t] fun r O'=>r=.v (.bool true)∧O'=rO er x2 L eU ef eg W D:=by
 have aW:=dZ hu L hW hD;rcases h with hl|⟨hl,j,x,rfl,hx,gz⟩
 ·unfold rO at aW ⊢;refine zf true 26 Tryz.func136 Tryz.ntmps136 ?_;dsimp only[Tmp,TypeId,slotsOf];refine aG ?_;simp -dsimp only[simprocAttr,↓I,zp,au];refine ai ?_;refine aG ?_;simp -dsimp only[simprocAttr,↓I,zp,au,hl];refine ai ?_;refine ak ?_;simp -dsimp only[simprocAttr,↓I,zp,au,zr,Tryz.results136];exact aW
 have hp:=(DJ eM (.cells (.mp 13 0::er)) x2 eM eM eM L hx gz hu.pZ).frame (by rfl) (by simp[av,aa.upto,pO]) (bA hu.pZ L);unfold pO at hp;unfold rO at aW ⊢;refine zf true 26 Tryz.func136 Tryz.ntmps136 ?_;dsimp only[Tmp,TypeId,slotsOf];refine aG ?_;simp -dsimp only[simprocAttr,↓I,zp,au];refine ai ?_;refine aG ?_;simp -dsimp only[simprocAttr,↓I,zp,au,hl,List.getD_cons_zero];refine .inr (.inr ⟨_,(hp _),ae ?_⟩);simp -dsimp only[simprocAttr,↓I,zp,au];refine ai ?_;refine ak ?_;simp -dsimp only[simprocAttr,↓I,zp,au,zr,Tryz.results136];exact aW
theorem DK(er:List aa)(x2:aq)(L:List cQ)(eU ef eg:aq)(W D:List (Value×aa))(z:aq)(ts:List Int)(hb:ts.length<=1000)(h:∀t∈ts,Pf L W t)(hu:tG er x2 eU ef eg)(hW:ba 26 W)(hD:ba 26 D)(hz:z.upto 29) :
  aK Tryz.prog 168 (rO er x2 L eU ef eg W D++[.cells [.mp 7 0],.cells [.mp 25 0],z]) [bp ts,.mp 26 0,.mp 27 0] fun r O'=>r=.v (.bool true)∧O'=rO er x2 L eU ef eg W D++[.cells [.mp 7 0],.cells [.mp 25 0],z]:=by
 have aW:=cO (k:=29) (dZ hu L hW hD) (by omega) (B:=[.cells [.mp 7 0],.cells [.mp 25 0],z]) (by
  intro o ho;simp at ho;rcases ho with rfl|rfl|rfl
  ·exact⟨show 7<29 by decide,trivial⟩
  ·exact⟨show 25<29 by decide,trivial⟩
  exact hz)
 have hw:∀t∈ts,_:=fun t ht=>(Gk er x2 L eU ef eg W D (h t ht) hu hW hD).frame (by rfl) (by simp[av,aa.upto,rO]) (dZ hu L hW hD);unfold rO at aW hw ⊢;refine zf true 29 Tryz.func168 Tryz.ntmps168 ?_;dsimp only[Tmp,TypeId,slotsOf];refine aG ?_;simp -dsimp only[simprocAttr,↓I,zp,au];refine ai ?_;refine bR ?_;simp -dsimp only[simprocAttr,↓I,zp,au,List.length_map];refine ai ?_;refine ah (a8 (ι:={i:Nat // i<=ts.length}) (fun p=>⟨19,[(1,.mp 26 0),(2,.mp 27 0),(7,bp ts),(8,aI ts.length),(9,aI p.1)],[.gone,.gone,.gone,.gone,.gone,.gone,eM,.cells (.mp 13 0::er),x2,.map .str (jf 0 L),eM,eM,eM,.cells [.aB 4 (L.map cQ.enc) (.tok 14),.mm 9,.mm 10,.mm 11,.mm 12],.spare L.length,eU,ef,eg,.map (.int .i64) W,pM,.map (.int .i64) D,eM,pM,pM,pM,.cells [.mm 18,.mm 19,.mm 20,.mm 21,.mm 22,.mm 23,.mm 24,.v (.bool false)],.cells [.mp 7 0],.cells [.mp 25 0],z]⟩) (fun p=>ts.length-p.1) ⟨0,by omega⟩ ?_ ?_)
 ·refine zq rfl ?_ ?_;simp -dsimp only[simprocAttr,↓I,zp,au,zc];rfl
 rintro⟨i,hi⟩;refine aG ?_;simp -dsimp only[simprocAttr,↓I,zp,au];refine ai ?_;apply fK rfl<;>intro h
 ·refine bZ ?_;have sx:i<ts.length:=by simpa using h
  obtain⟨v,hv⟩:∃v,ts[i]?=some v:=⟨ts[i],by simp[sx]⟩
  have Ys:=hw v (List.mem_of_getElem? hv);refine aL (ah ?_);refine aG ?_;simp -dsimp only[simprocAttr,↓I,zp,au,hv];refine ai ?_;refine aG ?_;simp -dsimp only[simprocAttr,↓I,zp,au];refine .inr (.inr ⟨_,(Ys _),ae ?_⟩);simp -dsimp only[simprocAttr,↓I,zp,au];refine ai ?_;apply aF rfl<;>intro h
  ·cases h
  refine k7 ?_;refine fE ?_;simp -dsimp only[simprocAttr,↓I,zp,au]
  repeat(refine⟨by omega,?_⟩)
  refine kv ?_;refine⟨⟨i+1,by omega⟩,by simp only;omega,?_⟩;refine zq rfl ?_ ?_;simp -dsimp only[simprocAttr,↓I,zp,au,zc]
  ·exact Sub.int (by simp)
  rfl
 refine aN ?_;simp -dsimp only[bH,ne_eq,Nat.reduceEqDiff,reduceCtorEq];refine aG ?_;simp -dsimp only[simprocAttr,↓I,zp,au];refine ai ?_;refine ak ?_;simp -dsimp only[simprocAttr,↓I,zp,au,zr,Tryz.results168];exact aW
theorem xQ{O:List aq}(aW:∀o∈O,o.upto O.length){e f:aa}{op n to:Int}{al ts:List Int}(gz:Oa op):aK Tryz.prog 134 O [e,f,.agg [aI to,aI op,aI n,bp al],bp ts] fun r O'=>r=.v (.bool false)∧O'=O:=by
 have h2:∀Y Z,(O++Y::Z)[O.length]?=some Y:=fun Y Z=>by simp
 have fk:O.length<=O.length:=Nat.le_refl _;rcases gz with rfl|rfl|rfl|rfl
 ·refine dE hT true (O.length) Tryz.func134 rfl (by kernel_rfl) (by simp[Tryz.ntmps134]) (by assumption) ?_;show cG Tryz.prog _ _ _ ⟨96,_,_⟩;dsimp only[Tmp,TypeId,slotsOf];refine aG ?_;simp -dsimp only[simprocAttr,↓I,zp,au,h2];refine ai ?_;refine bR ?_;simp -dsimp only[simprocAttr,↓I,zp,au,h2];refine ai ?_;refine ah ?_;refine bR ?_;simp -dsimp only[simprocAttr,↓I,zp,au];refine ai ?_;apply aF rfl<;>intro h
  ·cases h
  refine fE ?_;simp -dsimp only[simprocAttr,↓I,zp,au];refine ai ?_;apply aF rfl<;>intro h
  ·cases h
  refine aG ?_;simp -dsimp only[simprocAttr,↓I,zp,au];refine ai ?_;apply aF rfl<;>intro h
  ·cases h
  refine aG ?_;simp -dsimp only[simprocAttr,↓I,zp,au];refine ai ?_;apply aF rfl<;>intro h
  ·cases h
  refine bR ?_;simp -dsimp only[simprocAttr,↓I,zp,au];refine ai ?_;apply aF rfl<;>intro h
  ·cases h
  refine fE ?_;simp -dsimp only[simprocAttr,↓I,zp,au];refine ai ?_;apply aF rfl<;>intro h
  ·cases h
  refine k7 ?_;refine aG ?_;simp -dsimp only[simprocAttr,↓I,zp,au];refine ai ?_;refine ak ?_;simp -dsimp only[simprocAttr,↓I,zp,au,zr,Tryz.results134,List.take_left];exact aW
 ·refine dE hT true (O.length) Tryz.func134 rfl (by kernel_rfl) (by simp[Tryz.ntmps134]) (by assumption) ?_;show cG Tryz.prog _ _ _ ⟨96,_,_⟩;dsimp only[Tmp,TypeId,slotsOf];refine aG ?_;simp -dsimp only[simprocAttr,↓I,zp,au,h2];refine ai ?_;refine bR ?_;simp -dsimp only[simprocAttr,↓I,zp,au,h2];refine ai ?_;refine ah ?_;refine bR ?_;simp -dsimp only[simprocAttr,↓I,zp,au];refine ai ?_;apply aF rfl<;>intro h
  ·cases h
  refine fE ?_;simp -dsimp only[simprocAttr,↓I,zp,au];refine ai ?_;apply aF rfl<;>intro h
  ·cases h
  refine aG ?_;simp -dsimp only[simprocAttr,↓I,zp,au];refine ai ?_;apply aF rfl<;>intro h
  ·cases h
  refine aG ?_;simp -dsimp only[simprocAttr,↓I,zp,au];refine ai ?_;apply aF rfl<;>intro h
  ·cases h
  refine bR ?_;simp -dsimp only[simprocAttr,↓I,zp,au];refine ai ?_;apply aF rfl<;>intro h
  ·cases h
  refine fE ?_;simp -dsimp only[simprocAttr,↓I,zp,au];refine ai ?_;apply aF rfl<;>intro h
  ·cases h
  refine k7 ?_;refine aG ?_;simp -dsimp only[simprocAttr,↓I,zp,au];refine ai ?_;refine ak ?_;simp -dsimp only[simprocAttr,↓I,zp,au,zr,Tryz.results134,List.take_left];exact aW
 ·refine dE hT true (O.length) Tryz.func134 rfl (by kernel_rfl) (by simp[Tryz.ntmps134]) (by assumption) ?_;show cG Tryz.prog _ _ _ ⟨96,_,_⟩;dsimp only[Tmp,TypeId,slotsOf];refine aG ?_;simp -dsimp only[simprocAttr,↓I,zp,au,h2];refine ai ?_;refine bR ?_;simp -dsimp only[simprocAttr,↓I,zp,au,h2];refine ai ?_;refine ah ?_;refine bR ?_;simp -dsimp only[simprocAttr,↓I,zp,au];refine ai ?_;apply aF rfl<;>intro h
  ·cases h
  refine fE ?_;simp -dsimp only[simprocAttr,↓I,zp,au];refine ai ?_;apply aF rfl<;>intro h
  ·cases h
  refine aG ?_;simp -dsimp only[simprocAttr,↓I,zp,au];refine ai ?_;apply aF rfl<;>intro h
  ·cases h
  refine aG ?_;simp -dsimp only[simprocAttr,↓I,zp,au];refine ai ?_;apply aF rfl<;>intro h
  ·cases h
  refine bR ?_;simp -dsimp only[simprocAttr,↓I,zp,au];refine ai ?_;apply aF rfl<;>intro h
  ·cases h
  refine fE ?_;simp -dsimp only[simprocAttr,↓I,zp,au];refine ai ?_;apply aF rfl<;>intro h
  ·cases h
  refine k7 ?_;refine aG ?_;simp -dsimp only[simprocAttr,↓I,zp,au];refine ai ?_;refine ak ?_;simp -dsimp only[simprocAttr,↓I,zp,au,zr,Tryz.results134,List.take_left];exact aW
 refine dE hT true (O.length) Tryz.func134 rfl (by kernel_rfl) (by simp[Tryz.ntmps134]) (by assumption) ?_;show cG Tryz.prog _ _ _ ⟨96,_,_⟩;dsimp only[Tmp,TypeId,slotsOf];refine aG ?_;simp -dsimp only[simprocAttr,↓I,zp,au,h2];refine ai ?_;refine bR ?_;simp -dsimp only[simprocAttr,↓I,zp,au,h2];refine ai ?_;refine ah ?_;refine bR ?_;simp -dsimp only[simprocAttr,↓I,zp,au];refine ai ?_;apply aF rfl<;>intro h
 ·cases h
 refine fE ?_;simp -dsimp only[simprocAttr,↓I,zp,au];refine ai ?_;apply aF rfl<;>intro h
 ·cases h
 refine aG ?_;simp -dsimp only[simprocAttr,↓I,zp,au];refine ai ?_;apply aF rfl<;>intro h
 ·cases h
 refine aG ?_;simp -dsimp only[simprocAttr,↓I,zp,au];refine ai ?_;apply aF rfl<;>intro h
 ·cases h
 refine bR ?_;simp -dsimp only[simprocAttr,↓I,zp,au];refine ai ?_;apply aF rfl<;>intro h
 ·cases h
 refine fE ?_;simp -dsimp only[simprocAttr,↓I,zp,au];refine ai ?_;apply aF rfl<;>intro h
 ·cases h
 refine k7 ?_;refine aG ?_;simp -dsimp only[simprocAttr,↓I,zp,au];refine ai ?_;refine ak ?_;simp -dsimp only[simprocAttr,↓I,zp,au,zr,Tryz.results134,List.take_left];exact aW
theorem x8(er:List aa)(x2:aq)(L:List cQ)(eU ef eg:aq)(W D:List (Value×aa)){op n:Int}(to:Int)(al ts:List Int)(gz:Oa op)(hn:i64 n)(hb:ts.length<=1000)(vY:UD L ts)(Pv:∀t∈ts,i64 t)(OU:op≠0->∀t∈ts,Pf (dC L (1000+op) n ts).2 W t)(Om:bC D (.int .i64 (dC L (1000+op) n ts).1)=none∨bC D (.int .i64 (dC L (1000+op) n ts).1)=some (aI 1))(hL:L.length<=1000000000)(hu:tG er x2 eU ef eg)(hW:ba 26 W)(hD:ba 26 D) :
  aK Tryz.prog 133 (rO er x2 L eU ef eg W D) [.mp 7 0,.mp 25 0,.agg [aI to,aI op,aI n,bp al],bp ts] fun r O'=>r=.v (.bool true)∧O'=rO er x2 (dC L (1000+op) n ts).2 eU ef eg W D:=by
 have hi:=(lE eM (.cells (.mp 13 0::er)) x2 eM eM eM L (1000+op) n ts (by omega) (by
  intro k hk;simp only[List.mem_cons]at hk;rcases hk with rfl|rfl|hk
  ·unfold i64;rcases gz with rfl|rfl|rfl|rfl<;>omega
  ·exact hn
  exact Pv k hk) (fun i a ha _=>vY a (List.mem_of_getElem? ha)) hL hu.pZ).frame (by rfl) (by simp[av,aa.upto,pO,ay]) (bA hu.pZ L)
 have aW:=dZ hu (dC L (1000+op) n ts).2 hW hD;have Uu:=fun h0:op≠0=>DK er x2 (dC L (1000+op) n ts).2 eU ef eg W D (.cells [aI to,aI op,aI n,bp al]) ts hb (OU h0) hu hW hD ⟨trivial,trivial,trivial,⟨ay _ _,trivial⟩,trivial⟩;unfold pO at hi;unfold rO at aW Uu ⊢;rcases gz with rfl|rfl|rfl|rfl
 ·rcases Om with hl|hl
  ·replace hl:bC D (.int .i64 (dC L 1000 n ts).1)=none:=hl;refine zf true 26 Tryz.func133 Tryz.ntmps133 ?_;dsimp only[Tmp,TypeId,slotsOf];refine aG ?_;simp -dsimp only[simprocAttr,↓I,zp,au];refine ai ?_;refine bR ?_;simp -dsimp only[simprocAttr,↓I,zp,au]
   repeat(refine⟨by omega,?_⟩)
   refine .inr (.inl ⟨_,_,hi _,.inr ⟨29,[9,13,14],gl eM (.cells (.mp 13 0::er)) x2 eM eM eM L _ _ 29,ae ?_⟩⟩);simp -dsimp only[simprocAttr,↓I,zp,au,hl,List.getD_cons_zero];refine⟨ob (by kernel_rfl),?_⟩;refine ai ?_;apply aF rfl<;>intro h
   ·cases h
   refine bZ ?_;refine aG ?_;simp -dsimp only[simprocAttr,↓I,zp,au];refine ai ?_;refine aG ?_;simp -dsimp only[simprocAttr,↓I,zp,au];refine ai ?_;refine aG ?_;simp -dsimp only[simprocAttr,↓I,zp,au];refine ai ?_;refine bR ?_;simp -dsimp only[simprocAttr,↓I,zp,au];refine ai ?_;refine ah ?_;refine bR ?_;simp -dsimp only[simprocAttr,↓I,zp,au];refine ai ?_;apply aF rfl<;>intro h;rotate_left
   ·cases h
   refine bZ ?_;apply aF rfl<;>intro h;rotate_left
   ·cases h
   refine aG ?_;simp -dsimp only[simprocAttr,↓I,zp,au];refine ai ?_;refine ak ?_;simp -dsimp only[simprocAttr,↓I,zp,au,zr,Tryz.results133];exact aW
  replace hl:bC D (.int .i64 (dC L 1000 n ts).1)=some (aI 1):=hl;refine zf true 26 Tryz.func133 Tryz.ntmps133 ?_;dsimp only[Tmp,TypeId,slotsOf];refine aG ?_;simp -dsimp only[simprocAttr,↓I,zp,au];refine ai ?_;refine bR ?_;simp -dsimp only[simprocAttr,↓I,zp,au]
  repeat(refine⟨by omega,?_⟩)
  refine .inr (.inl ⟨_,_,hi _,.inr ⟨29,[9,13,14],gl eM (.cells (.mp 13 0::er)) x2 eM eM eM L _ _ 29,ae ?_⟩⟩);simp -dsimp only[simprocAttr,↓I,zp,au,hl,List.getD_cons_zero];refine⟨ob (by kernel_rfl),?_⟩;refine ai ?_;apply aF rfl<;>intro h;rotate_left
  ·cases h
  refine aG ?_;simp -dsimp only[simprocAttr,↓I,zp,au];refine ai ?_;refine ak ?_;simp -dsimp only[simprocAttr,↓I,zp,au,zr,Tryz.results133];exact aW
 ·rcases Om with hl|hl
  ·replace hl:bC D (.int .i64 (dC L 1001 n ts).1)=none:=hl;refine zf true 26 Tryz.func133 Tryz.ntmps133 ?_;dsimp only[Tmp,TypeId,slotsOf];refine aG ?_;simp -dsimp only[simprocAttr,↓I,zp,au];refine ai ?_;refine bR ?_;simp -dsimp only[simprocAttr,↓I,zp,au]
   repeat(refine⟨by omega,?_⟩)
   refine .inr (.inl ⟨_,_,hi _,.inr ⟨29,[9,13,14],gl eM (.cells (.mp 13 0::er)) x2 eM eM eM L _ _ 29,ae ?_⟩⟩);simp -dsimp only[simprocAttr,↓I,zp,au,hl,List.getD_cons_zero];refine⟨ob (by kernel_rfl),?_⟩;refine ai ?_;apply aF rfl<;>intro h
   ·cases h
   refine bZ ?_;refine aG ?_;simp -dsimp only[simprocAttr,↓I,zp,au];refine ai ?_;refine aG ?_;simp -dsimp only[simprocAttr,↓I,zp,au];refine ai ?_;refine aG ?_;simp -dsimp only[simprocAttr,↓I,zp,au];refine ai ?_;refine bR ?_;simp -dsimp only[simprocAttr,↓I,zp,au];refine ai ?_;refine ah ?_;refine bR ?_;simp -dsimp only[simprocAttr,↓I,zp,au];refine ai ?_;apply aF rfl<;>intro h
   ·cases h
   refine aG ?_;simp -dsimp only[simprocAttr,↓I,zp,au];refine ai ?_;apply aF rfl<;>intro h
   ·cases h
   refine fE ?_;simp -dsimp only[simprocAttr,↓I,zp,au];refine ai ?_;apply aF rfl<;>intro h
   ·cases h
   refine bR ?_;simp -dsimp only[simprocAttr,↓I,zp,au];refine ai ?_;apply aF rfl<;>intro h;rotate_left
   ·cases h
   refine bZ ?_;apply aF rfl<;>intro h;rotate_left
   ·cases h
   refine aG ?_;simp -dsimp only[simprocAttr,↓I,zp,au];refine .inr (.inr ⟨_,Uu (by omega),ae ?_⟩);simp -dsimp only[simprocAttr,↓I,zp,au];refine ai ?_;refine ak ?_;simp -dsimp only[simprocAttr,↓I,zp,au,zr,Tryz.results133];exact aW
  replace hl:bC D (.int .i64 (dC L 1001 n ts).1)=some (aI 1):=hl;refine zf true 26 Tryz.func133 Tryz.ntmps133 ?_;dsimp only[Tmp,TypeId,slotsOf];refine aG ?_;simp -dsimp only[simprocAttr,↓I,zp,au];refine ai ?_;refine bR ?_;simp -dsimp only[simprocAttr,↓I,zp,au]
  repeat(refine⟨by omega,?_⟩)
  refine .inr (.inl ⟨_,_,hi _,.inr ⟨29,[9,13,14],gl eM (.cells (.mp 13 0::er)) x2 eM eM eM L _ _ 29,ae ?_⟩⟩);simp -dsimp only[simprocAttr,↓I,zp,au,hl,List.getD_cons_zero];refine⟨ob (by kernel_rfl),?_⟩;refine ai ?_;apply aF rfl<;>intro h;rotate_left
  ·cases h
  refine aG ?_;simp -dsimp only[simprocAttr,↓I,zp,au];refine ai ?_;refine ak ?_;simp -dsimp only[simprocAttr,↓I,zp,au,zr,Tryz.results133];exact aW
 ·rcases Om with hl|hl
  ·replace hl:bC D (.int .i64 (dC L 1002 n ts).1)=none:=hl;refine zf true 26 Tryz.func133 Tryz.ntmps133 ?_;dsimp only[Tmp,TypeId,slotsOf];refine aG ?_;simp -dsimp only[simprocAttr,↓I,zp,au];refine ai ?_;refine bR ?_;simp -dsimp only[simprocAttr,↓I,zp,au]
   repeat(refine⟨by omega,?_⟩)
   refine .inr (.inl ⟨_,_,hi _,.inr ⟨29,[9,13,14],gl eM (.cells (.mp 13 0::er)) x2 eM eM eM L _ _ 29,ae ?_⟩⟩);simp -dsimp only[simprocAttr,↓I,zp,au,hl,List.getD_cons_zero];refine⟨ob (by kernel_rfl),?_⟩;refine ai ?_;apply aF rfl<;>intro h
   ·cases h
   refine bZ ?_;refine aG ?_;simp -dsimp only[simprocAttr,↓I,zp,au];refine ai ?_;refine aG ?_;simp -dsimp only[simprocAttr,↓I,zp,au];refine ai ?_;refine aG ?_;simp -dsimp only[simprocAttr,↓I,zp,au];refine ai ?_;refine bR ?_;simp -dsimp only[simprocAttr,↓I,zp,au];refine ai ?_;refine ah ?_;refine bR ?_;simp -dsimp only[simprocAttr,↓I,zp,au];refine ai ?_;apply aF rfl<;>intro h
   ·cases h
   refine aG ?_;simp -dsimp only[simprocAttr,↓I,zp,au];refine ai ?_;apply aF rfl<;>intro h
   ·cases h
   refine fE ?_;simp -dsimp only[simprocAttr,↓I,zp,au];refine ai ?_;apply aF rfl<;>intro h
   ·cases h
   refine bR ?_;simp -dsimp only[simprocAttr,↓I,zp,au];refine ai ?_;apply aF rfl<;>intro h
   ·cases h
   refine aG ?_;simp -dsimp only[simprocAttr,↓I,zp,au];refine ai ?_;apply aF rfl<;>intro h;rotate_left
   ·cases h
   refine bZ ?_;apply aF rfl<;>intro h;rotate_left
   ·cases h
   refine aG ?_;simp -dsimp only[simprocAttr,↓I,zp,au];refine .inr (.inr ⟨_,Uu (by omega),ae ?_⟩);simp -dsimp only[simprocAttr,↓I,zp,au];refine ai ?_;refine ak ?_;simp -dsimp only[simprocAttr,↓I,zp,au,zr,Tryz.results133];exact aW
  replace hl:bC D (.int .i64 (dC L 1002 n ts).1)=some (aI 1):=hl;refine zf true 26 Tryz.func133 Tryz.ntmps133 ?_;dsimp only[Tmp,TypeId,slotsOf];refine aG ?_;simp -dsimp only[simprocAttr,↓I,zp,au];refine ai ?_;refine bR ?_;simp -dsimp only[simprocAttr,↓I,zp,au]
  repeat(refine⟨by omega,?_⟩)
  refine .inr (.inl ⟨_,_,hi _,.inr ⟨29,[9,13,14],gl eM (.cells (.mp 13 0::er)) x2 eM eM eM L _ _ 29,ae ?_⟩⟩);simp -dsimp only[simprocAttr,↓I,zp,au,hl,List.getD_cons_zero];refine⟨ob (by kernel_rfl),?_⟩;refine ai ?_;apply aF rfl<;>intro h;rotate_left
  ·cases h
  refine aG ?_;simp -dsimp only[simprocAttr,↓I,zp,au];refine ai ?_;refine ak ?_;simp -dsimp only[simprocAttr,↓I,zp,au,zr,Tryz.results133];exact aW
 rcases Om with hl|hl
 ·replace hl:bC D (.int .i64 (dC L 1003 n ts).1)=none:=hl;refine zf true 26 Tryz.func133 Tryz.ntmps133 ?_;dsimp only[Tmp,TypeId,slotsOf];refine aG ?_;simp -dsimp only[simprocAttr,↓I,zp,au];refine ai ?_;refine bR ?_;simp -dsimp only[simprocAttr,↓I,zp,au]
  repeat(refine⟨by omega,?_⟩)
  refine .inr (.inl ⟨_,_,hi _,.inr ⟨29,[9,13,14],gl eM (.cells (.mp 13 0::er)) x2 eM eM eM L _ _ 29,ae ?_⟩⟩);simp -dsimp only[simprocAttr,↓I,zp,au,hl,List.getD_cons_zero];refine⟨ob (by kernel_rfl),?_⟩;refine ai ?_;apply aF rfl<;>intro h
  ·cases h
  refine bZ ?_;refine aG ?_;simp -dsimp only[simprocAttr,↓I,zp,au];refine ai ?_;refine aG ?_;simp -dsimp only[simprocAttr,↓I,zp,au];refine ai ?_;refine aG ?_;simp -dsimp only[simprocAttr,↓I,zp,au];refine ai ?_;refine bR ?_;simp -dsimp only[simprocAttr,↓I,zp,au];refine ai ?_;refine ah ?_;refine bR ?_;simp -dsimp only[simprocAttr,↓I,zp,au];refine ai ?_;apply aF rfl<;>intro h
  ·cases h
  refine aG ?_;simp -dsimp only[simprocAttr,↓I,zp,au];refine ai ?_;apply aF rfl<;>intro h
  ·cases h
  refine fE ?_;simp -dsimp only[simprocAttr,↓I,zp,au];refine ai ?_;apply aF rfl<;>intro h
  ·cases h
  refine bR ?_;simp -dsimp only[simprocAttr,↓I,zp,au];refine ai ?_;apply aF rfl<;>intro h
  ·cases h
  refine aG ?_;simp -dsimp only[simprocAttr,↓I,zp,au];refine ai ?_;apply aF rfl<;>intro h
  ·cases h
  refine aG ?_;simp -dsimp only[simprocAttr,↓I,zp,au];refine ai ?_;apply aF rfl<;>intro h;rotate_left
  ·cases h
  refine bZ ?_;apply aF rfl<;>intro h;rotate_left
  ·cases h
  refine aG ?_;simp -dsimp only[simprocAttr,↓I,zp,au];refine .inr (.inr ⟨_,Uu (by omega),ae ?_⟩);simp -dsimp only[simprocAttr,↓I,zp,au];refine ai ?_;refine ak ?_;simp -dsimp only[simprocAttr,↓I,zp,au,zr,Tryz.results133];exact aW
 replace hl:bC D (.int .i64 (dC L 1003 n ts).1)=some (aI 1):=hl;refine zf true 26 Tryz.func133 Tryz.ntmps133 ?_;dsimp only[Tmp,TypeId,slotsOf];refine aG ?_;simp -dsimp only[simprocAttr,↓I,zp,au];refine ai ?_;refine bR ?_;simp -dsimp only[simprocAttr,↓I,zp,au]
 repeat(refine⟨by omega,?_⟩)
 refine .inr (.inl ⟨_,_,hi _,.inr ⟨29,[9,13,14],gl eM (.cells (.mp 13 0::er)) x2 eM eM eM L _ _ 29,ae ?_⟩⟩);simp -dsimp only[simprocAttr,↓I,zp,au,hl,List.getD_cons_zero];refine⟨ob (by kernel_rfl),?_⟩;refine ai ?_;apply aF rfl<;>intro h;rotate_left
 ·cases h
 refine aG ?_;simp -dsimp only[simprocAttr,↓I,zp,au];refine ai ?_;refine ak ?_;simp -dsimp only[simprocAttr,↓I,zp,au,zr,Tryz.results133];exact aW
theorem E2{x:Value}{k:Int}(h:fZ x (.int .i64 k)=true):∃j,x=.int j k:=by
 cases x<;>simp[fZ]at h;exact⟨_,by rw[h]⟩
theorem iY(k k':Int)(y:aa):∀W:List (Value×aa),bC (cB W (.int .i64 k) y) (.int .i64 k')=if k=k' then some y else bC W (.int .i64 k')
 | []=>by
  simp only[cB,bC,fZ,decide_eq_true_eq]
 | (x,z)::r=>by
  by_cases h:fZ x (.int .i64 k)=true
  ·obtain⟨j,rfl⟩:=E2 h;simp only[cB,fZ,decide_true,if_true,bC,decide_eq_true_eq];by_cases q:k=k'<;>simp[q]
  have ih:=iY k k' y r;simp only[cB,h,if_false,bC,ih,Bool.false_eq_true];by_cases hx:fZ x (.int .i64 k')=true
  ·have q:¬k=k':=fun e=>h (e ▸ hx);simp[hx,q]
  simp[hx]
def qm(W:List (Value×aa)):Prop:=∀t:Int,bC W (.int .i64 t)=none∨bC W (.int .i64 t)=some (aI 1)
theorem qm.put{W:List (Value×aa)}(h:qm W)(k:Int):qm (cB W (.int .i64 k) (aI 1)):=fun t=>by
 rw[iY];split
 ·exact .inr rfl
 exact h t
theorem qm.V0{l:List Int}:∀{W:List (Value×aa)},qm W->qm (ku W l):=by
 induction l with
 | nil=>exact fun h=>h
 | cons t r ih=>exact fun h=>ih (h.put t)
theorem xN{t:Int}{l:List Int}:∀{W:List (Value×aa)},bC W (.int .i64 t)=some (aI 1)->bC (ku W l) (.int .i64 t)=some (aI 1):=by
 induction l with
 | nil=>exact fun h=>h
 | cons k r ih =>
  intro W h;refine ih (W:=cB W (.int .i64 k) (aI 1)) ?_;rw[iY];split
  ·rfl
  exact h
theorem Iw{t:Int}{l:List Int}:∀{W:List (Value×aa)},t∈l->bC (ku W l) (.int .i64 t)=some (aI 1):=by
 induction l with
 | nil=>exact fun h=>by cases h
 | cons k r ih =>
  intro W h;rcases List.mem_cons.1 h with e|q
  ·refine xN (l:=r) (W:=cB W (.int .i64 k) (aI 1)) ?_;rw[iY,if_pos e.symm]
  exact ih (W:=cB W (.int .i64 k) (aI 1)) q
structure gJ where
 L:List cQ
 W:List (Value×aa)
 D:List (Value×aa)
 E:List (Value×aa)
def Pn(E:List (Value×aa))(v:Int):Int:=match bC E (.int .i64 v)with
 | some (.v (.int _ n))=>n
 | _=>0
def bI.ts(E:List (Value×aa))(i:bI):List Int:=i.args.map (Pn E)
def fW(s:gJ)(i:bI):Nat×List cQ:=dC s.L (1000+i.op) i.n (i.ts s.E)
def lP(T:Int->Int×Int)(s:gJ)(i:bI):Nat×List cQ:=cH (fW s i).2 (T i.to).1 (T i.to).2
def pj(T:Int->Int×Int)(s:gJ)(i:bI):gJ :=
 ⟨(lP T s i).2,if i.op=0 then s.W else ku s.W (i.ts s.E),cB s.D (.int .i64 (fW s i).1) (aI 1),cB s.E (.int .i64 i.to) (aI (lP T s i).1)⟩
def zd(T:Int->Int×Int)(s:gJ)(i:bI):gJ :=
 ⟨(lP T s i).2,s.W,s.D,cB s.E (.int .i64 i.to) (aI (lP T s i).1)⟩
def T2(L:List cQ)(op n:Int)(ts:List Int)(p q:Int):Prop:=(op=0∧i64 n∧p=0∧q=n)∨∃(a b:Nat) (p1 q1 p2 q2:Int),ts=[(a:Int),(b:Int)]∧lY L a p1 q1∧lY L b p2 q2∧RJ op p1 q1 p2 q2 p q
structure RK(s:gJ)(i:bI)(p q:Int):Prop where
 op:Oa i.op
 n:i64 i.n
 len:i.args.length<=1000
 look:∀(k:Nat) (v t:Int),i.args[k]?=some v->(i.ts s.E)[k]?=some t->bC s.E (.int .i64 v)=some (aI t)
 tm:UD s.L (i.ts s.E)
 i64:∀t∈i.ts s.E,i64 t
 ap:T2 (fW s i).2 i.op i.n (i.ts s.E) p q
 L:s.L.length<=900000000
 L1:1<s.L.length
 LL:(fW s i).2.length<=900000001
 V':1<(fW s i).2.length
structure xV(T:Int->Int×Int)(ds:List Int)(L:List cQ)(E:List (Value×aa)):Prop where
 uniq:EE L
 var:∃n late,L[1]?=some ⟨200,n,[],late⟩
 env:∀v∈ds,∃t:Nat,bC E (.int .i64 v)=some (aI t)∧lY L t (T v).1 (T v).2
 up:∀k,ba k E
def Ky(T:Int->Int×Int)(ds:List Int)(i:bI):Prop:=(i.op=0∧i.args=[]∧cu i.n∧T i.to=(0,i.n))∨∃u v,i.args=[u,v]∧u∈ds∧v∈ds∧i.n=0∧RJ i.op (T u).1 (T u).2 (T v).1 (T v).2 (T i.to).1 (T i.to).2
def xX(T:Int->Int×Int):List Int->List bI->Prop
 | _,[]=>True
 | ds,i::r=>Ky T ds i∧xX T (ds++[i.to]) r
theorem lY.lt{L:List cQ}{t:Nat}{p q:Int}(h:lY L t p q):t<L.length:=by
 obtain⟨x,hx⟩:=h.get;rcases Nat.lt_or_ge t L.length with q|q
 ·exact q
 rw[List.getElem?_eq_none q]at hx;cases hx
theorem RJ.op{op p1 q1 p2 q2 p q:Int}(h:RJ op p1 q1 p2 q2 p q):op=1∨op=2∨op=3:=by
 rcases h.P9 with⟨e,_⟩|⟨e,_⟩|⟨e,_⟩
 ·exact .inl e
 ·exact .inr (.inl e)
 exact .inr (.inr e)
theorem xV.of{T:Int->Int×Int}{ds:List Int}{L:List cQ}{E:List (Value×aa)}(h:xV T ds L E){v:Int}(hv:v∈ds):∃t:Nat,bC E (.int .i64 v)=some (aI t)∧Pn E v=t∧lY L t (T v).1 (T v).2:=by
 obtain⟨t,h1,h2⟩:=h.env v hv;exact⟨t,h1,by rw[Pn,h1],h2⟩
theorem xV.ex{T:Int->Int×Int}{ds:List Int}{s:gJ}{i:bI}(h:xV T ds s.L s.E)(hi:Ky T ds i)(hL:s.L.length<=900000000):RK s i (T i.to).1 (T i.to).2:=by
 obtain⟨n,late,hv⟩:=h.var;have jr:1<s.L.length:=by
  rcases Nat.lt_or_ge 1 s.L.length with q|q
  ·exact q
  rw[List.getElem?_eq_none q]at hv;cases hv
 obtain⟨⟨⟨M,hM,UQ⟩,_⟩,_⟩:=mf s.L (1000+i.op) i.n (i.ts s.E);have Tb:(fW s i).2.length=s.L.length+M.length:=by rw[fW,hM,List.length_append]
 rcases hi with⟨h0,ha,hw,ht⟩|⟨u,v,ha,hu,xA,vW,RQ⟩
 ·have vY:i.ts s.E=[]:=by rw[bI.ts,ha];rfl
  refine⟨.inl h0,⟨by have:=hw.1;omega,by have:=hw.2;omega⟩,by rw[ha];simp,fun k v t hk=>(by rw[ha]at hk;simp at hk),fun t yG=>(by rw[vY]at yG;cases yG),fun t yG=>(by rw[vY]at yG;cases yG),.inl ⟨h0,⟨by have:=hw.1;omega,by have:=hw.2;omega⟩,by rw[ht],by rw[ht]⟩,hL,jr,by omega,by omega⟩
 obtain⟨a,a1,a2,a3⟩:=h.of hu;obtain⟨b,b1,b2,b3⟩:=h.of xA;have vY:i.ts s.E=[(a:Int),(b:Int)]:=by rw[bI.ts,ha,List.map_cons,List.map_cons,List.map_nil,a2,b2]
 have mA:=a3.lt;have ru:=b3.lt;refine⟨?_,⟨by omega,by omega⟩,by rw[ha];simp,fun k w t hk ht=>?_,fun t yG=>?_,fun t yG=>?_,.inr ⟨a,b,_,_,_,_,vY,?_,?_,RQ⟩,hL,jr,by omega,by omega⟩
 ·rcases RQ.op with e|e|e
  ·exact .inr (.inl e)
  ·exact .inr (.inr (.inl e))
  exact .inr (.inr (.inr e))
 ·rw[ha]at hk;rw[vY]at ht
  match k,hk,ht with
  | 0,hk,ht =>
   simp at hk ht;rw[<-hk,<-ht];exact a1
  | 1,hk,ht =>
   simp at hk ht;rw[<-hk,<-ht];exact b1
  | k+2,hk,ht=>simp at hk
 ·rw[vY]at yG;simp only[List.mem_cons,List.not_mem_nil,or_false]at yG;rcases yG with e|e
  ·obtain⟨x,hx⟩:=a3.get;exact⟨a,x,e,hx⟩
  obtain⟨x,hx⟩:=b3.get;exact⟨b,x,e,hx⟩
 ·rw[vY]at yG;simp only[List.mem_cons,List.not_mem_nil,or_false]at yG;unfold Go.Proofs.YtocdpaifmnkoaaaGreatDoor.i64;rcases yG with e|e<;>omega
 ·rw[fW,hM];exact a3.more M
 rw[fW,hM];exact b3.more M
theorem uA(T:Int->Int×Int)(s:gJ)(i:bI){n late:Int}(hv:s.L[1]?=some ⟨200,n,[],late⟩):(∃M,(lP T s i).2=s.L++M∧M.length<=2)∧(EE s.L->EE (lP T s i).2)∧lY (lP T s i).2 (lP T s i).1 (T i.to).1 (T i.to).2:=by
 obtain⟨⟨⟨M,hM,UQ⟩,hu⟩,_⟩:=mf s.L (1000+i.op) i.n (i.ts s.E);have xA:(fW s i).2[1]?=some ⟨200,n,[],late⟩:=by
  rw[fW,hM,List.getElem?_append_left,hv];rcases Nat.lt_or_ge 1 s.L.length with q|q
  ·exact q
  rw[List.getElem?_eq_none q]at hv;cases hv
 obtain⟨⟨⟨N,hN,YY⟩,wQ⟩,hl⟩:=ER (fW s i).2 (T i.to).1 (T i.to).2 xA;refine⟨⟨M++N,?_,by rw[List.length_append];omega⟩,fun h=>wQ (hu h),hl⟩;rw[lP,hN,fW,hM,List.append_assoc]
theorem xV.next{T:Int->Int×Int}{ds:List Int}{s:gJ}(h:xV T ds s.L s.E)(i:bI):xV T (ds++[i.to]) (lP T s i).2 (cB s.E (.int .i64 i.to) (aI (lP T s i).1)):=by
 obtain⟨n,late,hv⟩:=h.var;obtain⟨⟨M,hM,_⟩,hu,hl⟩:=uA T s i hv;refine⟨hu h.uniq,⟨n,late,?_⟩,fun v xA=>?_,fun k=>jP (h.up k)⟩
 ·rw[hM,List.getElem?_append_left,hv];rcases Nat.lt_or_ge 1 s.L.length with q|q
  ·exact q
  rw[List.getElem?_eq_none q]at hv;cases hv
 by_cases e:i.to=v
 ·refine⟨(lP T s i).1,by rw[iY,if_pos e],?_⟩;rw[<-e];exact hl
 have hd:v∈ds:=by
  rcases List.mem_append.1 xA with q|q
  ·exact q
  simp only[List.mem_singleton]at q;exact absurd q.symm e
 obtain⟨t,h1,h2⟩:=h.env v hd;refine⟨t,by rw[iY,if_neg e,h1],?_⟩;rw[hM];exact h2.more M
structure UB(T:Int->Int×Int)(ds:List Int)(s s':gJ)(n:Nat):Prop where
 en:xV T ds s'.L s'.E
 grow:∃M,s'.L=s.L++M∧M.length<=2*n
theorem jQ{T:Int->Int×Int}{st:gJ->bI->gJ}(dD:∀s i,(st s i).L=(lP T s i).2∧(st s i).E=cB s.E (.int .i64 i.to) (aI (lP T s i).1)):∀(l:List bI) (ds:List Int) (s:gJ),xV T ds s.L s.E->UB T (ds++l.map (·.to)) s (l.foldl st s) l.length
 | [],ds,s,h=>⟨by simpa using h,[],by simp,by simp⟩
 | i::r,ds,s,h=>by
  obtain⟨n,late,hv⟩:=h.var;obtain⟨⟨M,hM,UR⟩,_,_⟩:=uA T s i hv;have h1:=h.next i
  rw[<-(dD s i).1,<-(dD s i).2]at h1;obtain⟨a1,N,hN,YZ⟩:=jQ dD r (ds++[i.to]) (st s i) h1;refine⟨by simpa using a1,M++N,?_,?_⟩
  ·rw[List.foldl_cons,hN,(dD s i).1,hM,List.append_assoc]
  rw[List.length_append,List.length_cons];omega
theorem xX.get{T:Int->Int×Int}:∀{l:List bI} {ds:List Int},xX T ds l->∀{k:Nat} {i:bI},l[k]?=some i->Ky T (ds++(l.take k).map (·.to)) i
 | [],_,_,k,i,h=>by simp at h
 | j::r,ds,h,0,i,hi=>by
  simp at hi;subst hi;simpa using h.1
 | j::r,ds,h,k+1,i,hi=>by
  have:=xX.get h.2 (k:=k) (i:=i) (by simpa using hi);simpa using this
theorem Iz{T:Int->Int×Int}{st:gJ->bI->gJ}(dD:∀s i,(st s i).L=(lP T s i).2∧(st s i).E=cB s.E (.int .i64 i.to) (aI (lP T s i).1)){l:List bI}{ds:List Int}{s:gJ}(h:xV T ds s.L s.E)(hr:xX T ds l)(hL:s.L.length+2*l.length<=900000000){k:Nat}{i:bI}(hi:l[k]?=some i):RK ((l.take k).foldl st s) i (T i.to).1 (T i.to).2:=by
 obtain⟨a1,M,hM,UR⟩:=jQ dD (l.take k) ds s h;refine xV.ex a1 (hr.get hi) ?_;have:(l.take k).length<=l.length:=by simp;omega
 rw[hM,List.length_append];omega
theorem vD(T:Int->Int×Int)(s:gJ)(i:bI):(pj T s i).L=(lP T s i).2∧(pj T s i).E=cB s.E (.int .i64 i.to) (aI (lP T s i).1):=⟨rfl,rfl⟩
theorem vE(T:Int->Int×Int)(s:gJ)(i:bI):(zd T s i).L=(lP T s i).2∧(zd T s i).E=cB s.E (.int .i64 i.to) (aI (lP T s i).1):=⟨rfl,rfl⟩
theorem Eu{T:Int->Int×Int}:∀(l:List bI) (s:gJ),qm s.W->qm s.D->qm (l.foldl (pj T) s).W∧qm (l.foldl (pj T) s).D
 | [],_,h1,h2=>⟨h1,h2⟩
 | i::r,s,h1,h2=>Eu r (pj T s i) (by
   simp only[pj];split
   ·exact h1
   exact h1.V0) (h2.put _)
theorem xO{T:Int->Int×Int}{t:Int}:∀(l:List bI) (s:gJ),bC s.W (.int .i64 t)=some (aI 1)->bC (l.foldl (pj T) s).W (.int .i64 t)=some (aI 1)
 | [],_,h=>h
 | i::r,s,h=>xO r (pj T s i) (by
   simp only[pj];split
   ·exact h
   exact xN h)
theorem Bi{T:Int->Int×Int}{v:Int}{t:Nat}:∀(l:List bI) (ds:List Int) (s:gJ),xV T ds s.L s.E->v∈ds->lY s.L t (T v).1 (T v).2->(∃i∈l,i.op≠0∧v∈i.args)->bC (l.foldl (pj T) s).W (.int .i64 t)=some (aI 1)
 | [],_,_,_,_,_,h=>by
  obtain⟨i,hi,_⟩:=h;cases hi
 | i::r,ds,s,h,hv,ht,⟨i',jt,ho,ha⟩=>by
  rcases List.mem_cons.1 jt with e|q
  ·subst e;refine xO r (pj T s i') ?_;simp only[pj,if_neg ho];refine Iw ?_;obtain⟨j,h1,h2,h3⟩:=h.of hv;have:j=t:=lY.inj h.uniq h3 ht;rw[bI.ts,List.mem_map];exact⟨v,ha,by rw[h2,this]⟩
  obtain⟨n,late,Yp⟩:=h.var;obtain⟨⟨M,hM,UR⟩,_,_⟩:=uA T s i Yp;refine Bi r (ds++[i.to]) (pj T s i) (h.next i) (List.mem_append_left _ hv) ?_ ⟨i',q,ho,ha⟩;show lY (lP T s i).2 _ _ _;rw[hM];exact ht.more M
theorem lY.wd{L:List cQ}{W:List (Value×aa)}{t:Nat}{p q:Int}(h:lY L t p q)(hw:qm W)(h1:bC W (.int .i64 1)=some (aI 1)):Pf L W t:=by
 rcases hw t with e|e
 ·cases h with
  | int h=>exact .inr ⟨e,t,_,rfl,h,.inl rfl⟩
  | var h =>
   rw[show((1:Nat):Int)=1 from rfl,h1]at e;cases e
  | sum _ _ h=>exact .inr ⟨e,t,_,rfl,h,.inr rfl⟩
 exact .inl e
theorem xV.wd{T:Int->Int×Int}{ds:List Int}{s:gJ}{i:bI}(h:xV T ds s.L s.E)(hi:Ky T ds i)(hw:qm s.W)(h1:bC s.W (.int .i64 1)=some (aI 1)):i.op≠0->∀t∈i.ts s.E,Pf (fW s i).2 s.W t:=fun ho t ht=>by
 obtain⟨⟨⟨M,hM,UQ⟩,_⟩,_⟩:=mf s.L (1000+i.op) i.n (i.ts s.E);rcases hi with⟨h0,_⟩|⟨u,v,ha,hu,xA,_⟩
 ·exact absurd h0 ho
 rw[bI.ts,List.mem_map]at ht;obtain⟨w,TJ,e⟩:=ht;have OU:w∈ds:=by
  rw[ha]at TJ;simp only[List.mem_cons,List.not_mem_nil,or_false]at TJ;rcases TJ with e|e<;>rw[e]<;>assumption
 obtain⟨j,_,h2,h3⟩:=h.of OU;rw[<-e,h2,fW,hM];exact(h3.more M).wd hw h1
theorem rZ{T:Int->Int×Int}:∀(l:List bI) (s:gJ),(l.foldl (zd T) s).W=s.W∧(l.foldl (zd T) s).D=s.D
 | [],_=>⟨rfl,rfl⟩
 | i::r,s=>rZ r (zd T s i)
theorem Dp{T:Int->Int×Int}{k:Nat}:∀(l:List bI) (s:gJ),ba k s.W->ba k s.D->ba k (l.foldl (pj T) s).W∧ba k (l.foldl (pj T) s).D
 | [],_,h1,h2=>⟨h1,h2⟩
 | i::r,s,h1,h2=>Dp r (pj T s i) (by
   simp only[pj];split
   ·exact h1
   exact od h1) (jP h2)
def du(a b way:Int):List bI :=
 [⟨1,0,a,[]⟩,⟨2,0,b,[]⟩]++(if way=0 then [⟨3,3,0,[0,1]⟩,⟨4,1,0,[3,2]⟩]else if way=1 then [⟨5,0,0,[]⟩,⟨6,2,0,[5,0]⟩,⟨3,3,0,[6,1]⟩,⟨4,2,0,[2,3]⟩]else [⟨5,0,1,[]⟩,⟨6,1,0,[0,5]⟩,⟨7,3,0,[1,6]⟩,⟨3,2,0,[2,1]⟩,⟨4,1,0,[7,3]⟩])
def bk(l:List bI):Func:=⟨-1,[⟨[0],l,⟨0,4,0,[],[]⟩⟩]⟩
theorem AV(to op n:Int)(l:List Int):bw Tryz.prog 14 [aI to,aI op,aI n,bp l] (bI.enc ⟨to,op,n,l⟩):=by
 refine zf true 0 Tryz.func14 Tryz.ntmps14 ?_;dsimp only[Tmp,TypeId,slotsOf];refine az (ai ?_);refine az (ai ?_);refine ak ?_;simp -dsimp only[simprocAttr,↓I,zp,zr,Tryz.results14];exact⟨by simp[av,aa.upto,ay],rfl⟩
theorem Lu(to op n:Int):bw Tryz.prog 14 [aI to,aI op,aI n,.v (.slice none 0 0)] (bI.enc ⟨to,op,n,[]⟩) :=
 aK.args (AV to op n []) rfl (fun j c d hc hd=>by
  match j,hc,hd with
  | 0,hc,hd=>simp at hc hd;subst hc;subst hd;exact Sub.refl _
  | 1,hc,hd=>simp at hc hd;subst hc;subst hd;exact Sub.refl _
  | 2,hc,hd=>simp at hc hd;subst hc;subst hd;exact Sub.refl _
  | 3,hc,hd=>simp at hc hd;subst hc;subst hd;exact Sub.nil rfl (fun _ h=>by cases h) (fun h=>by cases h)
  | j+4,hc,hd=>simp at hc)
theorem rV(a b way:Int):bw Tryz.prog 7 [aI a,aI b,aI way] (bk (du a b way)).enc:=by
 have hn:=Lu;have hi:=AV;by_cases h0:way=0
 ·have e0:decide (way=0)=true:=decide_eq_true h0;rw[show du a b way=[⟨1,0,a,[]⟩,⟨2,0,b,[]⟩,⟨3,3,0,[0,1]⟩,⟨4,1,0,[3,2]⟩] by rw[du,if_pos h0];rfl];refine zf true 0 Tryz.func7 Tryz.ntmps7 ?_;dsimp only[Tmp,TypeId,slotsOf];refine az (ai ?_);refine az (ai ?_);refine az ?_;refine .inl ⟨_,hn 1 0 a,by simp only[av,aa.upto,zt,zu,ay,aU],ae ?_⟩;simp -dsimp only[simprocAttr,↓I,zp];refine .inl ⟨_,hn 2 0 b,by simp only[av,aa.upto,zt,zu,ay,aU],ae ?_⟩;simp -dsimp only[simprocAttr,↓I,zp];refine ai ?_;refine bS (ai ?_);refine ah ?_;refine aG ?_;simp -dsimp only[simprocAttr,↓I,zp,e0];refine ai ?_;apply aF rfl<;>intro h;rotate_left
  ·cases h
  refine dA ?_;refine .inl ⟨_,hi 3 3 0 [0,1],by simp only[av,aa.upto,zt,zu,ay,aU],ae ?_⟩;simp -dsimp only[simprocAttr,↓I,zp];refine .inl ⟨_,hi 4 1 0 [3,2],by simp only[av,aa.upto,zt,zu,ay,aU],ae ?_⟩;simp -dsimp only[simprocAttr,↓I,zp];refine ai ?_;refine az (ai ?_);refine ak ?_;simp -dsimp only[simprocAttr,↓I,zp,zr,Tryz.results7];exact⟨by simp[av,aa.upto,bI.enc],rfl⟩
 have e0:decide (way=0)=false:=decide_eq_false h0;by_cases h1:way=1
 ·have e1:decide (way=1)=true:=decide_eq_true h1;rw[show du a b way=[⟨1,0,a,[]⟩,⟨2,0,b,[]⟩,⟨5,0,0,[]⟩,⟨6,2,0,[5,0]⟩,⟨3,3,0,[6,1]⟩,⟨4,2,0,[2,3]⟩] by rw[du,if_neg h0,if_pos h1];rfl];refine zf true 0 Tryz.func7 Tryz.ntmps7 ?_;dsimp only[Tmp,TypeId,slotsOf];refine az (ai ?_);refine az (ai ?_);refine az ?_;refine .inl ⟨_,hn 1 0 a,by simp only[av,aa.upto,zt,zu,ay,aU],ae ?_⟩;simp -dsimp only[simprocAttr,↓I,zp];refine .inl ⟨_,hn 2 0 b,by simp only[av,aa.upto,zt,zu,ay,aU],ae ?_⟩;simp -dsimp only[simprocAttr,↓I,zp];refine ai ?_;refine bS (ai ?_);refine ah ?_;refine aG ?_;simp -dsimp only[simprocAttr,↓I,zp,e0];refine ai ?_;apply aF rfl<;>intro h
  ·cases h
  refine aG ?_;simp -dsimp only[simprocAttr,↓I,zp,e1];refine ai ?_;apply aF rfl<;>intro h;rotate_left
  ·cases h
  refine dA ?_;refine .inl ⟨_,hn 5 0 0,by simp only[av,aa.upto,zt,zu,ay,aU],ae ?_⟩;simp -dsimp only[simprocAttr,↓I,zp];refine .inl ⟨_,hi 6 2 0 [5,0],by simp only[av,aa.upto,zt,zu,ay,aU],ae ?_⟩;simp -dsimp only[simprocAttr,↓I,zp];refine .inl ⟨_,hi 3 3 0 [6,1],by simp only[av,aa.upto,zt,zu,ay,aU],ae ?_⟩;simp -dsimp only[simprocAttr,↓I,zp];refine .inl ⟨_,hi 4 2 0 [2,3],by simp only[av,aa.upto,zt,zu,ay,aU],ae ?_⟩;simp -dsimp only[simprocAttr,↓I,zp];refine ai ?_;refine az (ai ?_);refine ak ?_;simp -dsimp only[simprocAttr,↓I,zp,zr,Tryz.results7];exact⟨by simp[av,aa.upto,bI.enc],rfl⟩
 have e1:decide (way=1)=false:=decide_eq_false h1;rw[show du a b way=[⟨1,0,a,[]⟩,⟨2,0,b,[]⟩,⟨5,0,1,[]⟩,⟨6,1,0,[0,5]⟩,⟨7,3,0,[1,6]⟩,⟨3,2,0,[2,1]⟩,⟨4,1,0,[7,3]⟩] by rw[du,if_neg h0,if_neg h1];rfl];refine zf true 0 Tryz.func7 Tryz.ntmps7 ?_;dsimp only[Tmp,TypeId,slotsOf];refine az (ai ?_);refine az (ai ?_);refine az ?_;refine .inl ⟨_,hn 1 0 a,by simp only[av,aa.upto,zt,zu,ay,aU],ae ?_⟩;simp -dsimp only[simprocAttr,↓I,zp];refine .inl ⟨_,hn 2 0 b,by simp only[av,aa.upto,zt,zu,ay,aU],ae ?_⟩;simp -dsimp only[simprocAttr,↓I,zp];refine ai ?_;refine bS (ai ?_);refine ah ?_;refine aG ?_;simp -dsimp only[simprocAttr,↓I,zp,e0];refine ai ?_;apply aF rfl<;>intro h
 ·cases h
 refine aG ?_;simp -dsimp only[simprocAttr,↓I,zp,e1];refine ai ?_;apply aF rfl<;>intro h
 ·cases h
 refine dA ?_;refine .inl ⟨_,hn 5 0 1,by simp only[av,aa.upto,zt,zu,ay,aU],ae ?_⟩;simp -dsimp only[simprocAttr,↓I,zp];refine .inl ⟨_,hi 6 1 0 [0,5],by simp only[av,aa.upto,zt,zu,ay,aU],ae ?_⟩;simp -dsimp only[simprocAttr,↓I,zp];refine .inl ⟨_,hi 7 3 0 [1,6],by simp only[av,aa.upto,zt,zu,ay,aU],ae ?_⟩;simp -dsimp only[simprocAttr,↓I,zp];refine .inl ⟨_,hi 3 2 0 [2,1],by simp only[av,aa.upto,zt,zu,ay,aU],ae ?_⟩;simp -dsimp only[simprocAttr,↓I,zp];refine .inl ⟨_,hi 4 1 0 [7,3],by simp only[av,aa.upto,zt,zu,ay,aU],ae ?_⟩;simp -dsimp only[simprocAttr,↓I,zp];refine ai ?_;refine az (ai ?_);refine ak ?_;simp -dsimp only[simprocAttr,↓I,zp,zr,Tryz.results7];exact⟨by simp[av,aa.upto,bI.enc],rfl⟩
theorem jn(x n:Int)(hx:i64 x)(hn:0<n)(Fk:n<=1000):bw Tryz.prog 4 [aI x,aI n] (aI (x % n)):=by
 have h1:=Int.emod_nonneg x (show n≠0 by omega);have h2:=Int.emod_lt_of_pos x hn;have hr:x.tmod n=if 0<=x∨x % n=0 then x % n else x % n-n:=by
  rw[Int.tmod_eq_emod];split
  ·rename_i q;have hd:(n ∣ x)↔x % n=0:=Int.dvd_iff_emod_eq_zero;rw[if_pos (q.imp id hd.1)];simp
  rename_i q;have hd:(n ∣ x)↔x % n=0:=Int.dvd_iff_emod_eq_zero;rw[if_neg (fun z=>q (z.imp id hd.2))];omega
 unfold i64 at hx;have vW:(n=0)=False:=eq_false (by omega);obtain⟨m,hm⟩:∃m,m=x.tmod n:=⟨_,rfl⟩
 have nj:-9223372036854775808<=m∧m<=9223372036854775807:=by
  rw[hm,hr];split<;>omega
 by_cases Fo:m<0
 ·have hd:decide (m<0)=true:=decide_eq_true Fo;have he:m+n=x % n:=by
   rw[hm,hr]at Fo ⊢;split
   ·rename_i q;rw[if_pos q]at Fo;omega
   omega
  refine zf true 0 Tryz.func4 Tryz.ntmps4 ?_;dsimp only[Tmp,TypeId,slotsOf];refine az (ai ?_);refine bR ?_;simp -dsimp only[simprocAttr,↓I,zp,<-hm,vW,if_false]
  repeat(refine⟨by omega,?_⟩)
  refine ai ?_;refine aG ?_;simp -dsimp only[simprocAttr,↓I,zp,hd];refine ai ?_;apply aF rfl<;>intro h;rotate_left
  ·cases h
  refine dA ?_
  repeat(refine⟨by omega,?_⟩)
  refine ai ?_;refine az (ai ?_);refine ak ?_;simp -dsimp only[simprocAttr,↓I,zp,zr,Tryz.results4];rw[he]
 have hd:decide (m<0)=false:=decide_eq_false Fo;have he:m=x % n:=by
  rw[hm,hr]at Fo ⊢;split
  ·rfl
  rename_i q;rw[if_neg q]at Fo;omega
 refine zf true 0 Tryz.func4 Tryz.ntmps4 ?_;dsimp only[Tmp,TypeId,slotsOf];refine az (ai ?_);refine bR ?_;simp -dsimp only[simprocAttr,↓I,zp,<-hm,vW,if_false]
 repeat(refine⟨by omega,?_⟩)
 refine ai ?_;refine aG ?_;simp -dsimp only[simprocAttr,↓I,zp,hd];refine ai ?_;apply aF rfl<;>intro h
 ·cases h
 refine bZ ?_;refine az (ai ?_);refine ak ?_;simp -dsimp only[simprocAttr,↓I,zp,zr,Tryz.results4];rw[he]
def bF(f:Func)(df hm:List (Value×aa)):aa:=.ip none [aI f.name,aM f.blocks,bp [-1],.aB 1 [bp []] .sh,.im (.int .i64) df,.im (.int .i64) hm]
theorem LH:bw Tryz.prog 123 [.aB 1 [] .sh] (.cN []):=by
 refine zf true 0 Tryz.func123 Tryz.ntmps123 ?_;dsimp only[Tmp,TypeId,slotsOf];refine aG ?_;simp -dsimp only[simprocAttr,↓I,zp,au];refine ai ?_;refine ah (bJ 0 ?_);refine bR ?_;simp -dsimp only[simprocAttr,↓I,zp,au];refine ai ?_;apply aF rfl<;>intro h
 ·cases h
 refine aN ?_;simp -dsimp only[bH,ne_eq,Nat.reduceEqDiff,reduceCtorEq,a7]
 skip
 simp -dsimp only[simprocAttr,↓I,zp,au,zr,Tryz.results123];trivial
theorem tI(f:Func)(df hm:List (Value×aa)):bw Tryz.prog 76 [bF f df hm,aI 0] (.aB 1 [] .ex):=by
 unfold bF;refine zf false 0 Tryz.func76 Tryz.ntmps76 ?_;dsimp only[Tmp,TypeId,slotsOf];refine aG ?_;simp -dsimp only[simprocAttr,↓I,zp,au];refine ai ?_;refine aG ?_;simp -dsimp only[simprocAttr,↓I,zp,au];refine ai ?_;refine bR ?_;simp -dsimp only[simprocAttr,↓I,zp,au];refine ai ?_;refine ah (bJ 0 ?_);refine bR ?_;simp -dsimp only[simprocAttr,↓I,zp,au];refine ai ?_;apply aF rfl<;>intro h
 ·cases h
 refine aN ?_;simp -dsimp only[bH,ne_eq,Nat.reduceEqDiff,reduceCtorEq,a7];refine aG ?_;simp -dsimp only[simprocAttr,↓I,zp,au];refine .inl ⟨_,LH,by simp only[av,aa.upto,zt,zu,ay,aU],ae ?_⟩;simp -dsimp only[simprocAttr,↓I,zp,au];refine ai ?_;refine aG ?_;simp -dsimp only[simprocAttr,↓I,zp,au];refine ai ?_;refine ak ?_;simp -dsimp only[simprocAttr,↓I,zp,au,zr,Tryz.results76];trivial
theorem Di(f:Func)(df hm:List (Value×aa)){b:Block}{v:Int}(hb:f.blocks[0]?=some b)(hv:CE b.params v=true)(hh:bC hm (.int .i64 v)=some (aI 0))(up:ba 0 hm∧ba 0 df):bw Tryz.prog 44 [bF f df hm,aI v,aI 0] (.v (.bool true)):=by
 have hc:=pf b.params v;rw[hv]at hc;unfold bF;refine zf true 0 Tryz.func44 Tryz.ntmps44 ?_;dsimp only[Tmp,TypeId,slotsOf];refine aG ?_;simp -dsimp only[simprocAttr,↓I,zp,au];refine ai ?_;refine aG ?_;simp -dsimp only[simprocAttr,↓I,zp,au,hh];refine ai ?_;refine bR ?_;simp -dsimp only[simprocAttr,↓I,zp,au];refine ai ?_;apply aF rfl<;>intro h
 ·cases h
 refine bZ ?_;refine bR ?_;simp -dsimp only[simprocAttr,↓I,zp,au];refine ai ?_;apply aF rfl<;>intro h;rotate_left
 ·cases h
 refine aG ?_;simp -dsimp only[simprocAttr,↓I,zp,au,hb];refine .inl ⟨_,hc,by simp only[av,aa.upto,zt,zu,ay,aU],ae ?_⟩;simp -dsimp only[simprocAttr,↓I,zp,au];refine ai ?_;refine ak ?_;simp -dsimp only[simprocAttr,↓I,zp,au,zr,Tryz.results44]
theorem A5(f:Func)(df hm:List (Value×aa)){v:Int}(hd:bC df (.int .i64 v)=none):bw Tryz.prog 45 [bF f df hm,aI v] (.v (.bool true)):=by
 unfold bF;refine zf true 0 Tryz.func45 Tryz.ntmps45 ?_;dsimp only[Tmp,TypeId,slotsOf];refine aG ?_;simp -dsimp only[simprocAttr,↓I,zp,au];refine ai ?_;refine aG ?_;simp -dsimp only[simprocAttr,↓I,zp,au,hd,List.getD_cons_zero];refine ai ?_;refine aG ?_;simp -dsimp only[simprocAttr,↓I,zp,au];refine ai ?_;refine ak ?_;simp -dsimp only[simprocAttr,↓I,zp,au,zr,Tryz.results45]
def yV(f:Func):aa:=if bM f=0 then .cN [.aB 1 ((iC f).map bp) .sh,aI 0]else .cN [.aB 1 [] .sh,aI (bM f)]
def N9(c:Nat)(ls:List (List Int)):Prop:=∀l∈ls,l.length<=c
theorem N9.push{c:Nat}{ls:List (List Int)}(h:N9 c ls){j:Nat}{l:List Int}(hj:ls[j]?=some l)(k:Int):N9 (c+1) (ls.set j (l++[k])):=fun m hm=>by
 rcases List.mem_or_eq_of_mem_set hm with q|q
 ·have:=h m q;omega
 subst q;have:=h l (List.mem_of_getElem? hj);simp;omega
theorem N9.mono{c d:Nat}{ls:List (List Int)}(h:N9 c ls)(hd:c<=d):N9 d ls:=fun l hl=>Nat.le_trans (h l hl) hd
theorem vr(f:Func)(fU:f.fit):bw Tryz.prog 39 [f.enc] (yV f):=by
 have CH:=gM f fU;unfold yV;by_cases hc:bM f=0
 ·rw[if_pos hc];rw[hc]at CH;have hw:=gX fU hc;have hn:f.blocks.length<=128:=hw.oX;obtain⟨N,hN⟩:∃N,N=f.blocks.length:=⟨_,rfl⟩
  obtain⟨R,hR⟩:∃R,R=iC f:=⟨_,rfl⟩
  have Y0:R.length=N:=by rw[hR,hN,iC,rX];simp
  rw[<-hR];unfold iC at hR;refine zf true 0 Tryz.func39 Tryz.ntmps39 ?_;dsimp only[Tmp,TypeId,slotsOf];refine az (ai ?_);refine aR 1 0 (.ip none [aI f.name,aM f.blocks]) rfl (by simp[aq.aJ]) trivial rfl ?_ ?_;rotate_left;simp -dsimp only[simprocAttr,↓I,zp]
  ·refine bS ?_;refine zi CH ?_;refine ai ?_;refine az (ai ?_);apply aF rfl<;>intro h
   ·cases h
   refine bZ ?_;refine aG ?_;simp -dsimp only[simprocAttr,↓I,zp,FK,<-hN];refine⟨by omega,by omega,?_⟩;refine ai ?_;have Yc:PO (List.replicate N []) (([aq.gone,aq.cells []]++List.replicate N (aq.spare 0)).set 1 (.cells ((List.range N).map fun j=>.aB 1 [] (.tok ([aq.gone,aq.cells []].length+j))))):=by
    refine⟨by simp,?_,fun j l hj=>?_,?_⟩
    ·rw[List.getElem?_set_self (by simp),A7];rfl
    ·have jo:=ag hj;rw[List.length_replicate]at jo;rw[List.getElem?_set_ne (by omega),List.getElem?_append_right (by simp)];simp only[List.length_cons,List.length_nil,Nat.zero_add,Nat.add_sub_cancel_left];simp[jo]at hj ⊢;rw[hj];rfl
    rw[<-A7];have:=bT (k:=1) (n:=N+2) (x:=.cells (lg 2 (List.replicate N []))) (O:=[aq.gone,aq.cells []]++List.replicate N (aq.spare 0)) (fun o ho=>by
     rcases List.mem_append.1 ho with q|q
     ·simp at q;rcases q with rfl|rfl<;>trivial
     rw[(List.mem_replicate.1 q).2];trivial) (xF (by simp;omega))
    simpa using this
   show cG Tryz.prog _ _ _ ⟨_,_,List.set [aq.gone,aq.cells []] 1 (.cells (List.replicate N (aa.aB 1 [] .ex)))⟩;refine B4 1 N (by simp) ?_;generalize ([aq.gone,aq.cells []]++List.replicate N (aq.spare 0)).set 1 (.cells ((List.range N).map fun j=>.aB 1 [] (.tok ([aq.gone,aq.cells []].length+j))))=O0 at *;rw[<-hN]at hR;refine bR ?_;simp -dsimp only[simprocAttr,↓I,zp,<-hN];refine ai ?_;refine ah (a8 (ι:={p:Nat×List (List Int)×List aq // p.1<=N∧PO p.2.1 p.2.2∧p.2.1.length=N∧N9 (p.1*257) p.2.1∧R=n7 p.1 p.2.1 (f.blocks.drop p.1)}) (fun p=>⟨50,[(1,.ip none [aI f.name,aM f.blocks]),(5,.ms 1 0 N N),(20,aM f.blocks),(21,aI N),(22,aI p.1.1)],p.1.2.2⟩) (fun p=>N-p.1.1) ⟨(0,_,O0),by simp,Yc,by simp,by intro l hl;simp[(List.mem_replicate.1 hl).2],hR⟩ ?_ ?_)
   ·refine zq rfl ?_ ?_;simp -dsimp only[simprocAttr,↓I,zp,zc]
    all_goals rfl
   rintro⟨⟨k,ls,O⟩,hk,hp,Km,vU,gV⟩;simp only at hk hp Km vU gV;have UT:=hp.len;have aW:=hp.up;refine az (ai ?_);apply fK rfl<;>intro h
   ·refine bZ ?_;have bd:k<N:=by simpa using h
    obtain⟨b,hb⟩:∃b,f.blocks[k]?=some b:=⟨f.blocks[k]'(by omega),List.getElem?_eq_getElem _⟩
    have Gr:=List.mem_of_getElem? hb;have lf:=yu (hw.blk b Gr).fin;have Gt:b.term.to.length<=257:=by
     rcases(show(b.term.kind=0∨b.term.kind=4)∨b.term.kind=1∨b.term.kind=2∨b.term.kind=3 by have:=lf.kind;omega)with q|q|q|q
     ·rw[lf.to q];simp
     ·rw[lf.jump q];omega
     ·rw[lf.cond q];omega
     rw[lf.switch q];have:=lf.cases;omega
    rw[dL hb]at gV;simp only[n7]at gV;obtain⟨L1,jr⟩:∃L1,L1=mi k ls b.term.to:=⟨_,rfl⟩
    rw[<-jr]at gV;refine aL (ah ?_);refine aG ?_;simp -dsimp only[simprocAttr,↓I,zp,hb];refine ai ?_;refine aZ 7 ([bp b.params,cS b.ins,aI b.term.kind,aI b.term.arg,aI b.term.n,bp b.term.cases,bq b.term.to]) [(1,.ip none [aI f.name,aM f.blocks]),(5,.ms 1 0 N N),(20,aM f.blocks),(21,aI N),(22,aI k),(6,aI k),(7,.ip none [bp b.params,cS b.ins,aI b.term.kind,aI b.term.arg,aI b.term.n,bp b.term.cases,bq b.term.to])] (by simp[cd,bG,Go.Av.look]) (by rfl) (by omega) (by simp[cd,bG,Go.Av.look]) ?_ ?_ ?_
    ·exact aW
    ·simp[aa.upto,av,ay,Edge.aj,bI.aj,Block.aj,UT]
    refine az (ai ?_);refine ah (a8 (ι:={p:Nat×List (List Int)×List aq // p.1<=b.term.to.length∧PO p.2.1 p.2.2∧p.2.1.length=N∧N9 (k*257+p.1) p.2.1∧L1=mi k p.2.1 (b.term.to.drop p.1)}) (fun p=>⟨50,[(1,.ip none [aI f.name,aM f.blocks]),(5,.ms 1 0 N N),(20,aM f.blocks),(21,aI N),(22,aI k),(6,aI k),(29,bq b.term.to),(30,aI b.term.to.length),(31,aI p.1.1)],p.1.2.2⟩) (fun p=>b.term.to.length-p.1.1) ⟨(0,ls,O),by simp,hp,Km,vU,jr⟩ ?_ ?_)
    ·refine zq rfl ?_ ?_;simp -dsimp only[simprocAttr,↓I,zp,zc]
     all_goals rfl
    rintro⟨⟨z,ls,O⟩,hz,hp,Km,vU,ql⟩;simp only at hz hp Km vU ql;have UT:=hp.len;have aW:=hp.up;refine az (ai ?_);apply fK rfl<;>intro h
    ·refine bZ ?_;have Uo:z<b.term.to.length:=by simpa using h
     obtain⟨e,he⟩:∃e,b.term.to[z]?=some e:=⟨b.term.to[z],by simp[Uo]⟩
     have Kf:=(lf.ni e (List.mem_of_getElem? he)).1;rw[dL he]at ql;simp only[mi,List.foldl_cons]at ql;obtain⟨j,hj⟩:∃j:Nat,e.block=(j:Int):=⟨e.block.toNat,by omega⟩
     have Vg:j<N:=by omega
     obtain⟨l,hl⟩:∃l,ls[j]?=some l:=⟨ls[j]'(by omega),List.getElem?_eq_getElem _⟩
     have Vu:mj k ls e=ls.set j (l++[(k:Int)]):=by simp[mj,hj,hl]
     rw[Vu]at ql;have eo:=Ir (b:=2) hl;have sB:=hp.sp j l hl;have zF:=hp.push hl k;have wN:=Is (b:=2) (ls:=ls) (j:=j) (l++[(k:Int)]);rw[List.map_append]at wN;have Ze:=vU l (List.mem_of_getElem? hl);have fP:=hp.arr;have Sy:=bN (k:=1) (j:=2+j) (y:=.spare (l.length+1)) fP (by omega);refine aL (ah ?_);refine aG ?_;simp -dsimp only[simprocAttr,↓I,zp,he];refine ai ?_;refine aZ 9 ([aI e.block,bp e.args]) [(1,.ip none [aI f.name,aM f.blocks]),(5,.ms 1 0 N N),(20,aM f.blocks),(21,aI N),(22,aI k),(6,aI k),(29,bq b.term.to),(30,aI b.term.to.length),(31,aI z),(9,.ip none [aI e.block,bp e.args])] (by simp[cd,bG,Go.Av.look]) (by rfl) (by omega) (by simp[cd,bG,Go.Av.look]) ?_ ?_ ?_
     ·exact aW
     ·simp[aa.upto,av,ay,Edge.aj,bI.aj,Block.aj,UT]
     refine fE ?_;simp -dsimp only[simprocAttr,↓I,zp,hj,fP,eo,sB,Sy,wN,Int.toNat_natCast,Nat.mul_one,List.length_map,List.length_set];refine⟨by omega,by omega,by omega,by omega,by rw[vh];omega,?_⟩;refine⟨cm [1,2+j] O.length [.pure,.pure,.pure,.pure,.pure,.pure,.pure,.rd 0,.pure,.pure,.wr 2 [1],.pure,.wr 2 [0]] (by simp;omega) (by simp;omega) rfl rfl (by kernel_rfl),aY ?_⟩;simp -dsimp only[bH,ne_eq,Nat.reduceEqDiff,reduceCtorEq];have Tu:(lg 2 ls).set j (.aB 1 (l.map aI++[.v (.int .i64 k)]) (.tok (2+j)))=lg 2 (ls.set j (l++[(k:Int)])):=wN;rw[gS _ (by rw[vh];omega),Tu];refine dA ?_
     repeat(refine⟨by omega,?_⟩)
     refine kv ?_;refine⟨⟨(z+1,_,_),by simp only;omega,zF,by simp[Km],vU.push hl k,ql⟩,by simp;omega,?_⟩;refine zq rfl ?_ ?_;simp -dsimp only[simprocAttr,↓I,zp,zc]
     ·exact Sub.int (by simp)
     rfl
    refine aN ?_;simp -dsimp only[bH,ne_eq,Nat.reduceEqDiff,reduceCtorEq];have Qs:z=b.term.to.length:=by simp at h;omega
    subst Qs;rw[List.drop_length]at ql;simp only[mi,List.foldl_nil]at ql;subst ql;refine dA ?_
    repeat(refine⟨by omega,?_⟩)
    refine kv ?_;refine⟨⟨(k+1,_,O),by simp only;omega,hp,Km,vU.mono (by omega),gV⟩,by simp;omega,?_⟩;refine zq rfl ?_ ?_;simp -dsimp only[simprocAttr,↓I,zp,zc]
    ·exact Sub.int (by simp)
    rfl
   refine aN ?_;simp -dsimp only[bH,ne_eq,Nat.reduceEqDiff,reduceCtorEq];have fk:k=N:=by simp at h;omega
   subst fk;rw[hN,List.drop_length]at gV;simp only[n7]at gV;subst gV;have Qf:=Db 2 R;have kB:(lg 2 R).length=k:=by rw[vh,Km]
   refine aR 5 1 (o:=.cells (lg 2 R)) (.aB 1 (R.map bp) .sh) hp.arr (by simp[aq.aJ]) trivial rfl (cw.ms (cs:=lg 2 R) hp.arr (by intro x hx;obtain⟨l,_,rfl⟩:=List.mem_map.1 hx;rfl) (by rw[List.length_map,Km]) (by rw[List.drop_zero,Nat.mul_one,<-kB,List.take_length,Qf])) ?_;simp -dsimp only[simprocAttr,↓I,zp];refine az (ai ?_);refine ak ?_;simp -dsimp only[simprocAttr,↓I,zp,zr,Tryz.results39];simp only[av,aa.upto,and_true];rw[a6];intro x hx;obtain⟨l,_,rfl⟩:=List.mem_map.1 hx;exact⟨ay _ _,trivial⟩
  exact cw.mp rfl rfl
 rw[if_neg hc];obtain⟨e,he⟩:∃e,e=bM f:=⟨_,rfl⟩
 rw[<-he]at hc CH ⊢;have tv:decide (e=0)=false:=decide_eq_false hc;refine zf true 0 Tryz.func39 Tryz.ntmps39 ?_;dsimp only[Tmp,TypeId,slotsOf];refine az (ai ?_);refine aR 1 0 (.ip none [aI f.name,aM f.blocks]) rfl (by simp[aq.aJ]) trivial rfl ?_ ?_;rotate_left;simp -dsimp only[simprocAttr,↓I,zp]
 ·refine bS ?_;refine zi CH ?_;refine ai ?_;refine aG ?_;simp -dsimp only[simprocAttr,↓I,zp,tv];refine ai ?_;refine dS rfl ?_;refine az (ai ?_);refine ak ?_;simp -dsimp only[simprocAttr,↓I,zp,zr,Tryz.results39];simp[av,aa.upto]
 exact cw.mp rfl rfl
def LA(kh:Nat)(l:List Int):aa:=if l=[]then .aB 1 [] .ex else .os kh l.length 1
theorem uj(x:Value):aw [aa.v x]=[aa.v x]:=rfl
theorem xb(id len sz:Nat):(aa.os id len sz).cells=[aa.os id len sz]:=rfl
theorem FB{O:List aq}(aW:∀o∈O,o.upto O.length)(h1:O[1]?=some (.cells [.aB 1 [] .ex]))(k:Int) :
  aK Tryz.prog 159 O [aI k,.mp 1 0] (fun r O'=>r=.cN []∧O'=(O++[aq.cells [aI k]]).set 1 (.cells [.os O.length 1 1])):=by
 have hl:=ag h1;have KV:∀X,(O++X)[1]?=some (.cells [.aB 1 [] .ex]):=fun X=>dK h1;have fk:O.length<=O.length+1:=by omega
 refine dE hT true (O.length+1) Tryz.func159 rfl (by kernel_rfl) (by simp[Tryz.ntmps159]) (by assumption) ?_;show cG Tryz.prog _ _ _ ⟨7,_,_⟩;dsimp only[Tmp,TypeId,slotsOf];have mL:((O++[aq.cells [aa.v (.int .i64 k)]]).set 1 (.cells [.os O.length 1 1])).take (O.length+1)=(O++[aq.cells [aa.v (.int .i64 k)]]).set 1 (.cells [.os O.length 1 1]):=List.take_of_length_le (by simp);refine RG ?_;simp -dsimp only[simprocAttr,↓I,zp,h1,KV,uj,xb];refine⟨trivial,?_⟩;refine aY ?_;simp -dsimp only[simprocAttr,↓I,zp,zr,Tryz.results159,mL,List.length_set,List.length_append];exact⟨bT (kZ (fun o ho=>aq.cR (by omega) (aW o ho)) ⟨trivial,trivial⟩) ⟨show _<_ by omega,trivial⟩,trivial⟩
theorem H'{O:List aq}(aW:∀o∈O,o.upto O.length){kh:Nat}{l:List Int}(h1:O[1]?=some (.cells [.os kh l.length 1]))(h2:O[kh]?=some (.cells (l.map aI)))(ho:kh≠1)(Tb:l.length<=1000)(k:Int) :
  aK Tryz.prog 159 O [aI k,.mp 1 0] (fun r O'=>r=.cN []∧O'=(O.set kh .gone++[aq.cells ((l++[k]).map aI)]).set 1 (.cells [.os O.length (l.length+1) 1])):=by
 have hl:=ag h1;have KV:∀X,(O.set kh .gone++X)[1]?=some (.cells [.os kh l.length 1]):=fun X=>dK (bN h1 ho);have fk:O.length<=O.length+1:=by omega
 refine dE hT true (O.length+1) Tryz.func159 rfl (by kernel_rfl) (by simp[Tryz.ntmps159]) (by assumption) ?_;show cG Tryz.prog _ _ _ ⟨7,_,_⟩;dsimp only[Tmp,TypeId,slotsOf];refine RG ?_;simp -dsimp only[simprocAttr,↓I,zp,h1,KV,h2,uj,xb];refine⟨by simp,by omega,by omega,?_⟩;have Sv:(l.map aI).take (l.length*1)=l.map aI:=List.take_of_length_le (by simp);have mL:((O.set kh .gone++[aq.cells (l.map aI++[aa.v (.int .i64 k)])]).set 1 (.cells [.os O.length (l.length+1) 1])).take (O.length+1)=(O.set kh .gone++[aq.cells (l.map aI++[aa.v (.int .i64 k)])]).set 1 (.cells [.os O.length (l.length+1) 1]):=List.take_of_length_le (by simp);refine⟨trivial,?_⟩;refine aY ?_;simp -dsimp only[simprocAttr,↓I,zp,zr,Tryz.results159,Sv,mL,List.length_set,List.length_append];refine⟨bT (kZ (bT (fun o ho=>aq.cR (by omega) (aW o ho)) trivial) ?_) ⟨show _<_ by omega,trivial⟩,trivial,by simp⟩;show av _ _;have:=ay (O.length+1) (l++[k]);simpa using this

end Go.Proofs.YtocdpaifmnkoaaaGreatDoor
namespace Go.Av

end Go.Av
namespace Go.Proofs.YtocdpaifmnkoaaaGreatDoor
open Go.Av
theorem DY(n:Nat)(l:List Bool):av n (l.map eB):=by
 rw[a6];intro x hx;obtain⟨b,_,rfl⟩:=List.mem_map.1 hx;trivial
theorem As(n:Nat):(List.replicate n [aa.v (.bool false)]).flatten=(List.replicate n false).map eB:=by
 induction n with
 | zero=>rfl
 | succ n ih=>rw[List.replicate_succ,List.flatten_cons,ih,List.replicate_succ];rfl
structure Sr where
 seen:List Bool
 st:List (Int×Int)
 out:List Int
def mv(f:Func)(b:Int):List Edge:=(bQ f b).term.to
def dH(f:Func)(b e:Int):Int:=((mv f b)[e.toNat]?.getD default).block
def fA(f:Func)(S:Sr):Sr :=
 match S.st with
 | []=>S
 | (b,e)::r =>
  if e=(mv f b).length then⟨S.seen,r,S.out++[b]⟩
  else if S.seen[(dH f b e).toNat]?.getD false=true then⟨S.seen,(b,e+1)::r,S.out⟩
  else⟨S.seen.set (dH f b e).toNat true,(dH f b e,0)::(b,e+1)::r,S.out⟩
def ju(f:Func):Nat->Sr->Sr
 | 0,S=>S
 | n+1,S=>if S.st.isEmpty then S else ju f n (fA f S)
def de(f:Func):Sr:=⟨(List.replicate f.blocks.length false).set 0 true,[(0,0)],[]⟩
def jR(f:Func):List Int:=(ju f 100000 (de f)).out
structure v7(f:Func)(S:Sr):Prop where
 len:S.seen.length=f.blocks.length
 blk:∀p∈S.st,0<=p.1∧p.1<f.blocks.length∧0<=p.2∧p.2<=(mv f p.1).length
 oX:S.out.length+S.st.length<=S.seen.countP id
 outs:∀b∈S.out,0<=b∧b<f.blocks.length
def R9:List (Int×Int)->Nat
 | []=>0
 | p::r=>(258-p.2.toNat)+R9 r
def Ku(S:Sr):Nat:=300*(S.seen.length-S.seen.countP id)+R9 S.st
structure vT(f:Func):Prop where
 ne:f.blocks≠[]
 oX:f.blocks.length<=128
 to:∀b∈f.blocks,b.term.to.length<=257
 ni:∀b∈f.blocks,∀e∈b.term.to,1<=e.block∧e.block<f.blocks.length
theorem Sc.gr{f:Func}(h:Sc f):vT f :=
 ⟨h.ne,h.oX,fun b hb=>Rw (yu (h.blk b hb).fin),fun b hb e he=>by
  have:=((yu (h.blk b hb).fin).ni e he).1;omega⟩
theorem vT.next{f:Func}(h:vT f){b e:Int}(hb:0<=b∧b<f.blocks.length)(h0:0<=e)(h1:e<(mv f b).length):∃x,(mv f b)[e.toNat]?=some x∧x.block=dH f b e∧1<=dH f b e∧dH f b e<f.blocks.length:=by
 have bd:e.toNat<(mv f b).length:=by omega
 have hx:(mv f b)[e.toNat]?=some (mv f b)[e.toNat]:=List.getElem?_eq_getElem bd;refine⟨_,hx,by rw[dH,hx];rfl,?_⟩;have:=h.ni _ (iW hb.1 hb.2) (mv f b)[e.toNat] (List.getElem_mem bd);rw[dH,hx];exact this
theorem nh{l:List Bool}{k:Nat}(hk:k<l.length)(h:l[k]?.getD false=false):(l.set k true).countP id=l.countP id+1:=by
 induction l generalizing k with
 | nil=>simp at hk
 | cons a r ih =>
  cases k with
  | zero =>
   simp only[List.getElem?_cons_zero,Option.getD_some]at h;subst h;simp
  | succ k =>
   simp only[List.getElem?_cons_succ]at h;have:=ih (by simpa using hk) h;simp only[List.set_cons_succ,List.countP_cons,this];omega
theorem oP{f:Func}(hg:vT f){S:Sr}(h:v7 f S)(da:S.st≠[]):v7 f (fA f S)∧Ku (fA f S)<Ku S:=by
 obtain⟨seen,st,out⟩:=S;cases st with
 | nil=>exact absurd rfl da
 | cons p r =>
  obtain⟨b,e⟩:=p;obtain⟨h1,h2,h3,h4⟩:=h;simp only at h1 h2 h3 h4;have hp:=h2 (b,e) (by simp);simp only at hp;have Gt:(mv f b).length<=257:=hg.to _ (iW hp.1 hp.2.1);have hc:seen.countP id<=seen.length:=List.countP_le_length;simp only[List.length_cons]at h3;simp only[fA];by_cases he:e=(mv f b).length
  ·rw[if_pos he];refine⟨⟨h1,fun p hp=>h2 p (by simp[hp]),by simp only[List.length_append,List.length_cons,List.length_nil];omega,fun x hx=>?_⟩,?_⟩
   ·rcases List.mem_append.1 hx with q|q
    ·exact h4 x q
    simp only[List.mem_singleton]at q;subst q;exact⟨hp.1,hp.2.1⟩
   simp only[Ku,R9];omega
  rw[if_neg he];obtain⟨x,hx,Fu,CN,Fk⟩:=hg.next ⟨hp.1,hp.2.1⟩ hp.2.2.1 (by omega)
  by_cases hs:seen[(dH f b e).toNat]?.getD false=true
  ·rw[if_pos hs];refine⟨⟨h1,fun p Vx=>?_,by simpa using h3,h4⟩,?_⟩
   ·rcases List.mem_cons.1 Vx with q|q
    ·subst q;exact⟨hp.1,hp.2.1,by simp only;omega,by simp only;omega⟩
    exact h2 p (by simp[q])
   simp only[Ku,R9];omega
  rw[if_neg hs];have R2:seen[(dH f b e).toNat]?.getD false=false:=by simpa using hs
  have hk:(dH f b e).toNat<seen.length:=by omega
  have iq:=nh hk R2;have kB:(seen.set (dH f b e).toNat true).countP id<=(seen.set (dH f b e).toNat true).length:=List.countP_le_length;rw[List.length_set]at kB;refine⟨⟨by simpa using h1,fun p Vx=>?_,by simp only[List.length_cons,iq];omega,h4⟩,?_⟩
  ·rcases List.mem_cons.1 Vx with q|q
   ·subst q;exact⟨by simp only;omega,Fk,by simp,by simp⟩
   rcases List.mem_cons.1 q with q|q
   ·subst q;exact⟨hp.1,hp.2.1,by simp only;omega,by simp only;omega⟩
   exact h2 p (by simp[q])
  simp only[Ku,R9,List.length_set,iq];omega
theorem rk{f:Func}(hg:vT f):∀(n:Nat) (S:Sr),v7 f S->Ku S<n->v7 f (ju f n S)∧(ju f n S).st=[]
 | 0,S,_,h=>by omega
 | n+1,S,h,hw=>by
  simp only[ju];cases dD:S.st with
  | nil=>simpa[dD]using h
  | cons p r =>
   simp only[List.isEmpty_cons,Bool.false_eq_true,if_false];have:=oP hg h (by rw[dD];simp);exact rk hg n _ this.1 (by omega)
theorem mV{f:Func}(hg:vT f):v7 f (de f)∧Ku (de f)<100000:=by
 have hl:0<f.blocks.length:=by
  cases hb:f.blocks with
  | nil=>exact absurd hb hg.ne
  | cons=>simp
 have PS:=hg.oX;have hc:((List.replicate f.blocks.length false).set 0 true).countP id=1:=by
  rw[nh (by simpa using hl) (by simp[hl])];simp[List.countP_replicate]
 refine⟨⟨by simp[de],fun p hp=>?_,by simp only[de,hc];simp,by simp[de]⟩,?_⟩
 ·simp only[de,List.mem_singleton]at hp;subst hp;exact⟨by simp,by simp;omega,by simp,by simp⟩
 simp only[Ku,de,hc,List.length_set,List.length_replicate,R9];simp;omega
def lV:List (Int×Int)->List aa
 | []=>[]
 | p::r=>lV r++[aI p.1,aI p.2]
theorem iP:∀l:List (Int×Int),(lV l).length=l.length*2
 | []=>rfl
 | p::r=>by
  simp only[lV,List.length_append,iP r,List.length_cons,List.length_nil];omega
theorem r6(n:Nat):∀l:List (Int×Int),av n (lV l)
 | []=>trivial
 | p::r=>by
  rw[a6];intro x hx;rcases List.mem_append.1 hx with q|q
  ·exact a6.1 (r6 n r) x q
  simp only[List.mem_cons,List.not_mem_nil,or_false]at q;rcases q with rfl|rfl<;>trivial
structure So where
 S:Sr
 sid:Nat
 kh:Nat
 O:List aq
def qu(O:List aq)(id:Nat):List aa :=
 match O[id]? with
 | some (.cells cs)=>cs
 | _=>[]
def oK(O:List aq)(kh:Nat)(out:List Int)(b:Int):List aq :=
 if out=[]then(O++[aq.cells [aI b]]).set 1 (.cells [.os O.length 1 1])
 else(O.set kh .gone++[aq.cells ((out++[b]).map aI)]).set 1 (.cells [.os O.length (out.length+1) 1])
def ko(f:Func)(X:So):So :=
 match X.S.st with
 | []=>X
 | (b,e)::r =>
  if e=(mv f b).length then⟨fA f X.S,X.sid,X.O.length,oK X.O X.kh X.S.out b⟩
  else
   let cs:=(qu X.O X.sid).set (r.length*2+1) (aI (e+1));let O1:=X.O.set X.sid (.cells cs)
   if X.S.seen[(dH f b e).toNat]?.getD false=true then⟨fA f X.S,X.sid,X.kh,O1⟩
   else
    let O2:=O1.set 2 (.cells ((X.S.seen.set (dH f b e).toNat true).map eB))
    ⟨fA f X.S,O2.length,X.kh,O2.set X.sid .gone++[aq.cells (cs.take ((r.length+1)*2)++[aI (dH f b e),aI 0])]⟩
def mr(f:Func):Nat->So->So
 | 0,X=>X
 | n+1,X=>if X.S.st.isEmpty then X else mr f n (ko f X)
theorem Br(f:Func)(X:So):(ko f X).S=fA f X.S:=by
 unfold ko;cases dD:X.S.st with
 | nil=>simp[fA,dD]
 | cons p r =>
  simp only;split
  ·rfl
  split<;>rfl
theorem Ev(f:Func):∀(n:Nat) (X:So),(mr f n X).S=ju f n X.S
 | 0,X=>rfl
 | n+1,X=>by
  simp only[mr,ju];split
  ·rfl
  rw[Ev f n,Br]
structure SO(X:So):Prop where
 up:∀o∈X.O,o.upto X.O.length
 out:X.O[1]?=some (.cells [LA X.kh X.S.out])
 outs:X.S.out≠[]->X.O[X.kh]?=some (.cells (X.S.out.map aI))∧X.kh≠X.sid∧2<X.kh
 seen:X.O[2]?=some (.cells (X.S.seen.map eB))
 YG:∃o8,X.O[X.sid]?=some (.cells (lV X.S.st++o8))
 YF:2<X.sid
theorem SO.step{f:Func}{X:So}(h:SO X):SO (ko f X):=by
 obtain⟨⟨seen,st,out⟩,sid,kh,O⟩:=X;obtain⟨h1,h2,h3,h4,⟨o8,h5⟩,h6⟩:=h;simp only at h1 h2 h3 h4 h5 h6;have l1:=ag h2;have l2:=ag h4;have l5:=ag h5;cases st with
 | nil=>exact⟨h1,h2,h3,h4,⟨o8,h5⟩,h6⟩
 | cons p r =>
  obtain⟨b,e⟩:=p;simp only[ko,fA];by_cases he:e=(mv f b).length
  ·rw[if_pos he,if_pos he];by_cases ho:out=[]
   ·subst ho;simp only[oK,if_true,List.nil_append];refine⟨?_,?_,fun _=>⟨?_,by simp only;omega,by simp only;omega⟩,?_,⟨[aI b,aI e]++o8,?_⟩,h6⟩
    ·have:=bT (n:=O.length+1) (k:=1) (x:=.cells [.os O.length 1 1]) (kZ (fun o ho=>aq.cR (by omega) (h1 o ho)) (x:=.cells [aI b]) ⟨trivial,trivial⟩) ⟨show _<_ by omega,trivial⟩;simpa using this
    ·simp only;rw[List.getElem?_set_self (by simp;omega)];rfl
    ·simp only;rw[List.getElem?_set_ne (by omega),List.getElem?_append_right (Nat.le_refl _)];simp
    ·simp only;rw[List.getElem?_set_ne (by omega),List.getElem?_append_left l2];exact h4
    simp only;rw[List.getElem?_set_ne (by omega),List.getElem?_append_left l5,h5];simp[lV]
   obtain⟨k1,k2,k3⟩:=h3 ho;have lo:=ag k1;simp only[oK,if_neg ho];refine⟨?_,?_,fun _=>⟨?_,by simp only;omega,by simp only;omega⟩,?_,⟨[aI b,aI e]++o8,?_⟩,h6⟩
   ·have:=bT (n:=O.length+1) (k:=1) (x:=.cells [.os O.length (out.length+1) 1]) (kZ (bT (k:=kh) (x:=.gone) (fun o ho=>aq.cR (by omega) (h1 o ho)) trivial) (x:=.cells ((out++[b]).map aI)) (ay _ _)) ⟨show _<_ by omega,trivial⟩;simpa using this
   ·simp only;rw[List.getElem?_set_self (by simp;omega)];simp[LA]
   ·simp only;rw[List.getElem?_set_ne (by omega),List.getElem?_append_right (by simp)];simp
   ·simp only;rw[List.getElem?_set_ne (by omega),List.getElem?_append_left (by simpa using l2),List.getElem?_set_ne (by omega)];exact h4
   simp only;rw[List.getElem?_set_ne (by omega),List.getElem?_append_left (by simpa using l5),List.getElem?_set_ne (by omega),h5];simp[lV]
  rw[if_neg he,if_neg he];have iq:(qu O sid).set (r.length*2+1) (aI (e+1))=lV ((b,e+1)::r)++o8:=by
   simp only[qu,h5,lV];rw[List.append_assoc,List.set_append_right _ _ (by rw[iP];omega),iP,show r.length*2+1-r.length*2=1 by omega];simp
  rw[iq];have Ld:av O.length o8:=by
   rw[a6];intro x hx;have:=h1 _ (List.mem_of_getElem? h5);exact a6.1 this x (List.mem_append.2 (.inr hx))
  have qi:av O.length (lV ((b,e+1)::r)++o8):=by
   rw[a6];intro x hx;rcases List.mem_append.1 hx with q|q
   ·exact a6.1 (r6 _ _) x q
   exact a6.1 Ld x q
  by_cases hs:seen[(dH f b e).toNat]?.getD false=true
  ·rw[if_pos hs,if_pos hs];refine⟨?_,?_,fun ho=>?_,?_,⟨o8,?_⟩,h6⟩
   ·have:=bT (n:=O.length) (k:=sid) (x:=.cells (lV ((b,e+1)::r)++o8)) h1 qi;simpa using this
   ·simp only;rw[List.getElem?_set_ne (by omega)];exact h2
   ·obtain⟨k1,k2,k3⟩:=h3 ho;refine⟨?_,k2,k3⟩;simp only;rw[List.getElem?_set_ne (fun q=>k2 q.symm)];exact k1
   ·simp only;rw[List.getElem?_set_ne (by omega)];exact h4
   simp only;rw[List.getElem?_set_self l5]
  rw[if_neg hs,if_neg hs]
  skip
  have mL:(lV ((b,e+1)::r)++o8).take ((r.length+1)*2)=lV ((b,e+1)::r):=by
   rw[List.take_append_of_le_length (by rw[iP];simp),List.take_of_length_le (by rw[iP];simp)]
  rw[mL];refine⟨?_,?_,fun ho=>?_,?_,⟨[],?_⟩,?_⟩
  ·have a1:=bT (n:=O.length) (k:=sid) (x:=.cells (lV ((b,e+1)::r)++o8)) h1 qi;have a2:=bT (k:=2) (x:=.cells ((seen.set (dH f b e).toNat true).map eB)) a1 (DY _ _);have a3:=bT (k:=sid) (x:=.gone) a2 trivial;have a4:=kZ (n:=O.length+1) (x:=.cells (lV ((b,e+1)::r)++[aI (dH f b e),aI 0])) (fun o ho=>aq.cR (by omega) (a3 o ho)) (by
    show av _ _;have:=r6 (O.length+1) ((dH f b e,0)::(b,e+1)::r);exact this)
   simpa using a4
  ·simp only;rw[List.getElem?_append_left (by simp;omega),List.getElem?_set_ne (by omega),List.getElem?_set_ne (by omega),List.getElem?_set_ne (by omega)];exact h2
  ·obtain⟨k1,k2,k3⟩:=h3 ho;have lo:=ag k1;refine⟨?_,by simp;omega,k3⟩;simp only;rw[List.getElem?_append_left (by simpa using lo),List.getElem?_set_ne (fun q=>k2 q.symm),List.getElem?_set_ne (by omega),List.getElem?_set_ne (fun q=>k2 q.symm)];exact k1
  ·simp only;rw[List.getElem?_append_left (by simpa using l2),List.getElem?_set_ne (by omega),List.getElem?_set_self (by simpa using l2)]
  ·simp only[List.length_set];rw[List.getElem?_append_right (by simp)];simp[lV]
  simp;omega
def kH(f:Func):So:=⟨de f,3,0,[.gone,.cells [.aB 1 [] .ex],.cells ((de f).seen.map eB),.cells [aI 0,aI 0]]⟩
theorem qb(f:Func):SO (kH f) where
 up:=by
  intro o ho;simp only[kH,List.mem_cons,List.not_mem_nil,or_false]at ho;rcases ho with rfl|rfl|rfl|rfl
  ·trivial
  ·exact⟨⟨trivial,trivial⟩,trivial⟩
  ·exact DY _ _
  exact⟨trivial,trivial,trivial⟩
 out:=rfl
 outs:=fun h=>absurd rfl h
 seen:=rfl
 YG:=⟨[],rfl⟩
 YF:=by simp[kH]
theorem Bl(f:Func)(hg:vT f) :
  aK Tryz.prog 158 [.gone,.cells [.aB 1 [] .ex]] [f.enc,.fn (.func 159) [] [.mp 1 0]] (fun r O'=>r=.cN []∧O'=(mr f 100000 (kH f)).O):=by
 have Wn:=hg.oX;have hl:0<f.blocks.length:=by
  cases hb:f.blocks with
  | nil=>exact absurd hb hg.ne
  | cons=>simp
 obtain⟨N,hN⟩:∃N,N=f.blocks.length:=⟨_,rfl⟩
 obtain⟨F,hF⟩:∃F,F=mr f 100000 (kH f):=⟨_,rfl⟩
 rw[<-hF];have fk:[aq.gone,aq.cells [aa.aB 1 [] .ex]].length<=F.O.length:=by
  have key:∀(n:Nat) (X:So),SO X->SO (mr f n X):=fun n=>by
   induction n with
   | zero=>exact fun X h=>h
   | succ n ih =>
    intro X h;simp only[mr];split
    ·exact h
    exact ih _ h.step
  have:=ag (key 100000 _ (qb f)).out;rw[<-hF]at this;simp only[List.length_cons,List.length_nil];omega
 refine dE hT true (F.O.length) Tryz.func158 rfl (by kernel_rfl) (by simp[Tryz.ntmps158]) (by assumption) ?_;show cG Tryz.prog _ _ _ ⟨81,_,_⟩;dsimp only[Tmp,TypeId,slotsOf];refine az (ai ?_);refine aR 2 2 (.ip none [aI f.name,aM f.blocks]) rfl (by simp[aq.aJ]) trivial rfl ?_ ?_;rotate_left;simp -dsimp only[simprocAttr,↓I,zp]
 ·refine cK 2 [(1,.fn (.func 159) [] [.mp 1 0]),(2,.ip none [aI f.name,aM f.blocks])] (by simp) (by omega) [.gone,.cells [.aB 1 [] .ex]] ?_ ?_ ?_ ?_ ?_
  ·rfl
  ·simp[aq.upto,av,aa.upto,ay,Block.aj]
  ·simp[jw,St.get,cd,bG,Go.Av.look,Sub.refl]
  ·simp[aq.upto,av,aa.upto,ay,Block.aj]
  refine aG ?_;simp -dsimp only[simprocAttr,↓I,zp,As,<-hN];refine⟨by omega,by omega,?_⟩;refine ai ?_;refine az ?_;have rN:bz ((List.replicate N false).map eB) 0 [.v (.bool true)]=(de f).seen.map eB:=by
   rw[gS _ (by simp;omega)];simp only[de,<-hN,List.map_set];rfl
  refine⟨by omega,by simp;omega,?_⟩;rw[rN];refine ai ?_;refine aL (mE ⟨false,false⟩ hT 1 rfl rfl rfl (by simp) ?_);simp -dsimp only[simprocAttr,↓I,zp];refine A2 hT rfl rfl (by simp) rfl rfl rfl (by simp) rfl (by intro p hp;simp at hp;subst hp;trivial) rfl rfl (by intro x hx;simp at hx;subst hx;rfl) (by simp) (by simp) ?_;simp -dsimp only[simprocAttr,↓I,zp];refine ai ?_;have Tp:=mV hg;refine ah (a8 (ι:={X:So // SO X∧v7 f X.S∧∃n,Ku X.S<n∧F=mr f n X}) (fun X=>⟨81,[(1,.fn (.func 159) [] [.mp 1 0]),(2,.ip none [aI f.name,aM f.blocks]),(4,.ms 2 0 N N),(5,.os X.1.sid X.1.S.st.length 2)],X.1.O⟩) (fun X=>Ku X.1.S) ⟨kH f,qb f,Tp.1,100000,Tp.2,hF⟩ ?_ ?_)
  ·refine zq rfl ?_ ?_;simp -dsimp only[simprocAttr,↓I,zp,zc]
   all_goals first|rfl|exact Sub.refl _
  rintro⟨X,hX,hS,n,hn,WQ⟩;have RO:=hX.step (f:=f);obtain⟨⟨seen,st,out⟩,sid,kh,O⟩:=X;obtain⟨h1,h2,h3,h4,⟨o8,h5⟩,h6⟩:=id hX;simp only at h1 h2 h3 h4 h5 h6 hn;cases st with
  | nil =>
   refine bS (ai ?_);refine cP rfl ?_;refine aN ?_;simp -dsimp only[bH,ne_eq,Nat.reduceEqDiff,reduceCtorEq];have Xv:F.O=O:=by
    rw[WQ];cases n with
    | zero=>rfl
    | succ n=>rfl
   skip
   simp -dsimp only[simprocAttr,↓I,zp,zr,Tryz.results158];rw[Xv];exact⟨by simp,by rw[List.take_of_length_le (Nat.le_refl _)];exact h1,trivial,List.take_of_length_le (Nat.le_refl _)⟩
  | cons p r =>
   obtain⟨b,e⟩:=p;have cE:=oP hg hS (by simp);obtain⟨n,rfl⟩:∃n',n=n'+1:=⟨n-1,by omega⟩
   have Fm:F=mr f n (ko f ⟨⟨seen,(b,e)::r,out⟩,sid,kh,O⟩):=WQ;have Y2:=Br f ⟨⟨seen,(b,e)::r,out⟩,sid,kh,O⟩;have hp:=hS.blk (b,e) (by simp);simp only at hp;have Yj:r.length<=128:=by
    have a1:=hS.oX;have a2:seen.countP id<=seen.length:=List.countP_le_length;have a3:=hS.len;simp only[List.length_cons]at a1 a3;omega
   have Kq:((r.length+1:Nat):Int)-1=(r.length:Nat):=by omega
   obtain⟨B,hB⟩:∃B,B=bQ f b:=⟨_,rfl⟩
   have Wi:=fg hp.1 hp.2.1;rw[<-hB]at Wi;have Gt:mv f b=B.term.to:=by rw[hB];rfl
   have PG:(lV ((b,e)::r)++o8)[r.length*2]?=some (aI b):=by
    rw[lV,List.append_assoc,List.getElem?_append_right (by rw[iP];omega),iP,Nat.sub_self];rfl
   have SF:(lV ((b,e)::r)++o8)[r.length*2+1]?=some (aI e):=by
    rw[lV,List.append_assoc,List.getElem?_append_right (by rw[iP];omega),iP,show r.length*2+1-r.length*2=1 by omega];rfl
   obtain⟨cs,iq⟩:∃cs,cs=lV ((b,e)::r)++o8:=⟨_,rfl⟩
   rw[<-iq]at PG SF h5;refine bS (ai ?_);apply aF rfl<;>intro h
   ·refine bZ ?_;refine ah ?_;refine aG ?_;simp -dsimp only[simprocAttr,↓I,zp,Kq]
    repeat(refine⟨by omega,?_⟩)
    refine ai ?_;refine aG ?_;simp -dsimp only[simprocAttr,↓I,zp,h5,PG,Wi]
    repeat(refine⟨by omega,?_⟩)
    refine⟨ob (by kernel_rfl),?_⟩;refine ai ?_;by_cases he:e=(mv f b).length
    ·have tv:decide (e=(B.term.to.length:Int))=true:=decide_eq_true (by rw[he,Gt]);have BM:fA f ⟨seen,(b,e)::r,out⟩=⟨seen,r,out++[b]⟩:=by simp only[fA];rw[if_pos he]
     have HW:ko f ⟨⟨seen,(b,e)::r,out⟩,sid,kh,O⟩=⟨⟨seen,r,out++[b]⟩,sid,O.length,oK O kh out b⟩:=by simp only[ko];rw[if_pos he,BM]
     rw[HW]at RO Fm;simp only[BM]at cE;have X7:aK Tryz.prog 159 O [aI b,.mp 1 0] (fun r' O'=>r'=.cN []∧O'=oK O kh out b):=by
      unfold oK;by_cases ho:out=[]
      ·rw[if_pos ho];exact FB h1 (by rw[h2,ho];rfl) b
      rw[if_neg ho];obtain⟨k1,k2,k3⟩:=h3 ho;have a1:=hS.oX;have a2:seen.countP id<=seen.length:=List.countP_le_length;have a3:=hS.len;simp only at a1 a3;exact H' h1 (by rw[h2,LA,if_neg ho]) k1 (by omega) (by omega) b
     refine bR ?_;simp -dsimp only[simprocAttr,↓I,zp,h5,SF,tv];refine ai ?_;refine dS rfl ?_;refine aG ?_;simp -dsimp only[simprocAttr,↓I,zp,h5,PG];refine .inr (.inl ⟨_,_,X7,.inl (ae (zj ?_))⟩);refine ai ?_;refine aG ?_;simp -dsimp only[simprocAttr,↓I,zp,Kq]
     repeat(refine⟨by omega,?_⟩)
     refine ai ?_;refine aN ?_;simp -dsimp only[bH,ne_eq,Nat.reduceEqDiff,reduceCtorEq];refine⟨⟨_,RO,cE.1,n,?_,Fm⟩,?_,?_⟩
     ·have:=cE.2;simp only at this hn ⊢;omega
     ·exact cE.2
     refine zq rfl ?_ ?_;simp -dsimp only[simprocAttr,↓I,zp,zc]
     all_goals rfl
    have tv:decide (e=(B.term.to.length:Int))=false:=decide_eq_false (by rw[<-Gt];exact he);obtain⟨x,hx,Fu,CN,Fk⟩:=hg.next ⟨hp.1,hp.2.1⟩ hp.2.2.1 (by omega)
    rw[Gt]at hx;refine bR ?_;simp -dsimp only[simprocAttr,↓I,zp,h5,SF,tv];refine ai ?_;refine cP rfl ?_;refine bZ ?_;refine aG ?_;simp -dsimp only[simprocAttr,↓I,zp,h5,SF,hx]
    repeat(refine⟨by omega,?_⟩)
    refine ai ?_;obtain⟨j,hj⟩:∃j:Nat,dH f b e=(j:Int):=⟨(dH f b e).toNat,by omega⟩
    have Vg:j<seen.length:=by
     have a3:=hS.len;simp only at a3;omega
    rw[hj]at Fu CN Fk;obtain⟨sv,TE⟩:∃sv,seen[j]?=some sv:=⟨seen[j],List.getElem?_eq_getElem Vg⟩
    have TF:(seen.map eB)[j]?=some (.v (.bool sv)):=by rw[List.getElem?_map,TE];rfl
    have kB:(r.length+1)*2<=cs.length:=by
     rw[iq,List.length_append,iP];simp
    obtain⟨Oe,K4⟩:∃Oe,Oe=cs.set (r.length*2+1) (aI (e+1)):=⟨_,rfl⟩
    have rN:bz cs (r.length*2+1) [.v (.int .i64 (e+1))]=Oe:=by rw[gS _ (by omega),K4]
    have XJ:(r.length+1)*2<=Oe.length:=by rw[K4,List.length_set];exact kB
    obtain⟨O1,eh⟩:∃O1,O1=O.set sid (.cells Oe):=⟨_,rfl⟩
    have g5:O1[sid]?=some (.cells Oe):=by rw[eh];exact tX h5
    have g4:O1[2]?=some (.cells (seen.map eB)):=by rw[eh];exact bN h4 (by omega)
    have SE:qu O sid=cs:=by simp only[qu,h5]
    have Xj:(mv f b).length<=257:=hg.to _ (iW hp.1 hp.2.1);refine aG ?_;simp -dsimp only[simprocAttr,↓I,zp,h5,SF]
    repeat(refine⟨by omega,?_⟩)
    refine ai ?_;rw[rN,<-eh];cases sv with
    | true =>
     have BM:fA f ⟨seen,(b,e)::r,out⟩=⟨seen,(b,e+1)::r,out⟩:=by simp only[fA];rw[if_neg he,hj,Int.toNat_natCast,TE,if_pos (show(some true).getD false=true from rfl)]
     have HW:ko f ⟨⟨seen,(b,e)::r,out⟩,sid,kh,O⟩=⟨⟨seen,(b,e+1)::r,out⟩,sid,kh,O1⟩:=by simp only[ko];rw[if_neg he,BM,SE,hj,Int.toNat_natCast,TE,if_pos (show(some true).getD false=true from rfl),<-K4,eh]
     rw[HW]at RO Fm;simp only[BM]at cE;refine aG ?_;simp -dsimp only[simprocAttr,↓I,zp,g4,Fu,Int.toNat_natCast,TF,Nat.mul_one]
     repeat(refine⟨by omega,?_⟩)
     refine ai ?_;refine cP rfl ?_;refine YM ?_;refine⟨⟨_,RO,cE.1,n,?_,Fm⟩,?_,?_⟩
     ·have:=cE.2;simp only at this hn ⊢;omega
     ·exact cE.2
     refine zq rfl ?_ ?_;simp -dsimp only[simprocAttr,↓I,zp,zc]
     all_goals rfl
    | false =>
     have BM:fA f ⟨seen,(b,e)::r,out⟩=⟨seen.set j true,((j:Int),0)::(b,e+1)::r,out⟩:=by simp only[fA];rw[if_neg he,hj,Int.toNat_natCast,TE,if_neg (by simp)]
     obtain⟨O2,tt⟩:∃O2,O2=O1.set 2 (.cells ((seen.set j true).map eB)):=⟨_,rfl⟩
     have k5:O2[sid]?=some (.cells Oe):=by rw[tt];exact bN g5 (by omega)
     have HW:ko f ⟨⟨seen,(b,e)::r,out⟩,sid,kh,O⟩=⟨⟨seen.set j true,((j:Int),0)::(b,e+1)::r,out⟩,O2.length,kh,O2.set sid .gone++[aq.cells (Oe.take ((r.length+1)*2)++[aI j,aI 0])]⟩:=by
      simp only[ko];rw[if_neg he,BM,SE,hj,Int.toNat_natCast,TE,if_neg (by simp),<-K4,<-eh,<-tt]
     rw[HW]at RO Fm;simp only[BM]at cE;have TC:bz (seen.map eB) j [.v (.bool true)]=(seen.set j true).map eB:=by
      rw[gS _ (by simpa using Vg),List.map_set];rfl
     refine aG ?_;simp -dsimp only[simprocAttr,↓I,zp,g4,Fu,Int.toNat_natCast,TF,Nat.mul_one]
     repeat(refine⟨by omega,?_⟩)
     refine ai ?_;refine dS rfl ?_;refine aG ?_;simp -dsimp only[simprocAttr,↓I,zp,g4,Fu,Int.toNat_natCast,Nat.mul_one]
     repeat(refine⟨by omega,?_⟩)
     refine ai ?_;rw[TC,<-tt];refine fE ?_;simp -dsimp only[simprocAttr,↓I,zp,k5,Fu]
     repeat(refine⟨by omega,?_⟩)
     refine UA ?_;refine⟨⟨_,RO,cE.1,n,?_,Fm⟩,?_,?_⟩
     ·have:=cE.2;simp only at this hn ⊢;omega
     ·exact cE.2
     refine zq rfl ?_ ?_;simp -dsimp only[simprocAttr,↓I,zp,zc]
     all_goals rfl
   exact af h (by omega)
 exact cw.mp rfl rfl
def zH(l:List Int)(i:Nat)(m:List Int):Prop:=m.length=l.length∧∀k,k<l.length->m[k]?=if k<i∨l.length<=k+i then l[l.length-1-k]? else l[k]?
theorem Dn(l:List Int):zH l 0 l:=⟨rfl,fun k hk=>by rw[if_neg (by omega)]⟩
theorem Dl{l m:List Int}{i:Nat}(h:zH l i m)(hi:2*i+1<l.length){a b:Int}(ha:m[i]?=some a)(hb:m[l.length-1-i]?=some b):zH l (i+1) ((m.set i b).set (l.length-1-i) a):=by
 obtain⟨h1,h2⟩:=h;refine⟨by simpa using h1,fun k hk=>?_⟩;have e1:=h2 i (by omega);have e2:=h2 (l.length-1-i) (by omega);rw[if_neg (by omega)]at e1 e2;rw[List.getElem?_set,List.getElem?_set];simp only[List.length_set];by_cases q1:l.length-1-i=k
 ·rw[if_pos q1,if_pos (by omega),if_pos (by omega),<-ha,e1];congr 1;omega
 rw[if_neg q1];by_cases q2:i=k
 ·rw[if_pos q2,if_pos (by omega),if_pos (by omega),<-hb,e2,q2]
 rw[if_neg q2,h2 k hk];by_cases q3:k<i∨l.length<=k+i
 ·rw[if_pos q3,if_pos (by omega)]
 rw[if_neg q3,if_neg (by omega)]
theorem Dk{l m:List Int}{i:Nat}(h:zH l i m)(hi:l.length<=2*i+1):m=l.reverse:=by
 obtain⟨h1,h2⟩:=h;apply List.ext_getElem?;intro k;by_cases hk:k<l.length
 ·rw[h2 k hk,List.getElem?_reverse hk];split
  ·rfl
  congr 1;omega
 rw[List.getElem?_eq_none (by omega),List.getElem?_eq_none (by simp;omega)]
theorem yZ{O:List aq}(aW:∀o∈O,o.upto O.length){kh:Nat}{l:List Int}(ho:O[kh]?=some (.cells (l.map aI)))(Tb:l.length<=1000) :
  aK Tryz.prog 123 O [.os kh l.length 1] (fun r O'=>r=.cN []∧O'=O.set kh (.cells (l.reverse.map aI))):=by
 have OH:=ag ho;have ir:O.set kh (.cells (l.map aI))=O:=mq ho;have XT:∀x,(O.set kh x)[kh]?=some x:=fun x=>List.getElem?_set_self OH;have mL:∀m:List Int,(O.set kh (.cells (m.map aI))).take O.length=O.set kh (.cells (m.map aI)):=fun m=>cM;have iz:∀m:List Int,∀o∈O.set kh (.cells (m.map aI)),o.upto O.length:=fun m=>bT aW (ay _ _);refine zf true O.length Tryz.func123 Tryz.ntmps123 ?_;dsimp only[Tmp,TypeId,slotsOf];refine az ?_
 repeat(refine⟨by omega,?_⟩)
 refine ai ?_;refine ah (a8 (ι:={x:Nat×List Int // x.1<=l.length∧zH l x.1 x.2}) (fun x=>⟨28,[(0,.os kh l.length 1),(2,aI x.1.1),(3,aI ((l.length:Int)-1-x.1.1))],O.set kh (.cells (x.1.2.map aI))⟩) (fun x=>l.length-x.1.1) ⟨(0,l),by simp,Dn l⟩ ?_ ?_)
 ·refine zq rfl ?_ ?_;simp -dsimp only[simprocAttr,↓I,zp,zc];exact ir.symm
 rintro⟨⟨i,m⟩,hi,hr⟩;simp only at hi hr;have RZ:=hr.1;refine bS (ai ?_);apply aF rfl<;>intro h
 ·refine bZ ?_;have bd:2*i+1<l.length:=by
   have:=of_decide_eq_true h;omega
  obtain⟨j,hj⟩:∃j,j=l.length-1-i:=⟨_,rfl⟩
  have Ul:(l.length:Int)-1-i=(j:Nat):=by omega
  obtain⟨a,ha⟩:∃a,m[i]?=some a:=⟨m[i]'(by omega),List.getElem?_eq_getElem _⟩
  obtain⟨b,hb⟩:∃b,m[j]?=some b:=⟨m[j]'(by omega),List.getElem?_eq_getElem _⟩
  have OF:=Dl hr bd ha (by rw[<-hj];exact hb);rw[<-hj]at OF;have Td:(m.map aI)[i]?=some (aI a):=by rw[List.getElem?_map,ha];rfl
  have X9:(m.map aI)[j]?=some (aI b):=by rw[List.getElem?_map,hb];rfl
  have wP:bz (m.map aI) i [.v (.int .i64 b)]=(m.set i b).map aI:=by
   rw[gS _ (by simp;omega),List.map_set]
  have VC:bz ((m.set i b).map aI) j [.v (.int .i64 a)]=((m.set i b).set j a).map aI:=by
   rw[gS _ (by simp;omega)];simp only[List.map_set]
  refine aL (ah ?_);refine fE ?_;simp -dsimp only[simprocAttr,↓I,zp,XT,Ul,Td,X9,Int.toNat_natCast,Nat.mul_one,wP,VC,List.set_set,List.length_set];refine⟨by omega,by omega,by omega,by omega,by omega,by omega,?_⟩;refine⟨cm [kh] O.length [.pure,.pure,.pure,.pure,.pure,.pure,.pure,.rd 0,.pure,.pure,.pure,.rd 0,.pure,.wr 1 [0],.pure,.wr 1 [0]] (by simp) (by simp;omega) rfl rfl (by kernel_rfl),aY ?_⟩;simp -dsimp only[bH,ne_eq,Nat.reduceEqDiff,reduceCtorEq];refine dA ?_
  repeat(refine⟨by omega,?_⟩)
  refine kv ?_;refine⟨⟨(i+1,_),by simp only;omega,OF⟩,by simp;omega,?_⟩;refine zq rfl ?_ ?_;simp -dsimp only[simprocAttr,↓I,zp,zc]
  ·exact⟨Sub.int (by simp),Sub.int (by omega)⟩
  rfl
 refine aN ?_;simp -dsimp only[bH,ne_eq,Nat.reduceEqDiff,reduceCtorEq];have qj:l.length<=2*i+1:=by
  have:=of_decide_eq_false h;omega
 rw[Dk hr qj]
 skip
 simp -dsimp only[simprocAttr,↓I,zp,zr,Tryz.results123,mL,List.length_set];exact⟨iz _,trivial⟩
def cp(f:Func):List Int:=(jR f).reverse
def C'(f:Func):aa:=if bM f=0 then .cN [bp (cp f),aI 0]else .cN [bp [],aI (bM f)]
theorem IL{f:Func}:∀(n:Nat) (S:Sr),(S.st=[]->S.out≠[])->(ju f n S).st=[]->(ju f n S).out≠[]
 | 0,S,h,he=>h he
 | n+1,S,h,he=>by
  simp only[ju]at he ⊢;cases dD:S.st with
  | nil =>
   rw[dD]at he;simp only[List.isEmpty_nil,if_true]at he ⊢;exact h dD
  | cons p r =>
   rw[dD]at he;simp only[List.isEmpty_cons,Bool.false_eq_true,if_false]at he ⊢;refine IL n _ (fun q=>?_) he;obtain⟨b,e⟩:=p;simp only[fA,dD]at q ⊢;split
   ·simp
   rename_i da;rw[if_neg da]at q;split at q<;>simp at q
theorem Bq{f:Func}:∀(n:Nat) (X:So),SO X->SO (mr f n X)
 | 0,X,h=>h
 | n+1,X,h=>by
  simp only[mr];split
  ·exact h
  exact Bq n _ h.step
theorem sK{f:Func}(hg:vT f):jR f≠[]∧(jR f).length<=128∧∀b∈jR f,0<=b∧b<f.blocks.length:=by
 have h0:=mV hg;have h1:=rk hg 100000 _ h0.1 h0.2;have h2:=IL 100000 (de f) (fun q=>by simp[de]at q) h1.2;have a1:=h1.1.oX;have a2:(ju f 100000 (de f)).seen.countP id<=(ju f 100000 (de f)).seen.length:=List.countP_le_length;have a3:=h1.1.len;have a4:=hg.oX;exact⟨h2,by unfold jR;omega,h1.1.outs⟩
theorem se(l:List Int):(l.map aI).map aa.br=aw (l.map aI):=by
 induction l with
 | nil=>rfl
 | cons a r ih =>
  simp only[List.map_cons,aw,List.flatMap_cons]at ih ⊢;rw[ih];rfl
theorem Da(f:Func)(fU:f.fit):bw Tryz.prog 116 [f.enc] (C' f):=by
 have CH:=gM f fU;unfold C';by_cases hc:bM f=0
 ·rw[if_pos hc];rw[hc]at CH;have hg:=(gX fU hc).gr;have BM:=Bl f hg;obtain⟨f1,f2,_⟩:=sK hg;have Wp:(mr f 100000 (kH f)).S=ju f 100000 (de f):=Ev f 100000 (kH f);have hX:=Bq (f:=f) 100000 _ (qb f);obtain⟨X,XC⟩:∃X,X=mr f 100000 (kH f):=⟨_,rfl⟩
  rw[<-XC]at BM hX Wp;have Fq:X.S.out=jR f:=by rw[Wp];rfl
  unfold cp;obtain⟨l,hl⟩:∃l,l=jR f:=⟨_,rfl⟩
  rw[<-hl]at f1 f2 Fq ⊢;have h1:=hX.out;rw[Fq,LA,if_neg f1]at h1;obtain⟨h2,h3,h4⟩:=hX.outs (by rw[Fq];exact f1);rw[Fq]at h2;have aW:=hX.up;obtain⟨S,sid,kh,O⟩:=X;simp only at h1 h2 h3 h4 aW BM;have VB:=yZ aW h2 (by omega);have KV:(O.set kh (.cells (l.reverse.map aI)))[1]?=some (.cells [.os kh l.length 1]):=bN h1 (by omega);have Pt:(O.set kh (.cells (l.reverse.map aI)))[kh]?=some (.cells (l.reverse.map aI)):=tX h2;refine zf true 0 Tryz.func116 Tryz.ntmps116 ?_;dsimp only[Tmp,TypeId,slotsOf];refine az (ai ?_);refine aR 1 0 (.ip none [aI f.name,aM f.blocks]) rfl (by simp[aq.aJ]) trivial rfl ?_ ?_;rotate_left;simp -dsimp only[simprocAttr,↓I,zp]
  ·refine bS ?_;refine zi CH ?_;refine ai ?_;refine az (ai ?_);refine cP rfl ?_;refine bZ ?_;refine az (ai ?_);refine az ?_;refine .inr (.inl ⟨_,_,BM,.inl (ae (zj ?_))⟩);refine ai ?_;refine aG ?_;simp -dsimp only[simprocAttr,↓I,zp,h1];refine .inr (.inl ⟨_,_,VB,.inl (ae (zj ?_))⟩);refine ai ?_;refine aG ?_;simp -dsimp only[simprocAttr,↓I,zp,KV];refine ai ?_;refine aR 2 kh (o:=.cells (l.reverse.map aI)) (bp l.reverse) Pt (by simp[aq.aJ]) trivial rfl (cw.os (cs:=l.reverse.map aI) Pt ?_ ?_ ?_) ?_
   ·intro x hx;obtain⟨c,_,rfl⟩:=List.mem_map.1 hx;rfl
   ·simp
   ·rw[List.drop_zero,List.take_of_length_le (by simp)];exact se _
   simp -dsimp only[simprocAttr,↓I,zp];refine ak ?_;simp -dsimp only[simprocAttr,↓I,zp,zr,Tryz.results116];exact⟨⟨ay _ _,trivial⟩,trivial,trivial⟩
  exact cw.mp rfl rfl
 rw[if_neg hc];obtain⟨e,he⟩:∃e,e=bM f:=⟨_,rfl⟩
 rw[<-he]at hc CH ⊢;have tv:decide (e=0)=false:=decide_eq_false hc;refine zf true 0 Tryz.func116 Tryz.ntmps116 ?_;dsimp only[Tmp,TypeId,slotsOf];refine az (ai ?_);refine aR 1 0 (.ip none [aI f.name,aM f.blocks]) rfl (by simp[aq.aJ]) trivial rfl ?_ ?_;rotate_left;simp -dsimp only[simprocAttr,↓I,zp]
 ·refine bS ?_;refine zi CH ?_;refine ai ?_;refine aG ?_;simp -dsimp only[simprocAttr,↓I,zp,tv];refine ai ?_;refine dS rfl ?_;refine az (ai ?_);refine ak ?_;simp -dsimp only[simprocAttr,↓I,zp,zr,Tryz.results116];simp[av,aa.upto]
 exact cw.mp rfl rfl

def N'(f:Func)(a b:Int):Prop:=∃x∈mv f a,x.block=b
def Oc(f:Func):List (Int×Int)->Prop
 | []=>True
 | [p]=>p.1=0
 | p::q::r=>N' f q.1 p.1∧p.1≠0∧Oc f (q::r)
theorem Oc.tail{f:Func}{p:Int×Int}{r:List (Int×Int)}(h:Oc f (p::r)):Oc f r:=by
 cases r with
 | nil=>trivial
 | cons q r=>exact h.2.2
theorem Oc.head{f:Func}{b e e':Int}{r:List (Int×Int)}(h:Oc f ((b,e)::r)):Oc f ((b,e')::r):=by
 cases r with
 | nil=>exact h
 | cons q r=>exact h
structure Jn(f:Func)(S:Sr):Prop where
 st:Oc f S.st
 out:∀i v,S.out[i]?=some v->(v≠0∧∃a,N' f a v∧((∃j,i<j∧S.out[j]?=some a)∨∃e,(a,e)∈S.st))∨(v=0∧S.st=[]∧i+1=S.out.length)
theorem Jn.step{f:Func}(hg:vT f){S:Sr}(hS:v7 f S)(h:Jn f S):Jn f (fA f S):=by
 obtain⟨seen,st,out⟩:=S;obtain⟨h1,h2⟩:=h;simp only at h1 h2;cases st with
 | nil=>exact⟨h1,h2⟩
 | cons p r =>
  obtain⟨b,e⟩:=p;have hp:=hS.blk (b,e) (by simp);simp only at hp;have hold:∀i v,out[i]?=some v->v≠0∧∃a,N' f a v∧((∃j,i<j∧out[j]?=some a)∨∃e',(a,e')∈(b,e)::r):=fun i v hi=>by
   rcases h2 i v hi with q|⟨_,q,_⟩
   ·exact q
   cases q
  simp only[fA];split
  ·refine⟨h1.tail,fun i v hi=>?_⟩;simp only at hi ⊢;by_cases bd:i<out.length
   ·rw[List.getElem?_append_left bd]at hi;obtain⟨q0,a,q1,q2⟩:=hold i v hi;refine .inl ⟨q0,a,q1,?_⟩;rcases q2 with⟨j,q2,q3⟩|⟨e',q2⟩
    ·exact .inl ⟨j,q2,by rw[List.getElem?_append_left (ag q3)];exact q3⟩
    rcases List.mem_cons.1 q2 with q|q
    ·simp only[Prod.mk.injEq]at q;exact .inl ⟨out.length,bd,by rw[q.1];simp⟩
    exact .inr ⟨e',q⟩
   have jt:=ag hi;simp only[List.length_append,List.length_cons,List.length_nil]at jt;have:i=out.length:=by omega
   subst this;simp at hi;subst hi;cases r with
   | nil=>exact .inr ⟨h1,rfl,by simp⟩
   | cons q r=>exact .inl ⟨h1.2.1,q.1,h1.1,.inr ⟨q.2,by simp⟩⟩
  rename_i he;obtain⟨x,hx,Fu,CN,Fk⟩:=hg.next ⟨hp.1,hp.2.1⟩ hp.2.2.1 (by omega)
  split
  ·refine⟨h1.head,fun i v hi=>.inl ?_⟩;obtain⟨q0,a,q1,q2⟩:=hold i v hi;refine⟨q0,a,q1,?_⟩;rcases q2 with q2|⟨e',q2⟩
   ·exact .inl q2
   rcases List.mem_cons.1 q2 with q|q
   ·simp only[Prod.mk.injEq]at q;exact .inr ⟨e+1,by simp[q.1]⟩
   exact .inr ⟨e',by simp[q]⟩
  refine⟨⟨⟨x,List.mem_of_getElem? hx,Fu⟩,by simp only;omega,h1.head⟩,fun i v hi=>.inl ?_⟩;obtain⟨q0,a,q1,q2⟩:=hold i v hi;refine⟨q0,a,q1,?_⟩;rcases q2 with q2|⟨e',q2⟩
  ·exact .inl q2
  rcases List.mem_cons.1 q2 with q|q
  ·simp only[Prod.mk.injEq]at q;exact .inr ⟨e+1,by simp[q.1]⟩
  exact .inr ⟨e',by simp[q]⟩
theorem Jn.run{f:Func}(hg:vT f):∀(n:Nat) (S:Sr),v7 f S->Jn f S->Jn f (ju f n S)
 | 0,S,_,h=>h
 | n+1,S,hS,h=>by
  simp only[ju];cases dD:S.st with
  | nil=>simpa[dD]using h
  | cons p r =>
   simp only[List.isEmpty_cons,Bool.false_eq_true,if_false];exact Jn.run hg n _ (oP hg hS (by rw[dD];simp)).1 (h.step hg hS)
theorem Jn.start(f:Func):Jn f (de f):=⟨rfl,fun i v h=>by simp[de]at h⟩
theorem xE{f:Func}(hg:vT f){n:Nat}{v:Int}(h:(cp f)[n]?=some v):(n=0∧v=0)∨∃a,N' f a v∧a∈(cp f).take n:=by
 have h0:=mV hg;have h1:=rk hg 100000 _ h0.1 h0.2;have hJ:=Jn.run hg 100000 _ h0.1 (Jn.start f);have hn:=ag h;unfold cp jR at *;generalize ju f 100000 (de f)=S at *;have hl:n<S.out.length:=by simpa using hn
 rw[List.getElem?_reverse hl]at h;rcases hJ.out _ _ h with⟨_,a,q1,q2⟩|⟨q1,_,q3⟩
 ·rcases q2 with⟨j,q3,q4⟩|⟨e,q3⟩
  ·refine .inr ⟨a,q1,?_⟩;have hj:=ag q4;have:(S.out.reverse)[S.out.length-1-j]?=some a:=by
    rw[List.getElem?_reverse (by omega),<-q4];congr 1;omega
   exact List.mem_of_getElem? (i:=S.out.length-1-j) (by rw[List.getElem?_take,if_pos (by omega)];exact this)
  rw[h1.2]at q3;cases q3
 exact .inl ⟨by omega,q1⟩
theorem Df{k:Nat}{ls:List (List Int)}{e:Edge}{j:Nat}{a:Int}(h:a∈ls[j]?.getD []):a∈(mj k ls e)[j]?.getD []:=by
 unfold mj;by_cases q:e.block.toNat=j
 ·subst q;by_cases hl:e.block.toNat<ls.length
  ·rw[List.getElem?_set_self hl];simp[h]
  rw[List.getElem?_eq_none (by omega)]at h;simp at h
 rw[List.getElem?_set_ne q];exact h
theorem p8{k:Nat}{j:Nat}{a:Int}:∀{es:List Edge} {ls:List (List Int)},a∈ls[j]?.getD []->a∈(mi k ls es)[j]?.getD []
 | [],_,h=>h
 | e::r,ls,h=>p8 (es:=r) (Df h)
theorem vp{j:Nat}{a:Int}:∀{bs:List Block} {k:Nat} {ls:List (List Int)},a∈ls[j]?.getD []->a∈(n7 k ls bs)[j]?.getD []
 | [],_,_,h=>h
 | b::r,k,ls,h=>vp (bs:=r) (p8 h)
theorem xI{k:Nat}:∀{es:List Edge} {ls:List (List Int)} {x:Edge},x∈es->x.block.toNat<ls.length->(k:Int)∈(mi k ls es)[x.block.toNat]?.getD []
 | [],_,_,h,_=>by cases h
 | e::r,ls,x,h,hl=>by
  show(k:Int)∈(mi k (mj k ls e) r)[x.block.toNat]?.getD [];rcases List.mem_cons.1 h with q|q
  ·subst q;apply p8;unfold mj;rw[List.getElem?_set_self hl];simp
  exact xI q (by rw[xJ];exact hl)
theorem xL:∀{bs:List Block} {k i:Nat} {ls:List (List Int)} {b:Block} {x:Edge},bs[i]?=some b->x∈b.term.to->x.block.toNat<ls.length->((k+i:Nat):Int)∈(n7 k ls bs)[x.block.toNat]?.getD []
 | [],_,_,_,_,_,h,_,_=>by simp at h
 | c::r,k,i,ls,b,x,h,hx,hl=>by
  cases i with
  | zero =>
   simp only[List.getElem?_cons_zero,Option.some.injEq]at h;subst h;exact vp (bs:=r) (xI hx hl)
  | succ i =>
   have:=xL (bs:=r) (k:=k+1) (i:=i) (ls:=mi k ls c.term.to) (by simpa using h) hx (by rw[rW];exact hl);rw[show k+(i+1)=k+1+i by omega];exact this
theorem EZ{f:Func}{a v:Int}(ha:0<=a∧a<f.blocks.length)(hv:0<=v∧v<f.blocks.length)(h:N' f a v):a∈(iC f)[v.toNat]?.getD []:=by
 obtain⟨x,hx,W6⟩:=h;have hb:=fg ha.1 ha.2;have:=xL (bs:=f.blocks) (k:=0) (ls:=List.replicate f.blocks.length []) hb hx (by rw[W6,List.length_replicate];omega);rw[W6,Nat.zero_add,Int.toNat_of_nonneg ha.1]at this;exact this
structure Nd(f:Func)(S:Sr):Prop where
 nd:(S.out++S.st.map (·.1)).Nodup
 seen:∀v,v∈S.out++S.st.map (·.1)↔(0<=v∧S.seen[v.toNat]?.getD false=true)
 outs:∀v∈S.out,∀x∈mv f v,S.seen[x.block.toNat]?.getD false=true
 st:∀p∈S.st,∀(j:Nat) x,(j:Int)<p.2->(mv f p.1)[j]?=some x->S.seen[x.block.toNat]?.getD false=true
theorem lQ{l:List Bool}{k j:Nat}(h:l[j]?.getD false=true):(l.set k true)[j]?.getD false=true:=by
 have hj:j<l.length:=by
  refine Classical.byContradiction fun q=>?_;rw[List.getElem?_eq_none (by omega)]at h;cases h
 by_cases e:k=j
 ·subst e;rw[List.getElem?_set_self hj];rfl
 rw[List.getElem?_set_ne e];exact h
theorem Nd.step{f:Func}(hg:vT f){S:Sr}(hS:v7 f S)(h:Nd f S):Nd f (fA f S):=by
 obtain⟨seen,st,out⟩:=S;obtain⟨h1,h2,h3,h4⟩:=h;simp only at h1 h2 h3 h4;cases st with
 | nil=>exact⟨h1,h2,h3,h4⟩
 | cons p r =>
  obtain⟨b,e⟩:=p;have hp:=hS.blk (b,e) (by simp);simp only at hp;have hlen:=hS.len;simp only at hlen;simp only[fA];split
  ·rename_i he;refine⟨?_,fun v=>?_,fun v hv x hx=>?_,fun q hq=>h4 q (by simp[hq])⟩
   ·simp only[List.append_assoc,List.cons_append,List.nil_append];simpa using h1
   ·rw[<-h2 v];simp only[List.append_assoc,List.cons_append,List.nil_append,List.map_cons]
   simp only at hv ⊢;rcases List.mem_append.1 hv with q|q
   ·exact h3 v q x hx
   rw[List.mem_singleton.1 q]at hx;obtain⟨j,hj⟩:=List.getElem?_of_mem hx;have:=ag hj;exact h4 (b,e) (by simp) j x (by simp only;omega) hj
  rename_i he;obtain⟨x,hx,Fu,CN,Fk⟩:=hg.next ⟨hp.1,hp.2.1⟩ hp.2.2.1 (by omega)
  split
  ·rename_i hs;refine⟨by simpa using h1,fun v=>by simpa using h2 v,h3,fun q hq j y hj hy=>?_⟩;simp only at hq ⊢;rcases List.mem_cons.1 hq with q'|q'
   ·subst q';simp only at hj hy;by_cases k9:(j:Int)<e
    ·exact h4 (b,e) (by simp) j y k9 hy
    have:j=e.toNat:=by omega
    subst this;rw[hx]at hy;simp only[Option.some.injEq]at hy;subst hy;rw[Fu];exact hs
   exact h4 q (by simp[q']) j y hj hy
  rename_i hs;have Vp:dH f b e ∉ out++(b::r.map (·.1)):=fun hm=>by
   have:=(h2 (dH f b e)).1 (by simpa using hm);exact hs this.2
  have hk:(dH f b e).toNat<seen.length:=by omega
  refine⟨?_,fun v=>?_,fun v hv y hy=>lQ (h3 v hv y hy),fun q hq j y hj hy=>?_⟩
  ·simp only[List.map_cons]at h1 ⊢;rw[List.nodup_append]at h1 ⊢;simp only[List.mem_append,not_or]at Vp;refine⟨h1.1,List.nodup_cons.2 ⟨Vp.2,h1.2.1⟩,fun a ha c hc=>?_⟩;rcases List.mem_cons.1 hc with q|q
   ·subst q;exact fun e=>Vp.1 (e ▸ ha)
   exact h1.2.2 a ha c q
  ·simp only[List.map_cons];have Pt:=h2 v;simp only[List.map_cons]at Pt;by_cases e1:v=dH f b e
   ·subst e1;rw[List.getElem?_set_self hk];simp;omega
   have:v∈out++dH f b e::b::r.map (·.1)↔v∈out++(b::r.map (·.1)):=by
    simp only[List.mem_append,List.mem_cons,e1,false_or]
   rw[this,Pt];by_cases h0:0<=v
   ·rw[List.getElem?_set_ne (by omega)]
   simp[h0]
  simp only at hq ⊢;rcases List.mem_cons.1 hq with q'|q'
  ·subst q';simp only at hj;omega
  rcases List.mem_cons.1 q' with q'|q'
  ·subst q';simp only at hj hy;by_cases k9:(j:Int)<e
   ·exact lQ (h4 (b,e) (by simp) j y k9 hy)
   have:j=e.toNat:=by omega
   subst this;rw[hx]at hy;simp only[Option.some.injEq]at hy;subst hy;rw[Fu,List.getElem?_set_self hk];rfl
  exact lQ (h4 q (by simp[q']) j y hj hy)
theorem Nd.run{f:Func}(hg:vT f):∀(n:Nat) (S:Sr),v7 f S->Nd f S->Nd f (ju f n S)
 | 0,S,_,h=>h
 | n+1,S,hS,h=>by
  simp only[ju];cases dD:S.st with
  | nil=>simpa[dD]using h
  | cons p r =>
   simp only[List.isEmpty_cons,Bool.false_eq_true,if_false];exact Nd.run hg n _ (oP hg hS (by rw[dD];simp)).1 (h.step hg hS)
theorem Nd.start{f:Func}(hg:vT f):Nd f (de f):=by
 have hl:=List.length_pos_iff.2 hg.ne;refine⟨by simp[de],fun v=>?_,fun v hv=>by simp[de]at hv,fun p hp j x hj=>?_⟩
 ·simp only[de,List.nil_append,List.map_cons,List.map_nil,List.mem_singleton];constructor
  ·intro e;subst e;refine⟨by omega,?_⟩;rw[Int.toNat_zero,List.getElem?_set_self (by simpa using hl)];rfl
  rintro⟨h0,h⟩;refine Classical.byContradiction fun q=>?_;rw[List.getElem?_set_ne (by omega),List.getElem?_replicate]at h;split at h<;>simp at h
 simp only[de,List.mem_singleton]at hp;subst hp;simp only at hj;omega
theorem me{l:List Int}{n:Int}:(0<=nU l n↔n∈l)∧(0<=nU l n->l[(nU l n).toNat]?=some n):=by
 unfold nU;have hm:l.findIdx (· == n)<l.length↔n∈l:=by
  rw[List.findIdx_lt_length];simp
 by_cases h:l.findIdx (· == n)<l.length
 ·rw[if_pos h];refine⟨⟨fun _=>hm.1 h,fun _=>by omega⟩,fun _=>?_⟩;have:=List.findIdx_getElem (w:=h);simp only[beq_iff_eq]at this;rw[Int.toNat_natCast,List.getElem?_eq_getElem h,this]
 rw[if_neg h];exact⟨⟨fun q=>absurd q (by omega),fun q=>absurd (hm.2 q) h⟩,fun q=>absurd q (by omega)⟩
def fX(f:Func)(k:Int):Int:=nU (cp f) k
structure oU(f:Func):Prop where
 inj:∀a b,0<=fX f a->fX f a=fX f b->a=b
 zero:fX f 0=0
 at_:∀(i:Nat) v,(cp f)[i]?=some v->fX f v=i
 get:∀v,0<=fX f v->(cp f)[(fX f v).toNat]?=some v
 low:∀v,-1<=fX f v∧fX f v<(cp f).length
 fwd:∀v,1<=fX f v->∃a,N' f a v∧0<=fX f a∧fX f a<fX f v
 next:∀a b,0<=fX f a->N' f a b->0<=fX f b
 range:∀v,0<=fX f v->0<=v∧v<f.blocks.length
 oX:(cp f).length<=128
 pos:0<(cp f).length
theorem O5{f:Func}(hg:vT f):oU f:=by
 obtain⟨g1,g2,g3⟩:=sK hg;have h0:=mV hg;have h1:=rk hg 100000 _ h0.1 h0.2;have hN:=Nd.run hg 100000 _ h0.1 (Nd.start hg);have AJ:(cp f).Nodup:=by
  have:=hN.nd;rw[h1.2]at this;simp only[List.map_nil,List.append_nil]at this;unfold cp List.Nodup;rw[List.pairwise_reverse];exact List.Pairwise.imp (fun h=>Ne.symm h) this
 have kC:∀v,v∈cp f↔v∈jR f:=fun v=>by simp[cp]
 have da:0<(cp f).length:=by
  have:cp f≠[]:=by simpa[cp]using g1
  exact List.length_pos_iff.2 this
 have eo:∀v,0<=fX f v->(cp f)[(fX f v).toNat]?=some v:=fun v hv=>me.2 hv;have oZ:∀(i:Nat) v,(cp f)[i]?=some v->fX f v=i:=fun i v hi=>by
  have hm:v∈cp f:=List.mem_of_getElem? hi;have h2:=eo v (me.1.2 hm);have h3:0<=fX f v:=me.1.2 hm;have:=(List.getElem?_inj (ag h2) AJ).1 (h2.trans hi.symm);omega
 have Lh:∀v,-1<=fX f v∧fX f v<(cp f).length:=fun v=>by
  unfold fX nU;split
  ·omega
  omega
 refine⟨fun a b ha e=>?_,?_,oZ,eo,Lh,fun v hv=>?_,fun a b ha e=>?_,fun v hv=>?_,by simpa[cp]using g2,da⟩
 ·have h2:=eo a ha;have h3:=eo b (by omega);rw[e,h3]at h2;simpa using h2.symm
 ·have:(cp f)[0]?=some (cp f)[0]:=List.getElem?_eq_getElem da;rcases xE hg this with⟨_,q⟩|⟨a,_,q⟩
  ·have:=oZ 0 _ this;rw[q]at this;simpa using this
  simp at q
 ·have h2:=eo v (by omega);rcases xE hg h2 with⟨q,_⟩|⟨a,q1,q2⟩
  ·omega
  obtain⟨j,hj⟩:=List.getElem?_of_mem q2;rw[List.getElem?_take]at hj;split at hj
  ·have:=oZ j a hj;exact⟨a,q1,by omega,by omega⟩
  cases hj
 ·have hm:a∈jR f:=(kC a).1 (me.1.1 ha);obtain⟨x,hx,Fu⟩:=e;have:=hN.outs a hm x hx;rw[Fu]at this;have hb:0<=b:=by
   have WW:=g3 a hm;have:=hg.ni _ (iW WW.1 WW.2) x hx;omega
  have h3:=(hN.seen b).2 ⟨hb,this⟩;rw[h1.2]at h3;simp only[List.map_nil,List.append_nil]at h3;exact me.1.2 ((kC b).2 h3)
 exact g3 v ((kC v).1 (me.1.1 hv))
def fF(l:List Int)(k:Int):Int:=l[k.toNat]?.getD (-1)
def iE(f:Func):List Int:=(List.range f.blocks.length).map fun(k:Nat)=>fX f k
theorem pX{f:Func}{k:Int}(h0:0<=k)(h1:k<f.blocks.length):(iE f)[k.toNat]?=some (fX f k):=by
 unfold iE;rw[List.getElem?_map,List.getElem?_range (by omega)];simp only[Option.map_some,Option.some.injEq];congr 1;omega
def jl(P O:List Int):Nat->Int->Int->Int
 | 0,a,_=>a
 | n+1,a,b=>if a=b then a else if fF P b<fF P a then jl P O n (fF O a) b else jl P O n a (fF O b)
def dW(P O:List Int)(next p:Int):Int:=if fF P p<0∨(p≠0∧fF O p<0)then next else if next<0 then p else jl P O 300 next p
def j1(P O:List Int)(ps:List Int):Int:=ps.foldl (dW P O) (-1)
def cX(f:Func)(k:Int):List Int:=(iC f)[k.toNat]?.getD []
structure Dm where
 over:List Int
 again:Bool
def gC(f:Func)(S:Dm)(z:Int):Dm:=if j1 (iE f) S.over (cX f z)≠fF S.over z then⟨S.over.set z.toNat (j1 (iE f) S.over (cX f z)),true⟩else S
def Hc(f:Func)(S:Dm):Dm:=((cp f).drop 1).foldl (gC f) S
def Gn(f:Func):Nat->Dm->Dm
 | 0,S=>S
 | n+1,S=>if S.again then Gn f n (Hc f ⟨S.over,false⟩)else S
def EV(f:Func):Dm:=⟨List.replicate f.blocks.length (-1),true⟩
def pk(f:Func):List Int:=(Gn f 30000 (EV f)).over
inductive la(O:List Int)(d:Int):Int->Prop
 | refl:la O d d
 | up {k:Int} (h:0<=fF O k) (a:la O d (fF O k)):la O d k
def nf(O:List Int)(k:Int):Prop:=k=0∨0<=fF O k
structure Tr(f:Func)(O:List Int):Prop where
 len:O.length=f.blocks.length
 root:fF O 0=-1
 up:∀k,0<=fF O k->0<=fX f (fF O k)∧fX f (fF O k)<fX f k∧nf O (fF O k)
 low:∀k,-1<=fF O k
theorem la.trans{O:List Int}{a b c:Int}(h1:la O a b)(h2:la O b c):la O a c:=by
 induction h2 with
 | refl=>exact h1
 | up h _ ih=>exact .up h ih
theorem Tr.B0{f:Func}(hw:oU f){O:List Int}(h:Tr f O){k:Int}(hk:nf O k):0<=fX f k:=by
 rcases hk with q|q
 ·rw[q,hw.zero];omega
 have:=h.up k q;omega
theorem la.pl{f:Func}(hw:oU f){O:List Int}(h:Tr f O){d k:Int}(hk:nf O k)(ha:la O d k):fX f d<=fX f k∧0<=fX f d∧nf O d∧(fX f d=fX f k->d=k):=by
 induction ha with
 | refl=>exact⟨Int.le_refl _,h.B0 hw hk,hk,fun _=>rfl⟩
 | up hu _ ih =>
  have aW:=h.up _ hu;obtain⟨h1,h2,h3,_⟩:=ih aW.2.2;exact⟨by omega,h2,h3,fun e=>by omega⟩
theorem la.comp{O:List Int}{a d p:Int}(ha:la O a p)(hd:la O d p):la O a d∨la O d a:=by
 induction ha with
 | refl=>exact .inr hd
 | @up k h ha ih =>
  cases hd with
  | refl=>exact .inl (.up h ha)
  | up _ hd=>exact ih hd
theorem yO{f:Func}(hw:oU f){O:List Int}(h:Tr f O):∀(n:Nat) (a b:Int),nf O a->nf O b->fX f a+fX f b<n ->
  la O (jl (iE f) O n a b) a∧la O (jl (iE f) O n a b) b∧∀d,la O d a->la O d b->la O d (jl (iE f) O n a b)
 | 0,a,b,ha,hb,hn=>by
  have:=h.B0 hw ha;have:=h.B0 hw hb;omega
 | n+1,a,b,ha,hb,hn=>by
  have pa:=h.B0 hw ha;have pb:=h.B0 hw hb;have ra:=hw.range a pa;have rb:=hw.range b pb;have ea:fF (iE f) a=fX f a:=by unfold fF;rw[pX ra.1 ra.2];rfl
  have eb:fF (iE f) b=fX f b:=by unfold fF;rw[pX rb.1 rb.2];rfl
  simp only[jl];rw[ea,eb];split
  ·rename_i e;subst e;exact⟨.refl,.refl,fun d h _=>h⟩
  rename_i da;split
  ·rename_i bd;have hu:0<=fF O a:=by
    rcases ha with q|q
    ·rw[q,hw.zero]at bd;omega
    exact q
   obtain⟨u1,u2,u3⟩:=h.up a hu;obtain⟨i1,i2,i3⟩:=yO hw h n (fF O a) b u3 hb (by omega);refine⟨.up hu i1,i2,fun d d1 d2=>?_⟩;cases d1 with
   | refl =>
    have:=(d2.pl hw h hb).1;omega
   | up _ d1=>exact i3 d d1 d2
  rename_i bd;have hu:0<=fF O b:=by
   rcases hb with q|q
   ·rw[q,hw.zero]at bd;have:a=0:=hw.inj a 0 pa (by rw[hw.zero];omega);exact absurd (this.trans q.symm) da
   exact q
  obtain⟨u1,u2,u3⟩:=h.up b hu;obtain⟨i1,i2,i3⟩:=yO hw h n a (fF O b) ha u3 (by omega);refine⟨i1,.up hu i2,fun d d1 d2=>?_⟩;cases d2 with
  | refl =>
   have:=d1.pl hw h ha;have:fX f b=fX f a:=by omega
   exact absurd (hw.inj b a pb this).symm da
  | up _ d2=>exact i3 d d1 d2
theorem Ib{f:Func}(hw:oU f){O:List Int}(h:Tr f O){a b:Int}(ha:nf O a)(hb:nf O b) :
  la O (jl (iE f) O 300 a b) a∧la O (jl (iE f) O 300 a b) b∧∀d,la O d a->la O d b->la O d (jl (iE f) O 300 a b):=by
 have h1:=(hw.low a).2;have h2:=(hw.low b).2;have h3:=hw.oX;exact yO hw h 300 a b ha hb (by omega)
theorem nf.nn{f:Func}(hw:oU f){O:List Int}(h:Tr f O){k:Int}(hk:nf O k):0<=k:=(hw.range k (h.B0 hw hk)).1
theorem vq{f:Func}(hw:oU f){O:List Int}(h:Tr f O){p:Int}(hp:0<=p∧p<f.blocks.length):(fF (iE f) p<0∨(p≠0∧fF O p<0))↔¬nf O p:=by
 have ep:fF (iE f) p=fX f p:=by unfold fF;rw[pX hp.1 hp.2];rfl
 rw[ep];constructor
 ·rintro(q|⟨q1,q2⟩) ha
  ·have:=h.B0 hw ha;omega
  rcases ha with r|r
  ·exact q1 r
  omega
 intro ha;refine .inr ⟨fun e=>ha (.inl e),?_⟩;exact Classical.byContradiction fun q=>ha (.inr (by omega))
theorem qH{f:Func}(hw:oU f){O:List Int}(h:Tr f O):∀(ps:List Int) (acc:Int),(∀p∈ps,0<=p∧p<f.blocks.length)->(acc=-1∨nf O acc) ->
  (ps.foldl (dW (iE f) O) acc=-1∧acc=-1∧∀p∈ps,¬nf O p) ∨
  (nf O (ps.foldl (dW (iE f) O) acc)∧(acc≠-1->la O (ps.foldl (dW (iE f) O) acc) acc)∧(∀p∈ps,nf O p->la O (ps.foldl (dW (iE f) O) acc) p) ∧
   ∀d,(acc≠-1->la O d acc)->(∀p∈ps,nf O p->la O d p)->la O d (ps.foldl (dW (iE f) O) acc))
 | [],acc,_,AA=>by
  rcases AA with q|q
  ·exact .inl ⟨q,q,by simp⟩
  refine .inr ⟨q,fun _=>.refl,by simp,fun d h1 _=>h1 ?_⟩;have:=q.nn hw h;omega
 | p::r,acc,nE,AA=>by
  have hp:=nE p (by simp);have hr:∀p∈r,0<=p∧p<f.blocks.length:=fun q hq=>nE q (by simp[hq]);rw[List.foldl_cons];by_cases ha:nf O p
  ·have HQ:=fun q=>(vq hw h hp).1 q ha;have hs:dW (iE f) O acc p=if acc<0 then p else jl (iE f) O 300 acc p:=by
    unfold dW;rw[if_neg HQ]
   rcases AA with q|q
   ·have R2:dW (iE f) O acc p=p:=by rw[hs,if_pos (by omega)]
    rw[R2];rcases qH hw h r p hr (.inr ha)with⟨_,i2,_⟩|⟨i1,i2,i3,i4⟩
    ·have:=ha.nn hw h;omega
    have zF:p≠-1:=by omega
    refine .inr ⟨i1,fun e=>absurd q e,fun x hx Gv=>?_,fun d _ h2=>i4 d (fun _=>h2 p (by simp) ha) fun x hx Gv=>h2 x (by simp[hx]) Gv⟩;rcases List.mem_cons.1 hx with e|e
    ·subst e;exact i2 zF
    exact i3 x e Gv
   have hq:=q.nn hw h;have R2:dW (iE f) O acc p=jl (iE f) O 300 acc p:=by rw[hs,if_neg (by omega)]
   rw[R2];obtain⟨m1,m2,m3⟩:=Ib hw h q ha;have Td:=(m1.pl hw h q).2.2.1;rcases qH hw h r _ hr (.inr Td)with⟨_,i2,_⟩|⟨i1,i2,i3,i4⟩
   ·have:=Td.nn hw h;omega
   have WM:jl (iE f) O 300 acc p≠-1:=by have:=Td.nn hw h;omega
   refine .inr ⟨i1,fun _=>(i2 WM).trans m1,fun x hx Gv=>?_,fun d h1 h2=>i4 d (fun _=>m3 d (h1 (by omega)) (h2 p (by simp) ha)) fun x hx Gv=>h2 x (by simp[hx]) Gv⟩;rcases List.mem_cons.1 hx with e|e
   ·subst e;exact(i2 WM).trans m2
   exact i3 x e Gv
  have hs:dW (iE f) O acc p=acc:=by
   unfold dW;rw[if_pos ((vq hw h hp).2 ha)]
  rw[hs];rcases qH hw h r acc hr AA with⟨i1,i2,i3⟩|⟨i1,i2,i3,i4⟩
  ·refine .inl ⟨i1,i2,fun x hx=>?_⟩;rcases List.mem_cons.1 hx with e|e
   ·subst e;exact ha
   exact i3 x e
  refine .inr ⟨i1,i2,fun x hx Gv=>?_,fun d h1 h2=>i4 d h1 fun x hx Gv=>h2 x (by simp[hx]) Gv⟩;rcases List.mem_cons.1 hx with e|e
  ·subst e;exact absurd Gv ha
  exact i3 x e Gv
theorem FP{k:Nat}{ls:List (List Int)}{e:Edge}{j:Nat}{a:Int}(h:a∈(mj k ls e)[j]?.getD []):a∈ls[j]?.getD []∨(a=k∧j=e.block.toNat):=by
 unfold mj at h;by_cases q:e.block.toNat=j
 ·subst q;by_cases hl:e.block.toNat<ls.length
  ·rw[List.getElem?_set_self hl]at h;simp only[Option.getD_some,List.mem_append,List.mem_singleton]at h;rcases h with h|h
   ·exact .inl h
   exact .inr ⟨h,rfl⟩
  rw[List.getElem?_eq_none (by simp;omega)]at h;simp at h
 rw[List.getElem?_set_ne q]at h;exact .inl h
theorem xH{k:Nat}{j:Nat}{a:Int}:∀{es:List Edge} {ls:List (List Int)},a∈(mi k ls es)[j]?.getD []->a∈ls[j]?.getD []∨(a=k∧∃e∈es,j=e.block.toNat)
 | [],_,h=>.inl h
 | e::r,ls,h=>by
  have h:a∈(mi k (mj k ls e) r)[j]?.getD []:=h;rcases xH h with q|⟨q1,x,q2,q3⟩
  ·rcases FP q with q|⟨q1,q2⟩
   ·exact .inl q
   exact .inr ⟨q1,e,by simp,q2⟩
  exact .inr ⟨q1,x,by simp[q2],q3⟩
theorem xK{j:Nat}{a:Int}:∀{bs:List Block} {k:Nat} {ls:List (List Int)},a∈(n7 k ls bs)[j]?.getD []->a∈ls[j]?.getD []∨∃(i:Nat) (b:Block),bs[i]?=some b∧a=(k+i:Nat)∧∃e∈b.term.to,j=e.block.toNat
 | [],_,_,h=>.inl h
 | b::r,k,ls,h=>by
  rw[n7]at h;rcases xK h with q|⟨i,c,q1,q2,q3⟩
  ·rcases xH q with q|⟨q1,q2⟩
   ·exact .inl q
   exact .inr ⟨0,b,rfl,q1,q2⟩
  exact .inr ⟨i+1,c,q1,by rw[q2];congr 1;omega,q3⟩
theorem xM{f:Func}(hg:vT f){k p:Int}(hk:0<=k)(h:p∈cX f k):(0<=p∧p<f.blocks.length)∧N' f p k:=by
 rcases xK h with q|⟨i,b,q1,q2,e,q3,q4⟩
 ·rw[List.getElem?_replicate]at q;split at q<;>simp at q
 have hi:=ag q1;refine⟨by omega,e,?_,?_⟩
 ·have:bQ f p=b:=by simp[bQ,show p.toNat=i by omega,q1]
  rw[mv,this];exact q3
 have:=hg.ni b (List.mem_of_getElem? q1) e q3;omega
structure oT(f:Func)(i:Int)(O:List Int):Prop where
 tr:Tr f O
 B0:∀v,1<=fX f v->fX f v<i->0<=fF O v
 low:∀k,0<=fF O k->∀d,(∀p∈cX f k,nf O p->la O d p)->la O d (fF O k)
 fwd:∀k,0<=fF O k->(fX f k<i∨i<=fX f (fF O k))->∃p∈cX f k,nf O p∧fX f p<fX f k∧la O (fF O k) p
theorem KC{O:List Int}{z nx:Int}(hz:1<=z)(hl:z.toNat<O.length)(k:Int):fF (O.set z.toNat nx) k=if k=z then nx else fF O k:=by
 unfold fF;by_cases e:k=z
 ·subst e;rw[if_pos rfl,List.getElem?_set_self hl];rfl
 rw[if_neg e,List.getElem?_set_ne (by omega)]
theorem EU{f:Func}(hg:vT f)(hw:oU f){i:Int}{O:List Int}(h:oT f i O){z:Int}(hz:fX f z=i)(h1:1<=i) :
  0<=j1 (iE f) O (cX f z)∧0<=fX f (j1 (iE f) O (cX f z))∧(0<=fF O z->j1 (iE f) O (cX f z)=fF O z∨fX f (j1 (iE f) O (cX f z))<fX f (fF O z))∧oT f (i+1) (O.set z.toNat (j1 (iE f) O (cX f z))) ∧
  (∀p∈cX f z,nf O p->la O (j1 (iE f) O (cX f z)) p):=by
 have vZ:=hw.range z (by omega);have OW:1<=z:=by
  refine Classical.byContradiction fun q=>?_;have:z=0:=by omega
  rw[this,hw.zero]at hz;omega
 have H4:z.toNat<O.length:=by rw[h.tr.len];omega
 have nE:∀p∈cX f z,0<=p∧p<f.blocks.length:=fun p hp=>(xM hg (by omega) hp).1;obtain⟨a,XD,Wq,Y8⟩:=hw.fwd z (by omega);have RQ:=hw.range a Wq;have Kc:a∈cX f z:=EZ RQ ⟨by omega,vZ.2⟩ XD;have RP:nf O a:=by
  by_cases e:a=0
  ·exact .inl e
  refine .inr (h.B0 a ?_ (by omega));refine Classical.byContradiction fun q=>e (hw.inj a 0 Wq (by rw[hw.zero];omega))
 have Ot:=qH hw h.tr (cX f z) (-1) nE (.inl rfl);obtain⟨nx,Fp⟩:∃nx,nx=j1 (iE f) O (cX f z):=⟨_,rfl⟩
 rw[show(cX f z).foldl (dW (iE f) O) (-1)=nx from Fp.symm]at Ot;rw[<-Fp];rcases Ot with⟨_,_,q⟩|⟨n1,_,n3,n4⟩
 ·exact absurd RP (q a Kc)
 have n4:∀d,(∀p∈cX f z,nf O p->la O d p)->la O d nx:=fun d=>n4 d (fun e=>absurd rfl e);have nv:=n1.nn hw h.tr;have WR:=h.tr.B0 hw n1;have R0:fX f nx<i:=by
  have:=(n3 a Kc RP).pl hw h.tr RP;omega
 have OD:0<=fF O z->la O nx (fF O z):=fun Qr=>h.low z Qr nx n3;obtain⟨O',zD⟩:∃O',O'=O.set z.toNat nx:=⟨_,rfl⟩
 have oZ:∀k,fF O' k=if k=z then nx else fF O k:=fun k=>by rw[zD];exact KC OW H4 k
 rw[<-zD];have AB:∀k,nf O k->nf O' k:=fun k hk=>by
  rcases hk with q|q
  ·exact .inl q
  refine .inr ?_;rw[oZ];split
  ·exact nv
  exact q
 have Wt:∀k,k≠z->nf O' k->nf O k:=fun k hk q=>by
  rcases q with q|q
  ·exact .inl q
  rw[oZ,if_neg hk]at q;exact .inr q
 have Ei:∀{d p},nf O p->fX f p<i->la O d p->la O' d p:=fun {d p} hp bd ha=>by
  induction ha with
  | refl=>exact .refl
  | @up k hk _ ih =>
   have hu:=h.tr.up k hk;have Ox:k≠z:=fun e=>by rw[e]at bd;omega
   have e:fF O' k=fF O k:=by rw[oZ,if_neg Ox]
   refine .up (by rw[e];exact hk) ?_;rw[e];exact ih hu.2.2 (by omega)
 have Qv:∀{d p},nf O p->fX f p<i->la O' d p->la O d p:=fun {d p} hp bd ha=>by
  induction ha with
  | refl=>exact .refl
  | @up k hk _ ih =>
   have Ox:k≠z:=fun e=>by rw[e]at bd;omega
   have e:fF O' k=fF O k:=by rw[oZ,if_neg Ox]
   rw[e]at hk ih;have hu:=h.tr.up k hk;exact .up hk (ih hu.2.2 (by omega))
 have OX:∀{a p},nf O p->i<=fX f a->la O a p->la O' a p:=fun {a p} hp hle ha=>by
  induction ha with
  | refl=>exact .refl
  | @up k hk ha ih =>
   have hu:=h.tr.up k hk;have P':=ha.pl hw h.tr hu.2.2;have Ox:k≠z:=fun e=>by rw[e]at hu P';omega
   have e:fF O' k=fF O k:=by rw[oZ,if_neg Ox]
   refine .up (by rw[e];exact hk) ?_;rw[e];exact ih hu.2.2
 have shrink:∀{d p},nf O p->la O' d p->la O d p:=fun {d p} hp ha=>by
  induction ha with
  | refl=>exact .refl
  | @up k hk ha ih =>
   by_cases Ox:k=z
   ·subst Ox;have e:fF O' k=nx:=by rw[oZ,if_pos rfl]
    rw[e]at ha;have Qr:0<=fF O k:=by
     rcases hp with q|q
     ·omega
     exact q
    exact .up Qr ((Qv n1 R0 ha).trans (OD Qr))
   have e:fF O' k=fF O k:=by rw[oZ,if_neg Ox]
   rw[e]at hk ih;exact .up hk (ih (h.tr.up k hk).2.2)
 have VK:Tr f O':=by
  refine⟨by rw[zD,List.length_set];exact h.tr.len,by rw[oZ,if_neg (by omega)];exact h.tr.root,fun k hk=>?_,fun k=>?_⟩
  ·rw[oZ]at hk ⊢;split
   ·rename_i e;subst e;exact⟨WR,by omega,AB _ n1⟩
   rename_i e;rw[if_neg e]at hk;have:=h.tr.up k hk;exact⟨this.1,this.2.1,AB _ this.2.2⟩
  rw[oZ];split
  ·omega
  exact h.tr.low k
 refine⟨nv,WR,fun Qr=>?_,⟨VK,fun v hv Zg=>?_,fun k hk d hd=>?_,fun k hk hc=>?_⟩,n3⟩
 ·have:=OD Qr;have hu:=h.tr.up z Qr;have P':=this.pl hw h.tr hu.2.2;by_cases e:fX f nx=fX f (fF O z)
  ·exact .inl (P'.2.2.2 e)
  exact .inr (by omega)
 ·rw[oZ];split
  ·exact nv
  rename_i e;refine h.B0 v hv ?_;refine Classical.byContradiction fun q=>e (hw.inj v z (by omega) (by omega))
 ·rw[oZ];have hold:∀p∈cX f k,nf O p->la O d p:=fun p hp uV=>shrink uV (hd p hp (AB p uV));split
  ·rename_i e;subst e;exact Ei n1 R0 (n4 d hold)
  rename_i e;rw[oZ,if_neg e]at hk;have Ke:=h.low k hk d hold;have hu:=h.tr.up k hk;by_cases uV:fX f (fF O k)<i
  ·exact Ei hu.2.2 uV Ke
  obtain⟨p,hp,Qa,_,AL⟩:=h.fwd k hk (.inr (by omega));have nD:=OX Qa (by omega) AL;have SH:=hd p hp (AB p Qa);rcases nD.comp SH with q|q
  ·have q':=q.pl hw VK (SH.pl hw VK (AB p Qa)).2.2.1;have SL:=Ke.pl hw h.tr hu.2.2;have:d=fF O k:=SL.2.2.2 (by omega);rw[this];exact .refl
  exact q
 rw[oZ]at hc ⊢;by_cases e:k=z
 ·subst e;rw[if_pos rfl];exact⟨a,Kc,AB a RP,by omega,Ei RP (by omega) (n3 a Kc RP)⟩
 rw[if_neg e]at hc ⊢;rw[oZ,if_neg e]at hk;have Zd:=h.tr.up k hk;rcases hc with q|q
 ·have Vh:fX f k<i:=by
   refine Classical.byContradiction fun r=>e (hw.inj k z (by omega) (by omega))
  obtain⟨p,hp,uV,uW,AL⟩:=h.fwd k hk (.inl Vh);exact⟨p,hp,AB p uV,uW,Ei uV (by omega) AL⟩
 obtain⟨p,hp,uV,uW,AL⟩:=h.fwd k hk (.inr (by omega));exact⟨p,hp,AB p uV,uW,OX uV (by omega) AL⟩
def LI(f:Func)(o:Int):Nat:=if o<0 then 200 else(fX f o).toNat
def Dm.weight(f:Func)(S:Dm):Nat:=(S.over.map (LI f)).sum
theorem F4{l:List Int}{k:Nat}{x:Int}(h:l[k]?=some x):l.set k x=l:=by
 obtain⟨bd,e⟩:=List.getElem?_eq_some_iff.1 h;rw[<-e,List.set_getElem_self]
theorem xh{f:Func}(hg:vT f)(hw:oU f){i:Int}{S:Dm}(h:oT f i S.over){z:Int}(hz:fX f z=i)(h1:1<=i) :
  oT f (i+1) (gC f S z).over∧(gC f S z).weight f<=S.weight f∧((gC f S z).again=true->S.again=true∨(gC f S z).weight f<S.weight f) ∧
  ((gC f S z).again=false->gC f S z=S∧j1 (iE f) S.over (cX f z)=fF S.over z):=by
 obtain⟨s1,s2,s3,s4,_⟩:=EU hg hw h hz h1;have vZ:=hw.range z (by omega);obtain⟨o,ho⟩:∃o,S.over[z.toNat]?=some o:=⟨S.over[z.toNat]'(by rw[h.tr.len];omega),List.getElem?_eq_getElem _⟩
 have OG:fF S.over z=o:=by simp[fF,ho]
 unfold gC;generalize j1 (iE f) S.over (cX f z)=nx at *;split
 ·rename_i da;have bd:LI f nx<LI f o:=by
   have hl:=(hw.low nx).2;have hf:=hw.oX;unfold LI;rw[if_neg (by omega)];split
   ·omega
   rw[OG]at s3 da;rcases s3 (by omega)with q|q
   ·exact absurd q da
   omega
  have hs:=Ew (l:=S.over.map (LI f)) (k:=z.toNat) (x:=LI f nx) (y:=LI f o) (by simp[ho]);rw[<-List.map_set]at hs;simp only[Dm.weight];exact⟨s4,by omega,fun _=>.inr (by omega),fun q=>by cases q⟩
 rename_i da;have da:nx=fF S.over z:=by simpa using da
 have:S.over.set z.toNat nx=S.over:=F4 (by rw[da,OG];exact ho);rw[this]at s4;exact⟨s4,Nat.le_refl _,fun q=>.inl q,fun _=>⟨rfl,da⟩⟩
theorem Ha{f:Func}(hg:vT f)(hw:oU f):∀(l:List Int) (i:Nat) {S:Dm},1<=i->(∀(j:Nat) z,l[j]?=some z->fX f z=i+j)->oT f i S.over ->
  oT f (i+l.length:Nat) (l.foldl (gC f) S).over∧(l.foldl (gC f) S).weight f<=S.weight f∧((l.foldl (gC f) S).again=true->S.again=true∨(l.foldl (gC f) S).weight f<S.weight f) ∧
  ((l.foldl (gC f) S).again=false->l.foldl (gC f) S=S∧∀z∈l,j1 (iE f) S.over (cX f z)=fF S.over z)
 | [],i,S,_,_,h=>⟨h,Nat.le_refl _,fun q=>.inl q,fun _=>⟨rfl,by simp⟩⟩
 | z::r,i,S,h1,hl,h=>by
  have hz:=hl 0 z rfl;obtain⟨a1,a2,a3,a4⟩:=xh hg hw h (z:=z) (by rw[hz];omega) (by omega);have hr:∀(j:Nat) z,r[j]?=some z->fX f z=((i+1:Nat):Int)+j:=fun j y hj=>by
   rw[hl (j+1) y hj];omega
  have T3:oT f ((i+1:Nat):Int) (gC f S z).over:=by
   rw[show((i+1:Nat):Int)=(i:Int)+1 by omega];exact a1
  obtain⟨b1,b2,b3,b4⟩:=Ha hg hw r (i+1) (by omega) hr T3;rw[List.foldl_cons];refine⟨by rw[List.length_cons,show i+(r.length+1)=i+1+r.length by omega];exact b1,by omega,fun q=>?_,fun q=>?_⟩
  ·rcases b3 q with q|q
   ·rcases a3 q with q|q
    ·exact .inl q
    exact .inr (by omega)
   exact .inr (by omega)
  obtain⟨c1,c2⟩:=b4 q;rw[c1]at q;obtain⟨d1,d2⟩:=a4 q;rw[d1]at c1 c2;rw[d1];refine⟨c1,fun y hy=>?_⟩;rcases List.mem_cons.1 hy with e|e
  ·subst e;exact d2
  exact c2 y e
theorem uC{f:Func}(hw:oU f){O:List Int}(h:oT f (cp f).length O):oT f 1 O :=
 ⟨h.tr,fun v h1 h2=>absurd h1 (by omega),h.low,fun k hk _=>h.fwd k hk (.inl (hw.low k).2)⟩
theorem Hd{f:Func}(hg:vT f)(hw:oU f){S:Dm}(h:oT f 1 S.over) :
  oT f (cp f).length (Hc f S).over∧(Hc f S).weight f<=S.weight f∧((Hc f S).again=true->S.again=true∨(Hc f S).weight f<S.weight f) ∧
  ((Hc f S).again=false->Hc f S=S∧∀z∈(cp f).drop 1,j1 (iE f) S.over (cX f z)=fF S.over z):=by
 have hp:=hw.pos;have:=Ha hg hw ((cp f).drop 1) 1 (S:=S) (by omega) (fun j z hj=>by
  rw[List.getElem?_drop]at hj;rw[hw.at_ _ _ hj];omega) h
 rw[List.length_drop,show 1+((cp f).length-1)=(cp f).length by omega]at this;exact this
theorem Ae{f:Func}{S:Dm}(h:S.again=false)(n:Nat):Gn f n S=S:=by
 cases n with
 | zero=>rfl
 | succ n=>simp[Gn,h]
theorem Hb{f:Func}(hg:vT f)(hw:oU f):∀(n:Nat) {S:Dm},oT f 1 S.over->S.again=true->S.weight f<n ->
  (Gn f n S).again=false∧oT f (cp f).length (Gn f n S).over∧∀z∈(cp f).drop 1,j1 (iE f) (Gn f n S).over (cX f z)=fF (Gn f n S).over z
 | 0,S,_,_,hn=>absurd hn (by omega)
 | n+1,S,h,ha,hn=>by
  obtain⟨a1,a2,a3,a4⟩:=Hd hg hw (S:=⟨S.over,false⟩) h;have TL:(⟨S.over,false⟩:Dm).weight f=S.weight f:=rfl;rw[TL]at a2 a3;simp only[Gn,ha,if_true];cases hr:(Hc f ⟨S.over,false⟩).again with
  | false =>
   obtain⟨b1,b2⟩:=a4 hr;rw[Ae hr];refine⟨hr,a1,?_⟩;rw[b1];exact b2
  | true =>
   rcases a3 hr with q|q
   ·cases q
   exact Hb hg hw n (uC hw a1) hr (by omega)
theorem He{f:Func}(hw:oU f):oT f 1 (EV f).over:=by
 have oZ:∀k,fF (EV f).over k=-1:=fun k=>by
  unfold fF EV;simp only;rw[List.getElem?_replicate];split<;>rfl
 refine⟨⟨by simp[EV],oZ 0,fun k hk=>?_,fun k=>by rw[oZ];omega⟩,fun v h1 h2=>absurd h1 (by omega),fun k hk=>?_,fun k hk=>?_⟩
 all_goals
  rw[oZ]at hk;omega
theorem uD{f:Func}(h:f.blocks.length<=128):(EV f).weight f<=25600:=by
 have hs:=IP (l:=(EV f).over.map (LI f)) (b:=200) (fun x hx=>by
  simp only[EV,List.map_replicate]at hx;rw[(List.mem_replicate.1 hx).2];simp[LI])
 simp only[EV,List.length_map,List.length_replicate]at hs;simp only[Dm.weight,EV];omega
structure Sg(f:Func):Prop where
 tr:Tr f (pk f)
 B0:∀v,1<=fX f v->0<=fF (pk f) v
 fix:∀v,1<=fX f v->j1 (iE f) (pk f) (cX f v)=fF (pk f) v
theorem RD{f:Func}(hg:vT f):Sg f:=by
 have hw:=O5 hg;have h0:=uD hg.oX;obtain⟨_,h2,h3⟩:=Hb hg hw 30000 (He hw) rfl (by omega);refine⟨h2.tr,fun v hv=>h2.B0 v hv (hw.low v).2,fun v hv=>h3 v ?_⟩;have:=hw.get v (by omega);refine List.mem_of_getElem? (i:=(fX f v).toNat-1) ?_;rw[List.getElem?_drop,<-this];congr 1;omega
theorem tH{l:List Int}{k:Nat}{x:Int}(h:l[k]?=some x):(l.map aI)[k]?=some (aI x):=by
 rw[List.getElem?_map,h];rfl
theorem FE{O:List aq}(aW:∀o∈O,o.upto O.length){A B N:Nat}{f:Func}(hw:oU f){ov:List Int}(hA:O[A]?=some (.cells (ov.map aI)))(hB:O[B]?=some (.cells ((iE f).map aI)))(hN:N=f.blocks.length)(ht:Tr f ov){a b:Int}(ha:nf ov a)(hb:nf ov b) :
  aK Tryz.prog 117 O [.agg [.ms A 0 N N,.ms B 0 N N],aI a,aI b] (fun r O'=>r=aI (jl (iE f) ov 300 a b)∧O'=O):=by
 have RN:=ag hA;have Xs:=ag hB;obtain⟨R,hR⟩:∃R,R=jl (iE f) ov 300 a b:=⟨_,rfl⟩
 rw[<-hR];have PS:=hw.oX;have dD:fX f a+fX f b<(300:Nat):=by
  have:=(hw.low a).2;have:=(hw.low b).2;omega
 refine zf true O.length Tryz.func117 Tryz.ntmps117 ?_;dsimp only[Tmp,TypeId,slotsOf];refine az (ai ?_);refine aZ 3 ([.ms A 0 N N,.ms B 0 N N]) [(1,aI a),(2,aI b),(3,.ip none [.ms A 0 N N,.ms B 0 N N])] (by simp[cd,bG,Go.Av.look]) (by rfl) (by omega) (by simp[cd,bG,Go.Av.look]) ?_ ?_ ?_
 ·exact aW
 ·simp[aa.upto,av,RN,Xs]
 refine aL (ah (a8 (ι:={x:Nat×Int×Int // R=jl (iE f) ov x.1 x.2.1 x.2.2∧nf ov x.2.1∧nf ov x.2.2∧fX f x.2.1+fX f x.2.2<x.1}) (fun x=>⟨32,[(1,aI x.1.2.1),(2,aI x.1.2.2),(3,.ip none [.ms A 0 N N,.ms B 0 N N])],O⟩) (fun x=>x.1.1) ⟨(300,a,b),hR,ha,hb,dD⟩ ?_ ?_))
 ·refine zq rfl ?_ ?_;simp -dsimp only[simprocAttr,↓I,zp,zc];rfl
 rintro⟨⟨n,a,b⟩,K0,ha,hb,bd⟩;simp only at K0 ha hb bd;have pa:=ht.B0 hw ha;have pb:=ht.B0 hw hb;have ra:=hw.range a pa;have rb:=hw.range b pb;obtain⟨n,rfl⟩:∃n',n=n'+1:=⟨n-1,by omega⟩
 have ea:=pX ra.1 ra.2;have eb:=pX rb.1 rb.2;have uV:fF (iE f) a=fX f a:=by unfold fF;rw[ea];rfl
 have Yb:fF (iE f) b=fX f b:=by unfold fF;rw[eb];rfl
 have XO:=tH ea;have Uh:=tH eb;by_cases tu:a=b
 ·have hd:decide (a=b)=true:=decide_eq_true tu;refine bR ?_;simp -dsimp only[simprocAttr,↓I,zp,hd];refine ai ?_;refine cP rfl ?_;refine aN ?_;simp -dsimp only[bH,ne_eq,Nat.reduceEqDiff,reduceCtorEq];subst tu;have:R=a:=by rw[K0];simp[jl]
  rw[this];refine az (ai ?_);refine ak ?_;simp -dsimp only[simprocAttr,↓I,zp,zr,Tryz.results117];exact aW
 have hd:decide (a=b)=false:=decide_eq_false tu;simp only[jl,if_neg tu,uV,Yb]at K0;refine bR ?_;simp -dsimp only[simprocAttr,↓I,zp,hd];refine ai ?_;apply aF rfl<;>intro h
 ·refine bZ ?_;refine ah ?_;refine aG ?_;simp -dsimp only[simprocAttr,↓I,zp,hB,XO,Uh,Nat.mul_one]
  repeat(refine⟨by omega,?_⟩)
  refine⟨cm [B] O.length [.pure,.pure,.pure,.pure,.rd 0,.pure,.pure,.pure,.pure,.rd 0,.pure] (by simp) (by simp;omega) rfl rfl (by kernel_rfl),?_⟩;refine ai ?_;by_cases RY:fX f b<fX f a
  ·rw[if_pos RY]at K0;have hu:0<=fF ov a:=by
    rcases ha with q|q
    ·rw[q,hw.zero]at RY;omega
    exact q
   obtain⟨u1,u2,u3⟩:=ht.up a hu;obtain⟨x,hx⟩:∃x,ov[a.toNat]?=some x:=⟨ov[a.toNat]'(by rw[ht.len];omega),List.getElem?_eq_getElem _⟩
   have Gw:fF ov a=x:=by simp[fF,hx]
   rw[Gw]at K0 u1 u2 u3;have Qp:=tH hx;apply aF rfl<;>intro h
   ·refine fE ?_;simp -dsimp only[simprocAttr,↓I,zp,hA,Qp,Nat.mul_one]
    repeat(refine⟨by omega,?_⟩)
    refine UA ?_;refine⟨⟨(n,x,b),K0,u3,hb,by simp only;omega⟩,by simp,?_⟩;refine zq rfl ?_ ?_;simp -dsimp only[simprocAttr,↓I,zp,zc];rfl
   exact absurd RY (of_decide_eq_false h)
  rw[if_neg RY]at K0;have hu:0<=fF ov b:=by
   rcases hb with q|q
   ·rw[q,hw.zero]at RY;have:a=0:=hw.inj a 0 pa (by rw[hw.zero];omega);exact absurd (this.trans q.symm) tu
   exact q
  obtain⟨u1,u2,u3⟩:=ht.up b hu;obtain⟨x,hx⟩:∃x,ov[b.toNat]?=some x:=⟨ov[b.toNat]'(by rw[ht.len];omega),List.getElem?_eq_getElem _⟩
  have Gw:fF ov b=x:=by simp[fF,hx]
  rw[Gw]at K0 u1 u2 u3;have Qp:=tH hx;apply aF rfl<;>intro h
  ·exact absurd (of_decide_eq_true h) RY
  refine fE ?_;simp -dsimp only[simprocAttr,↓I,zp,hA,Qp,Nat.mul_one]
  repeat(refine⟨by omega,?_⟩)
  refine UA ?_;refine⟨⟨(n,a,x),K0,ha,u3,by simp only;omega⟩,by simp,?_⟩;refine zq rfl ?_ ?_;simp -dsimp only[simprocAttr,↓I,zp,zc];rfl
 cases h
end Go.Proofs.YtocdpaifmnkoaaaGreatDoor
namespace Go.Av
theorem BD{g:G}(hg:Good g){id m:Nat}(h:g.objs[id]?=some (.spare m))(arr:Array Value)(t:TypeId)(cs:List aa)(hlen:cs.length<=arr.size)
  (tA:∀(g':G) (j:Nat) (c:aa) (u:Value),cs[j]?=some c->arr[j]?=some u->RV g' c u) (dI:∀c∈cs,c.scalar) :
  Le g (g.bo id (some ⟨g.w.heap.size,0,arr.size⟩) (.cells cs) (g.w.alloc (.cells arr t)))∧Good (g.bo id (some ⟨g.w.heap.size,0,arr.size⟩) (.cells cs) (g.w.alloc (.cells arr t))):=by
 have eH:jT g id (.spare m) (some ⟨g.w.heap.size,0,arr.size⟩) (.cells cs) (g.w.alloc (.cells arr t)):={
  obj:=h
  os:=rfl
  tape:=rfl
  output:=rfl
  size:=by show g.w.heap.size<=(g.w.heap.push _).size;rw[Array.size_push];omega
  block:=fun k hk _=>cI g.w _ hk
  cell:=fun b off x hx _=>by
   have:=lr hx;rw[gh (cI g.w (.cells arr t) this)];exact hx
  place:=fun l1 h1 _=>by
   simp only[Option.some.injEq]at h1;subst h1;exact .inl (Nat.le_refl _)
  spare:=fun _ _=>.inr (by simp[aq.aJ])
  plain:=fun h=>absurd trivial h
  gone:=by simp }
 exact⟨Le.bo hg eH,Good.bo hg eH ⟨_,arr,t,rfl,rfl,cD g.w _,hlen,fun j c u hj hu=>tA _ j c u hj hu,dI,Nat.le_refl _⟩ (fun l1 h1 _=>by
  simp only[Option.some.injEq]at h1;subst h1;exact aO (cD g.w (.cells arr t)))⟩
theorem iI{P:Program}{aP:ee}(hT:b8 P aP){o:Oper}{σ:St}{t:TypeId}{ti:cr}{id m:Nat}(ho:o.op=.alloc t)(hd:∀d,o.dst=some d->d<σ.n)(ht:aP t=some ti)(hid:σ.objs[id]?=some (.spare m)) :
  Cert P o σ (.mp id 0) (.new id (.cells ti.zero)) :=
 Cert.qS trivial hd fun base fL a g bV h gW=>by
  have hg:=bV.good;obtain⟨z,hz,h5,_,_,h8,h9⟩:=(hT t ti ht).zeroValue;have fV:g.objs[id]?=some (.spare m):=Eq.trans gW hid;obtain⟨hle,dx⟩:=BD hg fV z.cells t ti.zero (by rw[h5];exact Nat.le_refl _) (fun g' j c u a b=>h8 g' j c u a b) h9;refine⟨.pointer (some ⟨g.w.heap.size,0,none⟩),_,.inl ?_,hle,dx,?_,?_⟩
  ·simp[execOp,ho,Instr.alloc,hz,Go.newVar,Go.newRow,G.bo]
  ·simp[G.bo,Mode.post]
  exact .mp (l:=⟨g.w.heap.size,0,z.cells.size⟩) (o:=.cells ti.zero) (by simp only[G.bo];rw[List.getElem?_set_self (iU hg fV)]) (by simp only[G.bo];rw[List.getElem?_set_self (ag fV)]) (by simp[aq.aJ])
theorem lx{P:Program}{aP:ee}(hT:b8 P aP){o:Oper}{σ:St}{t e:TypeId}{x y:Operand}{ti te:cr}{k k':IntKind}{n:Int}{id m':Nat}
  (ho:o.op=.makeSlice t x y) (hd:∀d,o.dst=some d->d<σ.n) (ht:aP t=some ti) (aT:ti.desc=.slice e) (he:aP e=some te) (hx:σ.ev x=some (.v (.int k n))) (hy:σ.ev y=some (.v (.int k' n)))
  (h0:0<=n) (hb:te.bytes*n.toNat<=2 ^ 48) (Ok:n.toNat<=2 ^ 62) (hs:0<te.size) (hid:σ.objs[id]?=some (.spare m')) :
  Cert P o σ (.ms id 0 n.toNat n.toNat) (.new id (.cells (List.replicate n.toNat te.zero).flatten)) :=
 Cert.qS trivial hd fun base fL a g bV h gW=>by
  have hg:=bV.good;have fV:g.objs[id]?=some (.spare m'):=Eq.trans gW hid;have ex:=(h x (by simp[ho,Op.operands]) _ hx).b6.1;have ey:=(h y (by simp[ho,Op.operands]) _ hy).b6.1;have hu:=bY hT ht aT;obtain⟨⟨i,z,h1,h2,h3,h4,h5,h6,h7,h8,h9⟩,_⟩:=hT e te he;obtain⟨m,rfl⟩:=Int.eq_ofNat_of_zero_le h0;simp only[Int.toNat_natCast]at *;have wJ:(i.bytes:Int)*(m:Int)<=281474976710656:=by
   rw[h3,<-Int.natCast_mul];omega
  have bL:=run_make (P:=P) g.w t e i z hu h1 h4 k k' m m (by omega) (Int.le_refl _) wJ (by omega);simp only[Int.toNat_natCast]at bL;have hlen:(List.replicate m te.zero).flatten.length=m*te.size:=by simp[h6]
  have eo:∀(j:Nat) (c:aa),(List.replicate m te.zero).flatten[j]?=some c->te.zero[j % te.size]?=some c:=fun j c=>h6 ▸ oN te.zero (by omega) m j c;obtain⟨hle,dx⟩:=BD hg fV (madeCells z.cells (m*i.size)) e (List.replicate m te.zero).flatten (by rw[hlen,size_madeCells,h2];exact Nat.le_refl _) (fun g' j c u hj oI=>by
   have jo:=eo j c hj;have bd:=ag hj;rw[hlen]at bd;have kg:j % te.size<z.cells.size:=by rw[h5];exact ag jo
   refine h8 _ _ _ _ jo ?_;simp only[madeCells,Array.getElem?_map,h2,Array.getElem?_range,if_pos bd,Option.map_some,Option.some.injEq]at oI;subst oI;rw[h5,h6];simp[kg]) (fun c hc=>by
   rw[List.mem_flatten]at hc;obtain⟨l,hl,hc⟩:=hc;rw[List.mem_replicate]at hl;exact h9 c (hl.2 ▸ hc))
  refine⟨.slice (some ⟨g.w.heap.size,0,none⟩) m m,_,.inl ?_,hle,dx,?_,?_⟩
  ·simp[execOp,ho,ex,ey,bL,G.bo]
  ·simp[G.bo,Mode.post]
  exact .ms (l:=⟨g.w.heap.size,0,(madeCells z.cells (m*i.size)).size⟩) (o:=.cells (List.replicate m te.zero).flatten) (by simp only[G.bo];rw[List.getElem?_set_self (iU hg fV)]) (by simp only[G.bo];rw[List.getElem?_set_self (ag fV)]) (by simp[aq.aJ]) (Nat.le_refl _) (Nat.le_refl _) Ok
theorem l4{P:Program}{kb:Nat}{c:Code}{Q:dT->St->Prop}{n:Nat}{bt:List (Nat×aa)}:∀(k:Nat) {O:List aq},cG P kb c Q ⟨n,bt,O++List.replicate k (.spare 0)⟩->cG P kb c Q ⟨n,bt,O⟩
 | 0,O,h=>by simpa using h
 | k+1,O,h=>by
  have h2:cG P kb c Q ⟨n,bt,O++[.spare 0]⟩:=l4 k (by simpa[List.replicate_succ]using h);exact h2.weaken fun base a g hb hr=>by
   have hO:g.objs=O:=hr.objs;refine⟨g.mark (.spare 0),rfl,?_⟩;have hle:=Le.mark hr.good (.spare 0);refine { le:=hr.le.trans hle,good:=Good.mark hr.good _,objs:=by simp[G.mark,hO],size:=hr.size,defers:=hr.defers,slot:=fun s x hx=>?_ };obtain⟨u,e1,e2⟩:=hr.slot s x hx;exact⟨u,e1,e2.mono hle⟩
def lZ(P:Program)(all:List Oper)(k:Nat)(σ:St)(ks:List Kind)(R:St->List Kind->Prop):Prop :=
 ∃(ρ:St) (sE:List Kind),sE.length+k=all.length∧fB P all.toArray ((sE.zipIdx k).map fun p=>(p.2,p.1)) σ ρ∧R ρ (ks++sE)
theorem lZ.fin{P:Program}{all:List Oper}{k:Nat}{σ:St}{ks:List Kind}{R:St->List Kind->Prop}(hk:k=all.length)(h:R σ ks):lZ P all k σ ks R :=
 ⟨σ,[],by simpa using hk,iS.refl σ,by simpa using h⟩
theorem lZ.op{P:Program}{all:List Oper}{k:Nat}{σ:St}{ks:List Kind}{R:St->List Kind->Prop}{o:Oper}{x:aa}{m:Mode}(ho:all[k]?=some o)(hg:o.guard=none)(hc:Cert P o σ x m)
  (h:lZ P all (k+1) ⟨σ.n,qW o.dst x σ.bt,m.post σ.objs⟩ (ks++[m.kind]) R):lZ P all k σ ks R:=by
 obtain⟨ρ,sE,h1,h2,h3⟩:=h;refine⟨ρ,m.kind::sE,by simp only[List.length_cons];omega,?_,by simpa using h3⟩;rw[List.zipIdx_cons,List.map_cons];exact⟨_,⟨o,by simpa using ho,.inl ⟨by simp[dy,hg],x,m,hc,rfl,rfl⟩⟩,h2⟩
theorem xe{P:Program}{ops:Array Oper}:∀{l1 l2:List (Nat×Kind)} {σ τ ρ:St},fB P ops l1 σ τ->fB P ops l2 τ ρ->fB P ops (l1++l2) σ ρ
 | [],_,_,_,_,h1,h2=>h2.same h1.symm
 | _::_,_,_,_,_,⟨fL,h,h1⟩,h2=>⟨fL,h,xe h1 h2⟩
theorem xf{P:Program}{ops all:Array Oper}{k:Nat}(hk:∀i o,ops[i]?=some o->all[k+i]?=some o)(hg:∀o∈all.toList,o.guard=none):∀{l:List (Nat×Kind)} {σ τ:St},fB P ops l σ τ->fB P all (l.map fun p=>(k+p.1,p.2)) σ τ
 | [],_,_,h=>h
 | (i,q)::r,_,_,h=>by
  obtain⟨fL,⟨o,ho,h1⟩,h2⟩:=h;refine⟨fL,⟨o,hk i o ho,?_⟩,xf hk hg h2⟩;have gW:=hk i o ho;have xu:o.guard=none:=hg o (by
   rw[<-Array.getElem?_toList]at gW;exact List.mem_of_getElem? gW)
  have w1:∀(a:Array Oper) (σ:St),dy a o σ=some true:=fun a σ=>by simp[dy,xu]
  rcases h1 with⟨_,h1⟩|⟨h1,_⟩
  ·exact .inl ⟨w1 _ _,h1⟩
  rw[w1]at h1;cases h1
theorem lZ.BO{P:Program}{aP:ee}(md:Md)(hT:b8 P aP){all l1:List Oper}{k:Nat}{σ:St}{ks:List Kind}{R:St->List Kind->Prop}(n:Nat)(h1:(all.drop k).take n=l1)(hn:l1.length=n)(hg:∀o∈all,o.guard=none)
  (h:fq P aP md l1 0 [] σ [] fun τ zG=>lZ P all (k+n) τ (ks++zG.reverse) R):lZ P all k σ ks R:=by
 obtain⟨τ,zG,c1,n1,ρ,R7,h3,c2,hR⟩:=gd (all:=l1.toArray) hT l1 0 [] σ [] (fun j=>by simp) (fun j t hj=>by simp[kn]at hj) h;have hl:k+n<=all.length:=by
  have:l1.length<=all.length-k:=by rw[<-h1,List.length_take,List.length_drop];omega
  by_cases hz:n=0
  ·omega
  omega
 have d1:=xf (all:=all.toArray) (k:=k) (fun i o hi=>by
  have jt:l1[i]?=some o:=by simpa using hi
  rw[<-h1,List.getElem?_take]at jt;split at jt
  ·rw[List.getElem?_drop]at jt;simpa using jt
  cases jt) (by simpa using hg) c1
 refine⟨ρ,zG++R7,by rw[List.length_append];omega,?_,by simpa using hR⟩;rw[List.zipIdx_append,List.map_append];have e1:(zG.zipIdx k).map (fun p=>(p.2,p.1))=((zG.zipIdx 0).map fun p=>(p.2,p.1)).map fun p=>(k+p.1,p.2):=by
  apply List.ext_getElem?;intro i;simp only[List.getElem?_map,List.getElem?_zipIdx];cases zG[i]?<;>simp
 rw[e1];refine xe d1 ?_;rw[show k+zG.length=k+n by omega];exact c2
theorem kP{P:Program}{kb:Nat}(hm:P.follows .mixedOrders=true){id:Nat}{l:List Oper}{draw:Bool}{Q:dT->St->Prop}{σ:St}
  (h:lZ P l 0 σ [] fun τ ks=>ik draw (fun _=>eA l.toArray ks)∧At τ (Q .norm)):cG P kb (.region id l.toArray draw) Q σ:=by
 obtain⟨τ,ks,h1,h2,h3,h4⟩:=h;intro base a g hb hr;have sw:fB P l.toArray ((List.range l.toArray.size).map fun i=>(i,ks.getD i .write)) σ τ:=by
  have e:(ks.zipIdx 0).map (fun p=>(p.2,p.1))=(List.range l.toArray.size).map fun i=>(i,ks.getD i .write):=by
   apply List.ext_getElem?;intro i;simp only[List.getElem?_map];have hlen:ks.length=l.toArray.size:=by simpa using h1
   by_cases hi:i<l.toArray.size
   ·have jt:i<ks.length:=by omega
    rw[List.getElem?_range hi];simp[jt]
   rw[List.getElem?_eq_none (by simp only[List.length_zipIdx];omega),List.getElem?_eq_none (by simp only[List.length_range];omega)];rfl
  rw[<-e];exact h2
 cases draw with
 | false=>exact lX sw hr fun a g AM=>⟨g,τ,rfl,AM,h4⟩
 | true =>
  have hB:=h3 rfl;simp only[List.nil_append]at hB;exact nq hm hB sw hr fun a g AM=>⟨g,τ,rfl,AM,h4⟩
end Go.Av
namespace Go.Proofs.YtocdpaifmnkoaaaGreatDoor
open Go.Av
def T9(f:Func)(O:List Int)(N:Nat)(r:List aa):List aq:=[.gone,.gone,.cells r,.cells (O.map aI),.cells ((iE f).map aI),.cells [.ms 3 0 N N,.ms 4 0 N N]]
theorem Af(f:Func)(O:List Int)(N:Nat)(r:List aa)(hr:av 6 r):∀o∈T9 f O N r,o.upto 6:=by
 intro o ho;simp only[T9,List.mem_cons,List.not_mem_nil,or_false]at ho;rcases ho with rfl|rfl|rfl|rfl|rfl|rfl
 ·trivial
 ·trivial
 ·exact hr
 ·exact ay _ _
 ·exact ay _ _
 exact⟨show 3<6 by omega,show 4<6 by omega,trivial⟩
theorem sP(n:Nat):(List.replicate n [aa.v (.int .i64 0)]).flatten=(List.replicate n 0).map aI:=by
 induction n with
 | zero=>rfl
 | succ n ih=>rw[List.replicate_succ,List.flatten_cons,ih,List.replicate_succ];rfl
theorem BT{l:List Int}{j:Nat}(h:j<l.length)(b:Int):bz (l.map aI) j [.v (.int .i64 b)]=(l.set j b).map aI:=by
 rw[gS _ (by simpa using h),List.map_set]
theorem Aw{k n:Nat}{l:List Int}{x y:Int}(hl:l.length=k)(hk:k<n):(l++List.replicate (n-k) x).set k y=(l++[y])++List.replicate (n-(k+1)) x:=by
 rw[List.set_append_right _ _ (by omega),hl,Nat.sub_self,show n-k=(n-(k+1))+1 by omega,List.replicate_succ,List.set_cons_zero,List.append_assoc];rfl
theorem Ab(f:Func)(fU:f.fit)(hc:bM f=0) :
  aK Tryz.prog 72 [.gone] [f.enc] (fun r O'=>r=.cN [.agg [.ms 3 0 f.blocks.length f.blocks.length,.ms 4 0 f.blocks.length f.blocks.length],aI 0]∧O'=T9 f (pk f) f.blocks.length [.ms 3 0 f.blocks.length f.blocks.length,.ms 4 0 f.blocks.length f.blocks.length]):=by
 have Vr:=Da f fU;have Lm:=vr f fU;unfold C' at Vr;unfold yV at Lm;rw[if_pos hc]at Vr Lm;have hg:=(gX fU hc).gr;have hw:=O5 hg;have hn:f.blocks.length<=128:=hg.oX;obtain⟨R,hR⟩:∃R,R=pk f:=⟨_,rfl⟩
 rw[<-hR];unfold pk at hR;obtain⟨N,hN⟩:∃N,N=f.blocks.length:=⟨_,rfl⟩
 have fk:[aq.gone].length<=6:=by simp
 have uW:=hw.pos;have Ur:=hw.oX;have YV:((cp f).length:Int) ≥ 1:=by omega
 rw[<-hN];have WU:(iE f).length=N:=by simp[iE,hN]
 refine dE hT true (6) Tryz.func72 rfl (by kernel_rfl) (by simp[Tryz.ntmps72]) (by assumption) ?_;show cG Tryz.prog _ _ _ ⟨116,_,_⟩;dsimp only[Tmp,TypeId,slotsOf];refine az (ai ?_);refine aR 1 1 (.ip none [aI f.name,aM f.blocks]) rfl (by simp[aq.aJ]) trivial rfl ?_ ?_;rotate_left;simp -dsimp only[simprocAttr,↓I,zp]
 ·refine az ?_;refine zi Vr ?_;refine ai ?_;refine bS (ai ?_);apply aF rfl<;>intro h
  ·cases h
  refine bZ ?_;refine az ?_;refine zi Lm ?_;refine ai ?_;refine l4 3 ?_;show cG Tryz.prog _ _ _ ⟨_,_,[.gone,.gone,.cells [.aB 1 [] .ex,.aB 1 [] .ex],.spare 0,.spare 0,.spare 0]⟩;refine aL (kP hm (lZ.BO ⟨false,false⟩ hT 3 rfl rfl (by simp) ?_));simp -dsimp only[simprocAttr,↓I,zp,<-hN];refine lZ.op rfl rfl (lx hT (id:=3) rfl (by simp) Dx rfl IQ rfl rfl (by omega) (by simp;omega) (by omega) (by decide) rfl) ?_;simp -dsimp only[simprocAttr,↓I,zp,sP];refine lZ.BO ⟨false,false⟩ hT 3 rfl rfl (by simp) ?_;simp -dsimp only[simprocAttr,↓I,zp,<-hN];refine lZ.op rfl rfl (lx hT (id:=4) rfl (by simp) Dx rfl IQ rfl rfl (by omega) (by simp;omega) (by omega) (by decide) rfl) ?_;simp -dsimp only[simprocAttr,↓I,zp,sP];refine lZ.BO ⟨false,false⟩ hT 1 rfl rfl (by simp) ?_;simp -dsimp only[simprocAttr,↓I,zp];refine lZ.op rfl rfl (iI hT (id:=5) rfl (by simp) Ey rfl) ?_;simp -dsimp only[simprocAttr,↓I,zp];refine lZ.BO ⟨false,false⟩ hT 1 rfl rfl (by simp) ?_;simp -dsimp only[simprocAttr,↓I,zp];refine lZ.fin rfl ⟨ob (by kernel_rfl),?_⟩;refine ai ?_;refine bS (ai ?_);refine ah (a8 (ι:={k:Nat // k<=N}) (fun k=>⟨116,[(1,.ip none [aI f.name,aM f.blocks]),(2,.mp 2 0),(4,bp (cp f)),(6,.aB 1 ((iC f).map bp) .sh),(8,.mp 5 0),(41,aI N),(42,aI k.1)],[.gone,.gone,.cells [.aB 1 [] .ex,.aB 1 [] .ex],.cells ((List.replicate k.1 (-1)++List.replicate (N-k.1) 0).map aI),.cells (((iE f).take k.1++List.replicate (N-k.1) 0).map aI),.cells [.ms 3 0 N N,.ms 4 0 N N]]⟩) (fun k=>N-k.1) ⟨0,by omega⟩ ?_ ?_)
  ·refine zq rfl ?_ ?_;simp -dsimp only[simprocAttr,↓I,zp,zc]
   all_goals rfl
  rintro⟨k,hk⟩;refine az (ai ?_);apply fK rfl<;>intro h
  ·refine bZ ?_;have bd:k<N:=by simpa using h
   have Lc:=pS (cp f) (k:Int);have wP:bz ((List.replicate k (-1)++List.replicate (N-k) 0).map aI) k [.v (.int .i64 (-1))]=(List.replicate (k+1) (-1)++List.replicate (N-(k+1)) 0).map aI:=by
    rw[BT (by simp;omega),Aw (by simp) bd,<-List.replicate_succ']
   have nk:((iE f).take k).length=k:=by rw[List.length_take];omega
   have AL:=pX (f:=f) (k:=(k:Int)) (by omega) (by omega);rw[Int.toNat_natCast]at AL;have VC:bz (((iE f).take k++List.replicate (N-k) 0).map aI) k [.v (.int .i64 (nU (cp f) k))]=((iE f).take (k+1)++List.replicate (N-(k+1)) 0).map aI:=by
    rw[BT (by simp;omega),Aw nk bd,List.take_add_one,AL];rfl
   refine aL (ah ?_);refine az (ai ?_);refine dA ?_;refine .inl ⟨_,Lc,by simp only[av,aa.upto,zt,zu,ay],ae ?_⟩;simp -dsimp only[simprocAttr,↓I,zp,wP,VC,Int.toNat_natCast,Nat.mul_one];refine⟨by omega,by simp;omega,by omega,by simp;omega,?_⟩;refine⟨ob (by kernel_rfl),?_⟩;refine ai ?_;refine dA ?_
   repeat(refine⟨by omega,?_⟩)
   refine kv ?_;refine⟨⟨k+1,bd⟩,by simp;omega,?_⟩;refine zq rfl ?_ ?_;simp -dsimp only[simprocAttr,↓I,zp,zc]
   ·exact Sub.int (by simp)
   rfl
  refine aN ?_;simp -dsimp only[bH,ne_eq,Nat.reduceEqDiff,reduceCtorEq];have fk:k=N:=by simp at h;omega
  subst fk;have e1:List.replicate k (-1:Int)++List.replicate (k-k) 0=(EV f).over:=by simp[EV,hN]
  have e2:(iE f).take k++List.replicate (k-k) 0=iE f:=by
   rw[List.take_of_length_le (by omega),Nat.sub_self,List.replicate_zero,List.append_nil]
  rw[e1,e2];have Ud:=He hw;have Y7:=uD hn;have jr:((cp f).map aI).drop 1=((cp f).drop 1).map aI:=by rw[List.map_drop]
  have oZ:∀(j:Nat) z,((cp f).drop 1)[j]?=some z->fX f z=((1+j:Nat):Int):=fun j z hj=>by
   rw[List.getElem?_drop]at hj;exact hw.at_ _ _ hj
  obtain⟨L1,Pw⟩:∃L1,L1=(cp f).drop 1:=⟨_,rfl⟩
  have Xz:L1.length<=128:=by rw[Pw,List.length_drop];omega
  rw[<-Pw]at jr oZ;refine bS (ai ?_);refine ah (a8 (ι:={x:Dm×Nat // oT f 1 x.1.over∧R=(Gn f x.2 x.1).over∧(x.1.again=true->x.1.weight f<x.2)}) (fun x=>⟨116,[(1,.ip none [aI f.name,aM f.blocks]),(2,.mp 2 0),(4,bp (cp f)),(6,.aB 1 ((iC f).map bp) .sh),(8,.mp 5 0),(10,.v (.bool x.1.1.again))],[.gone,.gone,.cells [.aB 1 [] .ex,.aB 1 [] .ex],.cells (x.1.1.over.map aI),.cells ((iE f).map aI),.cells [.ms 3 0 k k,.ms 4 0 k k]]⟩) (fun x=>x.1.1.weight f+if x.1.1.again then 1 else 0) ⟨(EV f,30000),Ud,hR,fun _=>by simp only;omega⟩ ?_ ?_)
  ·refine zq rfl ?_ ?_;simp -dsimp only[simprocAttr,↓I,zp,zc]
   all_goals first|rfl|exact Sub.refl _
  rintro⟨⟨S,q⟩,Hx,K1,Qn⟩;simp only at Hx K1 Qn;refine bS (ai ?_);apply aF rfl<;>intro h
  ·refine bZ ?_;have nB:S.again=true:=h;have Qn:=Qn nB;obtain⟨q,rfl⟩:∃q',q=q'+1:=⟨q-1,by omega⟩
   have Hw:R=(Gn f q (Hc f ⟨S.over,false⟩)).over:=by
    rw[K1];simp[Gn,nB]
   have Tw:=Hd hg hw (S:=⟨S.over,false⟩) Hx;obtain⟨S1,Px⟩:∃S1,S1=Hc f ⟨S.over,false⟩:=⟨_,rfl⟩
   rw[<-Px]at Hw Tw;obtain⟨V1,V2,Qz,_⟩:=Tw;have TL:(⟨S.over,false⟩:Dm).weight f=S.weight f:=rfl;rw[TL]at V2 Qz;unfold Hc at Px;rw[<-Pw]at Px;refine ah ?_;refine az (ai ?_);refine aG ?_;simp -dsimp only[simprocAttr,↓I,zp,jr]
   repeat(refine⟨by omega,?_⟩)
   refine ai ?_;refine ah (a8 (ι:={y:Nat×Dm // y.1<=L1.length∧oT f (1+y.1:Nat) y.2.over∧S1=(L1.drop y.1).foldl (gC f) y.2}) (fun y=>⟨116,[(1,.ip none [aI f.name,aM f.blocks]),(2,.mp 2 0),(4,bp (cp f)),(6,.aB 1 ((iC f).map bp) .sh),(8,.mp 5 0),(10,.v (.bool y.1.2.again)),(59,bp L1),(60,aI L1.length),(61,aI y.1.1)],[.gone,.gone,.cells [.aB 1 [] .ex,.aB 1 [] .ex],.cells (y.1.2.over.map aI),.cells ((iE f).map aI),.cells [.ms 3 0 k k,.ms 4 0 k k]]⟩) (fun y=>L1.length-y.1.1) ⟨(0,⟨S.over,false⟩),by simp,Hx,Px⟩ ?_ ?_)
   ·refine zq rfl ?_ ?_;simp -dsimp only[simprocAttr,↓I,zp,zc]
    all_goals rfl
   rintro⟨⟨y,T⟩,hy,Fa,xp⟩;simp only at hy Fa xp;refine az (ai ?_);apply fK rfl<;>intro h
   ·refine bZ ?_;have bd:y<L1.length:=by simpa using h
    obtain⟨z,hz⟩:∃z,L1[y]?=some z:=⟨L1[y],by simp[bd]⟩
    have Yf:=oZ y z hz;have vZ:=hw.range z (by omega);have dD:=xh hg hw Fa Yf (by omega);rw[dL hz,List.foldl_cons]at xp;have Y4:=Fa.tr.len;obtain⟨ps,nE⟩:∃ps,(iC f)[z.toNat]?=some ps:=⟨(iC f)[z.toNat]'(by rw[FQ];omega),List.getElem?_eq_getElem _⟩
    have uV:cX f z=ps:=by simp[cX,nE]
    have Vy:∀p∈ps,0<=p∧p<f.blocks.length:=fun p hp=>(xM hg vZ.1 (by rw[uV];exact hp)).1;obtain⟨o,ho⟩:∃o,T.over[z.toNat]?=some o:=⟨T.over[z.toNat]'(by omega),List.getElem?_eq_getElem _⟩
    have Ya:fF T.over z=o:=by simp[fF,ho]
    obtain⟨NX,US⟩:∃NX,NX=j1 (iE f) T.over ps:=⟨_,rfl⟩
    have cE:gC f T z=if NX≠o then⟨T.over.set z.toNat NX,true⟩else T:=by
     unfold gC;rw[uV,Ya,<-US]
    unfold j1 at US;refine aL (ah ?_);refine aG ?_;simp -dsimp only[simprocAttr,↓I,zp,hz];refine ai ?_;refine az (ai ?_);refine bR ?_;simp -dsimp only[simprocAttr,↓I,zp,nE]
    repeat(refine⟨by omega,?_⟩)
    refine ai ?_;refine gF 68 rfl (fun Vw=>?_);simp only[List.length_map]at Vw;refine ah (a8 (ι:={w:Nat×Int // w.1<=ps.length∧(w.2=-1∨nf T.over w.2)∧NX=(ps.drop w.1).foldl (dW (iE f) T.over) w.2}) (fun w=>⟨116,[(1,.ip none [aI f.name,aM f.blocks]),(2,.mp 2 0),(4,bp (cp f)),(6,.aB 1 ((iC f).map bp) .sh),(8,.mp 5 0),(10,.v (.bool T.again)),(59,bp L1),(60,aI L1.length),(61,aI y),(12,aI z),(13,aI w.1.2),(68,bp ps),(69,aI ps.length),(70,aI w.1.1)],[.gone,.gone,.cells [.aB 1 [] .ex,.aB 1 [] .ex],.cells (T.over.map aI),.cells ((iE f).map aI),.cells [.ms 3 0 k k,.ms 4 0 k k]]⟩) (fun w=>ps.length-w.1.1) ⟨(0,-1),by simp,.inl rfl,US⟩ ?_ ?_)
    ·refine zq rfl ?_ ?_;simp -dsimp only[simprocAttr,↓I,zp,zc]
     all_goals rfl
    rintro⟨⟨w,acc⟩,lD,AA,Gu⟩;simp only at lD AA Gu;refine az (ai ?_);apply fK rfl<;>intro h
    ·refine bZ ?_;have OC:w<ps.length:=by simpa using h
     obtain⟨p,hp⟩:∃p,ps[w]?=some p:=⟨ps[w],by simp[OC]⟩
     have Ln:=Vy p (List.mem_of_getElem? hp);have WB:=pX Ln.1 Ln.2;have Ff:=tH WB;obtain⟨x,hx⟩:∃x,T.over[p.toNat]?=some x:=⟨T.over[p.toNat]'(by omega),List.getElem?_eq_getElem _⟩
     have W5:fF T.over p=x:=by simp[fF,hx]
     have Qp:=tH hx;rw[dL hp,List.foldl_cons]at Gu;obtain⟨nx,Fp⟩:∃nx,nx=dW (iE f) T.over acc p:=⟨_,rfl⟩
     have Tj:nx=-1∨nf T.over nx:=by
      rcases qH hw Fa.tr [p] acc (by simpa using Ln) AA with⟨a,_⟩|⟨a,_⟩
      ·exact .inl (Fp.trans a)
      exact .inr (Fp ▸ a)
     rw[<-Fp]at Gu;have Qc:=vq hw Fa.tr Ln;have SW:fF (iE f) p=fX f p:=by simp[fF,WB]
     rw[SW,W5]at Qc;have Qd:dW (iE f) T.over acc p=if fX f p<0∨(p≠0∧x<0)then acc else if acc<0 then p else jl (iE f) T.over 300 acc p:=by
      unfold dW;rw[SW,W5]
     refine jb (⟨116,[(1,.ip none [aI f.name,aM f.blocks]),(2,.mp 2 0),(4,bp (cp f)),(6,.aB 1 ((iC f).map bp) .sh),(8,.mp 5 0),(10,.v (.bool T.again)),(59,bp L1),(60,aI L1.length),(61,aI y),(12,aI z),(13,aI nx),(68,bp ps),(69,aI ps.length),(70,aI w)],[.gone,.gone,.cells [.aB 1 [] .ex,.aB 1 [] .ex],.cells (T.over.map aI),.cells ((iE f).map aI),.cells [.ms 3 0 k k,.ms 4 0 k k]]⟩) ?_ ?_
     ·refine ah ?_;refine aG ?_;simp -dsimp only[simprocAttr,↓I,zp,hp];refine ai ?_;refine ah ?_;by_cases hA:nf T.over p
      ·have HQ:=fun q=>Qc.1 q hA;have Ol:decide (fX f p<0)=false:=decide_eq_false fun q=>HQ (.inl q);rw[if_neg HQ]at Qd;have On:p=0∨(p≠0∧¬x<0):=by
        by_cases e:p=0
        ·exact .inl e
        exact .inr ⟨e,fun q=>HQ (.inr ⟨e,q⟩)⟩
       rcases AA with Sw|Sw
       ·have Ke:decide (acc<0)=true:=decide_eq_true (by omega);rw[if_pos (by omega)]at Qd;rw[Qd]at Fp;rcases On with Kn|⟨Kn,Qo⟩
        ·have pN:decide (p=0)=true:=decide_eq_true Kn;refine aG ?_;simp -dsimp only[simprocAttr,↓I,zp,Ff,Ol,pN,Int.toNat_natCast,Nat.mul_one]
         repeat(refine⟨by omega,?_⟩)
         refine ai ?_;refine cP rfl ?_;refine aG ?_;simp -dsimp only[simprocAttr,↓I,zp,Ke];refine ai ?_;refine dS rfl ?_;refine dw hT hm ?_;simp -dsimp only[simprocAttr,↓I,zp];refine aY ?_;show bn _ _;refine zq rfl ?_ ?_;simp -dsimp only[simprocAttr,↓I,zp,zc]
         all_goals first|rfl|exact Sub.int (by omega)
        have pN:decide (p=0)=false:=decide_eq_false Kn;have lA:decide (x<0)=false:=decide_eq_false Qo;refine aG ?_;simp -dsimp only[simprocAttr,↓I,zp,Ff,Ol,pN,lA,Qp,Int.toNat_natCast,Nat.mul_one]
        repeat(refine⟨by omega,?_⟩)
        refine ai ?_;refine cP rfl ?_;refine aG ?_;simp -dsimp only[simprocAttr,↓I,zp,Ke];refine ai ?_;refine dS rfl ?_;refine dw hT hm ?_;simp -dsimp only[simprocAttr,↓I,zp];refine aY ?_;show bn _ _;refine zq rfl ?_ ?_;simp -dsimp only[simprocAttr,↓I,zp,zc]
        all_goals first|rfl|exact Sub.int (by omega)
       have XE:=Sw.nn hw Fa.tr;have Ke:decide (acc<0)=false:=decide_eq_false (by omega);rw[if_neg (by omega)]at Qd;rw[Qd]at Fp;have HO:=FE (O:=[.gone,.gone,.cells [.aB 1 [] .ex,.aB 1 [] .ex],.cells (T.over.map aI),.cells ((iE f).map aI),.cells [.ms 3 0 k k,.ms 4 0 k k]]) (by
        have:=Af f T.over k [.aB 1 [] .ex,.aB 1 [] .ex] (by simp[av,aa.upto]);exact this) (A:=3) (B:=4) (N:=k) hw rfl rfl hN Fa.tr Sw hA
       rw[<-Fp]at HO;rcases On with Kn|⟨Kn,Qo⟩
       ·have pN:decide (p=0)=true:=decide_eq_true Kn;refine aG ?_;simp -dsimp only[simprocAttr,↓I,zp,Ff,Ol,pN,Int.toNat_natCast,Nat.mul_one]
        repeat(refine⟨by omega,?_⟩)
        refine ai ?_;refine cP rfl ?_;refine aG ?_;simp -dsimp only[simprocAttr,↓I,zp,Ke];refine ai ?_;refine cP rfl ?_;refine dw hT hm ?_;simp -dsimp only[simprocAttr,↓I,zp];refine .inr (.inr ⟨_,HO,ae (zj ?_)⟩);refine aY ?_;show bn _ _;refine zq rfl ?_ ?_;simp -dsimp only[simprocAttr,↓I,zp,zc]
        all_goals rfl
       have pN:decide (p=0)=false:=decide_eq_false Kn;have lA:decide (x<0)=false:=decide_eq_false Qo;refine aG ?_;simp -dsimp only[simprocAttr,↓I,zp,Ff,Ol,pN,lA,Qp,Int.toNat_natCast,Nat.mul_one]
       repeat(refine⟨by omega,?_⟩)
       refine ai ?_;refine cP rfl ?_;refine aG ?_;simp -dsimp only[simprocAttr,↓I,zp,Ke];refine ai ?_;refine cP rfl ?_;refine dw hT hm ?_;simp -dsimp only[simprocAttr,↓I,zp];refine .inr (.inr ⟨_,HO,ae (zj ?_)⟩);refine aY ?_;show bn _ _;refine zq rfl ?_ ?_;simp -dsimp only[simprocAttr,↓I,zp,zc]
       all_goals rfl
      have HQ:=Qc.2 hA;rw[if_pos HQ]at Qd;rw[Qd]at Fp;subst Fp;by_cases Ts:fX f p<0
      ·have Ol:decide (fX f p<0)=true:=decide_eq_true Ts;refine aG ?_;simp -dsimp only[simprocAttr,↓I,zp,Ff,Ol,Int.toNat_natCast,Nat.mul_one]
       repeat(refine⟨by omega,?_⟩)
       refine ai ?_;refine dS rfl ?_;refine bc ?_;show bn _ _;refine zq rfl ?_ ?_;simp -dsimp only[simprocAttr,↓I,zp,zc]
       all_goals rfl
      have Ol:decide (fX f p<0)=false:=decide_eq_false Ts;have pN:decide (p=0)=false:=decide_eq_false fun e=>hA (.inl e);have lA:decide (x<0)=true:=decide_eq_true (by omega);refine aG ?_;simp -dsimp only[simprocAttr,↓I,zp,Ff,Ol,pN,lA,Qp,Int.toNat_natCast,Nat.mul_one]
      repeat(refine⟨by omega,?_⟩)
      refine ai ?_;refine dS rfl ?_;refine bc ?_;show bn _ _;refine zq rfl ?_ ?_;simp -dsimp only[simprocAttr,↓I,zp,zc]
      all_goals rfl
     refine dA ?_
     repeat(refine⟨by omega,?_⟩)
     refine kv ?_;refine⟨⟨(w+1,nx),OC,Tj,Gu⟩,by simp;omega,?_⟩;refine zq rfl ?_ ?_;simp -dsimp only[simprocAttr,↓I,zp,zc]
     all_goals first|rfl|exact Sub.refl _
    refine aN ?_;simp -dsimp only[bH,ne_eq,Nat.reduceEqDiff,reduceCtorEq];have W3:w=ps.length:=by simp at h;omega
    subst W3;rw[List.drop_length,List.foldl_nil]at Gu;subst Gu;have WT:=tH ho;have wN:=BT (l:=T.over) (j:=z.toNat) (by omega) NX;by_cases da:NX=o
    ·have K6:decide (NX=o)=true:=decide_eq_true da;rw[if_neg (by simp[da])]at cE;rw[cE]at dD xp;refine aG ?_;simp -dsimp only[simprocAttr,↓I,zp,WT,K6,Nat.mul_one]
     repeat(refine⟨by omega,?_⟩)
     refine ai ?_;refine cP rfl ?_;refine k7 ?_;refine dA ?_
     repeat(refine⟨by omega,?_⟩)
     refine kv ?_;refine⟨⟨(y+1,T),bd,by rw[show((1+(y+1):Nat):Int)=((1+y:Nat):Int)+1 by omega];exact dD.1,xp⟩,by simp;omega,?_⟩;refine zq rfl ?_ ?_;simp -dsimp only[simprocAttr,↓I,zp,zc]
     all_goals first|rfl|exact Sub.refl _
    have K6:decide (NX=o)=false:=decide_eq_false da;rw[if_pos da]at cE;rw[cE]at dD xp;refine aG ?_;simp -dsimp only[simprocAttr,↓I,zp,WT,K6,Nat.mul_one]
    repeat(refine⟨by omega,?_⟩)
    refine ai ?_;refine dS rfl ?_;refine fE ?_;simp -dsimp only[simprocAttr,↓I,zp,wN,Nat.mul_one]
    repeat(refine⟨by omega,?_⟩)
    refine ai ?_;refine dA ?_
    repeat(refine⟨by omega,?_⟩)
    refine kv ?_;refine⟨⟨(y+1,⟨T.over.set z.toNat NX,true⟩),bd,by rw[show((1+(y+1):Nat):Int)=((1+y:Nat):Int)+1 by omega];exact dD.1,xp⟩,by simp;omega,?_⟩;refine zq rfl ?_ ?_;simp -dsimp only[simprocAttr,↓I,zp,zc]
    all_goals first|rfl|exact Sub.refl _
   refine aN ?_;simp -dsimp only[bH,ne_eq,Nat.reduceEqDiff,reduceCtorEq];have VR:y=L1.length:=by simp at h;omega
   subst VR;rw[List.drop_length,List.foldl_nil]at xp;subst xp;have HL:S1.again=true->S1.weight f<q:=fun hh=>by
    rcases Qz hh with r|r
    ·cases r
    omega
   refine⟨⟨(S1,q),uC hw V1,Hw,HL⟩,?_,?_⟩
   ·simp only[nB,if_true];cases wP:S1.again
    ·simp;omega
    rcases Qz wP with r|r
    ·cases r
    simp;omega
   refine zq rfl ?_ ?_;simp -dsimp only[simprocAttr,↓I,zp,zc]
   all_goals rfl
  refine aN ?_;simp -dsimp only[bH,ne_eq,Nat.reduceEqDiff,reduceCtorEq];have nB:S.again=false:=h;rw[Ae nB]at K1;subst K1;refine az ?_
  repeat(refine⟨by omega,?_⟩)
  refine ai ?_;refine ak ?_;simp -dsimp only[simprocAttr,↓I,zp,zr,Tryz.results72];exact⟨Af f S.over k [.ms 3 0 k k,.ms 4 0 k k] ⟨show 3<6 by omega,show 4<6 by omega,trivial⟩,⟨⟨show 3<6 by omega,show 4<6 by omega,trivial⟩,trivial,trivial⟩,rfl⟩
 exact cw.mp rfl rfl

theorem mP(to op n:Int)(l:List Int):bw Tryz.prog 18 [aI to,aI op,aI n,bp l] (.agg [aI to,aI op,aI n,bp l]):=by
 refine zf true 0 Tryz.func18 Tryz.ntmps18 ?_;dsimp only[Tmp,TypeId,slotsOf];refine az (ai ?_);refine az (ai ?_);refine ak ?_;simp -dsimp only[simprocAttr,↓I,zp,zr,Tryz.results18];simp[av,aa.upto,ay]
theorem sI(k:Int)(l:List Int):bw Tryz.prog 19 [aI k,bp l] (.agg [aI 1,aI 0,aI 0,bp [],.aB 2 [.agg [aI k,bp l]] .sh]):=by
 refine zf true 0 Tryz.func19 Tryz.ntmps19 ?_;dsimp only[Tmp,TypeId,slotsOf];refine az (ai ?_);refine az (ai ?_);refine ak ?_;simp -dsimp only[simprocAttr,↓I,zp,zr,Tryz.results19];simp[av,aa.upto,ay]
theorem rT(to op n:Int):bw Tryz.prog 18 [aI to,aI op,aI n,.v (.slice none 0 0)] (.agg [aI to,aI op,aI n,bp []]):=by
 have h:=mP to op n [];exact⟨h.1,fun g vs hg ho ha=>h.2 g vs hg ho ⟨ha.1,fun i c u hc hu=>by
  match i,hc,hu with
  | 0,hc,hu=>exact ha.2 0 c u hc hu
  | 1,hc,hu=>exact ha.2 1 c u hc hu
  | 2,hc,hu=>exact ha.2 2 c u hc hu
  | 3,hc,hu =>
   simp only[List.getElem?_cons_succ,List.getElem?_cons_zero,Option.some.injEq]at hc;subst hc;have:=(ha.2 3 _ u rfl hu).b6.1;subst this;exact .nil (fun id e=>by cases e) (by simp)
  | i+4,hc,_=>simp at hc⟩⟩
def rH:cL:=⟨[⟨-1,[
 ⟨[],[⟨0,0,0,[]⟩],⟨1,0,0,[],[⟨1,[0]⟩]⟩⟩,
 ⟨[1],[⟨2,0,3,[]⟩,⟨3,6,0,[1,2]⟩],⟨2,3,0,[],[⟨2,[]⟩,⟨3,[]⟩]⟩⟩,
 ⟨[],[⟨4,15,0,[1]⟩,⟨5,0,1,[]⟩,⟨6,1,0,[1,5]⟩],⟨1,0,0,[],[⟨1,[6]⟩]⟩⟩,
 ⟨[],[],⟨0,1,0,[],[]⟩⟩]⟩],0⟩
theorem ES:runM rH 27=⟨[0,1,2],0,3,27,0⟩:=by kernel_rfl
theorem Co:bw Tryz.prog 9 [] rH.enc:=by
 refine zf true 0 Tryz.func9 Tryz.ntmps9 ?_;dsimp only[Tmp,TypeId,slotsOf];refine az (ai ?_);refine az (ai ?_);refine az (ai ?_);refine az ?_;refine zi ((rT 0 0 0)) ?_;refine zi ((sI 1 [0])) ?_;refine zi ((rT 2 0 3)) ?_;refine zi ((mP 3 6 0 [1,2])) ?_;refine zi ((mP 4 15 0 [1])) ?_;refine zi ((rT 5 0 1)) ?_;refine zi ((mP 6 1 0 [1,5])) ?_;refine zi ((sI 1 [6])) ?_;refine ai ?_;refine ak ?_;simp -dsimp only[simprocAttr,↓I,zp,zr,Tryz.results9];exact⟨by simp[av,aa.upto,ay],rfl⟩
theorem Cn:rH.fit:=by
 simp[rH,cL.fit,Func.fit,Block.fit,bI.fit,Term.fit,Edge.fit,oY,ss]
theorem DL:bw Tryz.prog 5 [] (.v (.bool true)):=by
 have bL:=IB rH Cn 27;rw[ES]at bL;have BM:=tj [0,1,2] [0,1,2] 0 0 3 3;have U2:=Co;unfold RI.enc at bL;unfold Pm at BM;simp only[List.map_cons,List.map_nil,decide_true,Bool.and_self]at bL BM;generalize rH=u at *;refine zf true 0 Tryz.func5 Tryz.ntmps5 ?_;dsimp only[Tmp,TypeId,slotsOf];refine az (ai ?_);refine az ?_;refine zi U2 ?_;refine zi bL ?_;refine ai ?_;refine az ?_;refine zi BM ?_;refine ai ?_;refine ak ?_;simp -dsimp only[simprocAttr,↓I,zp,zr,Tryz.results5]

theorem Gd(f:Func)(fU:f.fit)(hc:bM f=0):bw Tryz.prog 38 [f.enc] (.cN [bp (pk f),aI 0]):=by
 have hb:=Ab f fU hc;have hg:=(gX fU hc).gr;have hl:=(RD hg).tr.len;unfold T9 at hb;generalize pk f=O at *;obtain⟨N,hN⟩:∃N,N=f.blocks.length:=⟨_,rfl⟩
 rw[<-hN]at hb hl;refine zf true 0 Tryz.func38 Tryz.ntmps38 ?_;dsimp only[Tmp,TypeId,slotsOf];refine az (ai ?_);refine aR 1 0 (.ip none [aI f.name,aM f.blocks]) rfl (by simp[aq.aJ]) trivial rfl ?_ ?_;rotate_left;simp -dsimp only[simprocAttr,↓I,zp]
 ·refine az ?_;refine .inr (.inl ⟨_,_,hb,.inl (ae (zj ?_))⟩);refine ai ?_;refine az (ai ?_);refine aR 2 3 (o:=.cells (O.map aI)) (bp O) rfl (by simp[aq.aJ]) trivial rfl (cw.ms (cs:=O.map aI) rfl (fun x hx=>by obtain⟨v,_,rfl⟩:=List.mem_map.1 hx;rfl) (by simpa using hl) (by rw[List.drop_zero,List.take_of_length_le (by simp;omega),se])) ?_;simp -dsimp only[simprocAttr,↓I,zp];refine ak ?_;simp -dsimp only[simprocAttr,↓I,zp,zr,Tryz.results38];exact⟨⟨ay _ _,trivial⟩,trivial,trivial⟩
 exact cw.mp rfl rfl
theorem FO(l:List bI):pk (bk l)=[-1]:=by rfl
theorem De(l:List bI):iC (bk l)=[[]]:=by rfl
def gY(l:List bI):List (Value×aa):=l.foldl (fun d i=>cB d (.int .i64 i.to) i.enc) []
def ic(l:List bI):List (Value×aa):=l.foldl (fun d i=>cB d (.int .i64 i.to) (aI 0)) [(.int .i64 0,aI 0)]
theorem mn{k:Nat}{key:Value}{y:aa}(hy:y.upto k):∀{W:List (Value×aa)},ba k W->ba k (cB W key y)
 | [],_=>⟨hy,trivial⟩
 | x::r,h=>by
  simp only[cB];split
  ·exact⟨hy,h.2⟩
  exact⟨h.1,mn hy h.2⟩
theorem oc(key:Value)(y:aa):∀W:List (Value×aa),(cB W key y).length<=W.length+1∧kT W key<(cB W key y).length
 | []=>by simp[cB,kT]
 | x::r=>by
  have:=oc key y r;simp only[cB,kT];split<;>simp<;>omega
theorem pg(l:List bI)(fU:(bk l).fit)(hc:bM (bk l)=0)(Tb:l.length<=1000):bw Tryz.prog 23 [(bk l).enc] (bF (bk l) (gY l) (ic l)):=by
 have ht:=Gd (bk l) fU hc;have hp:=vr (bk l) fU;rw[yV,if_pos hc,De]at hp;rw[FO]at ht;have hb:(bk l).blocks[0]?=some ⟨[0],l,⟨0,4,0,[],[]⟩⟩:=rfl;refine zf true 0 Tryz.func23 Tryz.ntmps23 ?_;dsimp only[Tmp,TypeId,slotsOf];refine aG ?_;simp -dsimp only[simprocAttr,↓I,zp,au];refine ai ?_;refine aR 1 0 (.ip none [aI (-1),aM (bk l).blocks]) rfl (by simp[aq.aJ]) trivial rfl ?_ ?_;rotate_left;simp -dsimp only[simprocAttr,↓I,zp,au]
 ·refine aG ?_;simp -dsimp only[simprocAttr,↓I,zp,au];refine .inl ⟨_,ht,by simp only[av,aa.upto,zt,zu,ay,aU,Edge.aj,bI.aj,Block.aj],ae ?_⟩;simp -dsimp only[simprocAttr,↓I,zp,au];refine ai ?_;refine aG ?_;simp -dsimp only[simprocAttr,↓I,zp,au];refine .inl ⟨_,hp,by simp only[av,aa.upto,zt,zu,ay,aU,Edge.aj,bI.aj,Block.aj],ae ?_⟩;simp -dsimp only[simprocAttr,↓I,zp,au];refine ai ?_;refine aG ?_;simp -dsimp only[simprocAttr,↓I,zp,au];refine ai ?_;refine bR ?_;simp -dsimp only[simprocAttr,↓I,zp,au];refine ai ?_;refine ah (bJ 1 ?_);refine aG ?_;simp -dsimp only[simprocAttr,↓I,zp,au];refine ai ?_;apply fK rfl<;>intro h;rotate_left
  ·cases h
  refine bZ ?_;refine aL (ah ?_);refine aG ?_;simp -dsimp only[simprocAttr,↓I,zp,au,hb];refine ai ?_;refine bR ?_;simp -dsimp only[simprocAttr,↓I,zp,au];refine ai ?_;refine ah (bJ 1 ?_);refine aG ?_;simp -dsimp only[simprocAttr,↓I,zp,au];refine ai ?_;apply fK rfl<;>intro h;rotate_left
  ·cases h
  refine bZ ?_;refine aL (ah ?_);refine aG ?_;simp -dsimp only[simprocAttr,↓I,zp,au];refine ai ?_;refine fE ?_;simp -dsimp only[simprocAttr,↓I,zp,au];refine ai ?_;refine fE ?_;simp -dsimp only[simprocAttr,↓I,zp,au];refine ai ?_;refine cU ?_;refine aG ?_;simp -dsimp only[simprocAttr,↓I,zp,au];refine ai ?_;apply fK rfl<;>intro h
  ·cases h
  refine aN ?_;simp -dsimp only[bH,ne_eq,Nat.reduceEqDiff,reduceCtorEq,a7];refine aG ?_;simp -dsimp only[simprocAttr,↓I,zp,au];refine ai ?_;obtain⟨A,hA⟩:∃A,A=gY l:=⟨_,rfl⟩
  obtain⟨B,hB⟩:∃B,B=ic l:=⟨_,rfl⟩
  rw[<-hA,<-hB];refine ah (a8 (ι:={p:Nat×List (Value×aa)×List (Value×aa) // p.1<=l.length∧A=(l.drop p.1).foldl (fun d i=>cB d (.int .i64 i.to) i.enc) p.2.1∧B=(l.drop p.1).foldl (fun d i=>cB d (.int .i64 i.to) (aI 0)) p.2.2∧ba 0 p.2.1∧ba 0 p.2.2∧p.2.1.length<=p.1∧p.2.2.length<=p.1+1}) (fun p=>⟨81,[(7,.mp 3 0),(8,aI 0),(9,.mp 4 0),(32,aM (bk l).blocks),(33,aI 1),(34,aI 0),(54,cS l),(55,aI l.length),(56,aI p.1.1)],[.gone,.map (.int .i64) p.1.2.1,.map (.int .i64) p.1.2.2,.cells [aI (-1),aM (bk l).blocks,.aB 1 [aI (-1)] .sh,.aB 1 [bp []] .sh,.mm 1,.mm 2],.cells [bp [0],cS l,aI 0,aI 4,aI 0,bp [],bq []]]⟩) (fun p=>l.length-p.1.1) ⟨(0,[],[(.int .i64 0,aI 0)]),by simp,hA,hB,trivial,⟨trivial,trivial⟩,by simp,by simp⟩ ?_ ?_)
  ·refine zq rfl ?_ ?_;simp -dsimp only[simprocAttr,↓I,zp,au,zc]
   ·exact Sub.refl _
   rfl
  rintro⟨⟨i,D,H⟩,hi,hD,hH,u1,u2,n1,n2⟩;simp only at hi hD hH u1 u2 n1 n2;refine aG ?_;simp -dsimp only[simprocAttr,↓I,zp,au];refine ai ?_;apply fK rfl<;>intro h
  ·refine bZ ?_;have sx:i<l.length:=by simpa using h
   obtain⟨x,hx⟩:∃x,l[i]?=some x:=⟨l[i],by simp[sx]⟩
   rw[dL hx]at hD hH;simp only[List.foldl_cons]at hD hH;refine aL (ah ?_);refine aG ?_;simp -dsimp only[simprocAttr,↓I,zp,au,hx];refine ai ?_;refine aR 13 5 (.ip none [aI x.to,aI x.op,aI x.n,bp x.args]) rfl (by simp[aq.aJ]) trivial rfl ?_ ?_;rotate_left;simp -dsimp only[simprocAttr,↓I,zp,au];rotate_left
   ·exact cw.mp rfl rfl
   have WV:x.enc.upto 0:=⟨trivial,trivial,trivial,⟨ay _ _,trivial⟩,trivial⟩
   refine fE ?_;simp -dsimp only[simprocAttr,↓I,zp,au,Bn];refine⟨OY,by omega,(oc _ _ _).2,OY,by omega,(oc _ _ _).2,?_⟩;refine⟨ob (by kernel_rfl),?_⟩;refine ai ?_;refine cK 5 [(7,.mp 3 0),(8,aI 0),(9,.mp 4 0),(32,aM (bk l).blocks),(33,aI 1),(34,aI 0),(54,cS l),(55,aI l.length),(56,aI i)] (by simp) (by omega) [.gone,.map (.int .i64) (cB D (.int .i64 x.to) x.enc),.map (.int .i64) (cB H (.int .i64 x.to) (aI 0)),.cells [aI (-1),aM (bk l).blocks,.aB 1 [aI (-1)] .sh,.aB 1 [bp []] .sh,.mm 1,.mm 2],.cells [bp [0],cS l,aI 0,aI 4,aI 0,bp [],bq []]] ?_ ?_ ?_ ?_ ?_
   ·rfl
   ·intro o ho;simp only[List.mem_cons,List.not_mem_nil,or_false]at ho;rcases ho with rfl|rfl|rfl|rfl|rfl
    ·trivial
    ·exact gT (by omega) _ (mn WV u1)
    ·exact gT (by omega) _ (mn (y:=aI 0) trivial u2)
    ·simp[aq.upto,aa.upto,av,ay,Edge.aj,bI.aj,Block.aj]
    simp[aq.upto,aa.upto,av,ay,Edge.aj,bI.aj,Block.aj]
   ·simp[jw,St.get,cd,bG,Go.Av.look,Sub.refl]
   ·simp[aa.upto,av,ay,Edge.aj,bI.aj,Block.aj]
   refine fE ?_;simp -dsimp only[simprocAttr,↓I,zp,au]
   repeat(refine⟨by omega,?_⟩)
   refine kv ?_;refine⟨⟨(i+1,_,_),by simp only;omega,hD,hH,mn WV u1,mn (y:=aI 0) trivial u2,?_,?_⟩,by simp only;omega,?_⟩
   ·have:=(oc (.int .i64 x.to) x.enc D).1;simp only;omega
   ·have:=(oc (.int .i64 x.to) (aI 0) H).1;simp only;omega
   refine zq rfl ?_ ?_;simp -dsimp only[simprocAttr,↓I,zp,au,zc]
   ·exact Sub.int (by simp)
   rfl
  refine aN ?_;simp -dsimp only[bH,ne_eq,Nat.reduceEqDiff,reduceCtorEq];have sx:i=l.length:=by simp at h;omega
  subst sx;rw[List.drop_length]at hD hH;simp only[List.foldl_nil]at hD hH;subst hD;subst hH;refine fE ?_;simp -dsimp only[simprocAttr,↓I,zp,au];refine ai ?_;refine cU ?_;refine aG ?_;simp -dsimp only[simprocAttr,↓I,zp,au];refine ai ?_;apply fK rfl<;>intro h
  ·cases h
  refine aN ?_;simp -dsimp only[bH,ne_eq,Nat.reduceEqDiff,reduceCtorEq,a7];refine iG 1 rfl (by simp[aq.aJ]) trivial [(7,.mp 3 0)] (mM (by intro p hp;simp at hp;subst hp;rfl)) 3 (by omega) _ [aI (-1),aM (bk l).blocks,.aB 1 [aI (-1)] .sh,.aB 1 [bp []] .sh,.im (.int .i64) A,.mm 2] rfl rfl ?_ ?_ ?_
  ·intro d hd;simp at hd;rcases hd with rfl|rfl|rfl|rfl|rfl|rfl<;>trivial
  ·intro j y d hy hd
   match j,hy,hd with
   | 0,hy,hd=>simp at hy hd;subst hy;subst hd;exact cw.refl _
   | 1,hy,hd=>simp at hy hd;subst hy;subst hd;exact cw.refl _
   | 2,hy,hd=>simp at hy hd;subst hy;subst hd;exact cw.refl _
   | 3,hy,hd=>simp at hy hd;subst hy;subst hd;exact cw.refl _
   | 4,hy,hd=>simp at hy hd;subst hy;subst hd;exact cw.mm rfl
   | 5,hy,hd=>simp at hy hd;subst hy;subst hd;exact cw.refl _
   | j+6,hy,hd=>simp at hy
  refine iG 2 rfl (by simp[aq.aJ]) trivial [(7,.mp 3 0)] (mM (by intro p hp;simp at hp;subst hp;rfl)) 3 (by omega) _ [aI (-1),aM (bk l).blocks,.aB 1 [aI (-1)] .sh,.aB 1 [bp []] .sh,.im (.int .i64) A,.im (.int .i64) B] rfl rfl ?_ ?_ ?_
  ·intro d hd;simp at hd;rcases hd with rfl|rfl|rfl|rfl|rfl|rfl<;>trivial
  ·intro j y d hy hd
   match j,hy,hd with
   | 0,hy,hd=>simp at hy hd;subst hy;subst hd;exact cw.refl _
   | 1,hy,hd=>simp at hy hd;subst hy;subst hd;exact cw.refl _
   | 2,hy,hd=>simp at hy hd;subst hy;subst hd;exact cw.refl _
   | 3,hy,hd=>simp at hy hd;subst hy;subst hd;exact cw.refl _
   | 4,hy,hd=>simp at hy hd;subst hy;subst hd;exact cw.refl _
   | 5,hy,hd=>simp at hy hd;subst hy;subst hd;exact cw.mm rfl
   | j+6,hy,hd=>simp at hy
  refine aR 7 3 (.ip none [aI (-1),aM (bk l).blocks,.aB 1 [aI (-1)] .sh,.aB 1 [bp []] .sh,.im (.int .i64) A,.im (.int .i64) B]) rfl (by simp[aq.aJ]) trivial rfl ?_ ?_;rotate_left;simp -dsimp only[simprocAttr,↓I,zp,au];rotate_left
  ·exact cw.mp rfl rfl
  refine aG ?_;simp -dsimp only[simprocAttr,↓I,zp,au];refine ai ?_;refine ak ?_;simp -dsimp only[simprocAttr,↓I,zp,au,zr,Tryz.results23];exact⟨⟨trivial,⟨Block.aj _ _,trivial⟩,⟨⟨trivial,trivial⟩,trivial⟩,⟨⟨⟨trivial,trivial⟩,trivial⟩,trivial⟩,u1,u2,trivial⟩,rfl⟩
 exact cw.mp rfl rfl
theorem tk(f g:Func):bw Tryz.prog 22 [f.enc,g.enc,.agg [.aB 4 [] .sh]] (aI 0):=by
 refine zf true 0 Tryz.func22 Tryz.ntmps22 ?_;dsimp only[Tmp,TypeId,slotsOf];refine aG ?_;simp -dsimp only[simprocAttr,↓I,zp,au];refine ai ?_;refine bR ?_;simp -dsimp only[simprocAttr,↓I,zp,au];refine ai ?_;refine ah (bJ 0 ?_);refine aG ?_;simp -dsimp only[simprocAttr,↓I,zp,au];refine ai ?_;apply fK rfl<;>intro h
 ·cases h
 refine aN ?_;simp -dsimp only[bH,ne_eq,Nat.reduceEqDiff,reduceCtorEq,a7];refine aG ?_;simp -dsimp only[simprocAttr,↓I,zp,au];refine ai ?_;refine ak ?_;simp -dsimp only[simprocAttr,↓I,zp,au,zr,Tryz.results22]
theorem DD(f g:Func)(hf:f.fit)(hg:g.fit)(cf:bM f=0)(cg:bM g=0):bw Tryz.prog 11 [f.enc,g.enc,.agg [.aB 4 [] .sh]] (aI 0):=by
 have h1:=gM f hf;have h2:=gM g hg;rw[cf]at h1;rw[cg]at h2;have h3:=tk f g;refine zf true 0 Tryz.func11 Tryz.ntmps11 ?_;dsimp only[Tmp,TypeId,slotsOf];refine aG ?_;simp -dsimp only[simprocAttr,↓I,zp,au];refine ai ?_;refine bR ?_;simp -dsimp only[simprocAttr,↓I,zp,au];refine .inl ⟨_,h1,by simp only[av,aa.upto,zt,zu,ay,aU,Edge.aj,bI.aj,Block.aj],ae ?_⟩;simp -dsimp only[simprocAttr,↓I,zp,au];refine ai ?_;refine aG ?_;simp -dsimp only[simprocAttr,↓I,zp,au];refine ai ?_;apply aF rfl<;>intro h
 ·cases h
 refine bZ ?_;refine bR ?_;simp -dsimp only[simprocAttr,↓I,zp,au];refine .inl ⟨_,h2,by simp only[av,aa.upto,zt,zu,ay,aU,Edge.aj,bI.aj,Block.aj],ae ?_⟩;simp -dsimp only[simprocAttr,↓I,zp,au];refine ai ?_;refine aG ?_;simp -dsimp only[simprocAttr,↓I,zp,au];refine ai ?_;apply aF rfl<;>intro h
 ·cases h
 refine bZ ?_;refine aG ?_;simp -dsimp only[simprocAttr,↓I,zp,au];refine .inl ⟨_,h3,by simp only[av,aa.upto,zt,zu,ay,aU,Edge.aj,bI.aj,Block.aj],ae ?_⟩;simp -dsimp only[simprocAttr,↓I,zp,au];refine ai ?_;refine ak ?_;simp -dsimp only[simprocAttr,↓I,zp,au,zr,Tryz.results11]
def yv(p ca cb ls re wk:aa)(bu:Int):List aa:=[p,ca,cb,ls,.mm 6,re,wk,aI bu,.v (.bool false),.v (.bool false)]
def lL:aa:=.agg [aI 0,aI 0,.aB 2 [.agg [aI 0,aI 0]] .sh,.aB 3 [] .sh]
theorem uJ{k:Nat}(v:bI->aa)(hv:∀i,(v i).upto k):∀(l:List bI) {W:List (Value×aa)},ba k W->ba k (l.foldl (fun d i=>cB d (.int .i64 i.to) (v i)) W)
 | [],_,h=>h
 | i::r,_,h=>uJ v hv r (mn (hv i) h)
theorem tn(k:Nat)(l:List bI):ba k (gY l):=uJ (fun i=>i.enc) (fun _=>⟨trivial,trivial,trivial,⟨ay _ _,trivial⟩,trivial⟩) l trivial
theorem tx(k:Nat)(l:List bI):ba k (ic l):=uJ (fun _=>aI 0) (fun _=>trivial) l ⟨trivial,trivial⟩
theorem rF{k:Nat}{f:Func}{df hm:List (Value×aa)}(h1:ba k df)(h2:ba k hm):(bF f df hm).upto k :=
 ⟨trivial,⟨Block.aj _ _,trivial⟩,⟨⟨trivial,trivial⟩,trivial⟩,⟨⟨⟨trivial,trivial⟩,trivial⟩,trivial⟩,h1,h2,trivial⟩
theorem l6(k:Nat):lL.upto k:=⟨trivial,trivial,⟨⟨⟨trivial,trivial,trivial⟩,trivial⟩,trivial⟩,⟨trivial,trivial⟩,trivial⟩
theorem tg(l m:List bI)(hf:(bk l).fit)(hg:(bk m).fit)(cf:bM (bk l)=0)(cg:bM (bk m)=0)(hl:l.length<=1000)(eN:m.length<=1000) :
  aK Tryz.prog 12 [.gone,.gone,.gone] [(bk l).enc,(bk m).enc,.agg [.aB 4 [] .sh]] fun r O'=>r=.mp 7 0∧O'=[.gone,.gone,.gone,.gone,.gone,.gone,eM,.cells (yv (.v (.pointer none)) (bF (bk l) (gY l) (ic l)) (bF (bk m) (gY m) (ic m)) (.aB 4 [lL] .sh) (.aB 1 [] .ex) (.aB 1 [] .ex) 0)]:=by
 have h1:=pg l hf cf hl;have h2:=pg m hg cg eN;have b1:(bk l).blocks[0]?=some ⟨[0],l,⟨0,4,0,[],[]⟩⟩:=rfl;have b2:(bk m).blocks[0]?=some ⟨[0],m,⟨0,4,0,[],[]⟩⟩:=rfl;have Xc:ba 8 (gY l)∧ba 8 (ic l):=⟨tn 8 l,tx 8 l⟩
 have Xd:ba 8 (gY m)∧ba 8 (ic m):=⟨tn 8 m,tx 8 m⟩
 unfold bF at h1 h2 ⊢;generalize gY l=D1 at *;generalize ic l=H1 at *;generalize gY m=D2 at *;generalize ic m=H2 at *;refine zf false 8 Tryz.func12 Tryz.ntmps12 ?_;dsimp only[Tmp,TypeId,slotsOf];refine aG ?_;simp -dsimp only[simprocAttr,↓I,zp,au];refine ai ?_;refine aR 3 3 (.ip none [aI (-1),aM (bk l).blocks]) rfl (by simp[aq.aJ]) trivial rfl ?_ ?_;rotate_left;simp -dsimp only[simprocAttr,↓I,zp,au];rotate_left
 ·exact cw.mp rfl rfl
 refine aR 4 4 (.ip none [aI (-1),aM (bk m).blocks]) rfl (by simp[aq.aJ]) trivial rfl ?_ ?_;rotate_left;simp -dsimp only[simprocAttr,↓I,zp,au];rotate_left
 ·exact cw.mp rfl rfl
 refine aR 5 5 (.ip none [.aB 4 [] .sh]) rfl (by simp[aq.aJ]) trivial rfl ?_ ?_;rotate_left;simp -dsimp only[simprocAttr,↓I,zp,au];rotate_left
 ·exact cw.mp rfl rfl
 refine aG ?_;simp -dsimp only[simprocAttr,↓I,zp,au];refine .inl ⟨_,h1,by simp only[av,aa.upto,zt,zu,ay,aU,Edge.aj,bI.aj,Block.aj],ae ?_⟩;simp -dsimp only[simprocAttr,↓I,zp,au];refine .inl ⟨_,h2,by simp only[av,aa.upto,zt,zu,ay,aU,Edge.aj,bI.aj,Block.aj],ae ?_⟩;simp -dsimp only[simprocAttr,↓I,zp,au];refine⟨ob (by kernel_rfl),?_⟩;refine ai ?_;refine aG ?_;simp -dsimp only[simprocAttr,↓I,zp,au];refine ai ?_;refine bR ?_;simp -dsimp only[simprocAttr,↓I,zp,au,b1];refine ai ?_;refine ah (bJ 1 ?_);refine aG ?_;simp -dsimp only[simprocAttr,↓I,zp,au];refine ai ?_;apply fK rfl<;>intro h;rotate_left
 ·cases h
 refine bZ ?_;refine aL (ah ?_);refine aG ?_;simp -dsimp only[simprocAttr,↓I,zp,au];refine ai ?_;refine fE ?_;simp -dsimp only[simprocAttr,↓I,zp,au,b2];refine⟨ob (by kernel_rfl),?_⟩;refine ai ?_;refine fE ?_;simp -dsimp only[simprocAttr,↓I,zp,au];refine ai ?_;refine cU ?_;refine aG ?_;simp -dsimp only[simprocAttr,↓I,zp,au];refine ai ?_;apply fK rfl<;>intro h
 ·cases h
 refine aN ?_;simp -dsimp only[bH,ne_eq,Nat.reduceEqDiff,reduceCtorEq,a7];refine aG ?_;simp -dsimp only[simprocAttr,↓I,zp,au];refine⟨ob (by kernel_rfl),?_⟩;refine ai ?_;refine bR ?_;simp -dsimp only[simprocAttr,↓I,zp,au];refine ai ?_;refine ah (bJ 0 ?_);refine aG ?_;simp -dsimp only[simprocAttr,↓I,zp,au];refine ai ?_;apply fK rfl<;>intro h
 ·cases h
 refine aN ?_;simp -dsimp only[bH,ne_eq,Nat.reduceEqDiff,reduceCtorEq,a7];refine B5 7 (yv (.v (.pointer none)) (.ip none [aI (bk l).name,aM (bk l).blocks,bp [-1],.aB 1 [bp []] .sh,.im (.int .i64) D1,.im (.int .i64) H1]) (.ip none [aI (bk m).name,aM (bk m).blocks,bp [-1],.aB 1 [bp []] .sh,.im (.int .i64) D2,.im (.int .i64) H2]) (.aB 4 [lL] .sh) (.aB 1 [] .ex) (.aB 1 [] .ex) 0) rfl rfl ?_ ?_ ?_
 ·intro d hd;simp[yv]at hd;rcases hd with rfl|rfl|rfl|rfl|rfl|rfl|rfl|rfl|rfl|rfl<;>trivial
 ·unfold yv;intro j y d hy hd
  match j,hy,hd with
  | 0,hy,hd=>simp at hy hd;subst hy;subst hd;exact Sub.refl _
  | 1,hy,hd=>simp at hy hd;subst hy;subst hd;exact Sub.refl _
  | 2,hy,hd=>simp at hy hd;subst hy;subst hd;exact Sub.refl _
  | 3,hy,hd=>simp at hy hd;subst hy;subst hd;exact Sub.sh rfl
  | 4,hy,hd=>simp at hy hd;subst hy;subst hd;exact Sub.refl _
  | 5,hy,hd=>simp at hy hd;subst hy;subst hd;exact Sub.refl _
  | 6,hy,hd=>simp at hy hd;subst hy;subst hd;exact Sub.refl _
  | 7,hy,hd=>simp at hy hd;subst hy;subst hd;exact Sub.refl _
  | 8,hy,hd=>simp at hy hd;subst hy;subst hd;exact Sub.refl _
  | 9,hy,hd=>simp at hy hd;subst hy;subst hd;exact Sub.refl _
  | j+10,hy,hd=>simp at hy
 unfold yv;simp -dsimp only[simprocAttr,↓I,zp,au];refine aG ?_;simp -dsimp only[simprocAttr,↓I,zp,au];refine ai ?_;refine ak ?_;simp -dsimp only[simprocAttr,↓I,zp,au,zr,Tryz.results12];intro o ho;simp only[List.mem_cons,List.not_mem_nil,or_false]at ho;rcases ho with rfl|rfl|rfl|rfl|rfl|rfl|rfl|rfl
 iterate 7 trivial
 exact⟨trivial,rF Xc.1 Xc.2,rF Xd.1 Xd.2,⟨⟨l6 _,trivial⟩,trivial⟩,show 6<8 by decide,⟨trivial,trivial⟩,⟨trivial,trivial⟩,trivial,trivial,trivial,trivial⟩
theorem OZ:rQ Tryz.prog 73=none:=by
 unfold rQ;rw[Tryz.underlying73]
theorem TO:rQ Tryz.prog 76=none:=by
 unfold rQ;rw[Tryz.underlying76]
theorem wW(x0 x1 x2:aq)(hx:∀o∈[x0,x1,x2],o.upto 14) :
  aK Tryz.prog 26 [.gone,.gone,.gone,.gone,.gone,.gone,x0,x1,x2] [] fun r O'=>r=.mp 13 0∧O'=[.gone,.gone,.gone,.gone,.gone,.gone,x0,x1,x2,.map .str [],eM,eM,eM,.cells [.aB 4 [] .ex,.mm 9,.mm 10,.mm 11,.mm 12]]:=by
 refine zf true 14 Tryz.func26 Tryz.ntmps26 ?_;dsimp only[Tmp,TypeId,slotsOf];refine aG ?_;simp -dsimp only[simprocAttr,↓I,zp,au,aH];refine ai ?_;refine aG ?_;simp -dsimp only[simprocAttr,↓I,zp,au,aH];refine ai ?_;refine ak ?_;simp -dsimp only[simprocAttr,↓I,zp,au,aH,zr,Tryz.results26];intro o ho;simp only[List.mem_cons,List.not_mem_nil,or_false]at ho;rcases ho with rfl|rfl|rfl|rfl|rfl|rfl|rfl|rfl|rfl|rfl|rfl|rfl|rfl|rfl
 iterate 6 trivial
 iterate 3 exact hx _ (by simp)
 iterate 4 trivial
 exact⟨⟨trivial,trivial⟩,show 9<14 by decide,show 10<14 by decide,show 11<14 by decide,show 12<14 by decide,trivial⟩
theorem va(x0 x1 x2 x4 x5 x6 eU ef eg:aq)(L:List cQ)(hx:∀o∈[x0,x1,x2,x4,x5,x6],o.upto 15)(hy:∀o∈[eU,ef,eg],o.upto 26) :
  aK Tryz.prog 40 (pO x0 x1 x2 x4 x5 x6 L++[eU,ef,eg]) [] fun r O'=>r=.mp 25 0∧O'=pO x0 x1 x2 x4 x5 x6 L++[eU,ef,eg,eM,pM,eM,eM,pM,pM,pM,.cells [.mm 18,.mm 19,.mm 20,.mm 21,.mm 22,.mm 23,.mm 24,.v (.bool false)]]:=by
 unfold pO;refine zf true 26 Tryz.func40 Tryz.ntmps40 ?_;dsimp only[Tmp,TypeId,slotsOf];refine aG ?_;simp -dsimp only[simprocAttr,↓I,zp,au,aH];refine ai ?_;refine aG ?_;simp -dsimp only[simprocAttr,↓I,zp,au,aH,OZ,TO,Option.getD_none];refine ai ?_;refine ak ?_;simp -dsimp only[simprocAttr,↓I,zp,au,aH,zr,Tryz.results40];have aW:=cO (k:=26) (bA hx L) (by omega) (B:=[eU,ef,eg,eM,pM,eM,eM,pM,pM,pM,.cells [.mm 18,.mm 19,.mm 20,.mm 21,.mm 22,.mm 23,.mm 24,.v (.bool false)]]) (by
  intro o ho;simp only[List.mem_cons,List.not_mem_nil,or_false]at ho;have hm:∀{k:Nat},k<26->(aa.mm k).upto 26:=fun h=>h;rcases ho with rfl|rfl|rfl|rfl|rfl|rfl|rfl|rfl|rfl|rfl|rfl
  iterate 3 exact hy _ (by simp)
  iterate 7 trivial
  exact⟨hm (by decide),hm (by decide),hm (by decide),hm (by decide),hm (by decide),hm (by decide),hm (by decide),trivial,trivial⟩)
 exact aW
def vi(t:Int):aa:=.agg [aI 3,aI 0,aI 0,bp [t],aI 0,aI 0,aI 0,bp []]
theorem BI{O:List aq}(aW:∀o∈O,o.upto O.length){sid eid:Nat}{c1 c2 c3 c4 c6 e f:aa}{E:List (Value×aa)}{v t n:Int}(hs:O[sid]?=some (.cells [c1,c2,c3,c4,.mm eid,c6]))(he:O[eid]?=some (.map (.int .i64) E))(ht:bC E (.int .i64 v)=some (aI t)) :
  aK Tryz.prog 89 O [e,.mp sid 0,f,.agg [aI 0,aI v,aI n,bp [],bq []]] fun r O'=>r=.cN [vi t,aI (-1)]∧O'=O:=by
 have fk:O.length<=O.length:=Nat.le_refl _;have h1:∀Y,(O++Y)[sid]?=some (.cells [c1,c2,c3,c4,.mm eid,c6]):=fun Y=>rj hs Y;have h2:∀Y,(O++Y)[eid]?=some (.map (.int .i64) E):=fun Y=>rj he Y;have h3:∀Y Z,(O++Y::Z)[O.length]?=some Y:=fun Y Z=>by simp
 have h4:∀X Y Z,(O++X::Y::Z)[O.length+1]?=some Y:=fun X Y Z=>by
  rw[List.getElem?_append_right (by omega)];simp
 refine dE hT true (O.length) Tryz.func89 rfl (by kernel_rfl) (by simp[Tryz.ntmps89]) (by assumption) ?_;show cG Tryz.prog _ _ _ ⟨126,_,_⟩;dsimp only[Tmp,TypeId,slotsOf];refine aG ?_;simp -dsimp only[simprocAttr,↓I,zp,au,aH,h3];refine ai ?_;refine bR ?_;simp -dsimp only[simprocAttr,↓I,zp,au,aH,h3];refine ai ?_;refine ah ?_;refine aG ?_;simp -dsimp only[simprocAttr,↓I,zp,au,aH];refine ai ?_;apply aF rfl<;>intro h;rotate_left
 ·cases h
 refine aG ?_;simp -dsimp only[simprocAttr,↓I,zp,au,aH,h1,h2,h3,h4,ht];have l1:=ag hs;have l2:=ag he;have da:sid≠eid:=fun q=>by
  subst q;rw[hs]at he;cases he
 refine⟨cm [sid,eid,O.length,O.length+1] (O.length+2) [.pure,.pure,.pure,.rd 0,.pure,.rd 2,.rd 1,.pure,.pure,.wr 4 [3],.pure] (by simp;omega) (by simp;omega) rfl rfl (by kernel_rfl),?_⟩;refine ai ?_;refine ak ?_;simp -dsimp only[simprocAttr,↓I,zp,au,aH,zr,Tryz.results89,h3,h4,List.take_left];exact⟨aW,by simp[av,aa.upto],rfl⟩
end Go.Proofs.YtocdpaifmnkoaaaGreatDoor
