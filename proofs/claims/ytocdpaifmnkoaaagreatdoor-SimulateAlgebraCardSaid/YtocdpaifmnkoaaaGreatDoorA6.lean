/-
  Texts bound together by a program of mine: YtocdpaifmnkoaaaGreatDoorT226, YtocdpaifmnkoaaaGreatDoorT227, YtocdpaifmnkoaaaGreatDoorT228, YtocdpaifmnkoaaaGreatDoorT229, YtocdpaifmnkoaaaGreatDoorT230, YtocdpaifmnkoaaaGreatDoorT232, YtocdpaifmnkoaaaGreatDoorT233, YtocdpaifmnkoaaaGreatDoorT234, YtocdpaifmnkoaaaGreatDoorQm, YtocdpaifmnkoaaaGreatDoorT235, YtocdpaifmnkoaaaGreatDoorT236, YtocdpaifmnkoaaaGreatDoorQj, YtocdpaifmnkoaaaGreatDoorQl, YtocdpaifmnkoaaaGreatDoorT231, YtocdpaifmnkoaaaGreatDoorT237, YtocdpaifmnkoaaaGreatDoorT238, YtocdpaifmnkoaaaGreatDoorT240, YtocdpaifmnkoaaaGreatDoorT239, YtocdpaifmnkoaaaGreatDoorT241.
-/
import Derived.Test.YtocdpaifmnkoaaaGreatDoorA5
import Derived.Test.YtocdpaifmnkoaaaGreatDoorChecked
import Derived.Laws.IdiomRangeMap
import Derived.KernelRfl
import Derived.WalkKit
import Derived.BigCall
set_option linter.all false
set_option maxRecDepth 100000
set_option maxHeartbeats 4000000

namespace Go.Proofs.YtocdpaifmnkoaaaGreatDoor
open Go.Av
theorem LC:pv Tryz.prog 73 .i64:=by
 obtain⟨i,q1,q2⟩:∃i,Tryz.prog.info? 3=some i∧i.size=1:=⟨(Tryz.prog.info? 3).get (by kernel_rfl),by kernel_rfl,by kernel_rfl⟩
 exact qU ⟨3,i,Tryz.underlying73,q1,q2,Tryz.underlying3,by kernel_rfl⟩
theorem rP:lj Tryz.prog 73 .pair:=lj.pair Tryz.underlying73 Tryz.underlying3 Tryz.sizeOf3 Tryz.isAgg3 LC
theorem so(x:Value):aw [.v x]=[.v x]:=rfl
theorem xc(a b c:Nat):(aa.os a b c).cells=[.os a b c]:=rfl
theorem O6(a b c:Nat):(aa.os a b c).flat=True:=eq_true trivial
theorem Qy(er:List aa)(x2:aq)(L:List cQ)(eU ef eg:aq)(W D:List (Value×aa))(hu:tG er x2 eU ef eg)(hW:ba 26 W)(hD:ba 26 D) :
  aK Tryz.prog 46 (rO er x2 L eU ef eg W D++[.map .pair [],.cells [.mp 7 0,.mm 26,.aB 1 [] .ex,.aB 1 [] .ex],.gone,.gone]) [.mp 27 0,aI 0,aI 0] fun r O'=>r=aI 0∧O'=rO er x2 L eU ef eg W D++[.map .pair [(.agg #[.int .i64 0,.int .i64 0],aI 0)],.cells [.mp 7 0,.mm 26,.os 30 1 1,.os 31 1 1],.gone,.gone,.cells [aI 0],.cells [aI (-1)]]:=by
 have aW:=cO (k:=32) (dZ hu L hW hD) (by omega) (B:=[.map .pair [(.agg #[.int .i64 0,.int .i64 0],aI 0)],.cells [.mp 7 0,.mm 26,.os 30 1 1,.os 31 1 1],.gone,.gone,.cells [aI 0],.cells [aI (-1)]]) (by
  intro o ho;simp only[List.mem_cons,List.not_mem_nil,or_false]at ho;rcases ho with rfl|rfl|rfl|rfl|rfl|rfl
  ·exact⟨trivial,trivial⟩
  ·exact⟨show 7<32 by decide,show 26<32 by decide,show 30<32 by decide,show 31<32 by decide,trivial⟩
  ·trivial
  ·trivial
  ·exact⟨trivial,trivial⟩
  exact⟨trivial,trivial⟩)
 unfold rO at aW ⊢;refine zf false 32 Tryz.func46 Tryz.ntmps46 ?_;dsimp only[Tmp,TypeId,slotsOf];refine aG ?_;simp -dsimp only[simprocAttr,↓I,zp,au,aH];refine ai ?_;refine aG ?_;simp -dsimp only[simprocAttr,↓I,zp,au,aH];refine⟨rP,?_⟩;refine ai ?_;have hn:bC [] (Value.agg #[Value.int IntKind.i64 0,Value.int IntKind.i64 0])=none:=rfl;refine bR ?_;simp -dsimp only[simprocAttr,↓I,zp,au,aH,hn,Option.isSome_none];refine ai ?_;apply aF rfl<;>intro h;rotate_left
 ·cases h
 refine aG ?_;simp -dsimp only[simprocAttr,↓I,zp,au,aH];refine ai ?_;refine aG ?_;simp -dsimp only[simprocAttr,↓I,zp,au,aH];refine⟨rP,?_⟩;refine ai ?_;refine RG ?_;simp -dsimp only[simprocAttr,↓I,zp,au,aH,so,xc,O6,List.length_singleton,true_and];refine⟨ob (by kernel_rfl),?_⟩;refine ai ?_;refine aL (ah (bJ 0 ?_));refine bR ?_;simp -dsimp only[simprocAttr,↓I,zp,au,aH];refine ai ?_;apply aF rfl<;>intro h
 ·cases h
 refine aN ?_;simp -dsimp only[bH,ne_eq,Nat.reduceEqDiff,reduceCtorEq,a7];refine aG ?_;simp -dsimp only[simprocAttr,↓I,zp,au,aH];refine ai ?_;refine ak ?_;simp -dsimp only[simprocAttr,↓I,zp,au,aH,zr,Tryz.results46];exact⟨aW,rfl⟩
theorem Ly(er:List aa)(x2:aq)(L:List cQ)(eU ef eg:aq)(W D:List (Value×aa))(hu:tG er x2 eU ef eg)(hW:ba 26 W)(hD:ba 26 D) :
  aK Tryz.prog 46 (rO er x2 L eU ef eg W D++[.map .pair [(.agg #[.int .i64 0,.int .i64 0],aI 0)],.cells [.mp 7 0,.mm 26,.os 30 1 1,.os 31 1 1],.gone,.gone,.cells [aI 0],.cells [aI (-1)]]) [.mp 27 0,aI 1,aI 0] fun r O'=>r=aI 1∧O'=rO er x2 L eU ef eg W D++[.map .pair [(.agg #[.int .i64 0,.int .i64 0],aI 0),(.agg #[.int .i64 1,.int .i64 0],aI 1)],.cells [.mp 7 0,.mm 26,.os 32 2 1,.os 33 2 1],.gone,.gone,.gone,.gone,.cells [aI 0,aI 1],.cells [aI (-1),aI (-1)]]:=by
 have aW:=cO (k:=34) (dZ hu L hW hD) (by omega) (B:=[.map .pair [(.agg #[.int .i64 0,.int .i64 0],aI 0),(.agg #[.int .i64 1,.int .i64 0],aI 1)],.cells [.mp 7 0,.mm 26,.os 32 2 1,.os 33 2 1],.gone,.gone,.gone,.gone,.cells [aI 0,aI 1],.cells [aI (-1),aI (-1)]]) (by
  intro o ho;simp only[List.mem_cons,List.not_mem_nil,or_false]at ho;rcases ho with rfl|rfl|rfl|rfl|rfl|rfl|rfl|rfl
  ·exact⟨trivial,trivial,trivial⟩
  ·exact⟨show 7<34 by decide,show 26<34 by decide,show 32<34 by decide,show 33<34 by decide,trivial⟩
  ·trivial
  ·trivial
  ·trivial
  ·trivial
  ·exact⟨trivial,trivial,trivial⟩
  exact⟨trivial,trivial,trivial⟩)
 unfold rO at aW ⊢;refine zf false 34 Tryz.func46 Tryz.ntmps46 ?_;dsimp only[Tmp,TypeId,slotsOf];refine aG ?_;simp -dsimp only[simprocAttr,↓I,zp,au,aH];refine ai ?_;refine aG ?_;simp -dsimp only[simprocAttr,↓I,zp,au,aH];refine⟨rP,?_⟩;refine ai ?_;have hn:bC [(Value.agg #[Value.int IntKind.i64 0,Value.int IntKind.i64 0],aI 0)] (Value.agg #[Value.int IntKind.i64 1,Value.int IntKind.i64 0])=none:=by decide
 refine bR ?_;simp -dsimp only[simprocAttr,↓I,zp,au,aH,hn,Option.isSome_none];refine ai ?_;apply aF rfl<;>intro h;rotate_left
 ·cases h
 refine aG ?_;simp -dsimp only[simprocAttr,↓I,zp,au,aH];refine ai ?_;refine aG ?_;simp -dsimp only[simprocAttr,↓I,zp,au,aH];refine⟨rP,?_⟩;refine ai ?_;refine RG ?_;simp -dsimp only[simprocAttr,↓I,zp,au,aH,so,xc,O6,List.length_singleton,true_and];refine⟨ob (by kernel_rfl),?_⟩;refine ai ?_;refine aL (ah (bJ 0 ?_));refine bR ?_;simp -dsimp only[simprocAttr,↓I,zp,au,aH];refine ai ?_;apply aF rfl<;>intro h
 ·cases h
 refine aN ?_;simp -dsimp only[bH,ne_eq,Nat.reduceEqDiff,reduceCtorEq,a7];refine aG ?_;simp -dsimp only[simprocAttr,↓I,zp,au,aH];refine ai ?_;refine ak ?_;simp -dsimp only[simprocAttr,↓I,zp,au,aH,zr,Tryz.results46];exact⟨aW,rfl⟩
theorem Fy(er:List aa)(x2:aq)(L:List cQ)(eU ef eg:aq)(W D:List (Value×aa))(hu:tG er x2 eU ef eg)(hW:ba 26 W)(hD:ba 26 D) :
  aK Tryz.prog 73 (rO er x2 L eU ef eg W D++[.map .pair [(.agg #[.int .i64 0,.int .i64 0],aI 0),(.agg #[.int .i64 1,.int .i64 0],aI 1)],.cells [.mp 7 0,.mm 26,.os 32 2 1,.os 33 2 1],.gone,.gone,.gone,.gone,.cells [aI 0,aI 1],.cells [aI (-1),aI (-1)]]) [.mp 27 0,aI 0,aI 1] fun r O'=>r=.cN []∧O'=rO er x2 L eU ef eg W D++[.map .pair [(.agg #[.int .i64 0,.int .i64 0],aI 0),(.agg #[.int .i64 1,.int .i64 0],aI 1)],.cells [.mp 7 0,.mm 26,.os 32 2 1,.os 33 2 1],.gone,.gone,.gone,.gone,.cells [aI 0,aI 0],.cells [aI (-1),aI (-1)]]:=by
 have aW:=cO (k:=34) (dZ hu L hW hD) (by omega) (B:=[.map .pair [(.agg #[.int .i64 0,.int .i64 0],aI 0),(.agg #[.int .i64 1,.int .i64 0],aI 1)],.cells [.mp 7 0,.mm 26,.os 32 2 1,.os 33 2 1],.gone,.gone,.gone,.gone,.cells [aI 0,aI 0],.cells [aI (-1),aI (-1)]]) (by
  intro o ho;simp only[List.mem_cons,List.not_mem_nil,or_false]at ho;rcases ho with rfl|rfl|rfl|rfl|rfl|rfl|rfl|rfl
  ·exact⟨trivial,trivial,trivial⟩
  ·exact⟨show 7<34 by decide,show 26<34 by decide,show 32<34 by decide,show 33<34 by decide,trivial⟩
  ·trivial
  ·trivial
  ·trivial
  ·trivial
  ·exact⟨trivial,trivial,trivial⟩
  exact⟨trivial,trivial,trivial⟩)
 unfold rO at aW ⊢;refine zf true 34 Tryz.func73 Tryz.ntmps73 ?_;dsimp only[Tmp,TypeId,slotsOf];refine aG ?_;simp -dsimp only[simprocAttr,↓I,zp,au,aH];refine ai ?_;apply aF rfl<;>intro h;rotate_left
 ·cases h
 refine aG ?_;simp -dsimp only[simprocAttr,↓I,zp,au,aH];refine ai ?_;refine aG ?_;simp -dsimp only[simprocAttr,↓I,zp,au,aH];refine ai ?_;apply aF rfl<;>intro h;rotate_left
 ·cases h
 refine fE ?_;simp -dsimp only[simprocAttr,↓I,zp,au,aH];refine⟨ob (by kernel_rfl),?_⟩;refine aY ?_;simp -dsimp only[simprocAttr,↓I,zp,au,aH,zr,Tryz.results73];exact⟨aW,trivial⟩
theorem Lz(er:List aa)(x2:aq)(L:List cQ)(eU ef eg:aq)(W D:List (Value×aa))(t0 t1:Int)(hu:tG er x2 eU ef eg)(hW:ba 26 W)(hD:ba 26 D) :
  aK Tryz.prog 46 (rO er x2 L eU ef eg W D++[.map .pair [(.agg #[.int .i64 0,.int .i64 0],aI 0),(.agg #[.int .i64 1,.int .i64 0],aI 1)],.cells [.mp 7 0,.mm 26,.os 32 2 1,.os 33 2 1],.gone,.gone,.gone,.gone,.cells [aI 0,aI 0],.cells [aI t0,aI t1]]) [.mp 27 0,aI 0,aI 0] fun r O'=>r=aI 0∧O'=rO er x2 L eU ef eg W D++[.map .pair [(.agg #[.int .i64 0,.int .i64 0],aI 0),(.agg #[.int .i64 1,.int .i64 0],aI 1)],.cells [.mp 7 0,.mm 26,.os 32 2 1,.os 33 2 1],.gone,.gone,.gone,.gone,.cells [aI 0,aI 0],.cells [aI t0,aI t1]]:=by
 have aW:=cO (k:=34) (dZ hu L hW hD) (by omega) (B:=[.map .pair [(.agg #[.int .i64 0,.int .i64 0],aI 0),(.agg #[.int .i64 1,.int .i64 0],aI 1)],.cells [.mp 7 0,.mm 26,.os 32 2 1,.os 33 2 1],.gone,.gone,.gone,.gone,.cells [aI 0,aI 0],.cells [aI t0,aI t1]]) (by
  intro o ho;simp only[List.mem_cons,List.not_mem_nil,or_false]at ho;rcases ho with rfl|rfl|rfl|rfl|rfl|rfl|rfl|rfl
  ·exact⟨trivial,trivial,trivial⟩
  ·exact⟨show 7<34 by decide,show 26<34 by decide,show 32<34 by decide,show 33<34 by decide,trivial⟩
  ·trivial
  ·trivial
  ·trivial
  ·trivial
  ·exact⟨trivial,trivial,trivial⟩
  exact⟨trivial,trivial,trivial⟩)
 unfold rO at aW ⊢;refine zf true 34 Tryz.func46 Tryz.ntmps46 ?_;dsimp only[Tmp,TypeId,slotsOf];refine aG ?_;simp -dsimp only[simprocAttr,↓I,zp,au,aH];refine ai ?_;refine aG ?_;simp -dsimp only[simprocAttr,↓I,zp,au,aH];refine⟨rP,?_⟩;refine ai ?_;have hn:bC [(Value.agg #[Value.int IntKind.i64 0,Value.int IntKind.i64 0],aI 0),(Value.agg #[Value.int IntKind.i64 1,Value.int IntKind.i64 0],aI 1)] (Value.agg #[Value.int IntKind.i64 0,Value.int IntKind.i64 0])=some (aI 0):=rfl;refine bR ?_;simp -dsimp only[simprocAttr,↓I,zp,au,aH,hn,Option.isSome_some];refine ai ?_;apply aF rfl<;>intro h
 ·cases h
 refine bZ ?_;refine aL (ah (bJ 0 ?_));refine bR ?_;simp -dsimp only[simprocAttr,↓I,zp,au,aH];refine ai ?_;apply aF rfl<;>intro h
 ·cases h
 refine aN ?_;simp -dsimp only[bH,ne_eq,Nat.reduceEqDiff,reduceCtorEq,a7];refine aG ?_;simp -dsimp only[simprocAttr,↓I,zp,au,aH];refine ai ?_;refine ak ?_;simp -dsimp only[simprocAttr,↓I,zp,au,aH,zr,Tryz.results46];exact aW
theorem Eo(er:List aa)(x2:aq)(L:List cQ)(eU ef eg:aq)(W D:List (Value×aa))(t0 t1:Int)(hu:tG er x2 eU ef eg)(hW:ba 26 W)(hD:ba 26 D) :
  aK Tryz.prog 46 (rO er x2 L eU ef eg W D++[.map .pair [(.agg #[.int .i64 0,.int .i64 0],aI 0),(.agg #[.int .i64 1,.int .i64 0],aI 1)],.cells [.mp 7 0,.mm 26,.os 32 2 1,.os 33 2 1],.gone,.gone,.gone,.gone,.cells [aI 0,aI 0],.cells [aI t0,aI t1]]) [.mp 27 0,aI 1,aI 0] fun r O'=>r=aI 0∧O'=rO er x2 L eU ef eg W D++[.map .pair [(.agg #[.int .i64 0,.int .i64 0],aI 0),(.agg #[.int .i64 1,.int .i64 0],aI 1)],.cells [.mp 7 0,.mm 26,.os 32 2 1,.os 33 2 1],.gone,.gone,.gone,.gone,.cells [aI 0,aI 0],.cells [aI t0,aI t1]]:=by
 have aW:=cO (k:=34) (dZ hu L hW hD) (by omega) (B:=[.map .pair [(.agg #[.int .i64 0,.int .i64 0],aI 0),(.agg #[.int .i64 1,.int .i64 0],aI 1)],.cells [.mp 7 0,.mm 26,.os 32 2 1,.os 33 2 1],.gone,.gone,.gone,.gone,.cells [aI 0,aI 0],.cells [aI t0,aI t1]]) (by
  intro o ho;simp only[List.mem_cons,List.not_mem_nil,or_false]at ho;rcases ho with rfl|rfl|rfl|rfl|rfl|rfl|rfl|rfl
  ·exact⟨trivial,trivial,trivial⟩
  ·exact⟨show 7<34 by decide,show 26<34 by decide,show 32<34 by decide,show 33<34 by decide,trivial⟩
  ·trivial
  ·trivial
  ·trivial
  ·trivial
  ·exact⟨trivial,trivial,trivial⟩
  exact⟨trivial,trivial,trivial⟩)
 unfold rO at aW ⊢;refine zf true 34 Tryz.func46 Tryz.ntmps46 ?_;dsimp only[Tmp,TypeId,slotsOf];refine aG ?_;simp -dsimp only[simprocAttr,↓I,zp,au,aH];refine ai ?_;refine aG ?_;simp -dsimp only[simprocAttr,↓I,zp,au,aH];refine⟨rP,?_⟩;refine ai ?_;have hn:bC [(Value.agg #[Value.int IntKind.i64 0,Value.int IntKind.i64 0],aI 0),(Value.agg #[Value.int IntKind.i64 1,Value.int IntKind.i64 0],aI 1)] (Value.agg #[Value.int IntKind.i64 1,Value.int IntKind.i64 0])=some (aI 1):=rfl;refine bR ?_;simp -dsimp only[simprocAttr,↓I,zp,au,aH,hn,Option.isSome_some];refine ai ?_;apply aF rfl<;>intro h
 ·cases h
 refine bZ ?_;refine aL (ah (bJ 1 ?_));refine bR ?_;simp -dsimp only[simprocAttr,↓I,zp,au,aH];refine ai ?_;apply aF rfl<;>intro h;rotate_left
 ·cases h
 refine bZ ?_;refine ah ?_;refine fE ?_;simp -dsimp only[simprocAttr,↓I,zp,au,aH];refine ai ?_;refine cU ?_;refine bR ?_;simp -dsimp only[simprocAttr,↓I,zp,au,aH];refine ai ?_;apply aF rfl<;>intro h
 ·cases h
 refine aN ?_;simp -dsimp only[bH,ne_eq,Nat.reduceEqDiff,reduceCtorEq,a7];refine aG ?_;simp -dsimp only[simprocAttr,↓I,zp,au,aH];refine ai ?_;refine ak ?_;simp -dsimp only[simprocAttr,↓I,zp,au,aH,zr,Tryz.results46];exact aW
theorem Gg(er:List aa)(x2:aq)(L:List cQ)(eU ef eg:aq)(W D:List (Value×aa))(hL:L.length<=1000000000)(hu:tG er x2 eU ef eg)(hW:ba 26 W)(hD:ba 26 D) :
  aK Tryz.prog 78 (rO er x2 L eU ef eg W D++[.map .pair [(.agg #[.int .i64 0,.int .i64 0],aI 0),(.agg #[.int .i64 1,.int .i64 0],aI 1)],.cells [.mp 7 0,.mm 26,.os 32 2 1,.os 33 2 1],.gone,.gone,.gone,.gone,.cells [aI 0,aI 0],.cells [aI (-1),aI (-1)]]) [.mp 27 0,aI 0,aI 0] fun r O'=>r=aI (dC L 200 (L.length+1:Nat) []).1∧O'=rO er x2 (dC L 200 (L.length+1:Nat) []).2 eU ef eg W D++[.map .pair [(.agg #[.int .i64 0,.int .i64 0],aI 0),(.agg #[.int .i64 1,.int .i64 0],aI 1)],.cells [.mp 7 0,.mm 26,.os 32 2 1,.os 33 2 1],.gone,.gone,.gone,.gone,.cells [aI 0,aI 0],.cells [aI (dC L 200 (L.length+1:Nat) []).1,aI (-1)]]:=by
 have h1:=Lz er x2 L eU ef eg W D (-1) (-1) hu hW hD;have hv:=(qV eM (.cells (.mp 13 0::er)) x2 eM eM eM L hL hu.pZ).frame (by rfl) (by simp[av,aa.upto,pO]) (bA hu.pZ L);generalize hM:dC L 200 (L.length+1:Nat) []=M at *;have aW:=cO (k:=34) (dZ hu M.2 hW hD) (by omega) (B:=[.map .pair [(.agg #[.int .i64 0,.int .i64 0],aI 0),(.agg #[.int .i64 1,.int .i64 0],aI 1)],.cells [.mp 7 0,.mm 26,.os 32 2 1,.os 33 2 1],.gone,.gone,.gone,.gone,.cells [aI 0,aI 0],.cells [aI M.1,aI (-1)]]) (by
  intro o ho;simp only[List.mem_cons,List.not_mem_nil,or_false]at ho;rcases ho with rfl|rfl|rfl|rfl|rfl|rfl|rfl|rfl
  ·exact⟨trivial,trivial,trivial⟩
  ·exact⟨show 7<34 by decide,show 26<34 by decide,show 32<34 by decide,show 33<34 by decide,trivial⟩
  ·trivial
  ·trivial
  ·trivial
  ·trivial
  ·exact⟨trivial,trivial,trivial⟩
  exact⟨trivial,trivial,trivial⟩)
 unfold pO at hv;unfold rO at aW h1 ⊢;refine zf true 34 Tryz.func78 Tryz.ntmps78 ?_;dsimp only[Tmp,TypeId,slotsOf];refine aG ?_;simp -dsimp only[simprocAttr,↓I,zp,au,aH];refine ai ?_;refine aG ?_;simp -dsimp only[simprocAttr,↓I,zp,au,aH];refine .inr (.inr ⟨_,h1,ae ?_⟩);simp -dsimp only[simprocAttr,↓I,zp,au,aH];refine ai ?_;refine bR ?_;simp -dsimp only[simprocAttr,↓I,zp,au,aH];refine ai ?_;apply aF rfl<;>intro h;rotate_left
 ·cases h
 refine fE ?_;simp -dsimp only[simprocAttr,↓I,zp,au,aH];refine .inr (.inl ⟨_,_,hv _,.inr ⟨34,[9,13,14],gl eM (.cells (.mp 13 0::er)) x2 eM eM eM L _ _ 34,ae ?_⟩⟩);simp -dsimp only[simprocAttr,↓I,zp,au,aH];refine⟨ob (by kernel_rfl),?_⟩;refine ai ?_;refine aG ?_;simp -dsimp only[simprocAttr,↓I,zp,au,aH];refine ai ?_;refine ak ?_;simp -dsimp only[simprocAttr,↓I,zp,au,aH,zr,Tryz.results78];exact aW
theorem Gh(er:List aa)(x2:aq)(L:List cQ)(eU ef eg:aq)(W D:List (Value×aa))(t:Nat)(hu:tG er x2 eU ef eg)(hW:ba 26 W)(hD:ba 26 D) :
  aK Tryz.prog 78 (rO er x2 L eU ef eg W D++[.map .pair [(.agg #[.int .i64 0,.int .i64 0],aI 0),(.agg #[.int .i64 1,.int .i64 0],aI 1)],.cells [.mp 7 0,.mm 26,.os 32 2 1,.os 33 2 1],.gone,.gone,.gone,.gone,.cells [aI 0,aI 0],.cells [aI t,aI (-1)]]) [.mp 27 0,aI 1,aI 0] fun r O'=>r=aI t∧O'=rO er x2 L eU ef eg W D++[.map .pair [(.agg #[.int .i64 0,.int .i64 0],aI 0),(.agg #[.int .i64 1,.int .i64 0],aI 1)],.cells [.mp 7 0,.mm 26,.os 32 2 1,.os 33 2 1],.gone,.gone,.gone,.gone,.cells [aI 0,aI 0],.cells [aI t,aI (-1)]]:=by
 have h1:=Eo er x2 L eU ef eg W D t (-1) hu hW hD;have nv:decide (((t:Nat):Int)<0)=false:=decide_eq_false (by omega);have aW:=cO (k:=34) (dZ hu L hW hD) (by omega) (B:=[.map .pair [(.agg #[.int .i64 0,.int .i64 0],aI 0),(.agg #[.int .i64 1,.int .i64 0],aI 1)],.cells [.mp 7 0,.mm 26,.os 32 2 1,.os 33 2 1],.gone,.gone,.gone,.gone,.cells [aI 0,aI 0],.cells [aI t,aI (-1)]]) (by
  intro o ho;simp only[List.mem_cons,List.not_mem_nil,or_false]at ho;rcases ho with rfl|rfl|rfl|rfl|rfl|rfl|rfl|rfl
  ·exact⟨trivial,trivial,trivial⟩
  ·exact⟨show 7<34 by decide,show 26<34 by decide,show 32<34 by decide,show 33<34 by decide,trivial⟩
  ·trivial
  ·trivial
  ·trivial
  ·trivial
  ·exact⟨trivial,trivial,trivial⟩
  exact⟨trivial,trivial,trivial⟩)
 unfold rO at aW h1 ⊢;refine zf true 34 Tryz.func78 Tryz.ntmps78 ?_;dsimp only[Tmp,TypeId,slotsOf];refine aG ?_;simp -dsimp only[simprocAttr,↓I,zp,au,aH];refine ai ?_;refine aG ?_;simp -dsimp only[simprocAttr,↓I,zp,au,aH];refine .inr (.inr ⟨_,h1,ae ?_⟩);simp -dsimp only[simprocAttr,↓I,zp,au,aH];refine ai ?_;refine bR ?_;simp -dsimp only[simprocAttr,↓I,zp,au,aH,nv];refine ai ?_;apply aF rfl<;>intro h
 ·cases h
 refine bZ ?_;refine aG ?_;simp -dsimp only[simprocAttr,↓I,zp,au,aH];refine ai ?_;refine ak ?_;simp -dsimp only[simprocAttr,↓I,zp,au,aH,zr,Tryz.results78];exact aW
structure Pc(f:Func)(df hm:List (Value×aa)):Prop where
 ready:bw Tryz.prog 44 [bF f df hm,aI 0,aI 0] (.v (.bool true))
 YE:bw Tryz.prog 45 [bF f df hm,aI 0] (.v (.bool true))
 up:∀k,(bF f df hm).upto k
 sh:(bF f df hm).share=bF f df hm
theorem Aq(f g:Func)(d1 h1 d2 h2:List (Value×aa))(cf:Pc f d1 h1)(cg:Pc g d2 h2)(er:List aa)(x2:aq)(L:List cQ)(eU ef eg:aq)(W D:List (Value×aa))(hu:tG (bF f d1 h1::bF g d2 h2::er) x2 eU ef eg)(hW:ba 26 W)(hD:ba 26 D) :
  aK Tryz.prog 41 (rO (bF f d1 h1::bF g d2 h2::er) x2 L eU ef eg W D++[.map .pair [],.cells [.mp 7 0,.mm 26,.aB 1 [] .ex,.aB 1 [] .ex]]) [.mp 7 0,.mp 27 0,lL] fun r O'=>r=.cN []∧O'=rO (bF f d1 h1::bF g d2 h2::er) x2 L eU ef eg W D++[.map .pair [(.agg #[.int .i64 0,.int .i64 0],aI 0),(.agg #[.int .i64 1,.int .i64 0],aI 1)],.cells [.mp 7 0,.mm 26,.os 32 2 1,.os 33 2 1],.gone,.gone,.gone,.gone,.cells [aI 0,aI 0],.cells [aI (-1),aI (-1)]]:=by
 have o1:=Qy (bF f d1 h1::bF g d2 h2::er) x2 L eU ef eg W D hu hW hD;have o2:=Ly (bF f d1 h1::bF g d2 h2::er) x2 L eU ef eg W D hu hW hD;have oj:=Fy (bF f d1 h1::bF g d2 h2::er) x2 L eU ef eg W D hu hW hD;have aW:=cO (k:=34) (dZ hu L hW hD) (by omega) (B:=[.map .pair [(.agg #[.int .i64 0,.int .i64 0],aI 0),(.agg #[.int .i64 1,.int .i64 0],aI 1)],.cells [.mp 7 0,.mm 26,.os 32 2 1,.os 33 2 1],.gone,.gone,.gone,.gone,.cells [aI 0,aI 0],.cells [aI (-1),aI (-1)]]) (by
  intro o ho;simp only[List.mem_cons,List.not_mem_nil,or_false]at ho;rcases ho with rfl|rfl|rfl|rfl|rfl|rfl|rfl|rfl
  ·exact⟨trivial,trivial,trivial⟩
  ·exact⟨show 7<34 by decide,show 26<34 by decide,show 32<34 by decide,show 33<34 by decide,trivial⟩
  ·trivial
  ·trivial
  ·trivial
  ·trivial
  ·exact⟨trivial,trivial,trivial⟩
  exact⟨trivial,trivial,trivial⟩)
 obtain⟨r1,q1,u1,s1⟩:=cf;obtain⟨r2,q2,u2,s2⟩:=cg;unfold bF at r1 q1 r2 q2 o1 o2 oj aW ⊢;unfold rO at o1 o2 oj aW ⊢;unfold lL;refine zf true 34 Tryz.func41 Tryz.ntmps41 ?_;dsimp only[Tmp,TypeId,slotsOf];refine aG ?_;simp -dsimp only[simprocAttr,↓I,zp,au,aH];refine ai ?_;refine aR 5 28 (.ip none [aI 0,aI 0,.aB 2 [.agg [aI 0,aI 0]] .sh,.aB 3 [] .sh]) rfl (by simp[aq.aJ]) trivial rfl ?_ ?_;rotate_left;simp -dsimp only[simprocAttr,↓I,zp,au,aH];rotate_left
 ·exact cw.mp rfl rfl
 refine aG ?_;simp -dsimp only[simprocAttr,↓I,zp,au,aH];refine ai ?_;refine ah (bJ 1 ?_);refine aG ?_;simp -dsimp only[simprocAttr,↓I,zp,au,aH];refine ai ?_;apply fK rfl<;>intro h;rotate_left
 ·cases h
 refine bZ ?_;refine aL (ah ?_);refine aG ?_;simp -dsimp only[simprocAttr,↓I,zp,au,aH];refine ai ?_;refine aR 7 29 (.ip none [aI 0,aI 0]) rfl (by simp[aq.aJ]) trivial rfl ?_ ?_;rotate_left;simp -dsimp only[simprocAttr,↓I,zp,au,aH];rotate_left
 ·exact cw.mp rfl rfl
 refine aG ?_;simp -dsimp only[simprocAttr,↓I,zp,au,aH];refine⟨ob (by kernel_rfl),?_⟩;refine ai ?_;refine aG ?_;simp -dsimp only[simprocAttr,↓I,zp,au,aH];refine .inl ⟨_,r1,⟨u1 0,trivial,trivial,trivial⟩,ae ?_⟩;simp -dsimp only[simprocAttr,↓I,zp,au,aH];refine .inl ⟨_,q1,⟨u1 0,trivial,trivial⟩,ae ?_⟩;simp -dsimp only[simprocAttr,↓I,zp,au,aH];refine⟨ob (by kernel_rfl),?_⟩;refine ai ?_;refine aG ?_;simp -dsimp only[simprocAttr,↓I,zp,au,aH];refine .inl ⟨_,r2,⟨u2 0,trivial,trivial,trivial⟩,ae ?_⟩;simp -dsimp only[simprocAttr,↓I,zp,au,aH];refine .inl ⟨_,q2,⟨u2 0,trivial,trivial⟩,ae ?_⟩;simp -dsimp only[simprocAttr,↓I,zp,au,aH];refine⟨ob (by kernel_rfl),?_⟩;refine ai ?_;refine ah ?_;refine aG ?_;simp -dsimp only[simprocAttr,↓I,zp,au,aH];refine ai ?_;apply aF rfl<;>intro h;rotate_left
 ·cases h
 refine fE ?_;simp -dsimp only[simprocAttr,↓I,zp,au,aH];refine .inr (.inl ⟨_,_,o1,.inl (ae ?_)⟩);simp -dsimp only[simprocAttr,↓I,zp,au,aH];refine .inr (.inl ⟨_,_,o2,.inl (ae ?_)⟩);simp -dsimp only[simprocAttr,↓I,zp,au,aH];refine .inr (.inl ⟨_,_,oj,.inl (ae ?_)⟩);simp -dsimp only[simprocAttr,↓I,zp,au,aH];refine ai ?_;refine fE ?_;simp -dsimp only[simprocAttr,↓I,zp,au,aH];refine ai ?_;refine cU ?_;refine aG ?_;simp -dsimp only[simprocAttr,↓I,zp,au,aH];refine ai ?_;apply fK rfl<;>intro h
 ·cases h
 refine aN ?_;simp -dsimp only[bH,ne_eq,Nat.reduceEqDiff,reduceCtorEq,a7]
 skip
 simp -dsimp only[simprocAttr,↓I,zp,au,aH,zr,Tryz.results41];exact⟨aW,trivial⟩
theorem LD(er:List aa)(x2:aq)(L M:List cQ)(eU ef eg:aq)(W D:List (Value×aa))(a b:aq)(X:List aq)(n:Nat):∀i,i<n->i ∉ [9,13,14,33]->(rO er x2 M eU ef eg W D++[.map .pair [(.agg #[.int .i64 0,.int .i64 0],aI 0),(.agg #[.int .i64 1,.int .i64 0],aI 1)],.cells [.mp 7 0,.mm 26,.os 32 2 1,.os 33 2 1],.gone,.gone,.gone,.gone,.cells [aI 0,aI 0],a]++X)[i]?=(rO er x2 L eU ef eg W D++[.map .pair [(.agg #[.int .i64 0,.int .i64 0],aI 0),(.agg #[.int .i64 1,.int .i64 0],aI 1)],.cells [.mp 7 0,.mm 26,.os 32 2 1,.os 33 2 1],.gone,.gone,.gone,.gone,.cells [aI 0,aI 0],b]++X)[i]?:=fun i _ hn=>by
 match i with
 | 0=>rfl
 | 1=>rfl
 | 2=>rfl
 | 3=>rfl
 | 4=>rfl
 | 5=>rfl
 | 6=>rfl
 | 7=>rfl
 | 8=>rfl
 | 9=>exact absurd (by simp) hn
 | 10=>rfl
 | 11=>rfl
 | 12=>rfl
 | 13=>exact absurd (by simp) hn
 | 14=>exact absurd (by simp) hn
 | 15=>rfl
 | 16=>rfl
 | 17=>rfl
 | 18=>rfl
 | 19=>rfl
 | 20=>rfl
 | 21=>rfl
 | 22=>rfl
 | 23=>rfl
 | 24=>rfl
 | 25=>rfl
 | 26=>rfl
 | 27=>rfl
 | 28=>rfl
 | 29=>rfl
 | 30=>rfl
 | 31=>rfl
 | 32=>rfl
 | 33=>exact absurd (by simp) hn
 | k+34=>rfl
theorem qY{er:List aa}{x2 eU ef eg:aq}(hu:tG er x2 eU ef eg)(L:List cQ){W D:List (Value×aa)}(hW:ba 26 W)(hD:ba 26 D)(t0 t1:Int):∀o∈rO er x2 L eU ef eg W D++[.map .pair [(.agg #[.int .i64 0,.int .i64 0],aI 0),(.agg #[.int .i64 1,.int .i64 0],aI 1)],.cells [.mp 7 0,.mm 26,.os 32 2 1,.os 33 2 1],.gone,.gone,.gone,.gone,.cells [aI 0,aI 0],.cells [aI t0,aI t1]],o.upto 34:=by
 refine cO (dZ hu L hW hD) (by omega) ?_;intro o ho;simp only[List.mem_cons,List.not_mem_nil,or_false]at ho;rcases ho with rfl|rfl|rfl|rfl|rfl|rfl|rfl|rfl
 ·exact⟨trivial,trivial,trivial⟩
 ·exact⟨show 7<34 by decide,show 26<34 by decide,show 32<34 by decide,show 33<34 by decide,trivial⟩
 ·trivial
 ·trivial
 ·trivial
 ·trivial
 ·exact⟨trivial,trivial,trivial⟩
 exact⟨trivial,trivial,trivial⟩
theorem Am(f:Func)(d1 h1:List (Value×aa))(b:Block)(hb:f.blocks[0]?=some b)(UY:b.params=[0])(ct:Int)(T6 T7:aq)(Xm:T6.upto 38)(Xn:T7.upto 38)(qi:∀k,(bF f d1 h1).upto k)(er:List aa)(x2:aq)(L:List cQ)(eU ef eg:aq)(W D:List (Value×aa))(hL:L.length<=1000000000)(hu:tG er x2 eU ef eg)(hW:ba 26 W)(hD:ba 26 D) :
  aK Tryz.prog 43 (rO er x2 L eU ef eg W D++[.map .pair [(.agg #[.int .i64 0,.int .i64 0],aI 0),(.agg #[.int .i64 1,.int .i64 0],aI 1)],.cells [.mp 7 0,.mm 26,.os 32 2 1,.os 33 2 1],.gone,.gone,.gone,.gone,.cells [aI 0,aI 0],.cells [aI (-1),aI (-1)],.map (.int .i64) [],.cells [bF f d1 h1,.v (.bool true),aI 0,aI 0,.mm 34,aI ct],T6,T7]) [.mp 7 0,.mp 35 0,.mp 27 0,.mp 25 0] fun r O'=>r=.cN []∧O'=rO er x2 (dC L 200 (L.length+1:Nat) []).2 eU ef eg W D++[.map .pair [(.agg #[.int .i64 0,.int .i64 0],aI 0),(.agg #[.int .i64 1,.int .i64 0],aI 1)],.cells [.mp 7 0,.mm 26,.os 32 2 1,.os 33 2 1],.gone,.gone,.gone,.gone,.cells [aI 0,aI 0],.cells [aI (dC L 200 (L.length+1:Nat) []).1,aI (-1)],.map (.int .i64) [(.int .i64 0,aI (dC L 200 (L.length+1:Nat) []).1)],.cells [bF f d1 h1,.v (.bool true),aI 0,aI 0,.mm 34,aI ct],T6,T7]:=by
 have tu:=tI f d1 h1;have hv:=(Gg er x2 L eU ef eg W D hL hu hW hD).frame (by rfl) (by simp[av,aa.upto,rO]) (qY hu L hW hD _ _);generalize hM:dC L 200 (L.length+1:Nat) []=M at *;have HC:=qi 0;have aW:=cO (k:=38) (qY hu M.2 hW hD M.1 (-1)) (by omega) (B:=[.map (.int .i64) [(.int .i64 0,aI M.1)],.cells [bF f d1 h1,.v (.bool true),aI 0,aI 0,.mm 34,aI ct],T6,T7]) (by
  intro o ho;simp only[List.mem_cons,List.not_mem_nil,or_false]at ho;rcases ho with rfl|rfl|rfl|rfl
  ·exact⟨trivial,trivial⟩
  ·exact⟨qi 38,trivial,trivial,trivial,show 34<38 by decide,trivial,trivial⟩
  ·exact Xm
  exact Xn)
 unfold bF at tu HC aW ⊢;unfold rO at hv aW ⊢;refine zf true 38 Tryz.func43 Tryz.ntmps43 ?_;dsimp only[Tmp,TypeId,slotsOf];refine aG ?_;simp -dsimp only[simprocAttr,↓I,zp,au,aH];refine ai ?_;refine bR ?_;simp -dsimp only[simprocAttr,↓I,zp,au,aH];refine ai ?_;apply aF rfl<;>intro h;rotate_left
 ·cases h
 refine fE ?_;simp -dsimp only[simprocAttr,↓I,zp,au,aH];refine ai ?_;refine aG ?_;simp -dsimp only[simprocAttr,↓I,zp,au,aH];refine .inl ⟨_,tu,⟨HC,trivial,trivial⟩,ae ?_⟩;simp -dsimp only[simprocAttr,↓I,zp,au,aH];refine⟨ob (by kernel_rfl),?_⟩;refine ai ?_;refine aG ?_;simp -dsimp only[simprocAttr,↓I,zp,au,aH];refine ai ?_;refine ah (bJ 0 ?_);refine aG ?_;simp -dsimp only[simprocAttr,↓I,zp,au,aH];refine ai ?_;apply fK rfl<;>intro h;rotate_left
 ·cases h
 refine bZ ?_;refine aL (ah ?_);refine aG ?_;simp -dsimp only[simprocAttr,↓I,zp,au,aH];refine ai ?_;refine aG ?_;simp -dsimp only[simprocAttr,↓I,zp,au,aH,hb];refine ai ?_;refine bR ?_;simp -dsimp only[simprocAttr,↓I,zp,au,aH];refine ai ?_;apply aF rfl<;>intro h
 ·cases h
 refine bZ ?_;refine bR ?_;simp -dsimp only[simprocAttr,↓I,zp,au,aH,UY];refine ai ?_;refine ah (bJ 1 ?_);refine aG ?_;simp -dsimp only[simprocAttr,↓I,zp,au,aH];refine ai ?_;apply fK rfl<;>intro h;rotate_left
 ·cases h
 refine bZ ?_;refine aL (ah ?_);refine aG ?_;simp -dsimp only[simprocAttr,↓I,zp,au,aH];refine ai ?_;refine fE ?_;simp -dsimp only[simprocAttr,↓I,zp,au,aH];refine .inr (.inl ⟨_,_,hv _,.inr ⟨39,[9,13,14,33],LD er x2 L M.2 eU ef eg W D _ _ _ 39,ae ?_⟩⟩);simp -dsimp only[simprocAttr,↓I,zp,au,aH];refine⟨ob (by kernel_rfl),?_⟩;refine ai ?_;refine fE ?_;simp -dsimp only[simprocAttr,↓I,zp,au,aH];refine ai ?_;refine cU ?_;refine aG ?_;simp -dsimp only[simprocAttr,↓I,zp,au,aH];refine ai ?_;apply fK rfl<;>intro h
 ·cases h
 refine aN ?_;simp -dsimp only[bH,ne_eq,Nat.reduceEqDiff,reduceCtorEq,a7];refine bR ?_;simp -dsimp only[simprocAttr,↓I,zp,au,aH];refine ai ?_;apply aF rfl<;>intro h;rotate_left
 ·cases h
 refine ak ?_;simp -dsimp only[simprocAttr,↓I,zp,au,aH,zr,Tryz.results43,kI];exact⟨aW,trivial,rfl⟩
theorem An(f:Func)(d1 h1:List (Value×aa))(b:Block)(hb:f.blocks[0]?=some b)(UY:b.params=[0])(ct:Int)(t:Nat)(T4 T5:aq)(Xk:T4.upto 38)(Xl:T5.upto 38)(qi:∀k,(bF f d1 h1).upto k)(er:List aa)(x2:aq)(L:List cQ)(eU ef eg:aq)(W D:List (Value×aa))(hu:tG er x2 eU ef eg)(hW:ba 26 W)(hD:ba 26 D) :
  aK Tryz.prog 43 (rO er x2 L eU ef eg W D++[.map .pair [(.agg #[.int .i64 0,.int .i64 0],aI 0),(.agg #[.int .i64 1,.int .i64 0],aI 1)],.cells [.mp 7 0,.mm 26,.os 32 2 1,.os 33 2 1],.gone,.gone,.gone,.gone,.cells [aI 0,aI 0],.cells [aI t,aI (-1)],T4,T5,.map (.int .i64) [],.cells [bF f d1 h1,.v (.bool false),aI 0,aI 0,.mm 36,aI ct]]) [.mp 7 0,.mp 37 0,.mp 27 0,.mp 25 0] fun r O'=>r=.cN []∧O'=rO er x2 L eU ef eg W D++[.map .pair [(.agg #[.int .i64 0,.int .i64 0],aI 0),(.agg #[.int .i64 1,.int .i64 0],aI 1)],.cells [.mp 7 0,.mm 26,.os 32 2 1,.os 33 2 1],.gone,.gone,.gone,.gone,.cells [aI 0,aI 0],.cells [aI t,aI (-1)],T4,T5,.map (.int .i64) [(.int .i64 0,aI t)],.cells [bF f d1 h1,.v (.bool false),aI 0,aI 0,.mm 36,aI ct]]:=by
 have tu:=tI f d1 h1;have hv:=(Gh er x2 L eU ef eg W D t hu hW hD).frame (by rfl) (by simp[av,aa.upto,rO]) (qY hu L hW hD _ _);have HC:=qi 0;have aW:=cO (k:=38) (qY hu L hW hD t (-1)) (by omega) (B:=[T4,T5,.map (.int .i64) [(.int .i64 0,aI t)],.cells [bF f d1 h1,.v (.bool false),aI 0,aI 0,.mm 36,aI ct]]) (by
  intro o ho;simp only[List.mem_cons,List.not_mem_nil,or_false]at ho;rcases ho with rfl|rfl|rfl|rfl
  ·exact Xk
  ·exact Xl
  ·exact⟨trivial,trivial⟩
  exact⟨qi 38,trivial,trivial,trivial,show 36<38 by decide,trivial,trivial⟩)
 unfold bF at tu HC aW ⊢;unfold rO at hv aW ⊢;refine zf true 38 Tryz.func43 Tryz.ntmps43 ?_;dsimp only[Tmp,TypeId,slotsOf];refine aG ?_;simp -dsimp only[simprocAttr,↓I,zp,au,aH];refine ai ?_;refine bR ?_;simp -dsimp only[simprocAttr,↓I,zp,au,aH];refine ai ?_;apply aF rfl<;>intro h
 ·cases h
 refine bZ ?_;refine aG ?_;simp -dsimp only[simprocAttr,↓I,zp,au,aH];refine .inl ⟨_,tu,⟨HC,trivial,trivial⟩,ae ?_⟩;simp -dsimp only[simprocAttr,↓I,zp,au,aH];refine⟨ob (by kernel_rfl),?_⟩;refine ai ?_;refine aG ?_;simp -dsimp only[simprocAttr,↓I,zp,au,aH];refine ai ?_;refine ah (bJ 0 ?_);refine aG ?_;simp -dsimp only[simprocAttr,↓I,zp,au,aH];refine ai ?_;apply fK rfl<;>intro h;rotate_left
 ·cases h
 refine bZ ?_;refine aL (ah ?_);refine aG ?_;simp -dsimp only[simprocAttr,↓I,zp,au,aH];refine ai ?_;refine aG ?_;simp -dsimp only[simprocAttr,↓I,zp,au,aH,hb];refine ai ?_;refine bR ?_;simp -dsimp only[simprocAttr,↓I,zp,au,aH];refine ai ?_;apply aF rfl<;>intro h
 ·cases h
 refine bZ ?_;refine bR ?_;simp -dsimp only[simprocAttr,↓I,zp,au,aH,UY];refine ai ?_;refine ah (bJ 1 ?_);refine aG ?_;simp -dsimp only[simprocAttr,↓I,zp,au,aH];refine ai ?_;apply fK rfl<;>intro h;rotate_left
 ·cases h
 refine bZ ?_;refine aL (ah ?_);refine aG ?_;simp -dsimp only[simprocAttr,↓I,zp,au,aH];refine ai ?_;refine fE ?_;simp -dsimp only[simprocAttr,↓I,zp,au,aH];refine .inr (.inr ⟨_,(hv _),ae ?_⟩);simp -dsimp only[simprocAttr,↓I,zp,au,aH];refine⟨ob (by kernel_rfl),?_⟩;refine ai ?_;refine fE ?_;simp -dsimp only[simprocAttr,↓I,zp,au,aH];refine ai ?_;refine cU ?_;refine aG ?_;simp -dsimp only[simprocAttr,↓I,zp,au,aH];refine ai ?_;apply fK rfl<;>intro h
 ·cases h
 refine aN ?_;simp -dsimp only[bH,ne_eq,Nat.reduceEqDiff,reduceCtorEq,a7];refine bR ?_;simp -dsimp only[simprocAttr,↓I,zp,au,aH];refine ai ?_;apply aF rfl<;>intro h;rotate_left
 ·cases h
 refine ak ?_;simp -dsimp only[simprocAttr,↓I,zp,au,aH,zr,Tryz.results43,kI];exact⟨aW,trivial,rfl⟩
theorem tO(x0 x1 x2 x4 x5 x6:aq)(L:List cQ){op n p q:Int}{ts:List Int}(h:T2 L op n ts p q)(hL:L.length<=1000000000)(jr:1<L.length)(hx:∀o∈[x0,x1,x2,x4,x5,x6],o.upto 15) :
  aK Tryz.prog 81 (pO x0 x1 x2 x4 x5 x6 L) [.mp 13 0,aI op,aI n,bp ts] fun r O'=>r=aI (cH L p q).1∧O'=pO x0 x1 x2 x4 x5 x6 (cH L p q).2:=by
 rcases h with⟨rfl,hn,rfl,rfl⟩|⟨a,b,p1,q1,p2,q2,rfl,ha,hb,RQ⟩
 ·have e:cH L 0 q=dC L 0 q []:=by rw[cH,if_pos rfl]
  rw[e];exact zO x0 x1 x2 x4 x5 x6 L ts hn hL hx
 exact zP x0 x1 x2 x4 x5 x6 L ha hb RQ hL jr hx
def sO(er:List aa)(x2:aq)(L:List cQ)(W D E F:List (Value×aa))(z:Nat->aq)(cf cg:aa)(ka kb ct:Int):List aq :=
 rO er x2 L (z 15) (z 16) (z 17) W D++[z 26,z 27,z 28,z 29,z 30,z 31,z 32,z 33,.map (.int .i64) E,z 35,.map (.int .i64) F,z 37,z 38,z 39,z 40,.cells [cf,.v (.bool true),aI 0,aI ka,.mm 34,aI ct],.cells [cg,.v (.bool false),aI 0,aI kb,.mm 36,aI ct]]
structure Ob(er:List aa)(x2:aq)(z:Nat->aq)(cf cg:aa):Prop where
 u:tG er x2 (z 15) (z 16) (z 17)
 z:∀i,(z i).upto 43
 cf:∀k,cf.upto k
 cg:∀k,cg.upto k
theorem fJ{er:List aa}{x2:aq}{z:Nat->aq}{cf cg:aa}(h:Ob er x2 z cf cg)(L:List cQ){W D E F:List (Value×aa)}(hW:ba 26 W)(hD:ba 26 D)(hE:∀k,ba k E)(hF:∀k,ba k F)(ka kb ct:Int):∀o∈sO er x2 L W D E F z cf cg ka kb ct,o.upto 43:=by
 refine cO (dZ h.u L hW hD) (by omega) ?_;intro o ho;simp only[List.mem_cons,List.not_mem_nil,or_false]at ho;rcases ho with rfl|rfl|rfl|rfl|rfl|rfl|rfl|rfl|rfl|rfl|rfl|rfl|rfl|rfl|rfl|rfl|rfl
 iterate 8 exact h.z _
 ·exact hE 43
 ·exact h.z _
 ·exact hF 43
 iterate 4 exact h.z _
 ·exact⟨h.cf 43,trivial,trivial,trivial,show 34<43 by decide,trivial,trivial⟩
 exact⟨h.cg 43,trivial,trivial,trivial,show 36<43 by decide,trivial,trivial⟩
theorem yn(er:List aa)(x2:aq)(L:List cQ)(W D E F:List (Value×aa))(z:Nat->aq)(cf cg:aa)(ka kb ct:Int){op n p q:Int}(to:Int)(al:List Int){ts:List Int}(gz:Oa op)(Kc:T2 L op n ts p q)(hL:L.length<=1000000000)(jr:1<L.length)(h:Ob er x2 z cf cg)(hW:ba 26 W)(hD:ba 26 D)(hE:∀k,ba k E)(hF:∀k,ba k F) :
  aK Tryz.prog 96 (sO er x2 L W D E F z cf cg ka kb ct) [.mp 7 0,.mp 41 0,.agg [aI to,aI op,aI n,bp al],bp ts] fun r O'=>r=.cN []∧O'=sO er x2 (cH L p q).2 W D (cB E (.int .i64 to) (aI (cH L p q).1)) F z cf cg ka kb ct:=by
 have hi:=(tO eM (.cells (.mp 13 0::er)) x2 eM eM eM L Kc hL jr h.u.pZ).frame (by rfl) (by simp[av,aa.upto,pO,ay]) (bA h.u.pZ L);have aW:=fJ h (cH L p q).2 hW hD (fun k=>jP (hE k) (key:=.int .i64 to) (n:=(cH L p q).1)) hF ka kb ct;unfold pO at hi;unfold sO rO at aW ⊢;refine zf true 43 Tryz.func96 Tryz.ntmps96 ?_;dsimp only[Tmp,TypeId,slotsOf];refine aG ?_;simp -dsimp only[simprocAttr,↓I,zp,au,aH];refine ai ?_;refine ah ?_;refine aG ?_;simp -dsimp only[simprocAttr,↓I,zp,au,aH];refine .inl ⟨_,(jL gz),by simp only[av,aa.upto,zt,zu,ay,aU,Edge.aj,bI.aj,Block.aj],ae ?_⟩;simp -dsimp only[simprocAttr,↓I,zp,au,aH];refine ai ?_;apply aF rfl<;>intro h;rotate_left
 ·cases h
 refine fE ?_;simp -dsimp only[simprocAttr,↓I,zp,au,aH];refine .inr (.inl ⟨_,_,hi _,.inr ⟨44,[9,13,14],gl eM (.cells (.mp 13 0::er)) x2 eM eM eM L _ _ 44,ae ?_⟩⟩);simp -dsimp only[simprocAttr,↓I,zp,au,aH];refine⟨ob (by kernel_rfl),?_⟩
 (refine aY ?_;simp -dsimp only[bH,ne_eq,Nat.reduceEqDiff,reduceCtorEq])
 skip
 simp -dsimp only[simprocAttr,↓I,zp,au,aH,zr,Tryz.results96];exact⟨aW,trivial⟩
theorem yo(er:List aa)(x2:aq)(L:List cQ)(W D E F:List (Value×aa))(z:Nat->aq)(cf cg:aa)(ka kb ct:Int){op n p q:Int}(to:Int)(al:List Int){ts:List Int}(gz:Oa op)(Kc:T2 L op n ts p q)(hL:L.length<=1000000000)(jr:1<L.length)(h:Ob er x2 z cf cg)(hW:ba 26 W)(hD:ba 26 D)(hE:∀k,ba k E)(hF:∀k,ba k F) :
  aK Tryz.prog 96 (sO er x2 L W D E F z cf cg ka kb ct) [.mp 7 0,.mp 42 0,.agg [aI to,aI op,aI n,bp al],bp ts] fun r O'=>r=.cN []∧O'=sO er x2 (cH L p q).2 W D E (cB F (.int .i64 to) (aI (cH L p q).1)) z cf cg ka kb ct:=by
 have hi:=(tO eM (.cells (.mp 13 0::er)) x2 eM eM eM L Kc hL jr h.u.pZ).frame (by rfl) (by simp[av,aa.upto,pO,ay]) (bA h.u.pZ L);have aW:=fJ h (cH L p q).2 hW hD hE (fun k=>jP (hF k) (key:=.int .i64 to) (n:=(cH L p q).1)) ka kb ct;unfold pO at hi;unfold sO rO at aW ⊢;refine zf true 43 Tryz.func96 Tryz.ntmps96 ?_;dsimp only[Tmp,TypeId,slotsOf];refine aG ?_;simp -dsimp only[simprocAttr,↓I,zp,au,aH];refine ai ?_;refine ah ?_;refine aG ?_;simp -dsimp only[simprocAttr,↓I,zp,au,aH];refine .inl ⟨_,(jL gz),by simp only[av,aa.upto,zt,zu,ay,aU,Edge.aj,bI.aj,Block.aj],ae ?_⟩;simp -dsimp only[simprocAttr,↓I,zp,au,aH];refine ai ?_;apply aF rfl<;>intro h;rotate_left
 ·cases h
 refine fE ?_;simp -dsimp only[simprocAttr,↓I,zp,au,aH];refine .inr (.inl ⟨_,_,hi _,.inr ⟨44,[9,13,14],gl eM (.cells (.mp 13 0::er)) x2 eM eM eM L _ _ 44,ae ?_⟩⟩);simp -dsimp only[simprocAttr,↓I,zp,au,aH];refine⟨ob (by kernel_rfl),?_⟩
 (refine aY ?_;simp -dsimp only[bH,ne_eq,Nat.reduceEqDiff,reduceCtorEq])
 skip
 simp -dsimp only[simprocAttr,↓I,zp,au,aH,zr,Tryz.results96];exact⟨aW,trivial⟩
def A8:aa:=.agg [aI 0,aI 0,aI 0,bp [],aI 0,aI 0,aI 0,bp []]
theorem Cy(er:List aa)(x2:aq)(s:gJ)(F:List (Value×aa))(z:Nat->aq)(cf cg:aa)(ka kb ct:Int)(i:bI){p q:Int}(hx:RK s i p q)(h:Ob er x2 z cf cg)(hW:ba 26 s.W)(hD:ba 26 s.D)(hE:∀k,ba k s.E)(hF:∀k,ba k F) :
  aK Tryz.prog 88 (sO er x2 s.L s.W s.D s.E F z cf cg ka kb ct) [.mp 7 0,.mp 41 0,.mp 25 0,i.enc] fun r O'=>r=.cN [A8,.v (.bool false)]∧O'=sO er x2 (cH (fW s i).2 p q).2 (if i.op=0 then s.W else ku s.W (i.ts s.E)) (cB s.D (.int .i64 (fW s i).1) (aI 1)) (cB s.E (.int .i64 i.to) (aI (cH (fW s i).2 p q).1)) F z cf cg ka kb ct:=by
 have u0:=fJ h s.L hW hD hE hF ka kb ct;have UU:ba 26 (if i.op=0 then s.W else ku s.W (i.ts s.E)):=by split;exact hW;exact od hW
 have UO:ba 26 (cB s.D (.int .i64 (fW s i).1) (aI 1)):=jP hD;have u1:=fJ h (fW s i).2 UU UO hE hF ka kb ct;have aW:=fJ h (cH (fW s i).2 p q).2 UU UO (fun k=>jP (hE k) (key:=.int .i64 i.to) (n:=(cH (fW s i).2 p q).1)) hF ka kb ct;have XA:=hx.LL;have hL:=hx.L;have bd:(i.ts s.E).length=i.args.length:=by simp[bI.ts]
 have Un:=hx.len;have ht:=(vG (O:=sO er x2 s.L s.W s.D s.E F z cf cg ka kb ct) u0 (sid:=41) (eid:=34) rfl rfl hx.look bd hx.len).frame rfl (by simp[av,aa.upto,ay,sO,rO]) u0;have hl:=(CW er x2 s.L (z 15) (z 16) (z 17) s.W s.D i.to i.args (i.ts s.E) hx.op hx.n (by omega) hx.tm hx.i64 (by omega) h.u hW hD).frame rfl (by simp[av,aa.upto,ay,rO]) (dZ h.u s.L hW hD);have hp:=(xQ (O:=sO er x2 (fW s i).2 (if i.op=0 then s.W else ku s.W (i.ts s.E)) (cB s.D (.int .i64 (fW s i).1) (aI 1)) s.E F z cf cg ka kb ct) u1 (e:=.mp 7 0) (f:=.mp 25 0) (n:=i.n) (to:=i.to) (al:=i.args) (ts:=i.ts s.E) hx.op).frame rfl (by simp[av,aa.upto,ay,sO,rO]) u1;have hd:=(yn er x2 (fW s i).2 (if i.op=0 then s.W else ku s.W (i.ts s.E)) (cB s.D (.int .i64 (fW s i).1) (aI 1)) s.E F z cf cg ka kb ct i.to i.args hx.op hx.ap (by omega) hx.V' h UU UO hE hF).frame rfl (by simp[av,aa.upto,ay,sO,rO]) u1;change ∀X,aK _ _ _ _ (fun r O1=>r=_∧O1=rO er x2 (fW s i).2 _ _ _ _ (cB s.D (.int .i64 (fW s i).1) (aI 1))++X)at hl;have hc:=jL hx.op;generalize fW s i=M at *;generalize cH M.2 p q=N at *;generalize (if i.op=0 then s.W else ku s.W (i.ts s.E))=W' at *;generalize i.ts s.E=ts at *;obtain⟨to,op,n,al⟩:=i;unfold sO rO at ht hp hd aW ⊢;unfold rO at hl;unfold A8 bI.enc;dsimp only at ht hl hp hd aW hc ⊢;refine zf true 43 Tryz.func88 Tryz.ntmps88 ?_;dsimp only[Tmp,TypeId,slotsOf];refine aG ?_;simp -dsimp only[simprocAttr,↓I,zp,au,aH];refine ai ?_;refine aG ?_;simp -dsimp only[simprocAttr,↓I,zp,au,aH]
 refine .inr (.inr ⟨_,(ht _),ae ?_⟩);simp -dsimp only[simprocAttr,↓I,zp,au,aH];refine ai ?_;refine aG ?_;simp -dsimp only[simprocAttr,↓I,zp,au,aH];refine .inl ⟨_,hc,by simp only[av,aa.upto,zt,zu,ay,aU,Edge.aj,bI.aj,Block.aj],ae ?_⟩;simp -dsimp only[simprocAttr,↓I,zp,au,aH];refine ai ?_;refine aL (ah ?_);refine aG ?_;simp -dsimp only[simprocAttr,↓I,zp,au,aH];refine ai ?_;apply aF rfl<;>intro h;rotate_left
 ·cases h
 refine fE ?_;simp -dsimp only[simprocAttr,↓I,zp,au,aH];refine .inr (.inl ⟨_,_,(hl _),.inl (ae ?_)⟩);simp -dsimp only[simprocAttr,↓I,zp,au,aH];refine ai ?_;refine bR ?_;simp -dsimp only[simprocAttr,↓I,zp,au,aH];refine .inr (.inr ⟨_,(hp _),ae ?_⟩);simp -dsimp only[simprocAttr,↓I,zp,au,aH];refine ai ?_;apply aF rfl<;>intro h
 ·cases h
 refine bZ ?_;refine aG ?_;simp -dsimp only[simprocAttr,↓I,zp,au,aH];refine .inr (.inl ⟨_,_,(hd _),.inl (ae ?_)⟩);simp -dsimp only[simprocAttr,↓I,zp,au,aH];refine ai ?_;refine aG ?_;simp -dsimp only[simprocAttr,↓I,zp,au,aH];refine ai ?_;refine ak ?_;simp -dsimp only[simprocAttr,↓I,zp,au,aH,zr,Tryz.results88];exact⟨aW,by simp[av,aa.upto],rfl⟩
theorem Cz(er:List aa)(x2:aq)(s:gJ)(E:List (Value×aa))(z:Nat->aq)(cf cg:aa)(ka kb ct:Int)(i:bI){p q:Int}(hx:RK s i p q)(OU:i.op≠0->∀t∈i.ts s.E,Pf (fW s i).2 s.W t)(Om:qm s.D)(h:Ob er x2 z cf cg)(hW:ba 26 s.W)(hD:ba 26 s.D)(hE:∀k,ba k E)(hF:∀k,ba k s.E) :
  aK Tryz.prog 88 (sO er x2 s.L s.W s.D E s.E z cf cg ka kb ct) [.mp 7 0,.mp 42 0,.mp 25 0,i.enc] fun r O'=>r=.cN [A8,.v (.bool false)]∧O'=sO er x2 (cH (fW s i).2 p q).2 s.W s.D E (cB s.E (.int .i64 i.to) (aI (cH (fW s i).2 p q).1)) z cf cg ka kb ct:=by
 have u0:=fJ h s.L hW hD hE hF ka kb ct;have u1:=fJ h (fW s i).2 hW hD hE hF ka kb ct;have aW:=fJ h (cH (fW s i).2 p q).2 hW hD hE (fun k=>jP (hF k) (key:=.int .i64 i.to) (n:=(cH (fW s i).2 p q).1)) ka kb ct;have XA:=hx.LL;have hL:=hx.L;have bd:(i.ts s.E).length=i.args.length:=by simp[bI.ts]
 have Un:=hx.len;have ht:=(vG (O:=sO er x2 s.L s.W s.D E s.E z cf cg ka kb ct) u0 (sid:=42) (eid:=36) rfl rfl hx.look bd hx.len).frame rfl (by simp[av,aa.upto,ay,sO,rO]) u0;have hl:=(x8 er x2 s.L (z 15) (z 16) (z 17) s.W s.D i.to i.args (i.ts s.E) hx.op hx.n (by omega) hx.tm hx.i64 OU (Om _) (by omega) h.u hW hD).frame rfl (by simp[av,aa.upto,ay,rO]) (dZ h.u s.L hW hD);have hp:=(xQ (O:=sO er x2 (fW s i).2 s.W s.D E s.E z cf cg ka kb ct) u1 (e:=.mp 7 0) (f:=.mp 25 0) (n:=i.n) (to:=i.to) (al:=i.args) (ts:=i.ts s.E) hx.op).frame rfl (by simp[av,aa.upto,ay,sO,rO]) u1;have hd:=(yo er x2 (fW s i).2 s.W s.D E s.E z cf cg ka kb ct i.to i.args hx.op hx.ap (by omega) hx.V' h hW hD hE hF).frame rfl (by simp[av,aa.upto,ay,sO,rO]) u1;change ∀X,aK _ _ _ _ (fun r O1=>r=_∧O1=rO er x2 (fW s i).2 _ _ _ _ s.D++X)at hl;have hc:=jL hx.op;generalize fW s i=M at *;generalize cH M.2 p q=N at *;generalize i.ts s.E=ts at *;obtain⟨to,op,n,al⟩:=i;unfold sO rO at ht hp hd aW ⊢;unfold rO at hl;unfold A8 bI.enc;dsimp only at ht hl hp hd aW hc ⊢;refine zf true 43 Tryz.func88 Tryz.ntmps88 ?_;dsimp only[Tmp,TypeId,slotsOf];refine aG ?_;simp -dsimp only[simprocAttr,↓I,zp,au,aH];refine ai ?_;refine aG ?_;simp -dsimp only[simprocAttr,↓I,zp,au,aH];refine .inr (.inr ⟨_,(ht _),ae ?_⟩);simp -dsimp only[simprocAttr,↓I,zp,au,aH];refine ai ?_;refine aG ?_;simp -dsimp only[simprocAttr,↓I,zp,au,aH];refine .inl ⟨_,hc,by simp only[av,aa.upto,zt,zu,ay,aU,Edge.aj,bI.aj,Block.aj],ae ?_⟩
 simp -dsimp only[simprocAttr,↓I,zp,au,aH];refine ai ?_;refine aL (ah ?_);refine aG ?_;simp -dsimp only[simprocAttr,↓I,zp,au,aH];refine ai ?_;apply aF rfl<;>intro h
 ·cases h
 refine aG ?_;simp -dsimp only[simprocAttr,↓I,zp,au,aH];refine .inr (.inl ⟨_,_,(hl _),.inl (ae ?_)⟩);simp -dsimp only[simprocAttr,↓I,zp,au,aH];refine ai ?_;apply aF rfl<;>intro h
 ·cases h
 refine k7 ?_;refine bR ?_;simp -dsimp only[simprocAttr,↓I,zp,au,aH];refine .inr (.inr ⟨_,(hp _),ae ?_⟩);simp -dsimp only[simprocAttr,↓I,zp,au,aH];refine ai ?_;apply aF rfl<;>intro h
 ·cases h
 refine bZ ?_;refine aG ?_;simp -dsimp only[simprocAttr,↓I,zp,au,aH];refine .inr (.inl ⟨_,_,(hd _),.inl (ae ?_)⟩);simp -dsimp only[simprocAttr,↓I,zp,au,aH];refine ai ?_;refine aG ?_;simp -dsimp only[simprocAttr,↓I,zp,au,aH];refine ai ?_;refine ak ?_;simp -dsimp only[simprocAttr,↓I,zp,au,aH,zr,Tryz.results88];exact⟨aW,by simp[av,aa.upto],rfl⟩
theorem zU{P:Program}{o:Oper}{σ:St}{x:Operand}{args:Array Operand}{pc:Array TypeId}{f:FuncId}{fs cs gg args':List aa}{r:aa}{A A':List aq}{n:Nat}{l:List Nat}
  (dY:∀X,aK P f (A++X) args' fun r' O1=>r'=r∧O1=A'++X) (hk:∀i,i<n->i ∉ l->A'[i]?=A[i]?) (hn:A.length=n) (hl:A'.length=n) (hA:σ.objs.take n=A)
  (ho:o.op=.call ⟨.value x,args,pc⟩) (hd:∀d,o.dst=some d->d<σ.n) (hx:σ.ev x=some (.fn (.func f) fs cs)) (ha:σ.yw args.toList=some gg) (e:fs++gg++cs=args'):Cert P o σ r (.loc n l A'):=by
 subst hn;subst e;exact wm l ho hd hx ha hA hl hk dY
def sr(ca cb ls re wk:aa)(bu:Int):List aa:=[ca,cb,ls,.mm 6,re,wk,aI bu,.v (.bool false),.v (.bool false)]
theorem LM(er:List aa)(x2:aq)(L M:List cQ)(W D E F V C G:List (Value×aa))(z:Nat->aq)(cf cg:aa)(ka kb ct:Int)(n:Nat):∀i,i<n->i ∉ [9,13,14,18,20,34]->(sO er x2 M V C G F z cf cg ka kb ct)[i]?=(sO er x2 L W D E F z cf cg ka kb ct)[i]?:=fun i _ hn=>by
 match i with
 | 0=>rfl
 | 1=>rfl
 | 2=>rfl
 | 3=>rfl
 | 4=>rfl
 | 5=>rfl
 | 6=>rfl
 | 7=>rfl
 | 8=>rfl
 | 9=>exact absurd (by simp) hn
 | 10=>rfl
 | 11=>rfl
 | 12=>rfl
 | 13=>exact absurd (by simp) hn
 | 14=>exact absurd (by simp) hn
 | 15=>rfl
 | 16=>rfl
 | 17=>rfl
 | 18=>exact absurd (by simp) hn
 | 19=>rfl
 | 20=>exact absurd (by simp) hn
 | 21=>rfl
 | 22=>rfl
 | 23=>rfl
 | 24=>rfl
 | 25=>rfl
 | 26=>rfl
 | 27=>rfl
 | 28=>rfl
 | 29=>rfl
 | 30=>rfl
 | 31=>rfl
 | 32=>rfl
 | 33=>rfl
 | 34=>exact absurd (by simp) hn
 | 35=>rfl
 | 36=>rfl
 | 37=>rfl
 | 38=>rfl
 | 39=>rfl
 | 40=>rfl
 | 41=>rfl
 | 42=>rfl
 | k+43=>rfl
theorem LN(er:List aa)(x2:aq)(L M:List cQ)(W D E F G:List (Value×aa))(z:Nat->aq)(cf cg:aa)(ka kb ct:Int)(n:Nat):∀i,i<n->i ∉ [9,13,14,36]->(sO er x2 M W D E G z cf cg ka kb ct)[i]?=(sO er x2 L W D E F z cf cg ka kb ct)[i]?:=fun i _ hn=>by
 match i with
 | 0=>rfl
 | 1=>rfl
 | 2=>rfl
 | 3=>rfl
 | 4=>rfl
 | 5=>rfl
 | 6=>rfl
 | 7=>rfl
 | 8=>rfl
 | 9=>exact absurd (by simp) hn
 | 10=>rfl
 | 11=>rfl
 | 12=>rfl
 | 13=>exact absurd (by simp) hn
 | 14=>exact absurd (by simp) hn
 | 15=>rfl
 | 16=>rfl
 | 17=>rfl
 | 18=>rfl
 | 19=>rfl
 | 20=>rfl
 | 21=>rfl
 | 22=>rfl
 | 23=>rfl
 | 24=>rfl
 | 25=>rfl
 | 26=>rfl
 | 27=>rfl
 | 28=>rfl
 | 29=>rfl
 | 30=>rfl
 | 31=>rfl
 | 32=>rfl
 | 33=>rfl
 | 34=>rfl
 | 35=>rfl
 | 36=>exact absurd (by simp) hn
 | 37=>rfl
 | 38=>rfl
 | 39=>rfl
 | 40=>rfl
 | 41=>rfl
 | 42=>rfl
 | k+43=>rfl
theorem C1(f:Func)(df ho:List (Value×aa))(b:Block)(PB:f.blocks[0]?=some b)(T:Int->Int×Int)(s:gJ)(ca cb ls re wk:aa)(bu:Int)(x2:aq)(F:List (Value×aa))(z:Nat->aq)(cg:aa)(kb ct:Int){v n:Int}(AP:b.term=⟨0,v,n,[],[]⟩)(hl:b.ins.length<=1000)(hex:∀(k:Nat)(i:bI),b.ins[k]?=some i->RK ((b.ins.take k).foldl (pj T) s) i (T i.to).1 (T i.to).2){t:Nat}(lf:bC (b.ins.foldl (pj T) s).E (.int .i64 v)=some (aI t))(PF:b.ins.length+1<=bu)(UZ:bu<=100000)(h:∀bu,Ob (sr ca cb ls re wk bu) x2 z (bF f df ho) cg)(hW:ba 26 s.W)(hD:ba 26 s.D)(hE:∀k m,ba m ((b.ins.take k).foldl (pj T) s).E)(hF:∀k,ba k F) :
  aK Tryz.prog 49 (sO (sr ca cb ls re wk bu) x2 s.L s.W s.D s.E F z (bF f df ho) cg 0 kb ct) [.mp 7 0,.mp 41 0,.mp 25 0,aI (-1)] fun r O'=>r=vi t∧O'=sO (sr ca cb ls re wk (bu-b.ins.length-1)) x2 (b.ins.foldl (pj T) s).L (b.ins.foldl (pj T) s).W (b.ins.foldl (pj T) s).D (b.ins.foldl (pj T) s).E F z (bF f df ho) cg b.ins.length kb ct:=by
 obtain⟨st,dD⟩:∃st:Nat->gJ,st=fun k=>(b.ins.take k).foldl (pj T) s:=⟨_,rfl⟩
 have Kr:s=st 0:=by rw[dD];rfl
 have wP:b.ins.foldl (pj T) s=st b.ins.length:=by rw[dD];simp
 have zE:∀k,ba 26 (st k).W∧ba 26 (st k).D:=fun k=>by rw[dD];exact Dp _ s hW hD
 have E':∀k m,ba m (st k).E:=fun k m=>by rw[dD];exact hE k m
 have Gx:∀(k:Nat) (i:bI),b.ins[k]?=some i->∀X,aK Tryz.prog 88 (sO (sr ca cb ls re wk (bu-k-1)) x2 (st k).L (st k).W (st k).D (st k).E F z (bF f df ho) cg k kb ct++X) [.mp 7 0,.mp 41 0,.mp 25 0,i.enc] fun r O'=>r=.cN [A8,.v (.bool false)]∧O'=sO (sr ca cb ls re wk (bu-k-1)) x2 (st (k+1)).L (st (k+1)).W (st (k+1)).D (st (k+1)).E F z (bF f df ho) cg k kb ct++X:=fun k i hi=>by
  have e1:st (k+1)=pj T (st k) i:=by rw[dD];simp only;rw[List.take_add_one,hi,Option.toList_some,List.foldl_append,List.foldl_cons,List.foldl_nil]
  have q:=hex k i hi;rw[show(b.ins.take k).foldl (pj T) s=st k by rw[dD]]at q;rw[e1];exact(Cy (sr ca cb ls re wk (bu-k-1)) x2 (st k) F z (bF f df ho) cg k kb ct i q (h _) (zE k).1 (zE k).2 (E' k) hF).frame rfl (by simp[av,aa.upto,ay,sO,rO,bI.enc]) (fJ (h _) _ (zE k).1 (zE k).2 (E' k) hF k kb ct)
 have S7:=fun(k:Nat)=>LM (sr ca cb ls re wk (bu-k-1)) x2 (st k).L (st (k+1)).L (st k).W (st k).D (st k).E F (st (k+1)).W (st (k+1)).D (st (k+1)).E z (bF f df ho) cg k kb ct;rw[wP]at lf ⊢;rw[Kr];have aW:=fJ (h (bu-b.ins.length-1)) (st b.ins.length).L (zE b.ins.length).1 (zE b.ins.length).2 (E' b.ins.length) hF b.ins.length kb ct;have HY:=fun k:Nat=>cO (k:=44) (fJ (h (bu-k-1)) (st (k+1)).L (zE (k+1)).1 (zE (k+1)).2 (E' (k+1)) hF k kb ct) (by omega) (B:=[.cells [aI 0,aI 0,aI 0,.aB 1 [] .ex,aI 0,aI 0,aI 0,.aB 1 [] .ex]]) (by
  intro o ho;simp only[List.mem_singleton]at ho;subst ho;simp[aq.upto,av,aa.upto])
 have hw:=(BI (O:=sO (sr ca cb ls re wk (bu-b.ins.length-1)) x2 (st b.ins.length).L (st b.ins.length).W (st b.ins.length).D (st b.ins.length).E F z (bF f df ho) cg b.ins.length kb ct) aW (sid:=41) (eid:=34) (e:=.mp 7 0) (f:=.mp 25 0) (n:=n) rfl rfl lf).frame rfl (by simp[av,aa.upto,ay,sO,rO]) aW;have Gq:b.enc=.agg [bp b.params,cS b.ins,aI 0,aI v,aI n,bp [],bq []]:=by rw[Block.enc,AP]
 clear Kr wP hex hE dD AP;unfold sO rO sr bF at Gx hw aW S7 HY ⊢;refine zf true 43 Tryz.func49 Tryz.ntmps49 ?_;dsimp only[Tmp,TypeId,slotsOf];refine aG ?_;simp -dsimp only[simprocAttr,↓I,zp,au,aH];refine ai ?_;refine ah (a8 (ι:={k:Nat // k<=b.ins.length}) (fun k=>⟨122,[(0,.mp 7 0),(1,.mp 41 0),(2,.mp 25 0),(3,aI (-1)),(8,.mp 43 0)],[.gone,.gone,.gone,.gone,.gone,.gone,eM,.cells (.mp 13 0::[ca,cb,ls,.mm 6,re,wk,aI (bu-k.1),.v (.bool false),.v (.bool false)]),x2,.map .str (jf 0 (st k.1).L),eM,eM,eM,.cells [.aB 4 ((st k.1).L.map cQ.enc) (.tok 14),.mm 9,.mm 10,.mm 11,.mm 12],.spare (st k.1).L.length,z 15,z 16,z 17,.map (.int .i64) (st k.1).W,pM,.map (.int .i64) (st k.1).D,eM,pM,pM,pM,.cells [.mm 18,.mm 19,.mm 20,.mm 21,.mm 22,.mm 23,.mm 24,.v (.bool false)],z 26,z 27,z 28,z 29,z 30,z 31,z 32,z 33,.map (.int .i64) (st k.1).E,z 35,.map (.int .i64) F,z 37,z 38,z 39,z 40,.cells [(.ip none [aI f.name,aM f.blocks,bp [-1],.aB 1 [bp []] .sh,.im (.int .i64) df,.im (.int .i64) ho]),.v (.bool true),aI 0,aI k.1,.mm 34,aI ct],.cells [cg,.v (.bool false),aI 0,aI kb,.mm 36,aI ct],.cells [aI 0,aI 0,aI 0,.aB 1 [] .ex,aI 0,aI 0,aI 0,.aB 1 [] .ex]]⟩) (fun k=>b.ins.length-k.1) ⟨0,by omega⟩ ?_ ?_)
 ·refine zq rfl ?_ ?_;simp -dsimp only[simprocAttr,↓I,zp,au,aH,zc];dsimp only;rw[show bu-((0:Nat):Int)=bu by omega];rfl
 rintro⟨k,hk⟩;refine ah ?_;refine bR ?_;simp -dsimp only[simprocAttr,↓I,zp,au,aH]
 repeat(refine⟨by omega,?_⟩)
 refine ai ?_;have UW:decide (bu-(k:Int)-1<0)=false:=decide_eq_false (by omega);refine aG ?_;simp -dsimp only[simprocAttr,↓I,zp,au,aH,UW];refine ai ?_;apply aF rfl<;>intro h
 ·cases h
 refine bZ ?_;refine aG ?_;simp -dsimp only[simprocAttr,↓I,zp,au,aH,PB,Gq];refine⟨ob (by kernel_rfl),?_⟩;refine ai ?_;refine bR ?_;simp -dsimp only[simprocAttr,↓I,zp,au,aH];refine⟨ob (by kernel_rfl),?_⟩;refine ai ?_;apply aF rfl<;>intro h
 ·have sx:k<b.ins.length:=by simpa using h
  obtain⟨i,hi⟩:∃i,b.ins[k]?=some i:=⟨b.ins[k],by simp[sx]⟩
  have hx:=Gx k i hi;have fk:=S7 k;refine l4 1 ?_;simp only[List.replicate,List.cons_append,List.nil_append];refine aL (aL (kP hm (lZ.BO ⟨false,false⟩ hT 11 rfl rfl (by simp) ?_)));simp -dsimp only[simprocAttr,↓I,zp,au,aH,hi];refine lZ.op rfl rfl (zU hx (fk 43) rfl rfl rfl rfl (by simp) rfl rfl rfl) ?_;simp only[Mode.post,Mode.kind,List.cons_append,List.nil_append,List.length_cons,List.length_nil,List.drop_succ_cons,List.drop_zero,Nat.reduceAdd,List.append_nil];unfold A8;refine lZ.BO ⟨false,false⟩ hT 3 rfl rfl (by simp) ?_;simp -dsimp only[simprocAttr,↓I,zp,au,aH];refine lZ.op rfl rfl (iI hT (id:=45) (m:=0) rfl (by simp) zh rfl) ?_;simp -dsimp only[simprocAttr,↓I,zp,au,aH];refine lZ.BO ⟨false,false⟩ hT 2 rfl rfl (by simp) ?_;simp -dsimp only[simprocAttr,↓I,zp,au,aH];refine lZ.fin rfl ⟨ob (by kernel_rfl),?_⟩;refine ai ?_;refine aG ?_;simp -dsimp only[simprocAttr,↓I,zp,au,aH];refine ai ?_;apply aF rfl<;>intro h
  ·cases h
  refine bZ ?_;refine cK 44 [(0,.mp 7 0),(1,.mp 41 0),(2,.mp 25 0),(3,aI (-1)),(8,.mp 43 0)] (by simp) (by omega) [.gone,.gone,.gone,.gone,.gone,.gone,eM,.cells (.mp 13 0::[ca,cb,ls,.mm 6,re,wk,aI (bu-(k:Int)-1),.v (.bool false),.v (.bool false)]),x2,.map .str (jf 0 (st (k+1)).L),eM,eM,eM,.cells [.aB 4 ((st (k+1)).L.map cQ.enc) (.tok 14),.mm 9,.mm 10,.mm 11,.mm 12],.spare (st (k+1)).L.length,z 15,z 16,z 17,.map (.int .i64) (st (k+1)).W,pM,.map (.int .i64) (st (k+1)).D,eM,pM,pM,pM,.cells [.mm 18,.mm 19,.mm 20,.mm 21,.mm 22,.mm 23,.mm 24,.v (.bool false)],z 26,z 27,z 28,z 29,z 30,z 31,z 32,z 33,.map (.int .i64) (st (k+1)).E,z 35,.map (.int .i64) F,z 37,z 38,z 39,z 40,.cells [(.ip none [aI f.name,aM f.blocks,bp [-1],.aB 1 [bp []] .sh,.im (.int .i64) df,.im (.int .i64) ho]),.v (.bool true),aI 0,aI k,.mm 34,aI ct],.cells [cg,.v (.bool false),aI 0,aI kb,.mm 36,aI ct],.cells [aI 0,aI 0,aI 0,.aB 1 [] .ex,aI 0,aI 0,aI 0,.aB 1 [] .ex]] ?_ ?_ ?_ ?_ ?_
  ·rfl
  ·exact HY k
  ·simp[jw,St.get,cd,bG,Go.Av.look,Sub.refl]
  ·simp[aa.upto]
  refine aG ?_;simp -dsimp only[simprocAttr,↓I,zp,au,aH]
  repeat(refine⟨by omega,?_⟩)
  refine aN ?_;simp -dsimp only[bH,ne_eq,Nat.reduceEqDiff,reduceCtorEq];refine⟨⟨k+1,by omega⟩,by simp only;omega,?_⟩;refine zq rfl ?_ ?_;simp -dsimp only[simprocAttr,↓I,zp,au,aH,zc];dsimp only;rw[show bu-((k+1:Nat):Int)=bu-(k:Int)-1 by omega];rfl
 have gV:k=b.ins.length:=by simp at h;omega
 subst gV;refine bZ ?_;refine aG ?_;simp -dsimp only[simprocAttr,↓I,zp,au,aH];refine .inr (.inr ⟨_,(hw _),ae ?_⟩);unfold vi;simp -dsimp only[simprocAttr,↓I,zp,au,aH];refine ai ?_;refine bR ?_;simp -dsimp only[simprocAttr,↓I,zp,au,aH];refine ai ?_;apply aF rfl<;>intro h;rotate_left
 ·cases h
 refine aG ?_;simp -dsimp only[simprocAttr,↓I,zp,au,aH];refine ai ?_;refine ak ?_;simp -dsimp only[simprocAttr,↓I,zp,au,aH,zr,Tryz.results49];exact⟨aW,by simp[av,aa.upto],rfl⟩
theorem C2(f:Func)(df ho:List (Value×aa))(b:Block)(PB:f.blocks[0]?=some b)(T:Int->Int×Int)(s:gJ)(ca cb ls re wk:aa)(bu:Int)(x2:aq)(E:List (Value×aa))(z:Nat->aq)(cf:aa)(ka ct:Int){v n:Int}(AP:b.term=⟨0,v,n,[],[]⟩)(hl:b.ins.length<=1000)(hex:∀(k:Nat)(i:bI),b.ins[k]?=some i->RK ((b.ins.take k).foldl (zd T) s) i (T i.to).1 (T i.to).2)
  (OU:∀(k:Nat) (i:bI),b.ins[k]?=some i->i.op≠0->∀t∈i.ts ((b.ins.take k).foldl (zd T) s).E,Pf (fW ((b.ins.take k).foldl (zd T) s) i).2 s.W t) (Om:qm s.D) {t:Nat} (lf:bC (b.ins.foldl (zd T) s).E (.int .i64 v)=some (aI t)) (PF:b.ins.length+1<=bu) (UZ:bu<=100000) (h:∀bu,Ob (sr ca cb ls re wk bu) x2 z cf (bF f df ho)) (hW:ba 26 s.W) (hD:ba 26 s.D) (hF:∀k,ba k E) (hE:∀k m,ba m ((b.ins.take k).foldl (zd T) s).E) :
  aK Tryz.prog 49 (sO (sr ca cb ls re wk bu) x2 s.L s.W s.D E s.E z cf (bF f df ho) ka 0 ct) [.mp 7 0,.mp 42 0,.mp 25 0,aI (-1)] fun r O'=>r=vi t∧O'=sO (sr ca cb ls re wk (bu-b.ins.length-1)) x2 (b.ins.foldl (zd T) s).L s.W s.D E (b.ins.foldl (zd T) s).E z cf (bF f df ho) ka b.ins.length ct:=by
 obtain⟨st,dD⟩:∃st:Nat->gJ,st=fun k=>(b.ins.take k).foldl (zd T) s:=⟨_,rfl⟩
 have TA:s.L=(st 0).L:=by rw[dD];rfl
 have Tz:s.E=(st 0).E:=by rw[dD];rfl
 have wP:b.ins.foldl (zd T) s=st b.ins.length:=by rw[dD];simp
 have zE:∀k,(st k).W=s.W∧(st k).D=s.D:=fun k=>by rw[dD];exact rZ _ s
 have E':∀k m,ba m (st k).E:=fun k m=>by rw[dD];exact hE k m
 have Gx:∀(k:Nat) (i:bI),b.ins[k]?=some i->∀X,aK Tryz.prog 88 (sO (sr ca cb ls re wk (bu-k-1)) x2 (st k).L s.W s.D E (st k).E z cf (bF f df ho) ka k ct++X) [.mp 7 0,.mp 42 0,.mp 25 0,i.enc] fun r O'=>r=.cN [A8,.v (.bool false)]∧O'=sO (sr ca cb ls re wk (bu-k-1)) x2 (st (k+1)).L s.W s.D E (st (k+1)).E z cf (bF f df ho) ka k ct++X:=fun k i hi=>by
  have e1:st (k+1)=zd T (st k) i:=by rw[dD];simp only;rw[List.take_add_one,hi,Option.toList_some,List.foldl_append,List.foldl_cons,List.foldl_nil]
  have q:=hex k i hi;have q2:=OU k i hi;rw[show(b.ins.take k).foldl (zd T) s=st k by rw[dD]]at q q2;rw[e1];have r:=(Cz (sr ca cb ls re wk (bu-k-1)) x2 (st k) E z cf (bF f df ho) ka k ct i q (by rw[(zE k).1];exact q2) (by rw[(zE k).2];exact Om) (h _) (by rw[(zE k).1];exact hW) (by rw[(zE k).2];exact hD) hF (E' k)).frame rfl (by simp[av,aa.upto,ay,sO,rO,bI.enc]) (fJ (h _) _ (by rw[(zE k).1];exact hW) (by rw[(zE k).2];exact hD) hF (E' k) ka k ct);rw[(zE k).1,(zE k).2]at r;exact r
 have S7:=fun(k:Nat)=>LN (sr ca cb ls re wk (bu-k-1)) x2 (st k).L (st (k+1)).L s.W s.D E (st k).E (st (k+1)).E z cf (bF f df ho) ka k ct;rw[wP]at lf ⊢;rw[TA,Tz];have aW:=fJ (h (bu-b.ins.length-1)) (st b.ins.length).L hW hD hF (E' b.ins.length) ka b.ins.length ct;have HY:=fun k:Nat=>cO (k:=44) (fJ (h (bu-k-1)) (st (k+1)).L hW hD hF (E' (k+1)) ka k ct) (by omega) (B:=[.cells [aI 0,aI 0,aI 0,.aB 1 [] .ex,aI 0,aI 0,aI 0,.aB 1 [] .ex]]) (by
  intro o ho;simp only[List.mem_singleton]at ho;subst ho;simp[aq.upto,av,aa.upto])
 have hw:=(BI (O:=sO (sr ca cb ls re wk (bu-b.ins.length-1)) x2 (st b.ins.length).L s.W s.D E (st b.ins.length).E z cf (bF f df ho) ka b.ins.length ct) aW (sid:=42) (eid:=36) (e:=.mp 7 0) (f:=.mp 25 0) (n:=n) rfl rfl lf).frame rfl (by simp[av,aa.upto,ay,sO,rO]) aW;have Gq:b.enc=.agg [bp b.params,cS b.ins,aI 0,aI v,aI n,bp [],bq []]:=by rw[Block.enc,AP]
 generalize s.W=W at *;generalize s.D=D at *;clear TA Tz wP hex hE dD AP OU zE;unfold sO rO sr bF at Gx hw aW S7 HY ⊢;refine zf true 43 Tryz.func49 Tryz.ntmps49 ?_;dsimp only[Tmp,TypeId,slotsOf];refine aG ?_;simp -dsimp only[simprocAttr,↓I,zp,au,aH];refine ai ?_;refine ah (a8 (ι:={k:Nat // k<=b.ins.length}) (fun k=>⟨122,[(0,.mp 7 0),(1,.mp 42 0),(2,.mp 25 0),(3,aI (-1)),(8,.mp 43 0)],[.gone,.gone,.gone,.gone,.gone,.gone,eM,.cells (.mp 13 0::[ca,cb,ls,.mm 6,re,wk,aI (bu-k.1),.v (.bool false),.v (.bool false)]),x2,.map .str (jf 0 (st k.1).L),eM,eM,eM,.cells [.aB 4 ((st k.1).L.map cQ.enc) (.tok 14),.mm 9,.mm 10,.mm 11,.mm 12],.spare (st k.1).L.length,z 15,z 16,z 17,.map (.int .i64) W,pM,.map (.int .i64) D,eM,pM,pM,pM,.cells [.mm 18,.mm 19,.mm 20,.mm 21,.mm 22,.mm 23,.mm 24,.v (.bool false)],z 26,z 27,z 28,z 29,z 30,z 31,z 32,z 33,.map (.int .i64) E,z 35,.map (.int .i64) (st k.1).E,z 37,z 38,z 39,z 40,.cells [cf,.v (.bool true),aI 0,aI ka,.mm 34,aI ct],.cells [(.ip none [aI f.name,aM f.blocks,bp [-1],.aB 1 [bp []] .sh,.im (.int .i64) df,.im (.int .i64) ho]),.v (.bool false),aI 0,aI k.1,.mm 36,aI ct],.cells [aI 0,aI 0,aI 0,.aB 1 [] .ex,aI 0,aI 0,aI 0,.aB 1 [] .ex]]⟩) (fun k=>b.ins.length-k.1) ⟨0,by omega⟩ ?_ ?_)
 ·refine zq rfl ?_ ?_;simp -dsimp only[simprocAttr,↓I,zp,au,aH,zc];dsimp only;rw[show bu-((0:Nat):Int)=bu by omega];rfl
 rintro⟨k,hk⟩;refine ah ?_;refine bR ?_;simp -dsimp only[simprocAttr,↓I,zp,au,aH]
 repeat(refine⟨by omega,?_⟩)
 refine ai ?_;have UW:decide (bu-(k:Int)-1<0)=false:=decide_eq_false (by omega);refine aG ?_;simp -dsimp only[simprocAttr,↓I,zp,au,aH,UW];refine ai ?_;apply aF rfl<;>intro h
 ·cases h
 refine bZ ?_;refine aG ?_;simp -dsimp only[simprocAttr,↓I,zp,au,aH,PB,Gq];refine⟨ob (by kernel_rfl),?_⟩;refine ai ?_;refine bR ?_;simp -dsimp only[simprocAttr,↓I,zp,au,aH];refine⟨ob (by kernel_rfl),?_⟩;refine ai ?_;apply aF rfl<;>intro h
 ·have sx:k<b.ins.length:=by simpa using h
  obtain⟨i,hi⟩:∃i,b.ins[k]?=some i:=⟨b.ins[k],by simp[sx]⟩
  have hx:=Gx k i hi;have fk:=S7 k;refine l4 1 ?_;simp only[List.replicate,List.cons_append,List.nil_append];refine aL (aL (kP hm (lZ.BO ⟨false,false⟩ hT 11 rfl rfl (by simp) ?_)));simp -dsimp only[simprocAttr,↓I,zp,au,aH,hi];refine lZ.op rfl rfl (zU hx (fk 43) rfl rfl rfl rfl (by simp) rfl rfl rfl) ?_;simp only[Mode.post,Mode.kind,List.cons_append,List.nil_append,List.length_cons,List.length_nil,List.drop_succ_cons,List.drop_zero,Nat.reduceAdd,List.append_nil];unfold A8;refine lZ.BO ⟨false,false⟩ hT 3 rfl rfl (by simp) ?_;simp -dsimp only[simprocAttr,↓I,zp,au,aH];refine lZ.op rfl rfl (iI hT (id:=45) (m:=0) rfl (by simp) zh rfl) ?_;simp -dsimp only[simprocAttr,↓I,zp,au,aH];refine lZ.BO ⟨false,false⟩ hT 2 rfl rfl (by simp) ?_;simp -dsimp only[simprocAttr,↓I,zp,au,aH];refine lZ.fin rfl ⟨ob (by kernel_rfl),?_⟩;refine ai ?_;refine aG ?_;simp -dsimp only[simprocAttr,↓I,zp,au,aH];refine ai ?_;apply aF rfl<;>intro h
  ·cases h
  refine bZ ?_;refine cK 44 [(0,.mp 7 0),(1,.mp 42 0),(2,.mp 25 0),(3,aI (-1)),(8,.mp 43 0)] (by simp) (by omega) [.gone,.gone,.gone,.gone,.gone,.gone,eM,.cells (.mp 13 0::[ca,cb,ls,.mm 6,re,wk,aI (bu-(k:Int)-1),.v (.bool false),.v (.bool false)]),x2,.map .str (jf 0 (st (k+1)).L),eM,eM,eM,.cells [.aB 4 ((st (k+1)).L.map cQ.enc) (.tok 14),.mm 9,.mm 10,.mm 11,.mm 12],.spare (st (k+1)).L.length,z 15,z 16,z 17,.map (.int .i64) W,pM,.map (.int .i64) D,eM,pM,pM,pM,.cells [.mm 18,.mm 19,.mm 20,.mm 21,.mm 22,.mm 23,.mm 24,.v (.bool false)],z 26,z 27,z 28,z 29,z 30,z 31,z 32,z 33,.map (.int .i64) E,z 35,.map (.int .i64) (st (k+1)).E,z 37,z 38,z 39,z 40,.cells [cf,.v (.bool true),aI 0,aI ka,.mm 34,aI ct],.cells [(.ip none [aI f.name,aM f.blocks,bp [-1],.aB 1 [bp []] .sh,.im (.int .i64) df,.im (.int .i64) ho]),.v (.bool false),aI 0,aI k,.mm 36,aI ct],.cells [aI 0,aI 0,aI 0,.aB 1 [] .ex,aI 0,aI 0,aI 0,.aB 1 [] .ex]] ?_ ?_ ?_ ?_ ?_
  ·rfl
  ·exact HY k
  ·simp[jw,St.get,cd,bG,Go.Av.look,Sub.refl]
  ·simp[aa.upto]
  refine aG ?_;simp -dsimp only[simprocAttr,↓I,zp,au,aH]
  repeat(refine⟨by omega,?_⟩)
  refine aN ?_;simp -dsimp only[bH,ne_eq,Nat.reduceEqDiff,reduceCtorEq];refine⟨⟨k+1,by omega⟩,by simp only;omega,?_⟩;refine zq rfl ?_ ?_;simp -dsimp only[simprocAttr,↓I,zp,au,aH,zc];dsimp only;rw[show bu-((k+1:Nat):Int)=bu-(k:Int)-1 by omega];rfl
 have gV:k=b.ins.length:=by simp at h;omega
 subst gV;refine bZ ?_;refine aG ?_;simp -dsimp only[simprocAttr,↓I,zp,au,aH];refine .inr (.inr ⟨_,(hw _),ae ?_⟩);unfold vi;simp -dsimp only[simprocAttr,↓I,zp,au,aH];refine ai ?_;refine bR ?_;simp -dsimp only[simprocAttr,↓I,zp,au,aH];refine ai ?_;apply aF rfl<;>intro h;rotate_left
 ·cases h
 refine aG ?_;simp -dsimp only[simprocAttr,↓I,zp,au,aH];refine ai ?_;refine ak ?_;simp -dsimp only[simprocAttr,↓I,zp,au,aH,zr,Tryz.results49];exact⟨aW,by simp[av,aa.upto],rfl⟩
end Go.Proofs.YtocdpaifmnkoaaaGreatDoor
namespace Go.Proofs.YtocdpaifmnkoaaaGreatDoor
open Go.RowKit Go.Proofs
theorem kW{P:Program}(w:World)(ty:TypeId)(r bm a c clk:Nat)(hr:w.heap[r]?=some (.mapIter (some bm) a #[] c))(hb:w.heap[bm]?=some (.map #[] clk)) :
  (Instr.next (.pointer (some ⟨r,0,none⟩)) false ty).run P w=.ok (.tuple #[.bool false]) w:=by
 have HI:(getObj r).run P w=.ok (.mapIter (some bm) a #[] c) w:=by simp[Go.getObj,Sem.run,hr]
 have HJ:(getObj bm).run P w=.ok (.map #[] clk) w:=by simp[Go.getObj,Sem.run,hb]
 simp[Instr.next,HI,HJ,choose,Sem.run,Question.forced]
set_option maxHeartbeats 4000000 in
set_option maxRecDepth 100000 in
theorem Cm(e:Value)(b m3 m4 m5 c3 c4 c5:Nat)(w:World)(h3:w.cell? ⟨b,3,none⟩=some (.map (some m3)))(h4:w.cell? ⟨b,4,none⟩=some (.map (some m4)))(h5:w.cell? ⟨b,5,none⟩=some (.map (some m5)))
  (k3:w.heap[m3]?=some (.map #[] c3)) (k4:w.heap[m4]?=some (.map #[] c4)) (k5:w.heap[m5]?=some (.map #[] c5)) :
  Calls Tryz.prog 50 #[e,.pointer (some ⟨b,0,none⟩)] w fun ex w'=>ex=.returned (.bool false)∧w'.os=w.os∧w'.tape=w.tape∧w'.output=w.output∧w.heap.size<=w'.heap.size∧∀j,j<w.heap.size->w'.heap[j]?=w.heap[j]?:=by
 have al:∀(w:World) (o:Obj),(w.alloc o).os=w.os∧(w.alloc o).tape=w.tape∧(w.alloc o).output=w.output∧(w.alloc o).heap.size=w.heap.size+1∧(∀j,j<w.heap.size->(w.alloc o).heap[j]?=w.heap[j]?)∧(w.alloc o).heap[w.heap.size]?=some o:=fun w o=>⟨rfl,rfl,rfl,by show(w.heap.push o).size=_;simp,fun j hj=>by
  show(w.heap.push o)[j]?=_;rw[Array.getElem?_push_lt hj,Array.getElem?_eq_getElem hj],by
  show(w.heap.push o)[w.heap.size]?=_;simp⟩
 have lt:∀{w:World} {j:Nat} {o:Obj},w.heap[j]?=some o->j<w.heap.size:=fun {w j o} h=>by
  rcases Nat.lt_or_ge j w.heap.size with q|q
  ·exact q
  rw[Array.getElem?_eq_none q]at h;cases h
 have bl:b<w.heap.size:=by
  rcases Nat.lt_or_ge b w.heap.size with q|q
  ·exact q
  simp[World.cell?,Array.getElem?_eq_none q]at h3
 have ce:∀(w:World) (o:Obj) (k:Nat) (v:Value),b<w.heap.size->w.cell? ⟨b,k,none⟩=some v->(w.alloc o).cell? ⟨b,k,none⟩=some v:=fun w o k v hb h=>by
  have:=(al w o).2.2.2.2.1 b hb;simp only[World.cell?]at h ⊢;rw[this];exact h
 obtain⟨w1,lD⟩:∃w1,w1=w.alloc (.mapIter (some m3) c3 #[] c3):=⟨_,rfl⟩
 obtain⟨w2,R5⟩:∃w2,w2=w1.alloc (.mapIter (some m5) c5 #[] c5):=⟨_,rfl⟩
 obtain⟨w3,VM⟩:∃w3,w3=w2.alloc (.mapIter (some m4) c4 #[] c4):=⟨_,rfl⟩
 have a1:=al w (.mapIter (some m3) c3 #[] c3);have a2:=al w1 (.mapIter (some m5) c5 #[] c5);have a3:=al w2 (.mapIter (some m4) c4 #[] c4);rw[<-lD]at a1;rw[<-R5]at a2;rw[<-VM]at a3;have d5:=ce w (.mapIter (some m3) c3 #[] c3) 5 _ bl h5;have d4:=ce w (.mapIter (some m3) c3 #[] c3) 4 _ bl h4;rw[<-lD]at d5 d4;have e4:=ce w1 (.mapIter (some m5) c5 #[] c5) 4 _ (by omega) d4;rw[<-R5]at e4;have n3:=(a1.2.2.2.2.1 m3 (lt k3)).trans k3;have n4:=(a1.2.2.2.2.1 m4 (lt k4)).trans k4;have n5:=(a1.2.2.2.2.1 m5 (lt k5)).trans k5;have p4:=(a2.2.2.2.2.1 m4 (lt n4)).trans n4;have p5:=(a2.2.2.2.2.1 m5 (lt n5)).trans n5;have q4:=(a3.2.2.2.2.1 m4 (lt p4)).trans p4;have r1:=run_range_map (P:=Tryz.prog) w 125 _ _ m3 #[] c3 Tryz.underlying125 k3;rw[<-lD]at r1;have x1:∀ty,(Instr.next (.pointer (some ⟨w.heap.size,0,none⟩)) false ty).run Tryz.prog w1=_:=fun ty=>kW w1 ty _ _ _ _ _ a1.2.2.2.2.2 n3;have r2:=run_range_map (P:=Tryz.prog) w1 114 _ _ m5 #[] c5 Tryz.underlying114 n5;rw[<-R5]at r2;have x2:∀ty,(Instr.next (.pointer (some ⟨w1.heap.size,0,none⟩)) false ty).run Tryz.prog w2=_:=fun ty=>kW w2 ty _ _ _ _ _ a2.2.2.2.2.2 p5;have r3:=run_range_map (P:=Tryz.prog) w2 114 _ _ m4 #[] c4 Tryz.underlying114 p4;rw[<-VM]at r3;have x3:∀ty,(Instr.next (.pointer (some ⟨w2.heap.size,0,none⟩)) false ty).run Tryz.prog w3=_:=fun ty=>kW w3 ty _ _ _ _ _ a3.2.2.2.2.2 q4;have u9:Unit->_:=fun _=>And.intro a1 (And.intro a2 a3);clear lD R5 VM a1 a2 a3
 go_enter Tryz.func50,Tryz.ntmps50
 go_wp2
 refine wp_loop_rounds 1 ?_;rw[rounds_succ]
 go_wp2
 refine wp_loop_rounds 1 ?_;rw[rounds_succ]
 go_wp2
 refine wp_loop_rounds 1 ?_;rw[rounds_succ]
 go_wp2
 go_ret
 obtain⟨a1,a2,a3⟩:=u9 ();refine⟨rfl,?_,?_,?_,by omega,fun j hj=>?_⟩
 ·rw[a3.1,a2.1,a1.1]
 ·rw[a3.2.1,a2.2.1,a1.2.1]
 ·rw[a3.2.2.1,a2.2.2.1,a1.2.2.1]
 rw[a3.2.2.2.2.1 j (by omega),a2.2.2.2.2.1 j (by omega),a1.2.2.2.2.1 j hj]
end Go.Proofs.YtocdpaifmnkoaaaGreatDoor
namespace Go.Proofs.YtocdpaifmnkoaaaGreatDoor
open Go.Av
theorem vc{g:G}(hg:Go.Av.Good g){id:Nat}{kt:KT}(hk:∀(es:List (Value×aa))(ob:Obj),ED g kt es ob->kq g kt es ob)(ho:g.objs[id]?=some (.map kt [])){u:Value}(hu:RV g (.mm id) u):∃(m c:Nat),u=.map (some m)∧g.w.heap[m]?=some (.map #[] c):=by
 obtain⟨l,o,he,_,_,rfl⟩:=hu.vd;obtain⟨l2,ob,e1,_,hh,sA⟩:=hg.map id _ _ ho;rw[he]at e1;simp only[Option.some.injEq]at e1;subst e1;obtain⟨arr,clk,rfl,hs,_⟩:=hk _ _ sA;have:arr = #[]:=Array.eq_empty_of_size_eq_zero (by simpa using hs);subst this;exact⟨_,_,rfl,hh⟩
theorem Aa{O:List aq}(e:aa)(ho:O[25]?=some (.cells [.mm 18,.mm 19,.mm 20,.mm 21,.mm 22,.mm 23,.mm 24,.v (.bool false)]))(Pu:O[21]?=some eM)(RM:O[22]?=some pM)(Xi:O[23]?=some pM) :
  aK Tryz.prog 50 O [e,.mp 25 0] fun r O'=>r=.v (.bool false)∧O'=O:=by
 refine⟨⟨_,Tryz.func50,by kernel_rfl,by kernel_rfl⟩,fun g vs hg xu ha=>?_⟩;subst xu;obtain⟨u0,u1,rfl,_,Yl⟩:=vJ ha;obtain⟨l,o1,he,_,_,rfl⟩:=Yl.jG;obtain⟨arr,t,gy,di,hlen,iq,_,_⟩:=hg.row ho he;simp only[List.length_cons,List.length_nil]at hlen;have UE:∀j:Nat,j<8->∃u,arr[j]?=some u:=fun j hj=>⟨arr[j]'(by omega),Array.getElem?_eq_getElem _⟩
 obtain⟨v3,w3⟩:=UE 3 (by omega);obtain⟨v4,w4⟩:=UE 4 (by omega);obtain⟨v5,w5⟩:=UE 5 (by omega);obtain⟨m3,c3,rfl,k3⟩:=vc hg (kt:=.int .i64) (fun _ _ h=>h) Pu (iq 3 _ _ rfl w3);obtain⟨m4,c4,rfl,k4⟩:=vc hg (kt:=.pair) (fun _ _ h=>h) RM (iq 4 _ _ rfl w4);obtain⟨m5,c5,rfl,k5⟩:=vc hg (kt:=.pair) (fun _ _ h=>h) Xi (iq 5 _ _ rfl w5);have cell:∀(j:Nat) (u:Value),arr[j]?=some u->g.w.cell? ⟨l.block,j,none⟩=some u:=fun j u hj=>by
  rw[Go.Av.cell_of_row di,hj]
 refine(Cm u0 l.block m3 m4 m5 c3 c4 c5 g.w (cell 3 _ w3) (cell 4 _ w4) (cell 5 _ w5) k3 k4 k5).mono ?_;rintro e w' ⟨rfl,q1,q2,q3,q4,q5⟩;obtain⟨r1,r2⟩:=uL hg q1 q2 q3 q4 q5;exact⟨_,_,_,rfl,rfl,r1,r2,.v trivial,rfl,rfl⟩
theorem Ax(er KL:List aa)(x2:aq)(L L2:List cQ)(W D E F F2:List (Value×aa))(z:Nat->aq)(cf cg:aa)(ka kb VW ct:Int)(Uw:aq)(Xo:Uw.upto 44)(t1 t2:Nat)
  (hn:∀X,aK Tryz.prog 49 (sO er x2 L W D E F z cf cg ka kb ct++X) [.mp 7 0,.mp 42 0,.mp 25 0,aI (-1)] fun r O'=>r=vi t2∧O'=sO KL x2 L2 W D E F2 z cf cg ka VW ct++X) (aW:∀o∈sO KL x2 L2 W D E F2 z cf cg ka VW ct,o.upto 43) :
  aK Tryz.prog 54 (sO er x2 L W D E F z cf cg ka kb ct++[Uw]) [.mp 7 0,.mp 41 0,.mp 42 0,.mp 25 0,vi t1] fun r O'=>r=.v (.bool (decide (t1=t2)))∧O'=sO KL x2 L2 W D E F2 z cf cg ka VW ct++[Uw]:=by
 have HX:=cO (k:=44) aW (by omega) (B:=[Uw]) (by
  intro o ho;simp only[List.mem_singleton]at ho;rw[ho];exact Xo)
 unfold sO rO at hn HX ⊢;unfold vi at hn ⊢;by_cases vY:t1=t2
 ·have hd:decide ((t1:Int)=(t2:Int))=true:=decide_eq_true (by omega);have lA:decide (t1=t2)=true:=decide_eq_true vY;rw[lA];refine zf true 44 Tryz.func54 Tryz.ntmps54 ?_;dsimp only[Tmp,TypeId,slotsOf];refine aG ?_;simp -dsimp only[simprocAttr,↓I,zp,au,aH];refine ai ?_;refine aG ?_;simp -dsimp only[simprocAttr,↓I,zp,au,aH];refine ai ?_;refine bR ?_;simp -dsimp only[simprocAttr,↓I,zp,au,aH];refine ai ?_;apply aF rfl<;>intro h
  ·cases h
  refine bZ ?_;refine aG ?_;simp -dsimp only[simprocAttr,↓I,zp,au,aH];refine .inr (.inl ⟨_,_,(hn _),.inl (ae ?_)⟩);simp -dsimp only[simprocAttr,↓I,zp,au,aH];refine ai ?_;refine bR ?_;simp -dsimp only[simprocAttr,↓I,zp,au,aH];refine ai ?_;apply aF rfl<;>intro h
  ·cases h
  refine bZ ?_;refine bR ?_;simp -dsimp only[simprocAttr,↓I,zp,au,aH];refine ai ?_;refine ah ?_;refine aG ?_;simp -dsimp only[simprocAttr,↓I,zp,au,aH];refine ai ?_;apply aF rfl<;>intro h
  ·cases h
  refine aG ?_;simp -dsimp only[simprocAttr,↓I,zp,au,aH];refine ai ?_;apply aF rfl<;>intro h;rotate_left
  ·cases h
  refine aG ?_;simp -dsimp only[simprocAttr,↓I,zp,au,aH,hd];refine⟨ob (by kernel_rfl),?_⟩;refine ai ?_;refine ak ?_;simp -dsimp only[simprocAttr,↓I,zp,au,aH,zr,Tryz.results54];exact HX
 have hd:decide ((t1:Int)=(t2:Int))=false:=decide_eq_false (by omega);have lA:decide (t1=t2)=false:=decide_eq_false vY;rw[lA];refine zf true 44 Tryz.func54 Tryz.ntmps54 ?_;dsimp only[Tmp,TypeId,slotsOf];refine aG ?_;simp -dsimp only[simprocAttr,↓I,zp,au,aH];refine ai ?_;refine aG ?_;simp -dsimp only[simprocAttr,↓I,zp,au,aH];refine ai ?_;refine bR ?_;simp -dsimp only[simprocAttr,↓I,zp,au,aH];refine ai ?_;apply aF rfl<;>intro h
 ·cases h
 refine bZ ?_;refine aG ?_;simp -dsimp only[simprocAttr,↓I,zp,au,aH];refine .inr (.inl ⟨_,_,(hn _),.inl (ae ?_)⟩);simp -dsimp only[simprocAttr,↓I,zp,au,aH];refine ai ?_;refine bR ?_;simp -dsimp only[simprocAttr,↓I,zp,au,aH];refine ai ?_;apply aF rfl<;>intro h
 ·cases h
 refine bZ ?_;refine bR ?_;simp -dsimp only[simprocAttr,↓I,zp,au,aH];refine ai ?_;refine ah ?_;refine aG ?_;simp -dsimp only[simprocAttr,↓I,zp,au,aH];refine ai ?_;apply aF rfl<;>intro h
 ·cases h
 refine aG ?_;simp -dsimp only[simprocAttr,↓I,zp,au,aH];refine ai ?_;apply aF rfl<;>intro h;rotate_left
 ·cases h
 refine aG ?_;simp -dsimp only[simprocAttr,↓I,zp,au,aH,hd];refine⟨ob (by kernel_rfl),?_⟩;refine ai ?_;refine ak ?_;simp -dsimp only[simprocAttr,↓I,zp,au,aH,zr,Tryz.results54];exact HX
theorem yy(er UH KL:List aa)(x2:aq)(L L1 L2:List cQ)(W W1 D D1 E E1 F F2:List (Value×aa))(z:Nat->aq)(cf cg:aa)(ka kb ct:Int)(t1 t2:Nat)(U0:∀k,cf.upto k)(Y9:∀k,cg.upto k)
  (hA:aK Tryz.prog 49 (sO er x2 L W D E F z cf cg 0 0 ct) [.mp 7 0,.mp 41 0,.mp 25 0,aI (-1)] fun r O'=>r=vi t1∧O'=sO UH x2 L1 W1 D1 E1 F z cf cg ka 0 ct)
  (hn:∀X,aK Tryz.prog 49 (sO UH x2 L1 W1 D1 E1 F z cf cg ka 0 ct++X) [.mp 7 0,.mp 42 0,.mp 25 0,aI (-1)] fun r O'=>r=vi t2∧O'=sO KL x2 L2 W1 D1 E1 F2 z cf cg ka kb ct++X)
  (aW:∀o∈sO KL x2 L2 W1 D1 E1 F2 z cf cg ka kb ct,o.upto 43)
  (iz:∀o∈rO KL x2 L2 (z 15) (z 16) (z 17) W1 D1++[z 26,z 27,z 28,z 29,z 30,z 31,z 32,z 33,.map (.int .i64) E1,z 35,.map (.int .i64) F2,z 37,z 38,z 39,z 40],o.upto 41) :
  aK Tryz.prog 28 (rO er x2 L (z 15) (z 16) (z 17) W D++[z 26,z 27,z 28,z 29,z 30,z 31,z 32,z 33,.map (.int .i64) E,z 35,.map (.int .i64) F,z 37,z 38,z 39,z 40]) [.mp 7 0,.agg [cf,.v (.bool true),aI 0,aI 0,.mm 34,aI ct],.agg [cg,.v (.bool false),aI 0,aI 0,.mm 36,aI ct],.mp 25 0] fun r O'=>r=.v (.bool (decide (t1=t2)))∧O'=rO KL x2 L2 (z 15) (z 16) (z 17) W1 D1++[z 26,z 27,z 28,z 29,z 30,z 31,z 32,z 33,.map (.int .i64) E1,z 35,.map (.int .i64) F2,z 37,z 38,z 39,z 40]:=by
 have hf:=Ax UH KL x2 L1 L2 W1 D1 E1 F F2 z cf cg ka 0 kb ct (.cells [aI 3,aI 0,aI 0,bp [(t1:Int)],aI 0,aI 0,aI 0,bp []]) (by simp[aq.upto,av,aa.upto]) t1 t2 hn aW;unfold sO rO at hA hf;unfold vi at hA hf;unfold rO at iz ⊢;refine zf true 41 Tryz.func28 Tryz.ntmps28 ?_;dsimp only[Tmp,TypeId,slotsOf];refine aG ?_;simp -dsimp only[simprocAttr,↓I,zp,au,aH];refine ai ?_;refine ah (bJ 0 ?_);refine ah ?_;refine aG ?_;simp -dsimp only[simprocAttr,↓I,zp,au,aH];refine .inr (.inl ⟨_,_,hA,.inl (ae ?_)⟩);simp -dsimp only[simprocAttr,↓I,zp,au,aH];refine ai ?_;refine bR ?_;simp -dsimp only[simprocAttr,↓I,zp,au,aH];refine .inr (.inr ⟨_,(Aa (.mp 7 0) rfl rfl rfl rfl),ae ?_⟩);simp -dsimp only[simprocAttr,↓I,zp,au,aH];refine ai ?_;apply aF rfl<;>intro h
 ·cases h
 refine bZ ?_;refine aG ?_;simp -dsimp only[simprocAttr,↓I,zp,au,aH];refine ai ?_;refine ah ?_;refine aG ?_;simp -dsimp only[simprocAttr,↓I,zp,au,aH];refine ai ?_;apply aF rfl<;>intro h
 ·cases h
 refine aG ?_;simp -dsimp only[simprocAttr,↓I,zp,au,aH];refine ai ?_;apply aF rfl<;>intro h
 ·cases h
 refine aG ?_;simp -dsimp only[simprocAttr,↓I,zp,au,aH];refine ai ?_;apply aF rfl<;>intro h
 ·cases h
 refine aG ?_;simp -dsimp only[simprocAttr,↓I,zp,au,aH];refine .inr (.inl ⟨_,_,hf,.inl (ae ?_)⟩);simp -dsimp only[simprocAttr,↓I,zp,au,aH];refine ai ?_;refine ak ?_;simp -dsimp only[simprocAttr,↓I,zp,au,aH,zr,Tryz.results28,kI];exact iz
end Go.Proofs.YtocdpaifmnkoaaaGreatDoor
namespace Go.Av
theorem ng{P:Program}{o:Oper}{σ:St}{t:TypeId}{id m:Nat}(kt:KT)(hp:kt.plain)(ho:o.op=.makeMap t none)(hd:∀d,o.dst=some d->d<σ.n)(hid:σ.objs[id]?=some (.spare m)) :
  Cert P o σ (.mm id) (.new id (.map kt [])) :=
 Cert.qS trivial hd fun base fL a g bV h gW=>by
  have hg:=bV.good;have fV:g.objs[id]?=some (.spare m):=Eq.trans gW hid;have eH:jT g id (.spare m) (some ⟨g.w.heap.size,0,0⟩) (.map kt []) (g.w.alloc (.map #[] 0)):={
   obj:=fV
   os:=rfl
   tape:=rfl
   output:=rfl
   size:=by show g.w.heap.size<=(g.w.heap.push _).size;rw[Array.size_push];omega
   block:=fun k hk _=>cI g.w _ hk
   cell:=fun b off x hx _=>by
    have:=lr hx;rw[gh (cI g.w (.map #[] 0) this)];exact hx
   place:=fun l1 h1 _=>by
    simp only[Option.some.injEq]at h1;subst h1;exact .inl (Nat.le_refl _)
   spare:=fun _ _=>.inr (by simp[aq.aJ])
   plain:=fun h=>absurd trivial h
   gone:=by simp }
  have hle:=Le.bo hg eH;have dx:=Good.bo hg eH ⟨_,_,rfl,rfl,cD g.w _,kq.Uv ⟨#[],0,rfl,rfl,by simp,by simp,⟨by simp,by simp⟩⟩ hp⟩ (fun l1 h1 _=>by
   simp only[Option.some.injEq]at h1;subst h1;exact aO (cD g.w (.map #[] 0)))
  refine⟨.map (some g.w.heap.size),_,.inl ?_,hle,dx,?_,?_⟩
  ·simp[execOp,ho,Instr.makeMap,G.bo]
  ·simp[G.bo,Mode.post]
  exact .mm (l:=⟨g.w.heap.size,0,0⟩) (o:=.map kt []) (by simp only[G.bo];rw[List.getElem?_set_self (iU hg fV)]) (by simp only[G.bo];rw[List.getElem?_set_self (ag fV)]) (by simp[aq.aJ])
end Go.Av
namespace Go.Proofs.YtocdpaifmnkoaaaGreatDoor
open Go.Av
def iM(a b way:Int)(v:Int):Int×Int :=
 if v=0 then(1,0)else if v=1 then(0,a)else if v=2 then(0,b)else if v=4 then(a,b)
 else if way=0 then(a,0)
 else if way=1 then(if v=5 then(0,0)else if v=6 then(-1,0)else(-a,0))
 else if v=5 then(0,1)else if v=6 then(1,1)else if v=7 then(a,a)else(0,b-a)
theorem Bd{a b way:Int}(ha:-500<=a∧a<=499)(hb:0<=b∧b<=999):xX (iM a b way) [0] (du a b way):=by
 by_cases h0:way=0
 ·subst h0;simp only[du,if_true,List.cons_append,List.nil_append,xX,and_true];refine⟨.inl ⟨rfl,rfl,?_,rfl⟩,.inl ⟨rfl,rfl,?_,rfl⟩,.inr ⟨0,1,rfl,by simp,by simp,rfl,?_⟩,.inr ⟨3,2,rfl,by simp,by simp,rfl,?_⟩⟩
  ·simp only[cu];omega
  ·simp only[cu];omega
  ·constructor<;>simp[iM,cu]<;>omega
  constructor<;>simp[iM,cu]<;>omega
 by_cases h1:way=1
 ·subst h1;simp only[du,if_neg h0,if_true,List.cons_append,List.nil_append,xX,and_true];refine⟨.inl ⟨rfl,rfl,?_,rfl⟩,.inl ⟨rfl,rfl,?_,rfl⟩,.inl ⟨rfl,rfl,?_,rfl⟩,.inr ⟨5,0,rfl,by simp,by simp,rfl,?_⟩,.inr ⟨6,1,rfl,by simp,by simp,rfl,?_⟩,.inr ⟨2,3,rfl,by simp,by simp,rfl,?_⟩⟩
  ·simp only[cu];omega
  ·simp only[cu];omega
  ·simp only[cu];omega
  ·constructor<;>simp[iM,cu]<;>omega
  ·constructor<;>simp[iM,cu]<;>omega
  constructor<;>simp[iM,cu]<;>omega
 simp only[du,if_neg h0,if_neg h1,List.cons_append,List.nil_append,xX,and_true];refine⟨.inl ⟨rfl,rfl,?_,rfl⟩,.inl ⟨rfl,rfl,?_,rfl⟩,.inl ⟨rfl,rfl,?_,by simp[iM,h0,h1]⟩,.inr ⟨0,5,rfl,by simp,by simp,rfl,?_⟩,.inr ⟨1,6,rfl,by simp,by simp,rfl,?_⟩,.inr ⟨2,1,rfl,by simp,by simp,rfl,?_⟩,.inr ⟨7,3,rfl,by simp,by simp,rfl,?_⟩⟩
 ·simp only[cu];omega
 ·simp only[cu];omega
 ·simp only[cu];omega
 ·constructor<;>simp[iM,cu,h0,h1]<;>omega
 ·constructor<;>simp[iM,cu,h0,h1]<;>omega
 ·constructor<;>simp[iM,cu,h0,h1]<;>omega
 constructor<;>simp[iM,cu,h0,h1]<;>omega
theorem Iu(a b way:Int):∃i∈du a b way,i.op≠0∧(0:Int)∈i.args:=by
 unfold du;by_cases h0:way=0
 ·exact⟨⟨3,3,0,[0,1]⟩,by simp[h0],by simp,by simp⟩
 by_cases h1:way=1
 ·exact⟨⟨6,2,0,[5,0]⟩,by simp[h1],by simp,by simp⟩
 exact⟨⟨6,1,0,[0,5]⟩,by simp[h0,h1],by simp,by simp⟩
theorem Bc(a b way:Int):(du a b way).length<=7:=by
 unfold du;split
 ·simp
 split<;>simp
theorem xG(a b way:Int):(4:Int)∈[0]++(du a b way).map (·.to):=by
 unfold du;split
 ·simp
 split<;>simp
def nI:List cQ:=[⟨200,1,[],1⟩,⟨200,2,[],2⟩]
def nH:List (Value×aa):=[(.int .i64 0,aI 1)]
def rB:gJ:=⟨nI,[],[],nH⟩
def qF(T:Int->Int×Int)(l:List bI):gJ:=l.foldl (pj T) rB
def qR(T:Int->Int×Int)(l:List bI):gJ:=⟨(qF T l).L,(qF T l).W,(qF T l).D,nH⟩
def Cu(T U:Int->Int×Int)(l m:List bI):gJ:=m.foldl (zd U) (qR T l)
theorem GJ(a b way:Int):xV (iM a b way) [0] nI nH:=by
 refine⟨?_,⟨2,2,rfl⟩,fun v hv=>?_,fun k=>⟨trivial,trivial⟩⟩
 ·intro i j x y hx hy h1 h2 h3
  match i,j,hx,hy with
  | 0,0,_,_=>rfl
  | 1,1,_,_=>rfl
  | 0,1,hx,hy=>simp[nI]at hx hy;subst hx;subst hy;simp at h2
  | 1,0,hx,hy=>simp[nI]at hx hy;subst hx;subst hy;simp at h2
  | i+2,_,hx,_=>simp[nI]at hx
  | _,j+2,_,hy=>simp[nI]at hy
 simp only[List.mem_singleton]at hv;subst hv;exact⟨1,rfl,.var (n:=2) (late:=2) rfl⟩
theorem Ic{T U:Int->Int×Int}(hU:U 0=(1,0))(h:xV T [0] nI nH)(l:List bI):xV U [0] (qR T l).L nH:=by
 obtain⟨h1,M,hM,_⟩:=jQ (vD T) l [0] rB h;have hv:(qR T l).L[1]?=some ⟨200,2,[],2⟩:=by
  show(List.foldl (pj T) rB l).L[1]?=_;rw[hM];rfl
 refine⟨h1.uniq,⟨2,2,hv⟩,fun v xA=>?_,fun k=>⟨trivial,trivial⟩⟩;simp only[List.mem_singleton]at xA;subst xA;rw[hU];exact⟨1,rfl,.var hv⟩
theorem Cw{T U:Int->Int×Int}{a b c:Int}(hU:U 0=(1,0))(h:xV T [0] nI nH){l m:List bI}(hl:(4:Int)∈[0]++l.map (·.to))(eN:(4:Int)∈[0]++m.map (·.to))(e1:T 4=(a,b))(e2:U 4=(a,c)):∃t s:Nat,bC (qF T l).E (.int .i64 4)=some (aI t)∧bC (Cu T U l m).E (.int .i64 4)=some (aI s)∧(t=s↔b=c):=by
 obtain⟨h1,M,hM,_⟩:=jQ (vD T) l [0] rB h;obtain⟨h2,N,hN,_⟩:=jQ (vE U) m [0] (qR T l) (Ic hU h l);obtain⟨t,t1,t2⟩:=h1.env 4 hl;obtain⟨s,s1,s2⟩:=h2.env 4 eN;rw[e1]at t2;rw[e2]at s2;have t3:lY (List.foldl (zd U) (qR T l) m).L t a b:=by
  rw[hN];exact t2.more N
 refine⟨t,s,t1,s1,fun e=>?_,fun e=>?_⟩
 ·subst e;exact(lY.eq t3 s2).2
 subst e;exact lY.inj h2.uniq t3 s2
theorem pY(a b way:Int):iM a b way 0=(1,0):=by simp[iM]
theorem vm(a b way:Int):iM a b way 4=(a,b):=by simp[iM]
theorem Dd(a b c way other:Int):∃t s:Nat,bC (qF (iM a b way) (du a b way)).E (.int .i64 4)=some (aI t)∧bC (Cu (iM a b way) (iM a c other) (du a b way) (du a c other)).E (.int .i64 4)=some (aI s)∧(t=s↔b=c) :=
 Cw (pY a c other) (GJ a b way) (xG a b way) (xG a c other) (vm a b way) (vm a c other)
theorem Dv(f g:Func)(d1 h1 d2 h2:List (Value×aa))(cf:Pc f d1 h1)(cg:Pc g d2 h2)(bf bg:Block)(PB:f.blocks[0]?=some bf)(PC:g.blocks[0]?=some bg)(Ur:bf.params=[0])(Vv:bg.params=[0])(er:List aa)(x2:aq)(hu:∀ef eg:aq,ef.upto 26->eg.upto 26->tG (bF f d1 h1::bF g d2 h2::er) x2 .gone ef eg) :
  aK Tryz.prog 27 (pO eM (.cells (.mp 13 0::bF f d1 h1::bF g d2 h2::er)) x2 eM eM eM []) [.mp 7 0,lL] fun r O'=>r=.cN [.agg [bF f d1 h1,.v (.bool true),aI 0,aI 0,.mm 34,aI 0],.agg [bF g d2 h2,.v (.bool false),aI 0,aI 0,.mm 36,aI 0],.mp 25 0]∧O'=rO (bF f d1 h1::bF g d2 h2::er) x2 nI .gone (.cells [bF f d1 h1,.v (.bool true),aI 0,aI 0,.mm 34,aI 0]) (.cells [bF g d2 h2,.v (.bool false),aI 0,aI 0,.mm 36,aI 0]) [] []++[.map .pair [(.agg #[.int .i64 0,.int .i64 0],aI 0),(.agg #[.int .i64 1,.int .i64 0],aI 1)],.cells [.mp 7 0,.mm 26,.os 32 2 1,.os 33 2 1],.gone,.gone,.gone,.gone,.cells [aI 0,aI 0],.cells [aI 1,aI (-1)],.map (.int .i64) nH,.cells [bF f d1 h1,.v (.bool true),aI 0,aI 0,.mm 34,aI 0],.map (.int .i64) nH,.cells [bF g d2 h2,.v (.bool false),aI 0,aI 0,.mm 36,aI 0],.gone]:=by
 have z:tG (bF f d1 h1::bF g d2 h2::er) x2 .gone (.cells [.v (.pointer none),.v (.bool false),aI 0,aI 0,.v (.map none),aI 0]) (.cells [.v (.pointer none),.v (.bool false),aI 0,aI 0,.v (.map none),aI 0]):=hu _ _ ⟨trivial,trivial,trivial,trivial,trivial,trivial,trivial⟩ ⟨trivial,trivial,trivial,trivial,trivial,trivial,trivial⟩;have m1:=va eM (.cells (.mp 13 0::bF f d1 h1::bF g d2 h2::er)) x2 eM eM eM .gone (.cells [.v (.pointer none),.v (.bool false),aI 0,aI 0,.v (.map none),aI 0]) (.cells [.v (.pointer none),.v (.bool false),aI 0,aI 0,.v (.map none),aI 0]) [] z.pZ (by
  intro o ho;simp only[List.mem_cons,List.not_mem_nil,or_false]at ho;rcases ho with rfl|rfl|rfl
  ·exact z.eU
  ·exact z.ef
  exact z.eg)
 have m2:=Aq f g d1 h1 d2 h2 cf cg er x2 [] .gone _ _ [] [] z trivial trivial;have m3:=(qV eM (.cells (.mp 13 0::bF f d1 h1::bF g d2 h2::er)) x2 eM eM eM [] (by simp) z.pZ).frame (by rfl) (by simp[av,aa.upto,pO]) (bA z.pZ []);have e1:dC [] 200 (([]:List cQ).length+1:Nat) []=(0,[⟨200,1,[],1⟩]):=rfl;rw[e1]at m3;obtain⟨L1,jr⟩:∃L1:List cQ,L1=[⟨200,1,[],1⟩]:=⟨_,rfl⟩
 have CN:L1.length<=1000000000:=by rw[jr];simp
 have e2:dC L1 200 (L1.length+1:Nat) []=(1,nI):=by rw[jr];rfl
 rw[<-jr]at m3;have m4:=(Am f d1 h1 bf PB Ur 0 (.map (.int .i64) []) (.cells [bF g d2 h2,.v (.bool false),aI 0,aI 0,.mm 36,aI 0]) trivial ⟨cg.up 38,trivial,trivial,trivial,show 36<38 by decide,trivial,trivial⟩ cf.up (bF f d1 h1::bF g d2 h2::er) x2 L1 .gone (.cells [.v (.pointer none),.v (.bool false),aI 0,aI 0,.v (.map none),aI 0]) (.cells [.v (.pointer none),.v (.bool false),aI 0,aI 0,.v (.map none),aI 0]) [] [] CN z trivial trivial)
 rw[e2]at m4;have m5:=(Eo (bF f d1 h1::bF g d2 h2::er) x2 nI .gone (.cells [.v (.pointer none),.v (.bool false),aI 0,aI 0,.v (.map none),aI 0]) (.cells [.v (.pointer none),.v (.bool false),aI 0,aI 0,.v (.map none),aI 0]) [] [] 1 (-1) z trivial trivial).frame rfl (by simp[av,aa.upto,rO]) (qY z nI (W:=[]) (D:=[]) trivial trivial 1 (-1));have m6:=(An g d2 h2 bg PC Vv 0 1 (.map (.int .i64) nH) (.cells [bF f d1 h1,.v (.bool true),aI 0,aI 0,.mm 34,aI 0]) ⟨trivial,trivial⟩ ⟨cf.up 38,trivial,trivial,trivial,show 34<38 by decide,trivial,trivial⟩ cg.up (bF f d1 h1::bF g d2 h2::er) x2 nI .gone (.cells [.v (.pointer none),.v (.bool false),aI 0,aI 0,.v (.map none),aI 0]) (.cells [.v (.pointer none),.v (.bool false),aI 0,aI 0,.v (.map none),aI 0]) [] [] z trivial trivial).frame rfl (by simp[av,aa.upto,rO]) (cO (k:=38) (dZ z nI (W:=[]) (D:=[]) trivial trivial) (by omega) (by
  intro o ho;simp only[List.mem_cons,List.not_mem_nil,or_false]at ho;rcases ho with rfl|rfl|rfl|rfl|rfl|rfl|rfl|rfl|rfl|rfl|rfl|rfl
  ·exact⟨trivial,trivial,trivial⟩
  ·exact⟨show 7<38 by decide,show 26<38 by decide,show 32<38 by decide,show 33<38 by decide,trivial⟩
  iterate 4 trivial
  ·exact⟨trivial,trivial,trivial⟩
  ·exact⟨trivial,trivial,trivial⟩
  ·exact⟨trivial,trivial⟩
  ·exact⟨cf.up 38,trivial,trivial,trivial,show 34<38 by decide,trivial,trivial⟩
  ·trivial
  exact⟨cg.up 38,trivial,trivial,trivial,show 36<38 by decide,trivial,trivial⟩))
 obtain⟨r1,q1,u1,s1⟩:=cf;obtain⟨r2,q2,u2,s2⟩:=cg;generalize nI=L2 at *;unfold nH at m6 ⊢;unfold lL at m2 ⊢;unfold bF at m1 m2 m3 m4 m5 m6 r2 q2 ⊢;unfold rO at m2 m4 m5 m6 ⊢;unfold pO at m1 m3 ⊢;refine l8 hT Tryz.func27 rfl (by kernel_rfl) (by simp[Tryz.ntmps27]) ?_;show cG Tryz.prog _ _ _ ⟨154,_,_⟩;dsimp only[Tmp,TypeId,slotsOf];refine aG ?_;simp -dsimp only[simprocAttr,↓I,zp,au,aH];refine ai ?_;refine aR 3 15 (.ip none [aI 0,aI 0,.aB 2 [.agg [aI 0,aI 0]] .sh,.aB 3 [] .sh]) rfl (by simp[aq.aJ]) trivial rfl ?_ ?_;rotate_left;simp -dsimp only[simprocAttr,↓I,zp,au,aH];rotate_left
 ·exact cw.mp rfl rfl
 refine aG ?_;simp -dsimp only[simprocAttr,↓I,zp,au,aH];refine .inr (.inl ⟨_,_,m1,.inl (ae ?_)⟩);simp -dsimp only[simprocAttr,↓I,zp,au,aH];refine ai ?_;refine aG ?_;simp -dsimp only[simprocAttr,↓I,zp,au,aH,OZ,Option.getD_none];refine ai ?_;refine aG ?_;simp -dsimp only[simprocAttr,↓I,zp,au,aH];refine .inr (.inl ⟨_,_,m2,.inl (ae ?_)⟩);simp -dsimp only[simprocAttr,↓I,zp,au,aH];refine ai ?_;refine aG ?_;simp -dsimp only[simprocAttr,↓I,zp,au,aH];refine .inr (.inl ⟨_,_,(m3 _),.inl (ae ?_)⟩);simp -dsimp only[simprocAttr,↓I,zp,au,aH];refine ai ?_;refine l4 2 ?_;simp only[List.replicate,List.cons_append,List.nil_append];refine aL (kP hm (lZ.BO ⟨false,false⟩ hT 6 rfl rfl (by simp) ?_));simp -dsimp only[simprocAttr,↓I,zp,au,aH];refine lZ.op rfl rfl (ng (id:=34) (m:=0) (.int .i64) trivial rfl (by simp) rfl) ?_;simp -dsimp only[simprocAttr,↓I,zp,au,aH];refine lZ.BO ⟨false,false⟩ hT 2 rfl rfl (by simp) ?_;simp -dsimp only[simprocAttr,↓I,zp,au,aH];refine lZ.op rfl rfl (iI hT (id:=35) (m:=0) rfl (by simp) Dy rfl) ?_;simp -dsimp only[simprocAttr,↓I,zp,au,aH];refine lZ.BO ⟨false,false⟩ hT 1 rfl rfl (by simp) ?_;simp -dsimp only[simprocAttr,↓I,zp,au,aH];refine lZ.fin rfl ⟨ob (by kernel_rfl),?_⟩;refine ai ?_;refine l4 2 ?_;simp only[List.replicate,List.cons_append,List.nil_append];refine aL (kP hm (lZ.BO ⟨false,false⟩ hT 6 rfl rfl (by simp) ?_));simp -dsimp only[simprocAttr,↓I,zp,au,aH];refine lZ.op rfl rfl (ng (id:=36) (m:=0) (.int .i64) trivial rfl (by simp) rfl) ?_
 simp -dsimp only[simprocAttr,↓I,zp,au,aH];refine lZ.BO ⟨false,false⟩ hT 2 rfl rfl (by simp) ?_;simp -dsimp only[simprocAttr,↓I,zp,au,aH];refine lZ.op rfl rfl (iI hT (id:=37) (m:=0) rfl (by simp) Dy rfl) ?_;simp -dsimp only[simprocAttr,↓I,zp,au,aH];refine lZ.BO ⟨false,false⟩ hT 1 rfl rfl (by simp) ?_;simp -dsimp only[simprocAttr,↓I,zp,au,aH];refine lZ.fin rfl ⟨ob (by kernel_rfl),?_⟩;refine ai ?_;refine aG ?_;simp -dsimp only[simprocAttr,↓I,zp,au,aH];refine .inr (.inl ⟨_,_,m4,.inl (ae ?_)⟩);simp -dsimp only[simprocAttr,↓I,zp,au,aH];refine ai ?_;refine bR ?_;simp -dsimp only[simprocAttr,↓I,zp,au,aH];refine ai ?_;refine ah (bJ 1 ?_);refine aG ?_;simp -dsimp only[simprocAttr,↓I,zp,au,aH];refine ai ?_;apply fK rfl<;>intro h;rotate_left
 ·cases h
 refine bZ ?_;refine aL (ah ?_);refine aG ?_;simp -dsimp only[simprocAttr,↓I,zp,au,aH];refine ai ?_;refine aR 13 38 (.ip none [aI 0,aI 0]) rfl (by simp[aq.aJ]) trivial rfl ?_ ?_;rotate_left;simp -dsimp only[simprocAttr,↓I,zp,au,aH];rotate_left
 ·exact cw.mp rfl rfl
 refine aG ?_;simp -dsimp only[simprocAttr,↓I,zp,au,aH];refine⟨ob (by kernel_rfl),?_⟩;refine ai ?_;refine bR ?_;simp -dsimp only[simprocAttr,↓I,zp,au,aH];refine .inl ⟨_,r2,⟨u2 0,trivial,trivial,trivial⟩,ae ?_⟩;simp -dsimp only[simprocAttr,↓I,zp,au,aH];refine .inl ⟨_,q2,⟨u2 0,trivial,trivial⟩,ae ?_⟩;simp -dsimp only[simprocAttr,↓I,zp,au,aH];refine⟨ob (by kernel_rfl),?_⟩;refine ai ?_;apply aF rfl<;>intro h
 ·cases h
 refine bZ ?_;refine aG ?_;simp -dsimp only[simprocAttr,↓I,zp,au,aH];refine .inr (.inr ⟨_,(m5 _),ae ?_⟩);simp -dsimp only[simprocAttr,↓I,zp,au,aH];refine ai ?_;refine bR ?_;simp -dsimp only[simprocAttr,↓I,zp,au,aH];refine ai ?_;apply aF rfl<;>intro h;rotate_left
 ·cases h
 refine aN ?_;simp -dsimp only[bH,ne_eq,Nat.reduceEqDiff,reduceCtorEq];refine fE ?_;simp -dsimp only[simprocAttr,↓I,zp,au,aH];refine ai ?_;refine cU ?_;refine aG ?_;simp -dsimp only[simprocAttr,↓I,zp,au,aH];refine ai ?_;apply fK rfl<;>intro h
 ·cases h
 refine aN ?_;simp -dsimp only[bH,ne_eq,Nat.reduceEqDiff,reduceCtorEq,a7];refine aG ?_;simp -dsimp only[simprocAttr,↓I,zp,au,aH];refine .inr (.inl ⟨_,_,(m6 _),.inl (ae ?_)⟩);simp -dsimp only[simprocAttr,↓I,zp,au,aH];refine ai ?_;refine bR ?_;simp -dsimp only[simprocAttr,↓I,zp,au,aH];refine ai ?_;refine ah (bJ 0 ?_);refine aG ?_;simp -dsimp only[simprocAttr,↓I,zp,au,aH];refine ai ?_;apply fK rfl<;>intro h
 ·cases h
 refine aN ?_;simp -dsimp only[bH,ne_eq,Nat.reduceEqDiff,reduceCtorEq,a7];refine aG ?_;simp -dsimp only[simprocAttr,↓I,zp,au,aH];refine⟨ob (by kernel_rfl),?_⟩;refine ai ?_;refine ak ?_;simp -dsimp only[simprocAttr,↓I,zp,au,aH,ry,Tryz.results27,eV,kV,iu,gR,fv,gk]
theorem zQ{P:Program}{kb:Nat}{c:Code}{Q:dT->St->Prop}{n:Nat}{bt:List (Nat×aa)}{O:List aq}(id:Nat){o:aq}(hid:O[id]?=some o)(hp:¬o.aJ)(hl:o.live)(h:cG P kb c Q ⟨n,bt,O.set id .gone⟩):cG P kb c Q ⟨n,bt,O⟩ :=
 tY id hid hp hl bt (fun _ y h=>⟨y,h,cw.refl y⟩) h
theorem F0(f g:Func)(d1 h1 d2 h2:List (Value×aa))(cf:Pc f d1 h1)(cg:Pc g d2 h2)(bf bg:Block)(PB:f.blocks[0]?=some bf)(PC:g.blocks[0]?=some bg)(Ur:bf.params=[0])(Vv:bg.params=[0])(v:Bool)(bu:Int)(L2:List cQ)(W1 D1 E1 F2:List (Value×aa))
  (PQ:aK Tryz.prog 28 (rO (sr (bF f d1 h1) (bF g d2 h2) (.aB 4 [lL] .sh) (.ms 8 0 1 1) (.aB 1 [] .sh) 100000) (.cells [.v (.bool true)]) nI .gone .gone .gone [] []++[.map .pair [(.agg #[.int .i64 0,.int .i64 0],aI 0),(.agg #[.int .i64 1,.int .i64 0],aI 1)],.cells [.mp 7 0,.mm 26,.os 32 2 1,.os 33 2 1],.gone,.gone,.gone,.gone,.cells [aI 0,aI 0],.cells [aI 1,aI (-1)],.map (.int .i64) nH,.cells [bF f d1 h1,.v (.bool true),aI 0,aI 0,.mm 34,aI 0],.map (.int .i64) nH,.cells [bF g d2 h2,.v (.bool false),aI 0,aI 0,.mm 36,aI 0],.gone,.cells [bF f d1 h1,.v (.bool true),aI 0,aI 0,.mm 34,aI 0],.cells [bF g d2 h2,.v (.bool false),aI 0,aI 0,.mm 36,aI 0]]) [.mp 7 0,.agg [bF f d1 h1,.v (.bool true),aI 0,aI 0,.mm 34,aI 0],.agg [bF g d2 h2,.v (.bool false),aI 0,aI 0,.mm 36,aI 0],.mp 25 0] fun r O'=>r=.v (.bool v)∧O'=rO (sr (bF f d1 h1) (bF g d2 h2) (.aB 4 [lL] .sh) (.ms 8 0 1 1) (.aB 1 [] .sh) bu) (.cells [.v (.bool true)]) L2 .gone .gone .gone W1 D1++[.map .pair [(.agg #[.int .i64 0,.int .i64 0],aI 0),(.agg #[.int .i64 1,.int .i64 0],aI 1)],.cells [.mp 7 0,.mm 26,.os 32 2 1,.os 33 2 1],.gone,.gone,.gone,.gone,.cells [aI 0,aI 0],.cells [aI 1,aI (-1)],.map (.int .i64) E1,.cells [bF f d1 h1,.v (.bool true),aI 0,aI 0,.mm 34,aI 0],.map (.int .i64) F2,.cells [bF g d2 h2,.v (.bool false),aI 0,aI 0,.mm 36,aI 0],.gone,.cells [bF f d1 h1,.v (.bool true),aI 0,aI 0,.mm 34,aI 0],.cells [bF g d2 h2,.v (.bool false),aI 0,aI 0,.mm 36,aI 0]]) :
  aK Tryz.prog 13 [.gone,.gone,.gone,.gone,.gone,.gone,eM,.cells (yv (.v (.pointer none)) (bF f d1 h1) (bF g d2 h2) (.aB 4 [lL] .sh) (.aB 1 [] .ex) (.aB 1 [] .ex) 0)] [.mp 7 0] fun r O'=>r=.v (.bool v)∧O'=pO eM (.cells (.mp 13 0::(sr (bF f d1 h1) (bF g d2 h2) (.aB 4 [lL] .sh) (.ms 8 0 1 1) (.aB 1 [] .sh) bu))) (.cells [.v (.bool true)]) eM eM eM L2:=by
 have Yk:∀ef eg:aq,ef.upto 26->eg.upto 26->tG (sr (bF f d1 h1) (bF g d2 h2) (.aB 4 [lL] .sh) (.ms 8 0 1 1) (.aB 1 [] .sh) 100000) (.cells [.v (.bool true)]) .gone ef eg:=fun ef eg a b=>⟨⟨cf.up 15,cg.up 15,⟨⟨l6 15,trivial⟩,trivial⟩,show 6<15 by decide,show 8<15 by decide,⟨trivial,trivial⟩,trivial,trivial,trivial,trivial⟩,⟨trivial,trivial⟩,trivial,a,b⟩
 have dD:=Dv f g d1 h1 d2 h2 cf cg bf bg PB PC Ur Vv [.aB 4 [lL] .sh,.mm 6,.ms 8 0 1 1,.aB 1 [] .sh,aI 100000,.v (.bool false),.v (.bool false)] (.cells [.v (.bool true)]) Yk;have WN:=wW eM (.cells [.v (.pointer none),bF f d1 h1,bF g d2 h2,.aB 4 [lL] .sh,.mm 6,.ms 8 0 1 1,.aB 1 [] .sh,aI 100000,.v (.bool false),.v (.bool false)]) (.cells [.v (.bool true)]) (by
  intro o ho;simp only[List.mem_cons,List.not_mem_nil,or_false]at ho;rcases ho with rfl|rfl|rfl
  ·trivial
  ·exact⟨trivial,cf.up 14,cg.up 14,⟨⟨l6 14,trivial⟩,trivial⟩,show 6<14 by decide,show 8<14 by decide,⟨trivial,trivial⟩,trivial,trivial,trivial,trivial⟩
  exact⟨trivial,trivial⟩)
 have aW:∀o∈pO eM (.cells (.mp 13 0::(sr (bF f d1 h1) (bF g d2 h2) (.aB 4 [lL] .sh) (.ms 8 0 1 1) (.aB 1 [] .sh) bu))) (.cells [.v (.bool true)]) eM eM eM L2,o.upto 15:=bA (by
  intro o ho;simp only[List.mem_cons,List.not_mem_nil,or_false]at ho;rcases ho with rfl|rfl|rfl|rfl|rfl|rfl
  ·trivial
  ·exact⟨show 13<15 by decide,cf.up 15,cg.up 15,⟨⟨l6 15,trivial⟩,trivial⟩,show 6<15 by decide,show 8<15 by decide,⟨trivial,trivial⟩,trivial,trivial,trivial,trivial⟩
  ·exact⟨trivial,trivial⟩
  iterate 3 trivial) L2
 have uf:=cf.up 0;have ug:=cg.up 0;have sf:=cf.sh;have sg:=cg.sh;unfold pO at dD;simp only[jf,List.map_nil,List.length_nil]at dD;unfold rO at dD;unfold sr rO at PQ;unfold pO sr at aW ⊢;unfold yv;generalize bF f d1 h1=ca at *;generalize bF g d2 h2=cb at *;unfold lL at dD WN PQ aW ⊢;refine zf true 15 Tryz.func13 Tryz.ntmps13 ?_;dsimp only[Tmp,TypeId,slotsOf];refine aG ?_;simp -dsimp only[simprocAttr,↓I,zp,au,aH];refine ai ?_;refine aG ?_;simp -dsimp only[simprocAttr,↓I,zp,au,aH];refine ai ?_;refine aG ?_;simp -dsimp only[simprocAttr,↓I,zp,au,aH];simp only[List.flatten_cons,List.flatten_nil,List.append_nil,List.length_cons,List.length_nil,Nat.le_refl,true_and,Nat.reduceAdd];refine ai ?_;refine aG ?_;simp -dsimp only[simprocAttr,↓I,zp,au,aH];refine ai ?_;refine aG ?_;simp -dsimp only[simprocAttr,↓I,zp,au,aH];refine ai ?_;refine aL (ah (bJ 1 ?_));refine bR ?_;simp -dsimp only[simprocAttr,↓I,zp,au,aH];refine ai ?_;apply aF rfl<;>intro h;rotate_left
 ·cases h
 refine bZ ?_;refine ah ?_;refine aG ?_;simp -dsimp only[simprocAttr,↓I,zp,au,aH];refine ai ?_;refine aG ?_;simp -dsimp only[simprocAttr,↓I,zp,au,aH];refine ai ?_;refine aG ?_;simp -dsimp only[simprocAttr,↓I,zp,au,aH];refine .inr (.inl ⟨_,_,WN,.inl (ae ?_)⟩);simp -dsimp only[simprocAttr,↓I,zp,au,aH];refine ai ?_;refine lq 13 0 rfl rfl ?_;simp only[List.cons_append,List.nil_append,List.set_cons_succ,List.set_cons_zero,List.length_cons,List.length_nil,Nat.reduceAdd];refine aG ?_;simp -dsimp only[simprocAttr,↓I,zp,au,aH];refine .inr (.inl ⟨_,_,dD,.inl (ae ?_)⟩);simp -dsimp only[simprocAttr,↓I,zp,au,aH];refine ai ?_;refine zQ 16 rfl (by simp[aq.aJ]) trivial ?_;refine zQ 17 rfl (by simp[aq.aJ]) trivial ?_;simp only[List.set_cons_succ,List.set_cons_zero];refine aG ?_;simp -dsimp only[simprocAttr,↓I,zp,au,aH];refine .inr (.inl ⟨_,_,PQ,.inl (ae ?_)⟩);simp -dsimp only[simprocAttr,↓I,zp,au,aH];refine ai ?_;apply aF rfl<;>intro h
 ·have hv:v=false:=by simpa using h
  refine aG ?_;simp -dsimp only[simprocAttr,↓I,zp,au,aH];refine ai ?_;refine ak ?_;simp -dsimp only[simprocAttr,↓I,zp,au,aH,zr,Tryz.results13,kI];rw[hv];exact⟨aW,rfl⟩
 have hv:v=true:=by simpa using h
 refine k7 ?_;refine cU ?_;refine bR ?_;simp -dsimp only[simprocAttr,↓I,zp,au,aH];refine ai ?_;apply aF rfl<;>intro h
 ·cases h
 refine aN ?_;simp -dsimp only[bH,ne_eq,Nat.reduceEqDiff,reduceCtorEq,a7];refine aG ?_;simp -dsimp only[simprocAttr,↓I,zp,au,aH];refine ai ?_;refine ak ?_;simp -dsimp only[simprocAttr,↓I,zp,au,aH,zr,Tryz.results13];rw[hv];exact⟨aW,rfl⟩
theorem Ac:∀(l:List bI) (W:List (Value×aa)),(∀i∈l,i.to≠0)->bC W (.int .i64 0)=none->bC (l.foldl (fun d i=>cB d (.int .i64 i.to) i.enc) W) (.int .i64 0)=none
 | [],_,_,h=>h
 | i::r,W,hl,h=>Ac r _ (fun j hj=>hl j (List.mem_cons_of_mem _ hj)) (by rw[iY,if_neg (hl i List.mem_cons_self),h])
theorem AK:∀(l:List bI) (W:List (Value×aa)),bC W (.int .i64 0)=some (aI 0)->bC (l.foldl (fun d i=>cB d (.int .i64 i.to) (aI 0)) W) (.int .i64 0)=some (aI 0)
 | [],_,h=>h
 | i::r,W,h=>AK r _ (by
   rw[iY];split
   ·rfl
   exact h)
theorem zW(l:List bI)(hl:∀i∈l,i.to≠0):Pc (bk l) (gY l) (ic l) where
 ready:=Di (bk l) (gY l) (ic l) (b:=⟨[0],l,⟨0,4,0,[],[]⟩⟩) rfl rfl (AK l _ rfl) ⟨tx 0 l,tn 0 l⟩
 YE:=A5 (bk l) (gY l) (ic l) (Ac l [] hl rfl)
 up:=fun k=>rF (tn k l) (tx k l)
 sh:=rfl
theorem z8(l m:List bI)(hf:(bk l).fit)(hg:(bk m).fit)(cf:bM (bk l)=0)(cg:bM (bk m)=0)(hl:l.length<=1000)(eN:m.length<=1000)(v:Bool){O2:List aq}
  (bL:aK Tryz.prog 13 [.gone,.gone,.gone,.gone,.gone,.gone,eM,.cells (yv (.v (.pointer none)) (bF (bk l) (gY l) (ic l)) (bF (bk m) (gY m) (ic m)) (.aB 4 [lL] .sh) (.aB 1 [] .ex) (.aB 1 [] .ex) 0)] [.mp 7 0] fun r O'=>r=.v (.bool v)∧O'=O2) :
  bw Tryz.prog 6 [(bk l).enc,(bk m).enc,.agg [.aB 4 [] .sh]] (aI (if v=true then 0 else 14)):=by
 have hv:=DD (bk l) (bk m) hf hg cf cg;have he:=tg l m hf hg cf cg hl eN;have b1:(bk l).blocks[0]?=some ⟨[0],l,⟨0,4,0,[],[]⟩⟩:=rfl;have b2:(bk m).blocks[0]?=some ⟨[0],m,⟨0,4,0,[],[]⟩⟩:=rfl;generalize yv (.v (.pointer none)) (bF (bk l) (gY l) (ic l)) (bF (bk m) (gY m) (ic m)) (.aB 4 [lL] .sh) (.aB 1 [] .ex) (.aB 1 [] .ex) 0=ec at *;refine zf true 0 Tryz.func6 Tryz.ntmps6 ?_;dsimp only[Tmp,TypeId,slotsOf];refine aG ?_;simp -dsimp only[simprocAttr,↓I,zp,au,aH];refine ai ?_;refine aR 3 0 (.ip none [aI (-1),aM (bk l).blocks]) rfl (by simp[aq.aJ]) trivial rfl ?_ ?_;rotate_left;simp -dsimp only[simprocAttr,↓I,zp,au,aH];rotate_left
 ·exact cw.mp rfl rfl
 refine aR 4 1 (.ip none [aI (-1),aM (bk m).blocks]) rfl (by simp[aq.aJ]) trivial rfl ?_ ?_;rotate_left;simp -dsimp only[simprocAttr,↓I,zp,au,aH];rotate_left
 ·exact cw.mp rfl rfl
 refine aR 5 2 (.ip none [.aB 4 [] .sh]) rfl (by simp[aq.aJ]) trivial rfl ?_ ?_;rotate_left;simp -dsimp only[simprocAttr,↓I,zp,au,aH];rotate_left
 ·exact cw.mp rfl rfl
 refine bR ?_;simp -dsimp only[simprocAttr,↓I,zp,au,aH];refine .inl ⟨_,hv,by simp only[av,aa.upto,zt,zu,ay,aU,Edge.aj,bI.aj,Block.aj],ae ?_⟩;simp -dsimp only[simprocAttr,↓I,zp,au,aH];refine ai ?_;refine aG ?_;simp -dsimp only[simprocAttr,↓I,zp,au,aH];refine ai ?_;apply aF rfl<;>intro h
 ·cases h
 refine bZ ?_;cases v with
 | true =>
  refine bR ?_;simp -dsimp only[simprocAttr,↓I,zp,au,aH,b1,b2];refine .inr (.inl ⟨_,_,he,.inl (ae ?_)⟩);simp -dsimp only[simprocAttr,↓I,zp,au,aH];refine .inr (.inl ⟨_,_,bL,.inl (ae ?_)⟩);simp -dsimp only[simprocAttr,↓I,zp,au,aH];refine⟨ob (by kernel_rfl),?_⟩;refine ai ?_;apply aF rfl<;>intro h
  ·cases h
  refine bZ ?_;refine aG ?_;simp -dsimp only[simprocAttr,↓I,zp,au,aH];refine ai ?_;refine ak ?_;simp -dsimp only[simprocAttr,↓I,zp,au,aH,zr,Tryz.results6]
 | false =>
  refine bR ?_;simp -dsimp only[simprocAttr,↓I,zp,au,aH,b1,b2];refine .inr (.inl ⟨_,_,he,.inl (ae ?_)⟩);simp -dsimp only[simprocAttr,↓I,zp,au,aH];refine .inr (.inl ⟨_,_,bL,.inl (ae ?_)⟩);simp -dsimp only[simprocAttr,↓I,zp,au,aH];refine⟨ob (by kernel_rfl),?_⟩;refine ai ?_;apply aF rfl<;>intro h;rotate_left
  ·cases h
  refine aG ?_;simp -dsimp only[simprocAttr,↓I,zp,au,aH];refine ai ?_;refine ak ?_;simp -dsimp only[simprocAttr,↓I,zp,au,aH,zr,Tryz.results6]
theorem EX(f:Func)(n:Nat)(S:Ds)(h:S.again=false):oW f n S=S:=by
 cases n<;>simp[oW,h]
theorem Ba(l:List bI):uE (bk l)=([⟨1,0⟩],⟨1,0⟩):=by
 have hs:uF (bk l)=⟨[⟨1,0⟩],⟨1,0⟩,true⟩:=by rfl
 have hr:rJ 0 ⟨[⟨1,0⟩],⟨1,0⟩,false⟩ (bk l).blocks=⟨[⟨1,0⟩],⟨1,0⟩,false⟩:=by rfl
 have e:oW (bk l) 20000 (uF (bk l))=⟨[⟨1,0⟩],⟨1,0⟩,false⟩:=by
  rw[hs];show oW (bk l) (19999+1) _=_;rw[oW,if_pos rfl,hr,EX _ _ _ rfl]
 rw[uE,e]
theorem Er(a b way:Int):∀i∈du a b way,i.to≠0:=by
 unfold du;split
 ·simp
 split<;>simp
theorem Bb{a b:Int}(way:Int)(ha:-500<=a∧a<=499)(hb:0<=b∧b<=999):(bk (du a b way)).fit:=by
 unfold du;split
 ·simp[bk,Func.fit,Block.fit,bI.fit,Term.fit,oY,ss];omega
 split
 ·simp[bk,Func.fit,Block.fit,bI.fit,Term.fit,oY,ss];omega
 simp[bk,Func.fit,Block.fit,bI.fit,Term.fit,oY,ss];omega
theorem qJ{n:Int}(to:Int)(h:cu n):fi ⟨to,0,n,[]⟩=0:=by
 simp[fi,xm,su,xn,bh,cA,h]
theorem vn{a b:Int}(way:Int)(ha:-500<=a∧a<=499)(hb:0<=b∧b<=999):bM (bk (du a b way))=0:=by
 have hd:=Ba (du a b way);have f1:=qJ (n:=a) 1 (by simp only[cu];omega);have f2:=qJ (n:=b) 2 (by simp only[cu];omega);have e0:∀l,yt (bk l) ⟨0,4,0,[],[]⟩=0:=fun l=>by rfl
 have key:∀l:List bI,l.length<=1000->(kE 0 0 [(0,(0,0))] l).1=0->oA (kE 0 0 [(0,(0,0))] l).2 [⟨1,0⟩] ⟨1,0⟩ 0 ⟨[0],l,⟨0,4,0,[],[]⟩⟩=true->bM (bk l)=0:=fun l hl h1 h2=>by
  have hb:fG (bk l) 1 0 []=(0,(kE 0 0 [(0,(0,0))] l).2):=by
   have hp:fI 0 [] [0]=(0,[(0,(0,0))]):=by rfl
   have hk:bQ (bk l) 0=⟨[0],l,⟨0,4,0,[],[]⟩⟩:=rfl;have ru:iT (bk l) [] 0=(0,(kE 0 0 [(0,(0,0))] l).2):=by
    rw[iT,hk];simp only[hp,h1,e0,ne_eq,not_true_eq_false,if_false]
   simp only[fG,ru,ne_eq,not_true_eq_false,if_false]
  have hw:tl 0 (bk l).blocks<=1024:=by
   simp only[bk,tl];rw[nc .i64 _ (by simp[IntKind.min,IntKind.bits,IntKind.signed]<;>omega) (by simp[IntKind.max,IntKind.bits,IntKind.signed]<;>omega)];omega
  have hlen:(bk l).blocks.length=1:=rfl;rw[bM,hlen,hb,xS,Ba];have hk:(bQ (bk l) 0).params.length=1:=rfl;have hn:within (bk l).name (-1) 1048575=true:=by rfl
  rw[if_neg (by omega),if_neg (by rw[hk];omega),hn];simp only[Bool.true_eq_false,if_false,ne_eq,not_true_eq_false];have dt:kz (kE 0 0 [(0,(0,0))] l).2 [⟨1,0⟩] ⟨1,0⟩ 0 (bk l).blocks=true:=by
   simp only[bk,kz,h2,Bool.and_self]
  rw[dt];rfl
 unfold du;split
 ·refine key _ (by simp) ?_ ?_
  ·simp[kE,dq,within,gN,f1,f2,show fi ⟨3,3,0,[0,1]⟩=0 from rfl,show fi ⟨4,1,0,[3,2]⟩=0 from rfl]
  simp[kE,dq,within,gN,f1,f2,show fi ⟨3,3,0,[0,1]⟩=0 from rfl,show fi ⟨4,1,0,[3,2]⟩=0 from rfl,oA,kF,po,ly]
 split
 ·have g5:=qJ (n:=0) 5 (by simp only[cu];omega);refine key _ (by simp) ?_ ?_
  ·simp[kE,dq,within,gN,f1,f2,g5,show fi ⟨6,2,0,[5,0]⟩=0 from rfl,show fi ⟨3,3,0,[6,1]⟩=0 from rfl,show fi ⟨4,2,0,[2,3]⟩=0 from rfl]
  simp[kE,dq,within,gN,f1,f2,g5,show fi ⟨6,2,0,[5,0]⟩=0 from rfl,show fi ⟨3,3,0,[6,1]⟩=0 from rfl,show fi ⟨4,2,0,[2,3]⟩=0 from rfl,oA,kF,po,ly]
 have g5:=qJ (n:=1) 5 (by simp only[cu];omega);refine key _ (by simp) ?_ ?_
 ·simp[kE,dq,within,gN,f1,f2,g5,show fi ⟨6,1,0,[0,5]⟩=0 from rfl,show fi ⟨7,3,0,[1,6]⟩=0 from rfl,show fi ⟨3,2,0,[2,1]⟩=0 from rfl,show fi ⟨4,1,0,[7,3]⟩=0 from rfl]
 simp[kE,dq,within,gN,f1,f2,g5,show fi ⟨6,1,0,[0,5]⟩=0 from rfl,show fi ⟨7,3,0,[1,6]⟩=0 from rfl,show fi ⟨3,2,0,[2,1]⟩=0 from rfl,show fi ⟨4,1,0,[7,3]⟩=0 from rfl,oA,kF,po,ly]
def zS(a b:aq)(i:Nat):aq :=
 if i=35∨i=39 then a else if i=37∨i=40 then b
 else if i=26 then .map .pair [(.agg #[.int .i64 0,.int .i64 0],aI 0),(.agg #[.int .i64 1,.int .i64 0],aI 1)]
 else if i=27 then .cells [.mp 7 0,.mm 26,.os 32 2 1,.os 33 2 1]else if i=32 then .cells [aI 0,aI 0]else if i=33 then .cells [aI 1,aI (-1)]else .gone
theorem EB{a b:aq}{k:Nat}(hk:37<=k)(ha:a.upto k)(hb:b.upto k)(i:Nat):(zS a b i).upto k:=by
 unfold zS;split
 ·exact ha
 split
 ·exact hb
 split
 ·exact⟨trivial,trivial,trivial⟩
 split
 ·exact⟨show 7<k by omega,show 26<k by omega,show 32<k by omega,show 33<k by omega,trivial⟩
 split
 ·exact⟨trivial,trivial,trivial⟩
 split
 ·exact⟨trivial,trivial,trivial⟩
 trivial
theorem vo(a b c way other:Int)(ha:-500<=a∧a<=499)(hb:0<=b∧b<=999)(hc:0<=c∧c<=999) :
  bw Tryz.prog 6 [(bk (du a b way)).enc,(bk (du a c other)).enc,.agg [.aB 4 [] .sh]] (aI (if b=c then 0 else 14)):=by
 obtain⟨t,s,ht,hs,vY⟩:=Dd a b c way other;have ll:=Bc a b way;have lm:=Bc a c other;have OC:=zW _ (Er a b way);have HP:=zW _ (Er a c other);have fl:=Bb way ha hb;have fm:=Bb other ha hc;have kl:=vn way ha hb;have km:=vn other ha hc;have rl:=Bd (way:=way) ha hb;have rm:=Bd (way:=other) ha hc;have ul:=Iu a b way;have e0:=GJ a b way;have t0:=pY a b way;have u0:=pY a c other;have hv:(if b=c then(0:Int)else 14)=if decide (t=s)=true then 0 else 14:=by
  by_cases q:b=c
  ·rw[if_pos q,if_pos (decide_eq_true (vY.2 q))]
  rw[if_neg q,if_neg (by simpa using fun e=>q (vY.1 e))]
 rw[hv];generalize iM a b way=T at *;generalize iM a c other=U at *;generalize du a b way=l at *;generalize du a c other=m at *;have e1:xV U [0] (qR T l).L nH:=Ic u0 e0 l;obtain⟨bl,ru⟩:∃bl:Block,bl=⟨[0],l,⟨0,4,0,[],[]⟩⟩:=⟨_,rfl⟩
 obtain⟨bm,Gr⟩:∃bm:Block,bm=⟨[0],m,⟨0,4,0,[],[]⟩⟩:=⟨_,rfl⟩
 have il:bl.ins=l:=by rw[ru]
 have im:bm.ins=m:=by rw[Gr]
 have nl:bl.ins.length<=7:=by rw[il];exact ll
 have nm:bm.ins.length<=7:=by rw[im];exact lm
 have Wc:(bk l).blocks[0]?=some bl:=by rw[ru];rfl
 have Wd:(bk m).blocks[0]?=some bm:=by rw[Gr];rfl
 obtain⟨A,hA⟩:∃A:aq,A=.cells [bF (bk l) (gY l) (ic l),.v (.bool true),aI 0,aI 0,.mm 34,aI 0]:=⟨_,rfl⟩
 obtain⟨B,hB⟩:∃B:aq,B=.cells [bF (bk m) (gY m) (ic m),.v (.bool false),aI 0,aI 0,.mm 36,aI 0]:=⟨_,rfl⟩
 have Au:∀k,37<=k->A.upto k:=fun k hk=>by rw[hA];exact⟨OC.up k,trivial,trivial,trivial,show 34<k by omega,trivial,trivial⟩
 have Bu:∀k,37<=k->B.upto k:=fun k hk=>by rw[hB];exact⟨HP.up k,trivial,trivial,trivial,show 36<k by omega,trivial,trivial⟩
 have HW:∀bu,Ob (sr (bF (bk l) (gY l) (ic l)) (bF (bk m) (gY m) (ic m)) (.aB 4 [lL] .sh) (.ms 8 0 1 1) (.aB 1 [] .sh) bu) (.cells [.v (.bool true)]) (zS A B) (bF (bk l) (gY l) (ic l)) (bF (bk m) (gY m) (ic m)):=fun bu=>by
  refine⟨⟨?_,⟨trivial,trivial⟩,trivial,trivial,trivial⟩,EB (by omega) (Au 43 (by omega)) (Bu 43 (by omega)),OC.up,HP.up⟩;exact⟨OC.up 15,HP.up 15,⟨⟨l6 15,trivial⟩,trivial⟩,show 6<15 by decide,show 8<15 by decide,⟨trivial,trivial⟩,trivial,trivial,trivial,trivial⟩
 have gA:=jQ (vD T) l [0] rB e0;have gB:=jQ (vE U) m [0] (qR T l) e1;obtain⟨w1,w2⟩:=Eu (T:=T) l rB (fun t=>.inl rfl) (fun t=>.inl rfl);obtain⟨p1,p2⟩:=Dp (T:=T) (k:=26) l rB trivial trivial;have H0:bC (qR T l).W (.int .i64 1)=some (aI 1):=Bi (v:=0) (t:=1) l [0] rB e0 (by simp) (by rw[t0];exact .var (n:=2) (late:=2) rfl) ul;have YW:(qR T l).L.length<=20:=by
  obtain⟨_,M,hM,UR⟩:=gA;show(l.foldl (pj T) rB).L.length<=20;rw[hM,List.length_append];have:rB.L.length=2:=rfl;omega
 have UP:∀k n,ba n ((l.take k).foldl (pj T) rB).E:=fun k n=>(jQ (vD T) (l.take k) [0] rB e0).en.up n;have Wj:∀k n,ba n ((m.take k).foldl (zd U) (qR T l)).E:=fun k n=>(jQ (vE U) (m.take k) [0] (qR T l) e1).en.up n;have hex:=C1 (bk l) (gY l) (ic l) bl Wc T rB (bF (bk l) (gY l) (ic l)) (bF (bk m) (gY m) (ic m)) (.aB 4 [lL] .sh) (.ms 8 0 1 1) (.aB 1 [] .sh) 100000 (.cells [.v (.bool true)]) nH (zS A B) (bF (bk m) (gY m) (ic m)) 0 0 (v:=4) (n:=0) (by rw[ru]) (by omega)
  (fun k i hi=>by rw[il]at hi ⊢;exact Iz (vD T) e0 rl (by show 2+2*l.length<=_;omega) hi) (t:=t) (by rw[il];exact ht) (by omega) (by omega) HW trivial trivial (fun k n=>by rw[il];exact UP k n) (fun k=>⟨trivial,trivial⟩)
 have PR:=C2 (bk m) (gY m) (ic m) bm Wd U (qR T l) (bF (bk l) (gY l) (ic l)) (bF (bk m) (gY m) (ic m)) (.aB 4 [lL] .sh) (.ms 8 0 1 1) (.aB 1 [] .sh) (100000-bl.ins.length-1) (.cells [.v (.bool true)]) (qF T l).E (zS A B) (bF (bk l) (gY l) (ic l)) bl.ins.length 0 (v:=4) (n:=0) (by rw[Gr]) (by omega)
  (fun k i hi=>by rw[im]at hi ⊢;exact Iz (vE U) e1 rm (by omega) hi)
  (fun k i hi ho=>by
   rw[im]at hi ⊢;have q:=(jQ (vE U) (m.take k) [0] (qR T l) e1).en;have kp:=rZ (T:=U) (m.take k) (qR T l);have r:=q.wd (rm.get hi) (by rw[kp.1];exact w1) (by rw[kp.1];exact H0) ho;rw[kp.1]at r;exact r) w2 (t:=s) (by rw[im];exact hs) (by omega) (by omega) HW p1 p2 (fun k=>by have:=UP l.length k;rw[List.take_length]at this;exact this) (fun k n=>by rw[im];exact Wj k n)
 rw[il]at hex PR;rw[im]at PR;have E':∀k,ba k (qF T l).E:=fun k=>by have:=UP l.length k;rw[List.take_length]at this;exact this
 have Wk:∀k,ba k (Cu T U l m).E:=fun k=>by have:=Wj m.length k;rw[List.take_length]at this;exact this
 have Xr:∀k,ba k nH:=fun k=>⟨trivial,trivial⟩
 have hE:aK Tryz.prog 28 _ _ _:=yy _ _ _ (.cells [.v (.bool true)]) nI (qF T l).L (Cu T U l m).L [] (qF T l).W [] (qF T l).D nH (qF T l).E nH (Cu T U l m).E (zS A B) (bF (bk l) (gY l) (ic l)) (bF (bk m) (gY m) (ic m)) l.length m.length 0 t s OC.up HP.up hex
  (fun X=>PR.frame rfl (by simp[av,aa.upto,sO,rO]) (fJ (HW _) _ p1 p2 E' Xr _ _ _) X) (fJ (HW _) _ p1 p2 E' Wk _ _ _)
  (cO (dZ (HW _).u _ p1 p2) (by omega) (by
   intro o ho;simp only[List.mem_cons,List.not_mem_nil,or_false]at ho;have zu:=EB (k:=41) (by omega) (Au 41 (by omega)) (Bu 41 (by omega));rcases ho with h|h|h|h|h|h|h|h|h|h|h|h|h|h|h<;>rw[h]
   iterate 8 exact zu _
   ·exact E' 41
   ·exact zu _
   ·exact Wk 41
   iterate 4 exact zu _))
 subst hA;subst hB;have hr:=F0 (bk l) (bk m) (gY l) (ic l) (gY m) (ic m) OC HP bl bm Wc Wd (by rw[ru]) (by rw[Gr]) (decide (t=s)) (100000-l.length-1-m.length-1) (Cu T U l m).L (qF T l).W (qF T l).D (qF T l).E (Cu T U l m).E hE;exact z8 l m fl fm kl km (by omega) (by omega) (decide (t=s)) hr
theorem o9(a b c way other:Int)(fa:i64 a)(fb:i64 b)(fc:i64 c)(fw:i64 way)(fo:i64 other):bw Tryz.prog 3 [aI a,aI b,aI c,aI way,aI other] (.v (.bool true)):=by
 have wa:=jn a 1000 fa (by omega) (by omega);have wb:=jn b 1000 fb (by omega) (by omega);have wc:=jn c 1000 fc (by omega) (by omega);have ww:=jn way 3 fw (by omega) (by omega);have wo:=jn other 3 fo (by omega) (by omega);have hk:=DL;have ra:0<=a % 1000∧a % 1000<=999:=by omega
 have rb:0<=b % 1000∧b % 1000<=999:=by omega
 have rc:0<=c % 1000∧c % 1000<=999:=by omega
 generalize a % 1000=A at *;generalize b % 1000=B at *;generalize c % 1000=C at *;generalize way % 3=w at *;generalize other % 3=o at *;have p1:=rV (A-500) B w;have p2:=rV (A-500) B o;have p3:=rV (A-500) C o;have k1:=vo (A-500) B B w o (by omega) rb rb;have k2:=vo (A-500) B C w o (by omega) rb rc;rw[if_pos rfl]at k1;have s1:=Func.ar (bk (du (A-500) B w));have s2:=Func.ar (bk (du (A-500) B o));have s3:=Func.ar (bk (du (A-500) C o));have u1:=Func.aS 0 (bk (du (A-500) B w));have u2:=Func.aS 0 (bk (du (A-500) B o));have u3:=Func.aS 0 (bk (du (A-500) C o));generalize (bk (du (A-500) B w)).enc=x1 at *;generalize (bk (du (A-500) B o)).enc=x2 at *;generalize (bk (du (A-500) C o)).enc=x3 at *;by_cases SB:B=C
 ·rw[if_pos SB]at k2;have hd:decide (B=C)=true:=decide_eq_true SB;refine zf true 0 Tryz.func3 Tryz.ntmps3 ?_;dsimp only[Tmp,TypeId,slotsOf];refine az (ai ?_);refine az ?_;refine .inl ⟨_,wa,by simp only[av,aa.upto,zt,zu,ay,aU,Edge.aj,bI.aj,Block.aj],ae ?_⟩;simp -dsimp only[simprocAttr,↓I,zp]
  repeat(refine⟨by omega,?_⟩)
  refine .inl ⟨_,wb,by simp only[av,aa.upto,zt,zu,ay,aU,Edge.aj,bI.aj,Block.aj],ae ?_⟩;simp -dsimp only[simprocAttr,↓I,zp];refine .inl ⟨_,wc,by simp only[av,aa.upto,zt,zu,ay,aU,Edge.aj,bI.aj,Block.aj],ae ?_⟩;simp -dsimp only[simprocAttr,↓I,zp];refine ai ?_;refine az ?_;refine .inl ⟨_,ww,by simp only[av,aa.upto,zt,zu,ay,aU,Edge.aj,bI.aj,Block.aj],ae ?_⟩;simp -dsimp only[simprocAttr,↓I,zp];refine .inl ⟨_,wo,by simp only[av,aa.upto,zt,zu,ay,aU,Edge.aj,bI.aj,Block.aj],ae ?_⟩;simp -dsimp only[simprocAttr,↓I,zp];refine ai ?_;refine bS ?_;refine .inl ⟨_,hk,by simp only[av,aa.upto,zt,zu,ay,aU,Edge.aj,bI.aj,Block.aj],ae ?_⟩;simp -dsimp only[simprocAttr,↓I,zp];refine ai ?_;apply aF rfl<;>intro h
  ·cases h
  refine bZ ?_;refine bS ?_;refine .inl ⟨_,p1,by simp only[av,aa.upto,zt,zu,ay,aU,Edge.aj,bI.aj,Block.aj],ae ?_⟩;simp -dsimp only[simprocAttr,↓I,zp];refine .inl ⟨_,p2,by simp only[av,aa.upto,zt,zu,ay,aU,Edge.aj,bI.aj,Block.aj],ae ?_⟩;simp -dsimp only[simprocAttr,↓I,zp];simp only[s1,s2];refine .inl ⟨_,k1,⟨u1,u2,⟨⟨trivial,trivial⟩,trivial⟩,trivial⟩,ae ?_⟩;simp -dsimp only[simprocAttr,↓I,zp];refine ai ?_;apply aF rfl<;>intro h
  ·cases h
  refine bZ ?_;refine az ?_;refine .inl ⟨_,p1,by simp only[av,aa.upto,zt,zu,ay,aU,Edge.aj,bI.aj,Block.aj],ae ?_⟩;simp -dsimp only[simprocAttr,↓I,zp];refine .inl ⟨_,p3,by simp only[av,aa.upto,zt,zu,ay,aU,Edge.aj,bI.aj,Block.aj],ae ?_⟩;simp -dsimp only[simprocAttr,↓I,zp];simp only[s1,s3];refine .inl ⟨_,k2,⟨u1,u3,⟨⟨trivial,trivial⟩,trivial⟩,trivial⟩,ae ?_⟩;simp -dsimp only[simprocAttr,↓I,zp];refine ai ?_;refine aG ?_;simp -dsimp only[simprocAttr,↓I,zp,hd];refine⟨Tryz.underlying4,?_⟩;refine ai ?_;refine ak ?_;simp -dsimp only[simprocAttr,↓I,zp,zr,Tryz.results3]
 rw[if_neg SB]at k2;have hd:decide (B=C)=false:=decide_eq_false SB;refine zf true 0 Tryz.func3 Tryz.ntmps3 ?_;dsimp only[Tmp,TypeId,slotsOf];refine az (ai ?_);refine az ?_;refine .inl ⟨_,wa,by simp only[av,aa.upto,zt,zu,ay,aU,Edge.aj,bI.aj,Block.aj],ae ?_⟩;simp -dsimp only[simprocAttr,↓I,zp]
 repeat(refine⟨by omega,?_⟩)
 refine .inl ⟨_,wb,by simp only[av,aa.upto,zt,zu,ay,aU,Edge.aj,bI.aj,Block.aj],ae ?_⟩;simp -dsimp only[simprocAttr,↓I,zp];refine .inl ⟨_,wc,by simp only[av,aa.upto,zt,zu,ay,aU,Edge.aj,bI.aj,Block.aj],ae ?_⟩;simp -dsimp only[simprocAttr,↓I,zp];refine ai ?_;refine az ?_;refine .inl ⟨_,ww,by simp only[av,aa.upto,zt,zu,ay,aU,Edge.aj,bI.aj,Block.aj],ae ?_⟩;simp -dsimp only[simprocAttr,↓I,zp];refine .inl ⟨_,wo,by simp only[av,aa.upto,zt,zu,ay,aU,Edge.aj,bI.aj,Block.aj],ae ?_⟩;simp -dsimp only[simprocAttr,↓I,zp];refine ai ?_;refine bS ?_;refine .inl ⟨_,hk,by simp only[av,aa.upto,zt,zu,ay,aU,Edge.aj,bI.aj,Block.aj],ae ?_⟩;simp -dsimp only[simprocAttr,↓I,zp];refine ai ?_;apply aF rfl<;>intro h
 ·cases h
 refine bZ ?_;refine bS ?_;refine .inl ⟨_,p1,by simp only[av,aa.upto,zt,zu,ay,aU,Edge.aj,bI.aj,Block.aj],ae ?_⟩;simp -dsimp only[simprocAttr,↓I,zp];refine .inl ⟨_,p2,by simp only[av,aa.upto,zt,zu,ay,aU,Edge.aj,bI.aj,Block.aj],ae ?_⟩;simp -dsimp only[simprocAttr,↓I,zp];simp only[s1,s2];refine .inl ⟨_,k1,⟨u1,u2,⟨⟨trivial,trivial⟩,trivial⟩,trivial⟩,ae ?_⟩;simp -dsimp only[simprocAttr,↓I,zp];refine ai ?_;apply aF rfl<;>intro h
 ·cases h
 refine bZ ?_;refine az ?_;refine .inl ⟨_,p1,by simp only[av,aa.upto,zt,zu,ay,aU,Edge.aj,bI.aj,Block.aj],ae ?_⟩;simp -dsimp only[simprocAttr,↓I,zp];refine .inl ⟨_,p3,by simp only[av,aa.upto,zt,zu,ay,aU,Edge.aj,bI.aj,Block.aj],ae ?_⟩;simp -dsimp only[simprocAttr,↓I,zp];simp only[s1,s3];refine .inl ⟨_,k2,⟨u1,u3,⟨⟨trivial,trivial⟩,trivial⟩,trivial⟩,ae ?_⟩;simp -dsimp only[simprocAttr,↓I,zp];refine ai ?_;refine aG ?_;simp -dsimp only[simprocAttr,↓I,zp,hd];refine⟨Tryz.underlying4,?_⟩;refine ai ?_;refine ak ?_;simp -dsimp only[simprocAttr,↓I,zp,zr,Tryz.results3]
end Go.Proofs.YtocdpaifmnkoaaaGreatDoor
