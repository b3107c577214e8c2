/-
  Texts bound together by a program of mine: YtkkookchlddbkaaGreatT24, YtkkookchlddbkaaGreatT25, YtkkookchlddbkaaGreatT4, YtkkookchlddbkaaGreatT5, YtkkookchlddbkaaGreatT6, YtkkookchlddbkaaGreatT7, YtkkookchlddbkaaGreatT8, YtkkookchlddbkaaGreatT9, YtkkookchlddbkaaGreatT10, YtkkookchlddbkaaGreatT26, YtkkookchlddbkaaGreatT11, YtkkookchlddbkaaGreatT12, YtkkookchlddbkaaGreatT13, YtkkookchlddbkaaGreatT14, YtkkookchlddbkaaGreatT15, YtkkookchlddbkaaGreatT16, YtkkookchlddbkaaGreatT17, YtkkookchlddbkaaGreatT27, YtkkookchlddbkaaGreatT28, YtkkookchlddbkaaGreatT29, YtkkookchlddbkaaGreatT31, YtkkookchlddbkaaGreatT32, YtkkookchlddbkaaGreatT33, YtkkookchlddbkaaGreatPp, YtkkookchlddbkaaGreatPq, YtkkookchlddbkaaGreatT34, YtkkookchlddbkaaGreatT35.
-/
import Derived.Test.YtkkookchlddbkaaGreatA2
import Derived.Laws.Closers25b
set_option linter.all false
set_option maxRecDepth 100000
set_option maxHeartbeats 4000000

namespace Go.Proofs.YtkkookchlddbkaaGreat
open Go.Av
instance (n:Int):Decidable (gh n):=by
 unfold gh
 infer_instance
theorem tg(n:Int):aV Tryz.prog 113 [aI n] (.v (.bool (decide (gh n)))):=by
 have hw:=eh n (-1073741824) 1073741823;refine zf true 0 Tryz.func113 Tryz.ntmps113 ?_;dsimp only[Tmp,TypeId,ax];refine aB (av ?_);refine aB ?_;refine zi hw ?_;refine av ?_;refine ak ?_;simp -dsimp only[simprocAttr,↓aa,zp,zr,Tryz.results113];simp only[within,gh];by_cases h1:-1073741824<=n<;>by_cases h2:n<=1073741823<;>simp[h1,h2]
def bl(i:db):Int×Bool :=
 if i.op=0 then(0,true)
 else if(1<=i.op∧i.op<=7)∨i.op=16∨i.op=18∨i.op=19∨i.op=21∨i.op=23 then(2,true)
 else if i.op=20 then(3,true)
 else if i.op=10∨i.op=11∨i.op=12∨i.op=15∨i.op=17∨i.op=24 then(1,true)
 else if i.op=8∨i.op=9∨i.op=13∨i.op=14 then(-1,true)
 else if i.op=22 then(i.n,decide (i.n=2∨i.n=4))
 else(0,false)
def cI(i:db):Bool :=
 if i.op=0 then decide (gh i.n)
 else if i.op=8 then within i.n 0 255
 else if i.op=11 then within i.n 0 15
 else if i.op=9∨i.op=13 then within i.n 0 255
 else if i.op=23 then decide (i.n=1∨i.n=2∨i.n=3)
 else if i.op=24 then within i.n 0 3
 else if i.op=22 then true
 else decide (i.n=0)
theorem C2(i:db)(kq:i.op=0):aV Tryz.prog 110 [i.enc] (.c5 [aI (bl i).1,.v (.bool (bl i).2)]):=by
 have hr:bl i=(0,true):=by
  unfold bl;rw[if_pos (by omega)]
 rw[hr];refine zf true 0 Tryz.func110 Tryz.ntmps110 ?_;dsimp only[Tmp,TypeId,ax];refine aB (av ?_);refine cj (av ?_);refine aj ?_;refine aB (av ?_);apply aQ rfl<;>intro h
 ·refine aB (av ?_);refine ak ?_;simp -dsimp only[simprocAttr,↓aa,zp,zr,Tryz.results110];simp[aq,ae.upto]
 exact af h (by omega)
theorem C3(i:db)(kq:(1<=i.op∧i.op<=7)∨i.op=16∨i.op=18∨i.op=19∨i.op=21∨i.op=23):aV Tryz.prog 110 [i.enc] (.c5 [aI (bl i).1,.v (.bool (bl i).2)]):=by
 have hr:bl i=(2,true):=by
  unfold bl;rw[if_neg (by omega),if_pos (by omega)]
 rw[hr];refine zf true 0 Tryz.func110 Tryz.ntmps110 ?_;dsimp only[Tmp,TypeId,ax];refine aB (av ?_);refine cj (av ?_);refine aj ?_;refine aB (av ?_);apply aQ rfl<;>intro h
 ·exact ab h (by omega)
 refine cj (av ?_);refine jj (⟨47,[(1,.mp 0 0),(2,aI 0),(3,.v (.bool false)),(5,aI i.op),(8,.v (.bool true))],[.cells [aI i.to,aI i.op,aI i.n,ct i.args]]⟩) ?_ ?_
 ·apply aQ rfl<;>intro h
  ·refine au ?_;show bn _ _;refine zq rfl ?_ ?_;simp -dsimp only[simprocAttr,↓aa,zp,zc]
   ·exact Sub.of_eq (by rw[h])
   rfl
  refine aB (av ?_);apply aQ rfl<;>intro h
  ·refine au ?_;show bn _ _;refine zq rfl ?_ ?_;simp -dsimp only[simprocAttr,↓aa,zp,zc]
   ·exact Sub.of_eq (by rw[h])
   rfl
  refine aB (av ?_);apply aQ rfl<;>intro h
  ·refine au ?_;show bn _ _;refine zq rfl ?_ ?_;simp -dsimp only[simprocAttr,↓aa,zp,zc]
   ·exact Sub.of_eq (by rw[h])
   rfl
  refine aB (av ?_);apply aQ rfl<;>intro h
  ·refine au ?_;show bn _ _;refine zq rfl ?_ ?_;simp -dsimp only[simprocAttr,↓aa,zp,zc]
   ·exact Sub.of_eq (by rw[h])
   rfl
  refine aB (av ?_);apply aQ rfl<;>intro h
  ·refine au ?_;show bn _ _;refine zq rfl ?_ ?_;simp -dsimp only[simprocAttr,↓aa,zp,zc]
   ·exact Sub.of_eq (by rw[h])
   rfl
  refine aB (av ?_);apply aQ rfl<;>intro h
  ·refine au ?_;show bn _ _;refine zq rfl ?_ ?_;simp -dsimp only[simprocAttr,↓aa,zp,zc]
   ·exact Sub.of_eq (by rw[h])
   rfl
  refine aB (av ?_);apply aQ rfl<;>intro h
  ·refine au ?_;show bn _ _;refine zq rfl ?_ ?_;simp -dsimp only[simprocAttr,↓aa,zp,zc]
   ·exact Sub.of_eq (by rw[h])
   rfl
  refine aB (av ?_);apply aQ rfl<;>intro h
  ·refine au ?_;show bn _ _;refine zq rfl ?_ ?_;simp -dsimp only[simprocAttr,↓aa,zp,zc]
   ·exact Sub.of_eq (by rw[h])
   rfl
  refine aB (av ?_);apply aQ rfl<;>intro h
  ·refine au ?_;show bn _ _;refine zq rfl ?_ ?_;simp -dsimp only[simprocAttr,↓aa,zp,zc]
   ·exact Sub.of_eq (by rw[h])
   rfl
  refine aB (av ?_);apply aQ rfl<;>intro h
  ·refine au ?_;show bn _ _;refine zq rfl ?_ ?_;simp -dsimp only[simprocAttr,↓aa,zp,zc]
   ·exact Sub.of_eq (by rw[h])
   rfl
  refine aB (av ?_);apply aQ rfl<;>intro h
  ·refine au ?_;show bn _ _;refine zq rfl ?_ ?_;simp -dsimp only[simprocAttr,↓aa,zp,zc]
   ·exact Sub.of_eq (by rw[h])
   rfl
  refine du ?_;refine I ?_;show bn _ _;refine zq rfl ?_ ?_;simp -dsimp only[simprocAttr,↓aa,zp,zc]
  ·exact Sub.of_eq (by rw[decide_eq_true (show i.op=23 by simp only[decide_eq_false_iff_not]at *;omega)])
  rfl
 refine de rfl ?_;refine aB (av ?_);refine ak ?_;simp -dsimp only[simprocAttr,↓aa,zp,zr,Tryz.results110];simp[aq,ae.upto]
theorem C4(i:db)(kq:i.op=20):aV Tryz.prog 110 [i.enc] (.c5 [aI (bl i).1,.v (.bool (bl i).2)]):=by
 have hr:bl i=(3,true):=by
  unfold bl;rw[if_neg (by omega),if_neg (by omega),if_pos (by omega)]
 rw[hr];refine zf true 0 Tryz.func110 Tryz.ntmps110 ?_;dsimp only[Tmp,TypeId,ax];refine aB (av ?_);refine cj (av ?_);refine aj ?_;refine aB (av ?_);apply aQ rfl<;>intro h
 ·exact ab h (by omega)
 refine cj (av ?_);apply aQ rfl<;>intro h
 ·exact ab h (by omega)
 refine aB (av ?_);apply aQ rfl<;>intro h
 ·exact ab h (by omega)
 refine aB (av ?_);apply aQ rfl<;>intro h
 ·exact ab h (by omega)
 refine aB (av ?_);apply aQ rfl<;>intro h
 ·exact ab h (by omega)
 refine aB (av ?_);apply aQ rfl<;>intro h
 ·exact ab h (by omega)
 refine aB (av ?_);apply aQ rfl<;>intro h
 ·exact ab h (by omega)
 refine aB (av ?_);apply aQ rfl<;>intro h
 ·exact ab h (by omega)
 refine aB (av ?_);apply aQ rfl<;>intro h
 ·exact ab h (by omega)
 refine aB (av ?_);apply aQ rfl<;>intro h
 ·exact ab h (by omega)
 refine aB (av ?_);apply aQ rfl<;>intro h
 ·exact ab h (by omega)
 refine aB (av ?_);apply aQ rfl<;>intro h
 ·exact ab h (by omega)
 refine du (av ?_);apply aQ rfl<;>intro h
 ·exact ab h (by omega)
 refine aB (av ?_);apply aQ rfl<;>intro h
 ·refine aB (av ?_);refine ak ?_;simp -dsimp only[simprocAttr,↓aa,zp,zr,Tryz.results110];simp[aq,ae.upto]
 exact af h (by omega)
theorem C5(i:db)(kq:i.op=10∨i.op=11∨i.op=12∨i.op=15∨i.op=17∨i.op=24):aV Tryz.prog 110 [i.enc] (.c5 [aI (bl i).1,.v (.bool (bl i).2)]):=by
 have hr:bl i=(1,true):=by
  unfold bl;rw[if_neg (by omega),if_neg (by omega),if_neg (by omega),if_pos (by omega)]
 rw[hr];refine zf true 0 Tryz.func110 Tryz.ntmps110 ?_;dsimp only[Tmp,TypeId,ax];refine aB (av ?_);refine cj (av ?_);refine aj ?_;refine aB (av ?_);apply aQ rfl<;>intro h
 ·exact ab h (by omega)
 refine cj (av ?_);apply aQ rfl<;>intro h
 ·exact ab h (by omega)
 refine aB (av ?_);apply aQ rfl<;>intro h
 ·exact ab h (by omega)
 refine aB (av ?_);apply aQ rfl<;>intro h
 ·exact ab h (by omega)
 refine aB (av ?_);apply aQ rfl<;>intro h
 ·exact ab h (by omega)
 refine aB (av ?_);apply aQ rfl<;>intro h
 ·exact ab h (by omega)
 refine aB (av ?_);apply aQ rfl<;>intro h
 ·exact ab h (by omega)
 refine aB (av ?_);apply aQ rfl<;>intro h
 ·exact ab h (by omega)
 refine aB (av ?_);apply aQ rfl<;>intro h
 ·exact ab h (by omega)
 refine aB (av ?_);apply aQ rfl<;>intro h
 ·exact ab h (by omega)
 refine aB (av ?_);apply aQ rfl<;>intro h
 ·exact ab h (by omega)
 refine aB (av ?_);apply aQ rfl<;>intro h
 ·exact ab h (by omega)
 refine du (av ?_);apply aQ rfl<;>intro h
 ·exact ab h (by omega)
 refine aB (av ?_);apply aQ rfl<;>intro h
 ·exact ab h (by omega)
 refine cj (av ?_);refine jj (⟨47,[(1,.mp 0 0),(2,aI 0),(3,.v (.bool false)),(5,aI i.op),(23,.v (.bool true))],[.cells [aI i.to,aI i.op,aI i.n,ct i.args]]⟩) ?_ ?_
 ·apply aQ rfl<;>intro h
  ·refine au ?_;show bn _ _;refine zq rfl ?_ ?_;simp -dsimp only[simprocAttr,↓aa,zp,zc]
   ·exact Sub.of_eq (by rw[h])
   rfl
  refine aB (av ?_);apply aQ rfl<;>intro h
  ·refine au ?_;show bn _ _;refine zq rfl ?_ ?_;simp -dsimp only[simprocAttr,↓aa,zp,zc]
   ·exact Sub.of_eq (by rw[h])
   rfl
  refine aB (av ?_);apply aQ rfl<;>intro h
  ·refine au ?_;show bn _ _;refine zq rfl ?_ ?_;simp -dsimp only[simprocAttr,↓aa,zp,zc]
   ·exact Sub.of_eq (by rw[h])
   rfl
  refine aB (av ?_);apply aQ rfl<;>intro h
  ·refine au ?_;show bn _ _;refine zq rfl ?_ ?_;simp -dsimp only[simprocAttr,↓aa,zp,zc]
   ·exact Sub.of_eq (by rw[h])
   rfl
  refine aB (av ?_);apply aQ rfl<;>intro h
  ·refine au ?_;show bn _ _;refine zq rfl ?_ ?_;simp -dsimp only[simprocAttr,↓aa,zp,zc]
   ·exact Sub.of_eq (by rw[h])
   rfl
  refine du ?_;refine I ?_;show bn _ _;refine zq rfl ?_ ?_;simp -dsimp only[simprocAttr,↓aa,zp,zc]
  ·exact Sub.of_eq (by rw[decide_eq_true (show i.op=24 by simp only[decide_eq_false_iff_not]at *;omega)])
  rfl
 refine de rfl ?_;refine aB (av ?_);refine ak ?_;simp -dsimp only[simprocAttr,↓aa,zp,zr,Tryz.results110];simp[aq,ae.upto]
theorem C6(i:db)(kq:i.op=8∨i.op=9∨i.op=13∨i.op=14):aV Tryz.prog 110 [i.enc] (.c5 [aI (bl i).1,.v (.bool (bl i).2)]):=by
 have hr:bl i=(-1,true):=by
  unfold bl;rw[if_neg (by omega),if_neg (by omega),if_neg (by omega),if_neg (by omega),if_pos (by omega)]
 rw[hr];refine zf true 0 Tryz.func110 Tryz.ntmps110 ?_;dsimp only[Tmp,TypeId,ax];refine aB (av ?_);refine cj (av ?_);refine aj ?_;refine aB (av ?_);apply aQ rfl<;>intro h
 ·exact ab h (by omega)
 refine cj (av ?_);apply aQ rfl<;>intro h
 ·exact ab h (by omega)
 refine aB (av ?_);apply aQ rfl<;>intro h
 ·exact ab h (by omega)
 refine aB (av ?_);apply aQ rfl<;>intro h
 ·exact ab h (by omega)
 refine aB (av ?_);apply aQ rfl<;>intro h
 ·exact ab h (by omega)
 refine aB (av ?_);apply aQ rfl<;>intro h
 ·exact ab h (by omega)
 refine aB (av ?_);apply aQ rfl<;>intro h
 ·exact ab h (by omega)
 refine aB (av ?_);apply aQ rfl<;>intro h
 ·exact ab h (by omega)
 refine aB (av ?_);apply aQ rfl<;>intro h
 ·exact ab h (by omega)
 refine aB (av ?_);apply aQ rfl<;>intro h
 ·exact ab h (by omega)
 refine aB (av ?_);apply aQ rfl<;>intro h
 ·exact ab h (by omega)
 refine aB (av ?_);apply aQ rfl<;>intro h
 ·exact ab h (by omega)
 refine du (av ?_);apply aQ rfl<;>intro h
 ·exact ab h (by omega)
 refine aB (av ?_);apply aQ rfl<;>intro h
 ·exact ab h (by omega)
 refine cj (av ?_);apply aQ rfl<;>intro h
 ·exact ab h (by omega)
 refine aB (av ?_);apply aQ rfl<;>intro h
 ·exact ab h (by omega)
 refine aB (av ?_);apply aQ rfl<;>intro h
 ·exact ab h (by omega)
 refine aB (av ?_);apply aQ rfl<;>intro h
 ·exact ab h (by omega)
 refine aB (av ?_);apply aQ rfl<;>intro h
 ·exact ab h (by omega)
 refine du (av ?_);apply aQ rfl<;>intro h
 ·exact ab h (by omega)
 refine cj (av ?_);refine jj (⟨47,[(1,.mp 0 0),(2,aI 0),(3,.v (.bool false)),(5,aI i.op),(30,.v (.bool true))],[.cells [aI i.to,aI i.op,aI i.n,ct i.args]]⟩) ?_ ?_
 ·apply aQ rfl<;>intro h
  ·refine au ?_;show bn _ _;refine zq rfl ?_ ?_;simp -dsimp only[simprocAttr,↓aa,zp,zc]
   ·exact Sub.of_eq (by rw[h])
   rfl
  refine aB (av ?_);apply aQ rfl<;>intro h
  ·refine au ?_;show bn _ _;refine zq rfl ?_ ?_;simp -dsimp only[simprocAttr,↓aa,zp,zc]
   ·exact Sub.of_eq (by rw[h])
   rfl
  refine aB (av ?_);apply aQ rfl<;>intro h
  ·refine au ?_;show bn _ _;refine zq rfl ?_ ?_;simp -dsimp only[simprocAttr,↓aa,zp,zc]
   ·exact Sub.of_eq (by rw[h])
   rfl
  refine du ?_;refine I ?_;show bn _ _;refine zq rfl ?_ ?_;simp -dsimp only[simprocAttr,↓aa,zp,zc]
  ·exact Sub.of_eq (by rw[decide_eq_true (show i.op=14 by simp only[decide_eq_false_iff_not]at *;omega)])
  rfl
 refine de rfl ?_;refine aB (av ?_);refine ak ?_;simp -dsimp only[simprocAttr,↓aa,zp,zr,Tryz.results110];simp[aq,ae.upto]
theorem C7(i:db)(kq:i.op=22):aV Tryz.prog 110 [i.enc] (.c5 [aI (bl i).1,.v (.bool (bl i).2)]):=by
 have hr:bl i=(i.n,decide (i.n=2∨i.n=4)):=by
  unfold bl;rw[if_neg (by omega),if_neg (by omega),if_neg (by omega),if_neg (by omega),if_neg (by omega),if_pos (by omega)]
 rw[hr];by_cases h2:i.n=2
 ·have n6:decide (i.n=2)=true:=decide_eq_true h2;refine zf true 0 Tryz.func110 Tryz.ntmps110 ?_;dsimp only[Tmp,TypeId,ax];refine aB (av ?_);refine cj (av ?_);refine aj ?_;refine aB (av ?_);apply aQ rfl<;>intro h
  ·exact ab h (by omega)
  refine cj (av ?_);apply aQ rfl<;>intro h
  ·exact ab h (by omega)
  refine aB (av ?_);apply aQ rfl<;>intro h
  ·exact ab h (by omega)
  refine aB (av ?_);apply aQ rfl<;>intro h
  ·exact ab h (by omega)
  refine aB (av ?_);apply aQ rfl<;>intro h
  ·exact ab h (by omega)
  refine aB (av ?_);apply aQ rfl<;>intro h
  ·exact ab h (by omega)
  refine aB (av ?_);apply aQ rfl<;>intro h
  ·exact ab h (by omega)
  refine aB (av ?_);apply aQ rfl<;>intro h
  ·exact ab h (by omega)
  refine aB (av ?_);apply aQ rfl<;>intro h
  ·exact ab h (by omega)
  refine aB (av ?_);apply aQ rfl<;>intro h
  ·exact ab h (by omega)
  refine aB (av ?_);apply aQ rfl<;>intro h
  ·exact ab h (by omega)
  refine aB (av ?_);apply aQ rfl<;>intro h
  ·exact ab h (by omega)
  refine du (av ?_);apply aQ rfl<;>intro h
  ·exact ab h (by omega)
  refine aB (av ?_);apply aQ rfl<;>intro h
  ·exact ab h (by omega)
  refine cj (av ?_);apply aQ rfl<;>intro h
  ·exact ab h (by omega)
  refine aB (av ?_);apply aQ rfl<;>intro h
  ·exact ab h (by omega)
  refine aB (av ?_);apply aQ rfl<;>intro h
  ·exact ab h (by omega)
  refine aB (av ?_);apply aQ rfl<;>intro h
  ·exact ab h (by omega)
  refine aB (av ?_);apply aQ rfl<;>intro h
  ·exact ab h (by omega)
  refine du (av ?_);apply aQ rfl<;>intro h
  ·exact ab h (by omega)
  refine cj (av ?_);apply aQ rfl<;>intro h
  ·exact ab h (by omega)
  refine aB (av ?_);apply aQ rfl<;>intro h
  ·exact ab h (by omega)
  refine aB (av ?_);apply aQ rfl<;>intro h
  ·exact ab h (by omega)
  refine du (av ?_);apply aQ rfl<;>intro h
  ·exact ab h (by omega)
  refine aB (av ?_);apply aQ rfl<;>intro h
  ·refine aH ?_;simp -dsimp only[simprocAttr,↓aa,zp,n6];refine⟨ob (by kernel_rfl),?_⟩;refine av ?_;refine ak ?_;simp -dsimp only[simprocAttr,↓aa,zp,zr,Tryz.results110];simp[aq,ae.upto,h2]
  exact af h (by omega)
 have n6:decide (i.n=2)=false:=decide_eq_false h2;by_cases h4:i.n=4
 ·have LU:decide (i.n=4)=true:=decide_eq_true h4;refine zf true 0 Tryz.func110 Tryz.ntmps110 ?_;dsimp only[Tmp,TypeId,ax];refine aB (av ?_);refine cj (av ?_);refine aj ?_;refine aB (av ?_);apply aQ rfl<;>intro h
  ·exact ab h (by omega)
  refine cj (av ?_);apply aQ rfl<;>intro h
  ·exact ab h (by omega)
  refine aB (av ?_);apply aQ rfl<;>intro h
  ·exact ab h (by omega)
  refine aB (av ?_);apply aQ rfl<;>intro h
  ·exact ab h (by omega)
  refine aB (av ?_);apply aQ rfl<;>intro h
  ·exact ab h (by omega)
  refine aB (av ?_);apply aQ rfl<;>intro h
  ·exact ab h (by omega)
  refine aB (av ?_);apply aQ rfl<;>intro h
  ·exact ab h (by omega)
  refine aB (av ?_);apply aQ rfl<;>intro h
  ·exact ab h (by omega)
  refine aB (av ?_);apply aQ rfl<;>intro h
  ·exact ab h (by omega)
  refine aB (av ?_);apply aQ rfl<;>intro h
  ·exact ab h (by omega)
  refine aB (av ?_);apply aQ rfl<;>intro h
  ·exact ab h (by omega)
  refine aB (av ?_);apply aQ rfl<;>intro h
  ·exact ab h (by omega)
  refine du (av ?_);apply aQ rfl<;>intro h
  ·exact ab h (by omega)
  refine aB (av ?_);apply aQ rfl<;>intro h
  ·exact ab h (by omega)
  refine cj (av ?_);apply aQ rfl<;>intro h
  ·exact ab h (by omega)
  refine aB (av ?_);apply aQ rfl<;>intro h
  ·exact ab h (by omega)
  refine aB (av ?_);apply aQ rfl<;>intro h
  ·exact ab h (by omega)
  refine aB (av ?_);apply aQ rfl<;>intro h
  ·exact ab h (by omega)
  refine aB (av ?_);apply aQ rfl<;>intro h
  ·exact ab h (by omega)
  refine du (av ?_);apply aQ rfl<;>intro h
  ·exact ab h (by omega)
  refine cj (av ?_);apply aQ rfl<;>intro h
  ·exact ab h (by omega)
  refine aB (av ?_);apply aQ rfl<;>intro h
  ·exact ab h (by omega)
  refine aB (av ?_);apply aQ rfl<;>intro h
  ·exact ab h (by omega)
  refine du (av ?_);apply aQ rfl<;>intro h
  ·exact ab h (by omega)
  refine aB (av ?_);apply aQ rfl<;>intro h
  ·refine aH ?_;simp -dsimp only[simprocAttr,↓aa,zp,n6,LU];refine⟨ob (by kernel_rfl),?_⟩;refine av ?_;refine ak ?_;simp -dsimp only[simprocAttr,↓aa,zp,zr,Tryz.results110];simp[aq,ae.upto,h4]
  exact af h (by omega)
 have LU:decide (i.n=4)=false:=decide_eq_false h4;refine zf true 0 Tryz.func110 Tryz.ntmps110 ?_;dsimp only[Tmp,TypeId,ax];refine aB (av ?_);refine cj (av ?_);refine aj ?_;refine aB (av ?_);apply aQ rfl<;>intro h
 ·exact ab h (by omega)
 refine cj (av ?_);apply aQ rfl<;>intro h
 ·exact ab h (by omega)
 refine aB (av ?_);apply aQ rfl<;>intro h
 ·exact ab h (by omega)
 refine aB (av ?_);apply aQ rfl<;>intro h
 ·exact ab h (by omega)
 refine aB (av ?_);apply aQ rfl<;>intro h
 ·exact ab h (by omega)
 refine aB (av ?_);apply aQ rfl<;>intro h
 ·exact ab h (by omega)
 refine aB (av ?_);apply aQ rfl<;>intro h
 ·exact ab h (by omega)
 refine aB (av ?_);apply aQ rfl<;>intro h
 ·exact ab h (by omega)
 refine aB (av ?_);apply aQ rfl<;>intro h
 ·exact ab h (by omega)
 refine aB (av ?_);apply aQ rfl<;>intro h
 ·exact ab h (by omega)
 refine aB (av ?_);apply aQ rfl<;>intro h
 ·exact ab h (by omega)
 refine aB (av ?_);apply aQ rfl<;>intro h
 ·exact ab h (by omega)
 refine du (av ?_);apply aQ rfl<;>intro h
 ·exact ab h (by omega)
 refine aB (av ?_);apply aQ rfl<;>intro h
 ·exact ab h (by omega)
 refine cj (av ?_);apply aQ rfl<;>intro h
 ·exact ab h (by omega)
 refine aB (av ?_);apply aQ rfl<;>intro h
 ·exact ab h (by omega)
 refine aB (av ?_);apply aQ rfl<;>intro h
 ·exact ab h (by omega)
 refine aB (av ?_);apply aQ rfl<;>intro h
 ·exact ab h (by omega)
 refine aB (av ?_);apply aQ rfl<;>intro h
 ·exact ab h (by omega)
 refine du (av ?_);apply aQ rfl<;>intro h
 ·exact ab h (by omega)
 refine cj (av ?_);apply aQ rfl<;>intro h
 ·exact ab h (by omega)
 refine aB (av ?_);apply aQ rfl<;>intro h
 ·exact ab h (by omega)
 refine aB (av ?_);apply aQ rfl<;>intro h
 ·exact ab h (by omega)
 refine du (av ?_);apply aQ rfl<;>intro h
 ·exact ab h (by omega)
 refine aB (av ?_);apply aQ rfl<;>intro h
 ·refine aH ?_;simp -dsimp only[simprocAttr,↓aa,zp,n6,LU];refine⟨ob (by kernel_rfl),?_⟩;refine av ?_;refine ak ?_;simp -dsimp only[simprocAttr,↓aa,zp,zr,Tryz.results110];simp[aq,ae.upto,h2,h4]
 exact af h (by omega)
theorem w9(i:db):aV Tryz.prog 110 [i.enc] (.c5 [aI (bl i).1,.v (.bool (bl i).2)]):=by
 by_cases h0:i.op=0
 ·exact C2 i h0
 by_cases h1:(1<=i.op∧i.op<=7)∨i.op=16∨i.op=18∨i.op=19∨i.op=21∨i.op=23
 ·exact C3 i h1
 by_cases h2:i.op=20
 ·exact C4 i h2
 by_cases h3:i.op=10∨i.op=11∨i.op=12∨i.op=15∨i.op=17∨i.op=24
 ·exact C5 i h3
 by_cases h4:i.op=8∨i.op=9∨i.op=13∨i.op=14
 ·exact C6 i h4
 by_cases h5:i.op=22
 ·exact C7 i h5
 have hr:bl i=(0,false):=by
  unfold bl;rw[if_neg (by omega),if_neg (by omega),if_neg (by omega),if_neg (by omega),if_neg (by omega),if_neg (by omega)]
 rw[hr];refine zf true 0 Tryz.func110 Tryz.ntmps110 ?_;dsimp only[Tmp,TypeId,ax];refine aB (av ?_);refine cj (av ?_);refine aj ?_;refine aB (av ?_);apply aQ rfl<;>intro h
 ·exact ab h (by omega)
 refine cj (av ?_);apply aQ rfl<;>intro h
 ·exact ab h (by omega)
 refine aB (av ?_);apply aQ rfl<;>intro h
 ·exact ab h (by omega)
 refine aB (av ?_);apply aQ rfl<;>intro h
 ·exact ab h (by omega)
 refine aB (av ?_);apply aQ rfl<;>intro h
 ·exact ab h (by omega)
 refine aB (av ?_);apply aQ rfl<;>intro h
 ·exact ab h (by omega)
 refine aB (av ?_);apply aQ rfl<;>intro h
 ·exact ab h (by omega)
 refine aB (av ?_);apply aQ rfl<;>intro h
 ·exact ab h (by omega)
 refine aB (av ?_);apply aQ rfl<;>intro h
 ·exact ab h (by omega)
 refine aB (av ?_);apply aQ rfl<;>intro h
 ·exact ab h (by omega)
 refine aB (av ?_);apply aQ rfl<;>intro h
 ·exact ab h (by omega)
 refine aB (av ?_);apply aQ rfl<;>intro h
 ·exact ab h (by omega)
 refine du (av ?_);apply aQ rfl<;>intro h
 ·exact ab h (by omega)
 refine aB (av ?_);apply aQ rfl<;>intro h
 ·exact ab h (by omega)
 refine cj (av ?_);apply aQ rfl<;>intro h
 ·exact ab h (by omega)
 refine aB (av ?_);apply aQ rfl<;>intro h
 ·exact ab h (by omega)
 refine aB (av ?_);apply aQ rfl<;>intro h
 ·exact ab h (by omega)
 refine aB (av ?_);apply aQ rfl<;>intro h
 ·exact ab h (by omega)
 refine aB (av ?_);apply aQ rfl<;>intro h
 ·exact ab h (by omega)
 refine du (av ?_);apply aQ rfl<;>intro h
 ·exact ab h (by omega)
 refine cj (av ?_);apply aQ rfl<;>intro h
 ·exact ab h (by omega)
 refine aB (av ?_);apply aQ rfl<;>intro h
 ·exact ab h (by omega)
 refine aB (av ?_);apply aQ rfl<;>intro h
 ·exact ab h (by omega)
 refine du (av ?_);apply aQ rfl<;>intro h
 ·exact ab h (by omega)
 refine aB (av ?_);apply aQ rfl<;>intro h
 ·exact ab h (by omega)
 refine pV ?_;refine aB (av ?_);refine ak ?_;simp -dsimp only[simprocAttr,↓aa,zp,zr,Tryz.results110];simp[aq,ae.upto]
theorem Ih(i:db)(kq:i.op=0):aV Tryz.prog 111 [i.enc] (.v (.bool (cI i))):=by
 have hr:cI i=decide (gh i.n):=by
  unfold cI;rw[if_pos (by omega)]
 rw[hr];refine zf true 0 Tryz.func111 Tryz.ntmps111 ?_;dsimp only[Tmp,TypeId,ax];refine aB (av ?_);refine cj (av ?_);refine aj ?_;refine aB (av ?_);apply aQ rfl<;>intro h
 ·refine aB ?_;refine zi (tg i.n) ?_;refine av ?_;refine ak ?_;simp -dsimp only[simprocAttr,↓aa,zp,zr,Tryz.results111]
 exact af h (by omega)
theorem Ii(i:db)(kq:i.op=8):aV Tryz.prog 111 [i.enc] (.v (.bool (cI i))):=by
 have hr:cI i=within i.n 0 255:=by
  unfold cI;rw[if_neg (by omega),if_pos (by omega)]
 rw[hr];refine zf true 0 Tryz.func111 Tryz.ntmps111 ?_;dsimp only[Tmp,TypeId,ax];refine aB (av ?_);refine cj (av ?_);refine aj ?_;refine aB (av ?_);apply aQ rfl<;>intro h
 ·exact ab h (by omega)
 refine aB (av ?_);apply aQ rfl<;>intro h
 ·refine aB ?_;refine zi (eh i.n 0 255) ?_;refine av ?_;refine ak ?_;simp -dsimp only[simprocAttr,↓aa,zp,zr,Tryz.results111]
 exact af h (by omega)
theorem Ij(i:db)(kq:i.op=11):aV Tryz.prog 111 [i.enc] (.v (.bool (cI i))):=by
 have hr:cI i=within i.n 0 15:=by
  unfold cI;rw[if_neg (by omega),if_neg (by omega),if_pos (by omega)]
 rw[hr];refine zf true 0 Tryz.func111 Tryz.ntmps111 ?_;dsimp only[Tmp,TypeId,ax];refine aB (av ?_);refine cj (av ?_);refine aj ?_;refine aB (av ?_);apply aQ rfl<;>intro h
 ·exact ab h (by omega)
 refine aB (av ?_);apply aQ rfl<;>intro h
 ·exact ab h (by omega)
 refine aB (av ?_);apply aQ rfl<;>intro h
 ·refine aB ?_;refine zi (eh i.n 0 15) ?_;refine av ?_;refine ak ?_;simp -dsimp only[simprocAttr,↓aa,zp,zr,Tryz.results111]
 exact af h (by omega)
theorem Ik(i:db)(kq:i.op=9∨i.op=13):aV Tryz.prog 111 [i.enc] (.v (.bool (cI i))):=by
 have hr:cI i=within i.n 0 255:=by
  unfold cI;rw[if_neg (by omega),if_neg (by omega),if_neg (by omega),if_pos (by omega)]
 rw[hr];refine zf true 0 Tryz.func111 Tryz.ntmps111 ?_;dsimp only[Tmp,TypeId,ax];refine aB (av ?_);refine cj (av ?_);refine aj ?_;refine aB (av ?_);apply aQ rfl<;>intro h
 ·exact ab h (by omega)
 refine aB (av ?_);apply aQ rfl<;>intro h
 ·exact ab h (by omega)
 refine aB (av ?_);apply aQ rfl<;>intro h
 ·exact ab h (by omega)
 refine cj (av ?_);refine jj (⟨51,[(1,.mp 0 0),(2,.v (.bool false)),(4,aI i.op),(20,.v (.bool true))],[.cells [aI i.to,aI i.op,aI i.n,ct i.args]]⟩) ?_ ?_
 ·apply aQ rfl<;>intro h
  ·refine au ?_;show bn _ _;refine zq rfl ?_ ?_;simp -dsimp only[simprocAttr,↓aa,zp,zc]
   ·exact Sub.of_eq (by rw[h])
   rfl
  refine du ?_;refine I ?_;show bn _ _;refine zq rfl ?_ ?_;simp -dsimp only[simprocAttr,↓aa,zp,zc]
  ·exact Sub.of_eq (by rw[decide_eq_true (show i.op=13 by simp only[decide_eq_false_iff_not]at *;omega)])
  rfl
 refine de rfl ?_;refine aB ?_;refine zi (eh i.n 0 255) ?_;refine av ?_;refine ak ?_;simp -dsimp only[simprocAttr,↓aa,zp,zr,Tryz.results111]
theorem Il(i:db)(kq:i.op=23):aV Tryz.prog 111 [i.enc] (.v (.bool (cI i))):=by
 have hr:cI i=decide (i.n=1∨i.n=2∨i.n=3):=by
  unfold cI;rw[if_neg (by omega),if_neg (by omega),if_neg (by omega),if_neg (by omega),if_pos (by omega)]
 rw[hr];by_cases h1:i.n=1
 ·have vf:decide (i.n=1)=true:=decide_eq_true h1;refine zf true 0 Tryz.func111 Tryz.ntmps111 ?_;dsimp only[Tmp,TypeId,ax];refine aB (av ?_);refine cj (av ?_);refine aj ?_;refine aB (av ?_);apply aQ rfl<;>intro h
  ·exact ab h (by omega)
  refine aB (av ?_);apply aQ rfl<;>intro h
  ·exact ab h (by omega)
  refine aB (av ?_);apply aQ rfl<;>intro h
  ·exact ab h (by omega)
  refine cj (av ?_);apply aQ rfl<;>intro h
  ·exact ab h (by omega)
  refine du (av ?_);apply aQ rfl<;>intro h
  ·exact ab h (by omega)
  refine aB (av ?_);apply aQ rfl<;>intro h
  ·refine aH ?_;simp -dsimp only[simprocAttr,↓aa,zp,vf];refine av ?_;refine ak ?_;simp -dsimp only[simprocAttr,↓aa,zp,zr,Tryz.results111];simp[h1]
  exact af h (by omega)
 have vf:decide (i.n=1)=false:=decide_eq_false h1;by_cases h2:i.n=2
 ·have n6:decide (i.n=2)=true:=decide_eq_true h2;refine zf true 0 Tryz.func111 Tryz.ntmps111 ?_;dsimp only[Tmp,TypeId,ax];refine aB (av ?_);refine cj (av ?_);refine aj ?_;refine aB (av ?_);apply aQ rfl<;>intro h
  ·exact ab h (by omega)
  refine aB (av ?_);apply aQ rfl<;>intro h
  ·exact ab h (by omega)
  refine aB (av ?_);apply aQ rfl<;>intro h
  ·exact ab h (by omega)
  refine cj (av ?_);apply aQ rfl<;>intro h
  ·exact ab h (by omega)
  refine du (av ?_);apply aQ rfl<;>intro h
  ·exact ab h (by omega)
  refine aB (av ?_);apply aQ rfl<;>intro h
  ·refine aH ?_;simp -dsimp only[simprocAttr,↓aa,zp,vf,n6];refine av ?_;refine ak ?_;simp -dsimp only[simprocAttr,↓aa,zp,zr,Tryz.results111];simp[h2]
  exact af h (by omega)
 have n6:decide (i.n=2)=false:=decide_eq_false h2;refine zf true 0 Tryz.func111 Tryz.ntmps111 ?_;dsimp only[Tmp,TypeId,ax];refine aB (av ?_);refine cj (av ?_);refine aj ?_;refine aB (av ?_);apply aQ rfl<;>intro h
 ·exact ab h (by omega)
 refine aB (av ?_);apply aQ rfl<;>intro h
 ·exact ab h (by omega)
 refine aB (av ?_);apply aQ rfl<;>intro h
 ·exact ab h (by omega)
 refine cj (av ?_);apply aQ rfl<;>intro h
 ·exact ab h (by omega)
 refine du (av ?_);apply aQ rfl<;>intro h
 ·exact ab h (by omega)
 refine aB (av ?_);apply aQ rfl<;>intro h
 ·refine aH ?_;simp -dsimp only[simprocAttr,↓aa,zp,vf,n6];refine av ?_;refine ak ?_;simp -dsimp only[simprocAttr,↓aa,zp,zr,Tryz.results111];simp[h1,h2]
 exact af h (by omega)
theorem Im(i:db)(kq:i.op=24):aV Tryz.prog 111 [i.enc] (.v (.bool (cI i))):=by
 have hr:cI i=within i.n 0 3:=by
  unfold cI;rw[if_neg (by omega),if_neg (by omega),if_neg (by omega),if_neg (by omega),if_neg (by omega),if_pos (by omega)]
 rw[hr];refine zf true 0 Tryz.func111 Tryz.ntmps111 ?_;dsimp only[Tmp,TypeId,ax];refine aB (av ?_);refine cj (av ?_);refine aj ?_;refine aB (av ?_);apply aQ rfl<;>intro h
 ·exact ab h (by omega)
 refine aB (av ?_);apply aQ rfl<;>intro h
 ·exact ab h (by omega)
 refine aB (av ?_);apply aQ rfl<;>intro h
 ·exact ab h (by omega)
 refine cj (av ?_);apply aQ rfl<;>intro h
 ·exact ab h (by omega)
 refine du (av ?_);apply aQ rfl<;>intro h
 ·exact ab h (by omega)
 refine aB (av ?_);apply aQ rfl<;>intro h
 ·exact ab h (by omega)
 refine aB (av ?_);apply aQ rfl<;>intro h
 ·refine aB ?_;refine zi (eh i.n 0 3) ?_;refine av ?_;refine ak ?_;simp -dsimp only[simprocAttr,↓aa,zp,zr,Tryz.results111]
 exact af h (by omega)
theorem Io(i:db)(kq:i.op=22):aV Tryz.prog 111 [i.enc] (.v (.bool (cI i))):=by
 have hr:cI i=true:=by
  unfold cI;rw[if_neg (by omega),if_neg (by omega),if_neg (by omega),if_neg (by omega),if_neg (by omega),if_neg (by omega),if_pos (by omega)]
 rw[hr];refine zf true 0 Tryz.func111 Tryz.ntmps111 ?_;dsimp only[Tmp,TypeId,ax];refine aB (av ?_);refine cj (av ?_);refine aj ?_;refine aB (av ?_);apply aQ rfl<;>intro h
 ·exact ab h (by omega)
 refine aB (av ?_);apply aQ rfl<;>intro h
 ·exact ab h (by omega)
 refine aB (av ?_);apply aQ rfl<;>intro h
 ·exact ab h (by omega)
 refine cj (av ?_);apply aQ rfl<;>intro h
 ·exact ab h (by omega)
 refine du (av ?_);apply aQ rfl<;>intro h
 ·exact ab h (by omega)
 refine aB (av ?_);apply aQ rfl<;>intro h
 ·exact ab h (by omega)
 refine aB (av ?_);apply aQ rfl<;>intro h
 ·exact ab h (by omega)
 refine aB (av ?_);apply aQ rfl<;>intro h
 ·refine aB (av ?_);refine ak ?_;simp -dsimp only[simprocAttr,↓aa,zp,zr,Tryz.results111]
 exact af h (by omega)
theorem AZ(i:db):aV Tryz.prog 111 [i.enc] (.v (.bool (cI i))):=by
 by_cases h0:i.op=0
 ·exact Ih i h0
 by_cases h1:i.op=8
 ·exact Ii i h1
 by_cases h2:i.op=11
 ·exact Ij i h2
 by_cases h3:i.op=9∨i.op=13
 ·exact Ik i h3
 by_cases h4:i.op=23
 ·exact Il i h4
 by_cases h5:i.op=24
 ·exact Im i h5
 by_cases h6:i.op=22
 ·exact Io i h6
 have hr:cI i=decide (i.n=0):=by
  unfold cI;rw[if_neg (by omega),if_neg (by omega),if_neg (by omega),if_neg (by omega),if_neg (by omega),if_neg (by omega),if_neg (by omega)]
 rw[hr];refine zf true 0 Tryz.func111 Tryz.ntmps111 ?_;dsimp only[Tmp,TypeId,ax];refine aB (av ?_);refine cj (av ?_);refine aj ?_;refine aB (av ?_);apply aQ rfl<;>intro h
 ·exact ab h (by omega)
 refine aB (av ?_);apply aQ rfl<;>intro h
 ·exact ab h (by omega)
 refine aB (av ?_);apply aQ rfl<;>intro h
 ·exact ab h (by omega)
 refine cj (av ?_);apply aQ rfl<;>intro h
 ·exact ab h (by omega)
 refine du (av ?_);apply aQ rfl<;>intro h
 ·exact ab h (by omega)
 refine aB (av ?_);apply aQ rfl<;>intro h
 ·exact ab h (by omega)
 refine aB (av ?_);apply aQ rfl<;>intro h
 ·exact ab h (by omega)
 refine aB (av ?_);apply aQ rfl<;>intro h
 ·exact ab h (by omega)
 refine pV ?_;refine aB (av ?_);refine ak ?_;simp -dsimp only[simprocAttr,↓aa,zp,zr,Tryz.results111]
def Ax(i:db)(many:Int)(known:Bool):Bool:=(!known ||(decide (0<=many)&&!decide ((i.args.length:Int)=many))) ||(decide (i.op=14)&&decide ((i.args.length:Int)=0))
def va(i:db):Bool:=(decide (i.op=8) ||decide (i.op=9))&&decide ((16:Int)<i.args.length)
def Ay(i:db):Bool:=(decide (i.op=13) ||decide (i.op=14))&&decide ((6:Int)<i.args.length)
def rm(i:db):Int:=if Ax i (bl i).1 (bl i).2 then 3 else if va i ||Ay i then 2 else if cI i then 0 else 4
theorem Fw(i:db):aV Tryz.prog 95 [i.enc] (aI (rm i)):=by
 have kq:=w9 i;have Uq:=AZ i;unfold rm;generalize bl i=r at *;obtain⟨many,known⟩:=r;simp only at kq ⊢;generalize cI i=nb at *;refine zf true 0 Tryz.func95 Tryz.ntmps95 ?_;dsimp only[Tmp,TypeId,ax];refine aB (av ?_);refine aB ?_;refine zi kq ?_;refine av ?_;refine aG (aj ?_);refine m6 (⟨68,[(1,.mp 0 0),(2,aI 0),(10,.v (.bool (Ax i many known)))],[.cells [aI i.to,aI i.op,aI i.n,ct i.args]]⟩) ?_ ?_
 ·cases known<;>cases hA:decide ((0:Int)<=many)<;>cases hB:decide ((i.args.length:Int)=many)<;>cases hC:decide (i.op=14)<;>cases hD:decide ((i.args.length:Int)=0)
  all_goals
   refine m7 hT hm ?_;simp -dsimp only[simprocAttr,↓aa,zp,hA,hB,hC,hD];refine I ?_;show bn _ _;refine zq rfl ?_ ?_;simp -dsimp only[simprocAttr,↓aa,zp,zc]
   ·exact Sub.of_eq (by unfold Ax;rw[hA,hB,hC,hD];rfl)
   rfl
 cases XU:Ax i many known
 ·refine cB rfl ?_;refine m6 (⟨68,[(1,.mp 0 0),(2,aI 0),(35,.v (.bool (va i ||Ay i)))],[.cells [aI i.to,aI i.op,aI i.n,ct i.args]]⟩) ?_ ?_
  ·refine m6 (⟨68,[(1,.mp 0 0),(2,aI 0),(35,.v (.bool (va i)))],[.cells [aI i.to,aI i.op,aI i.n,ct i.args]]⟩) ?_ ?_
   ·cases hA:decide (i.op=8)<;>cases hB:decide (i.op=9)<;>cases hC:decide ((16:Int)<i.args.length)
    all_goals
     refine m7 hT hm ?_;simp -dsimp only[simprocAttr,↓aa,zp,hA,hB,hC];refine I ?_;show bn _ _;refine zq rfl ?_ ?_;simp -dsimp only[simprocAttr,↓aa,zp,zc]
     ·exact Sub.of_eq (by unfold va;rw[hA,hB,hC];rfl)
     rfl
   cases XV:va i
   ·refine cB rfl ?_;cases hA:decide (i.op=13)<;>cases hB:decide (i.op=14)<;>cases hC:decide ((6:Int)<i.args.length)
    all_goals
     refine m7 hT hm ?_;simp -dsimp only[simprocAttr,↓aa,zp,hA,hB,hC];refine I ?_;show bn _ _;refine zq rfl ?_ ?_;simp -dsimp only[simprocAttr,↓aa,zp,zc]
     ·exact Sub.of_eq (by unfold Ay;rw[hA,hB,hC];rfl)
     rfl
   refine de rfl ?_;refine au ?_;show bn _ _;refine zq rfl ?_ ?_;simp -dsimp only[simprocAttr,↓aa,zp,zc]
   ·exact Sub.refl _
   rfl
  cases XR:(va i ||Ay i)
  ·refine cB rfl ?_;refine aB ?_;refine zi Uq ?_;refine av ?_;cases XZ:nb
   ·refine de rfl ?_;refine aB (av ?_);refine ak ?_;simp -dsimp only[simprocAttr,↓aa,zp,zr,Tryz.results95]
   refine cB rfl ?_;refine pV ?_;refine aB (av ?_);refine ak ?_;simp -dsimp only[simprocAttr,↓aa,zp,zr,Tryz.results95]
  refine de rfl ?_;refine aB (av ?_);refine ak ?_;simp -dsimp only[simprocAttr,↓aa,zp,zr,Tryz.results95]
 refine de rfl ?_;refine aB (av ?_);refine ak ?_;simp -dsimp only[simprocAttr,↓aa,zp,zr,Tryz.results95]
theorem dK{O:List ay}{k:Nat}{y:ay}(h:O[k]?=some y)(x:ay):(O.set k x)[k]?=some x:=List.getElem?_set_self (ag h)
theorem bo{O:List ay}{n k:Nat}{cs ds:List ae}(h:∀o∈O,o.upto n)(hk:O[k]?=some (.cells cs))(hd:aq n cs->aq n ds):∀o∈O.set k (.cells ds),o.upto n :=
 dH h (hd (h _ (List.mem_of_getElem? hk)))
theorem ca{n:Nat}{u v:cW}{m p:Mach}(h:aq n (aD u m))(hs:p.sid=m.sid):aq n (aD v p):=by
 simp only[aD,aq,ae.upto,aL,Func.an,true_and,and_true]at h ⊢;rw[hs];exact h
theorem pw(m:Mach)(n:Int):(m.gp n).sid=m.sid:=by
 unfold Mach.gp;split<;>rfl
theorem vG{u:cW}{m:Mach}{O:List ay}(bD:∀o∈O,o.upto O.length)(h0:O[2]?=some (.cells (aD u m)))(n:Int)(h1:0<=m.left)(h2:m.left<=2 ^ 40)(h3:0<=n) :
  aY Tryz.prog 49 O [.mp 2 0,aI n] (fun r O'=>r=.c5 []∧O'=O.set 2 (.cells (aD u (m.gp n)))):=by
 have hs:=dK h0;have nZ:=bo bD h0 (ds:=aD u (m.gp n)) (fun h=>ca h (pw m n));have nQ:=c9 (O:=O) (k:=2) (x:=.cells (aD u (m.gp n)));unfold aD at h0;by_cases hc:m.left<n
 ·have hd:decide (m.left<n)=true:=decide_eq_true hc;have hp:[cc u.fns,aI u.main,.os m.sid m.frames.length 1,aI m.left,.v (.bool true),.v (.bool true),.aC 1 (m.out.map aI) (.tok 3),aI m.fin,aI m.val]=aD u (m.gp n):=by
   simp[Mach.gp,hc,aD]
  refine zf true O.length Tryz.func49 Tryz.ntmps49 ?_;dsimp only[Tmp,TypeId,ax];refine cg ?_;simp -dsimp only[simprocAttr,↓aa,zp,h0];refine av ?_;apply aQ rfl<;>intro h
  ·refine aH ?_;simp -dsimp only[simprocAttr,↓aa,zp,h0,hs,List.set_set,hp];refine av ?_;refine ak ?_;simp -dsimp only[simprocAttr,↓aa,zp,zr,Tryz.results49,nQ,List.length_set];exact⟨nZ,trivial⟩
  simp[hd]at h
 have hd:decide (m.left<n)=false:=decide_eq_false hc;have hp:[cc u.fns,aI u.main,.os m.sid m.frames.length 1,aI (m.left-n),.v (.bool m.short),.v (.bool m.over),.aC 1 (m.out.map aI) (.tok 3),aI m.fin,aI m.val]=aD u (m.gp n):=by
  simp[Mach.gp,hc,aD]
 refine zf true O.length Tryz.func49 Tryz.ntmps49 ?_;dsimp only[Tmp,TypeId,ax];refine cg ?_;simp -dsimp only[simprocAttr,↓aa,zp,h0];refine av ?_;apply aQ rfl<;>intro h
 ·simp[hd]at h
 refine eH ?_;refine fq ?_;simp -dsimp only[simprocAttr,↓aa,zp,h0,hs,List.set_set,hp]
 repeat(refine⟨by omega,?_⟩)
 refine I ?_;simp -dsimp only[simprocAttr,↓aa,zp,zr,Tryz.results49,nQ,List.length_set];exact⟨nZ,trivial⟩
theorem lf{u:cW}{m:Mach}{O:List ay}(bD:∀o∈O,o.upto O.length)(h0:O[2]?=some (.cells (aD u m)))(e n:Int) :
  aY Tryz.prog 84 O [.mp 2 0,aI e,aI n] (fun r O'=>r=.c5 []∧O'=O.set 2 (.cells (aD u (m.stop e n)))):=by
 have hs:=dK h0;have nZ:=bo bD h0 (ds:=aD u (m.stop e n)) (fun h=>ca h rfl);have nQ:=c9 (O:=O) (k:=2) (x:=.cells (aD u (m.stop e n)));unfold aD at h0;have hp:[cc u.fns,aI u.main,.os m.sid m.frames.length 1,aI m.left,.v (.bool m.short),.v (.bool true),.aC 1 (m.out.map aI) (.tok 3),aI e,aI n]=aD u (m.stop e n):=rfl;refine zf true O.length Tryz.func84 Tryz.ntmps84 ?_;dsimp only[Tmp,TypeId,ax];refine aH ?_;simp -dsimp only[simprocAttr,↓aa,zp,h0];refine av ?_;refine fq ?_;simp -dsimp only[simprocAttr,↓aa,zp,hs,List.set_set,hp];refine I ?_;simp -dsimp only[simprocAttr,↓aa,zp,zr,Tryz.results84,nQ,List.length_set];exact⟨nZ,trivial⟩
theorem nc{sz:Nat}{xs:List ae}(h:∀x∈xs,x.cells.length=sz){k:Nat}(hk:k<xs.length){y:ae}(hy:y.cells.length=sz):bu (ar xs) (k*sz) y.cells=ar (xs.set k y):=by
 induction xs generalizing k with
 | nil=>simp at hk
 | cons p r ih =>
  have hp:=h p (by simp);cases k with
  | zero =>
   simp only[List.set_cons_zero,ar,List.flatMap_cons,bu,Nat.zero_mul,List.take_zero,List.nil_append,Nat.zero_add,hy];rw[List.drop_append_of_le_length (by omega),List.drop_of_length_le (by omega)];rfl
  | succ k =>
   have:=ih (fun x hx=>h x (by simp[hx])) (k:=k) (by simpa using hk);have e1:(k+1)*sz-sz=k*sz:=by rw[Nat.succ_mul];omega
   have e2:(k+1)*sz+sz-sz=k*sz+sz:=by rw[Nat.succ_mul];omega
   have e3:sz<=(k+1)*sz:=by rw[Nat.succ_mul];omega
   simp only[List.set_cons_succ,ar,List.flatMap_cons,bu,hy]at this ⊢;rw[List.take_append,List.drop_append,hp,List.take_of_length_le (by omega),List.drop_of_length_le (by omega),e1,e2,List.nil_append,List.append_assoc,this]
def kz(es:List (Int×SV))(k:Int):ae:=(Option.map SV.enc (jy es k)).getD (.agg [aI 0,aI 0,.aC 4 [] .ex,.v (.pointer none)])
theorem vJ(es:List (Int×SV))(k:Int):(kz es k).share=(jN es k).enc:=by
 unfold kz jN;cases jy es k with
 | none=>rfl
 | some v=>exact v.ao
theorem ga(es:List (Int×SV))(k:Int):(kz es k).cells.length=4:=by
 unfold kz;cases jy es k with
 | none=>rfl
 | some v=>exact v.bK
theorem jW(es:List (Int×SV))(k:Int):(kz es k).flat:=by
 unfold kz;cases jy es k with
 | none=>trivial
 | some v=>exact v.aw
def rU(es:List (Int×SV))(l:List Int)(k:Nat):List ae:=(l.take k).map (kz es)++List.replicate (l.length-k) (.agg [aI 0,aI 0,.aC 4 [] .ex,.v (.pointer none)])
theorem vM{es:List (Int×SV)}{l:List Int}{k:Nat}(h:k<=l.length):(rU es l k).length=l.length:=by
 simp[rU];omega
theorem qC{es:List (Int×SV)}{l:List Int}{k:Nat}:∀x∈rU es l k,x.cells.length=4:=fun x hx=>by
 simp only[rU,List.mem_append,List.mem_map,List.mem_replicate]at hx;rcases hx with⟨v,_,rfl⟩|⟨_,rfl⟩
 ·exact ga es v
 rfl
theorem F9(es:List (Int×SV))(l:List Int):ar (rU es l 0)=(List.replicate l.length [aI 0,aI 0,.aC 4 [] .ex,.v (.pointer none)]).flatten:=by
 simp[rU,ar,List.flatMap,ae.cells]
theorem F8{es:List (Int×SV)}{l:List Int}{k:Nat}{v:Int}(h:l[k]?=some v):(rU es l k).set k (kz es v)=rU es l (k+1):=by
 have aN:=ag h;obtain⟨j,hj⟩:∃j,l.length-k=j+1:=⟨l.length-k-1,by omega⟩
 have e:l.take (k+1)=l.take k++[v]:=by rw[List.take_add_one,h];rfl
 have ek:((l.take k).map (kz es)).length=k:=by simp;omega
 unfold rU;rw[e,hj,show l.length-(k+1)=j by omega,List.set_append_right _ _ (by omega),ek,Nat.sub_self];simp[List.replicate_succ]
theorem Iw(es:List (Int×SV))(l:List Int):(ar (rU es l l.length)).map ae.bp=ar ((gR es l).map SV.enc):=by
 rw[<-ef];simp only[rU,Nat.sub_self,List.replicate_zero,List.append_nil,List.take_length,gR,List.map_map];congr 1;apply List.map_congr_left;intro v _;exact vJ es v
theorem jO{es:List (Int×SV)}{n:Nat}(h:∀e∈es,SV.bk n e.2)(k:Int):SV.bk n (jN es k):=by
 unfold jN;cases hl:jy es k with
 | none=>exact .mk (by simp) (by simp)
 | some v =>
  obtain⟨e,h1,rfl⟩:=xI hl;exact h e h1
theorem oZ{es:List (Int×SV)}{n:Nat}(h:∀e∈es,SV.bk n e.2)(l:List Int):∀v∈gR es l,SV.bk n v:=fun v hv=>by
 obtain⟨k,_,rfl⟩:=List.mem_map.1 hv;exact jO h k
theorem j0{f:Fr}{O:List ay}(bD:∀o∈O,o.upto O.length)(hf:O[f.b9]?=some (.cells (aX f)))(hv:O[f.dR]?=some (.map (.int .i64) (f.vals.map il)))(hu:∀e∈f.vals,SV.bk O.length e.2)(l:List Int)(hl:l.length<=4096) :
  aY Tryz.prog 83 O [.mp f.b9 0,ct l] (fun r O'=>r=.aC 4 ((gR f.vals l).map SV.enc) .sh∧O'=O):=by
 have fm:=SV.an (oZ hu l);have gf:∀X:List ay,(O++X)[f.b9]?=some (.cells (aX f)):=fun X=>eU hf;have P5:∀X:List ay,(O++X)[f.dR]?=some (.map (.int .i64) (f.vals.map il)):=fun X=>eU hv;unfold aX at gf;refine zf true O.length Tryz.func83 Tryz.ntmps83 ?_;dsimp only[Tmp,TypeId,ax];refine aB (av ?_);refine aB ?_
 repeat(refine⟨by omega,?_⟩)
 refine av ?_;refine cj (av ?_);refine aj (aO (ι:={k:Nat // k<=l.length}) (fun k=>⟨29,[(0,.mp f.b9 0),(5,.ms O.length 0 l.length l.length),(11,ct l),(12,aI l.length),(13,aI k.1)],O++[.cells (ar (rU f.vals l k.1))]⟩) (fun k=>l.length-k.1) ⟨0,by omega⟩ ?_ ?_)
 ·refine zq rfl ?_ ?_;simp -dsimp only[simprocAttr,↓aa,zp,zc];rw[F9]
 rintro⟨k,hk⟩;refine aB (av ?_);apply gr rfl<;>intro h
 ·refine eH ?_;have aN:k<l.length:=by simpa using h
  obtain⟨v,wW⟩:∃v,l[k]?=some v:=⟨l[k],by simp[aN]⟩
  have vo:(Option.map SV.enc (jy f.vals v)).getD (.agg [aI 0,aI 0,.aC 4 [] .ex,.v (.pointer none)])=kz f.vals v:=rfl;have fc:=bI (qC (es:=f.vals) (l:=l) (k:=k));rw[vM hk]at fc;have iW:=nc (qC (es:=f.vals) (l:=l) (k:=k)) (k:=k) (by rw[vM hk];exact aN) (ga f.vals v);rw[F8 wW]at iW;have hn:=oY O (ay.cells (ar (rU f.vals l k)));have eo:=fun y=>vS O (ay.cells (ar (rU f.vals l k))) y;refine aG (aj ?_);refine aH ?_;simp -dsimp only[simprocAttr,↓aa,zp,wW];refine av ?_;refine fq ?_;simp -dsimp only[simprocAttr,↓aa,zp,gf,P5,mL,vo,hn,eo,jW,ga,fc,iW]
  repeat(refine⟨by omega,?_⟩)
  refine av ?_;refine du ?_
  repeat(refine⟨by omega,?_⟩)
  refine r7 ?_;refine⟨⟨k+1,aN⟩,by simp;omega,?_⟩;refine zq rfl ?_ ?_;simp -dsimp only[simprocAttr,↓aa,zp,zc]
  ·exact Sub.int (by simp)
  rfl
 refine aM ?_;simp -dsimp only[ai,ne_eq,Nat.reduceEqDiff,reduceCtorEq];have gg:k=l.length:=by simp at h;omega
 subst gg;refine BR 5 (sz:=4) ((gR f.vals l).map SV.enc) [(5,.aC 4 ((gR f.vals l).map SV.enc) .sh)] rfl ?_ ?_ ?_ (by omega) (by simp[cq,bL,Go.Av.look]) ?_ ?_ ?_
 ·intro x hx;obtain⟨y,_,rfl⟩:=List.mem_map.1 hx;exact y.bK
 ·simp[gR]
 ·rw[<-Iw,List.take_of_length_le];rw[bI qC,vM hk];exact Nat.le_refl _
 ·exact bD
 ·intro p hp;simp only[List.mem_singleton]at hp;subst hp;exact⟨fm,trivial⟩
 refine aB (av ?_);refine ak ?_;simp -dsimp only[simprocAttr,↓aa,zp,zr,Tryz.results83,List.take_length];exact⟨bD,fm⟩
theorem dd(n:Int):aV Tryz.prog 104 [aI n] (SV.word n).enc:=by
 refine zf true 0 Tryz.func104 Tryz.ntmps104 ?_;dsimp only[Tmp,TypeId,ax];refine aB (av ?_);refine aB (av ?_);refine ak ?_;simp -dsimp only[simprocAttr,↓aa,zp,zr,Tryz.results104];simp[SV.word,SV.jM,eP,aq,ae.upto]
theorem vX(b:Bool):aV Tryz.prog 119 [.v (.bool b)] (SV.word (if b then 1 else 0)).enc:=by
 have h1:=dd 1;have h0:=dd 0;have c1:(SV.word 1).enc.cells=[aI 0,aI 1,.aC 4 [] .sh,.v (.pointer none)]:=rfl;have c0:(SV.word 0).enc.cells=[aI 0,aI 0,.aC 4 [] .sh,.v (.pointer none)]:=rfl;refine zf true 0 Tryz.func119 Tryz.ntmps119 ?_;dsimp only[Tmp,TypeId,ax];refine aB (av ?_);refine cj (av ?_);apply aQ rfl<;>intro h
 ·refine aB ?_;refine .inl ⟨_,h1,by simp only[aq,ae.upto,zt],ah ?_⟩;simp -dsimp only[simprocAttr,↓aa,zp,c1];refine av ?_;refine ak ?_;simp -dsimp only[simprocAttr,↓aa,zp,zr,Tryz.results119];subst h;exact⟨by simp[aq,ae.upto],rfl⟩
 refine eH ?_;refine aB ?_;refine .inl ⟨_,h0,by simp only[aq,ae.upto,zt],ah ?_⟩;simp -dsimp only[simprocAttr,↓aa,zp,c0];refine av ?_;refine ak ?_;simp -dsimp only[simprocAttr,↓aa,zp,zr,Tryz.results119];subst h;exact⟨by simp[aq,ae.upto],rfl⟩
theorem GO{O:List ay}(bD:∀o∈O,o.upto O.length)(l:List SV)(hl:∀v∈l,SV.bk O.length v)(k:Int):aY Tryz.prog 105 O [.aC 4 (l.map SV.enc) .sh,aI k] (fun r O'=>r=.v (.bool (lh l k))∧O'=O):=by
 refine zf true O.length Tryz.func105 Tryz.ntmps105 ?_;dsimp only[Tmp,TypeId,ax];refine aB (av ?_);refine cj (av ?_);refine bT 7 rfl (fun hlen=>?_);simp only[List.length_map]at hlen;refine aj (aO (ι:={j:Nat // j<=l.length∧∀v∈l.take j,v.kind=k}) (fun j=>⟨18,[(1,aI k),(4,.v (.bool false)),(7,.aC 4 (l.map SV.enc) .sh),(8,aI l.length),(9,aI j.1)],O⟩) (fun j=>l.length-j.1) ⟨0,by omega,by simp⟩ ?_ ?_)
 ·refine zq rfl ?_ ?_;simp -dsimp only[simprocAttr,↓aa,zp,zc];rfl
 rintro⟨j,hj,bq⟩;refine aB (av ?_);apply gr rfl<;>intro h
 ·refine eH ?_;have aN:j<l.length:=by simpa using h
  obtain⟨v,hv⟩:∃v,l[j]?=some v:=⟨l[j],by simp[aN]⟩
  have qn:=(hl v (List.mem_of_getElem? hv)).aF;rw[SV.dN]at qn;refine aG (aj ?_);refine aH ?_;simp -dsimp only[simprocAttr,↓aa,zp,hv];refine av ?_;refine bg 6 ([aI v.kind,aI v.n,.aC 4 (v.list.map SV.enc) .sh,eP v.arr]) [(1,aI k),(4,.v (.bool false)),(6,.ip none [aI v.kind,aI v.n,.aC 4 (v.list.map SV.enc) .sh,eP v.arr]),(7,.aC 4 (l.map SV.enc) .sh),(8,aI l.length),(9,aI j)] rfl (by simp only[List.map_cons,List.map_nil,c4,cw,dY,dZ,dX,dV,dW,cC]) (by omega) (by simp[cq,bL,Go.Av.look]) ?_ ?_ ?_
  ·exact bD
  ·intro p hp;simp only[List.mem_cons,List.mem_nil_iff,or_false]at hp;have WT:=SV.an hl;rcases hp with rfl|rfl|rfl|rfl|rfl|rfl
   ·trivial
   ·trivial
   ·exact qn
   ·exact⟨WT,trivial⟩
   ·trivial
   trivial
  refine aB (av ?_);apply aQ rfl<;>intro h
  ·refine aB (av ?_);refine ak ?_;simp -dsimp only[simprocAttr,↓aa,zp,zr,Tryz.results105];have hk:v.kind≠k:=by simpa using h
   refine⟨bD,?_⟩;have:lh l k=false:=by
    simp only[lh,List.all_eq_false,decide_eq_true_eq];exact⟨v,List.mem_of_getElem? hv,hk⟩
   rw[this]
  refine pV ?_;have hk:v.kind=k:=by simpa using h
  refine du ?_
  repeat(refine⟨by omega,?_⟩)
  refine r7 ?_;refine⟨⟨j+1,aN,fun w hw=>?_⟩,by simp;omega,?_⟩
  ·rw[List.take_add_one,hv]at hw;simp only[Option.toList_some,List.mem_append,List.mem_singleton]at hw;rcases hw with hw|rfl
   ·exact bq w hw
   exact hk
  refine zq rfl ?_ ?_;simp -dsimp only[simprocAttr,↓aa,zp,zc]
  ·exact Sub.int (by simp)
  rfl
 refine aM ?_;simp -dsimp only[ai,ne_eq,Nat.reduceEqDiff,reduceCtorEq];have gg:j=l.length:=by simp at h;omega
 subst gg;refine aB (av ?_);refine ak ?_;simp -dsimp only[simprocAttr,↓aa,zp,zr,Tryz.results105];rw[List.take_length]at bq;refine⟨bD,?_⟩;have:lh l k=true:=by
  simp only[lh,List.all_eq_true,decide_eq_true_eq];exact bq
 rw[this]
theorem x8{O:List ay}(bD:∀o∈O,o.upto O.length)(l:List SV)(hl:∀v∈l,SV.bk O.length v)(k:Int)(X:List ay):aY Tryz.prog 105 (O++X) [.aC 4 (l.map SV.enc) .sh,aI k] (fun r O'=>r=.v (.bool (lh l k))∧O'=O++X) :=
 aY.frame (GO bD l hl k) rfl ⟨⟨SV.an hl,trivial⟩,trivial,trivial⟩ bD X
theorem dF(n:Int):(SV.word n).enc.cells=[aI 0,aI n,.aC 4 [] .sh,.v (.pointer none)]:=rfl
theorem wj(k:Nat)(n:Int):SV.bk k (SV.word n):=.mk (by simp) (by simp)
theorem qI(k:Nat):SV.bk k SV.zero:=.mk (by simp) (by simp)
theorem ma{k:Nat}{n m:Int}:aq k [(SV.word n).enc,.v (.int .i64 m)]:=⟨(wj k n).aF,trivial,trivial⟩
theorem gd{k:Nat}{m:Int}:aq k [SV.zero.enc,.v (.int .i64 m)]:=⟨(qI k).aF,trivial,trivial⟩
theorem fL(n:Int):ae.agg [aI 0,aI n,.aC 4 [] .sh,.v (.pointer none)]=(SV.word n).enc:=rfl
theorem cF:ae.agg [aI 0,aI 0,.aC 4 [] .sh,.v (.pointer none)]=SV.zero.enc:=rfl
theorem sU(op a b:Int)(ha:gh a)(hb:gh b):aV Tryz.prog 106 [aI op,aI a,aI b] (.c5 [(dp op a b).1.enc,aI (dp op a b).2]):=by
 have q1:=kf a b ha hb;have q2:=IM a b ha hb;have q3:=Ie a b ha hb;have q4:=fun h=>Hh a b ha hb h;have q5:=fun h=>Ic a b ha hb h;refine zf true 0 Tryz.func106 Tryz.ntmps106 ?_;dsimp only[Tmp,TypeId,ax];refine aB (av ?_);refine cj (av ?_);refine aj ?_;refine aB (av ?_);apply aQ rfl<;>intro h
 ·have e:op=1:=by simpa using h
  refine aB ?_;refine .inl ⟨_,q1,by simp only[aq,ae.upto,zt],ah ?_⟩;refine .inl ⟨_,dd _,by simp[aq,ae.upto,uc],ah ?_⟩;simp -dsimp only[simprocAttr,↓aa,zp,dF];refine av ?_;refine ak ?_;simp -dsimp only[simprocAttr,↓aa,zp,zr,Tryz.results106,fL];simp[dp,e,ma]
 have e1:op≠1:=by simpa using h
 refine aB (av ?_);apply aQ rfl<;>intro h
 ·have e:op=2:=by simpa using h
  refine aB ?_;refine .inl ⟨_,q2,by simp only[aq,ae.upto,zt],ah ?_⟩;refine .inl ⟨_,dd _,by simp[aq,ae.upto,uc],ah ?_⟩;simp -dsimp only[simprocAttr,↓aa,zp,dF];refine av ?_;refine ak ?_;simp -dsimp only[simprocAttr,↓aa,zp,zr,Tryz.results106,fL];simp[dp,e,ma]
 have e2:op≠2:=by simpa using h
 refine aB (av ?_);apply aQ rfl<;>intro h
 ·have e:op=3:=by simpa using h
  refine aB ?_;refine .inl ⟨_,q3,by simp only[aq,ae.upto,zt],ah ?_⟩;refine .inl ⟨_,dd _,by simp[aq,ae.upto,uc],ah ?_⟩;simp -dsimp only[simprocAttr,↓aa,zp,dF];refine av ?_;refine ak ?_;simp -dsimp only[simprocAttr,↓aa,zp,zr,Tryz.results106,fL];simp[dp,e,ma]
 have e3:op≠3:=by simpa using h
 refine aB (av ?_);apply aQ rfl<;>intro h
 ·have e:op=6:=by simpa using h
  refine aB ?_;refine .inl ⟨_,vX _,by simp only[aq,ae.upto,zt],ah ?_⟩;simp -dsimp only[simprocAttr,↓aa,zp,dF];refine av ?_;refine ak ?_;simp -dsimp only[simprocAttr,↓aa,zp,zr,Tryz.results106,fL];simp[dp,e,ma]
 have e6:op≠6:=by simpa using h
 refine aB (av ?_);apply aQ rfl<;>intro h
 ·have e:op=7:=by simpa using h
  refine aB ?_;refine .inl ⟨_,vX _,by simp only[aq,ae.upto,zt],ah ?_⟩;simp -dsimp only[simprocAttr,↓aa,zp,dF];refine av ?_;refine ak ?_;simp -dsimp only[simprocAttr,↓aa,zp,zr,Tryz.results106,fL];simp[dp,e,ma]
 have e7:op≠7:=by simpa using h
 refine pV ?_;refine cj (av ?_);apply aQ rfl<;>intro h
 ·have e:b=0:=by simpa using h
  refine aB (av ?_);refine ak ?_;simp -dsimp only[simprocAttr,↓aa,zp,zr,Tryz.results106,cF];simp[dp,e1,e2,e3,e6,e7,e,gd]
 have e0:b≠0:=by simpa using h
 refine eH ?_;refine cj (av ?_);apply aQ rfl<;>intro h
 ·have e:op=4:=by simpa using h
  refine aB ?_;refine zi (q4 e0) ?_;refine av ?_;refine aB ?_;refine .inl ⟨_,dd _,by simp only[aq,ae.upto,zt],ah ?_⟩;simp -dsimp only[simprocAttr,↓aa,zp,dF];refine av ?_;refine ak ?_;simp -dsimp only[simprocAttr,↓aa,zp,zr,Tryz.results106,fL];simp[dp,e,ma,e0]
 have e4:op≠4:=by simpa using h
 refine eH ?_;refine aB ?_;refine zi (q5 e0) ?_;refine av ?_;refine aB ?_;refine .inl ⟨_,dd _,by simp only[aq,ae.upto,zt],ah ?_⟩;simp -dsimp only[simprocAttr,↓aa,zp,dF];refine av ?_;refine ak ?_;simp -dsimp only[simprocAttr,↓aa,zp,zr,Tryz.results106,fL];simp[dp,e1,e2,e3,e4,e6,e7,ma,e0]
theorem gi{l:List SV}{k:Nat}{v:SV}(h:l[k]?=some v):cR l k=v:=by simp[cR,h]
theorem vK{k:Nat}{v:SV}{m:Int}(h:SV.bk k v):aq k [v.enc,.v (.int .i64 m)]:=⟨h.aF,trivial,trivial⟩
theorem nH{k:Nat}{v:SV}(h:SV.bk k v):∀x∈v.list,SV.bk k x:=by cases h;assumption
theorem A0{O:List ay}(bD:∀o∈O,o.upto O.length)(i:db)(args:List SV)(hl:∀v∈args,SV.bk O.length v)(o:SV)(h0:args[0]?=some o)
  (hp:i.op≠10->i.op≠11->i.op≠12->∃p,args[1]?=some p) (hn:i.op=11->0<=i.n) :
  aY Tryz.prog 107 O [i.enc,.aC 4 (args.map SV.enc) .sh] (fun r O'=>r=.c5 [(dc i args).1.enc,aI (dc i args).2]∧O'=O):=by
 have VQ:=hl o (List.mem_of_getElem? h0);have ha:=gi h0;refine zf true O.length Tryz.func107 Tryz.ntmps107 ?_;dsimp only[Tmp,TypeId,ax];refine aB (av ?_);refine aH ?_;simp -dsimp only[simprocAttr,↓aa,zp,h0];refine av ?_;refine aG (aj ?_);refine aB (av ?_);apply aQ rfl<;>intro h
 ·have e:i.op=11:=by simpa using h
  by_cases hk:o.kind=1∨o.kind=2
  ·have hd:(decide (o.kind=1)=true)∨(decide (o.kind=1)=false∧decide (o.kind=2)=true):=by
    rcases hk with hk|hk
    ·exact .inl (decide_eq_true hk)
    exact .inr ⟨decide_eq_false (by omega),decide_eq_true hk⟩
   have Tf:¬(o.kind≠1∧o.kind≠2):=by omega
   have sr:=hn e;by_cases hlen:(o.list.length:Int)<=i.n
   ·have pj:decide ((o.list.length:Int)<=i.n)=true:=decide_eq_true hlen;rcases hd with hd|⟨hd,n6⟩
    ·refine cg ?_;simp -dsimp only[simprocAttr,↓aa,zp,hd,pj];refine av ?_;refine de rfl ?_;refine aB (av ?_);refine ak ?_;simp -dsimp only[simprocAttr,↓aa,zp,zr,Tryz.results107,cF];refine⟨bD,gd,?_⟩;simp[dc,e,ha,hlen]
    refine cg ?_;simp -dsimp only[simprocAttr,↓aa,zp,hd,n6,pj];refine av ?_;refine de rfl ?_;refine aB (av ?_);refine ak ?_;simp -dsimp only[simprocAttr,↓aa,zp,zr,Tryz.results107,cF];refine⟨bD,gd,?_⟩;simp[dc,e,ha,hlen]
   have pj:decide ((o.list.length:Int)<=i.n)=false:=decide_eq_false hlen;obtain⟨x,hx⟩:∃x,o.list[i.n.toNat]?=some x:=⟨o.list[i.n.toNat]'(by omega),List.getElem?_eq_getElem _⟩
   have DT:=nH VQ x (List.mem_of_getElem? hx);have vc:=gi hx;rcases hd with hd|⟨hd,n6⟩
   ·refine cg ?_;simp -dsimp only[simprocAttr,↓aa,zp,hd,pj];refine av ?_;refine cB rfl ?_;refine eH ?_;refine aH ?_;simp -dsimp only[simprocAttr,↓aa,zp,hx]
    repeat(refine⟨by omega,?_⟩)
    refine av ?_;refine ak ?_;simp -dsimp only[simprocAttr,↓aa,zp,zr,Tryz.results107];refine⟨bD,vK DT,?_⟩;simp[dc,e,ha,hlen,vc,Tf]
   refine cg ?_;simp -dsimp only[simprocAttr,↓aa,zp,hd,n6,pj];refine av ?_;refine cB rfl ?_;refine eH ?_;refine aH ?_;simp -dsimp only[simprocAttr,↓aa,zp,hx]
   repeat(refine⟨by omega,?_⟩)
   refine av ?_;refine ak ?_;simp -dsimp only[simprocAttr,↓aa,zp,zr,Tryz.results107];refine⟨bD,vK DT,?_⟩;simp[dc,e,ha,hlen,vc,Tf]
  have L4:decide (o.kind=1)=false:=decide_eq_false (by omega);have FF:decide (o.kind=2)=false:=decide_eq_false (by omega);have Tf:o.kind≠1∧o.kind≠2:=by omega
  refine cg ?_;simp -dsimp only[simprocAttr,↓aa,zp,L4,FF];refine av ?_;refine de rfl ?_;refine aB (av ?_);refine ak ?_;simp -dsimp only[simprocAttr,↓aa,zp,zr,Tryz.results107,cF];refine⟨bD,gd,?_⟩;simp[dc,e,ha,Tf]
 have QF:i.op≠11:=by simpa using h
 refine aB (av ?_);apply aQ rfl<;>intro h
 ·have hk:o.kind≠1:=by simpa using h
  refine aB (av ?_);refine ak ?_;simp -dsimp only[simprocAttr,↓aa,zp,zr,Tryz.results107,cF];refine⟨bD,gd,?_⟩;simp[dc,QF,ha,hk]
 have hk:o.kind=1:=by simpa using h
 refine aB (av ?_);apply aQ rfl<;>intro h
 ·have Pc:i.op=10:=by simpa using h
  refine aB ?_;refine .inl ⟨_,dd o.n,by simp only[aq,ae.upto,zt],ah ?_⟩;simp -dsimp only[simprocAttr,↓aa,zp,dF];refine av ?_;refine ak ?_;simp -dsimp only[simprocAttr,↓aa,zp,zr,Tryz.results107,fL];refine⟨bD,ma,?_⟩;simp[dc,Pc,ha,hk]
 have Pc:i.op≠10:=by simpa using h
 refine aB (av ?_);apply aQ rfl<;>intro h
 ·have Pd:i.op=12:=by simpa using h
  refine aB ?_;refine .inl ⟨_,dd o.list.length,by simp only[aq,ae.upto,zt],ah ?_⟩;simp -dsimp only[simprocAttr,↓aa,zp,dF];refine av ?_;refine ak ?_;simp -dsimp only[simprocAttr,↓aa,zp,zr,Tryz.results107,fL];refine⟨bD,ma,?_⟩;simp[dc,Pd,ha,hk]
 have Pd:i.op≠12:=by simpa using h
 obtain⟨p,h1⟩:=hp Pc QF Pd;have hb:=gi h1;refine aH ?_;simp -dsimp only[simprocAttr,↓aa,zp,h1];refine av ?_;apply aQ rfl<;>intro h
 ·have CE:p.kind≠0:=by simpa using h
  refine aB (av ?_);refine ak ?_;simp -dsimp only[simprocAttr,↓aa,zp,zr,Tryz.results107,cF];refine⟨bD,gd,?_⟩;simp[dc,Pc,QF,Pd,ha,hb,hk,CE]
 have CE:p.kind=0:=by simpa using h
 by_cases kp:p.n<0
 ·have pj:decide (p.n<0)=true:=decide_eq_true kp;refine aH ?_;simp -dsimp only[simprocAttr,↓aa,zp,h1,pj];refine⟨ob (by kernel_rfl),?_⟩;refine av ?_;refine de rfl ?_;refine aB (av ?_);refine ak ?_;simp -dsimp only[simprocAttr,↓aa,zp,zr,Tryz.results107,cF];refine⟨bD,gd,?_⟩;simp[dc,Pc,QF,Pd,ha,hb,hk,CE,kp]
 have pj:decide (p.n<0)=false:=decide_eq_false kp;by_cases hlen:(o.list.length:Int)<=p.n
 ·have RM:decide ((o.list.length:Int)<=p.n)=true:=decide_eq_true hlen;refine aH ?_;simp -dsimp only[simprocAttr,↓aa,zp,h1,pj,RM];refine⟨ob (by kernel_rfl),?_⟩;refine av ?_;refine de rfl ?_;refine aB (av ?_);refine ak ?_;simp -dsimp only[simprocAttr,↓aa,zp,zr,Tryz.results107,cF];refine⟨bD,gd,?_⟩;simp[dc,Pc,QF,Pd,ha,hb,hk,CE,kp,hlen]
 have RM:decide ((o.list.length:Int)<=p.n)=false:=decide_eq_false hlen;obtain⟨x,hx⟩:∃x,o.list[p.n.toNat]?=some x:=⟨o.list[p.n.toNat]'(by omega),List.getElem?_eq_getElem _⟩
 have DT:=nH VQ x (List.mem_of_getElem? hx);have vc:=gi hx;refine aH ?_;simp -dsimp only[simprocAttr,↓aa,zp,h1,pj,RM];refine⟨ob (by kernel_rfl),?_⟩;refine av ?_;refine cB rfl ?_;refine pV ?_;refine aH ?_;simp -dsimp only[simprocAttr,↓aa,zp,h1,hx]
 repeat(refine⟨by omega,?_⟩)
 refine⟨ob (by kernel_rfl),?_⟩;refine av ?_;refine ak ?_;simp -dsimp only[simprocAttr,↓aa,zp,zr,Tryz.results107];refine⟨bD,vK DT,?_⟩;simp[dc,Pc,QF,Pd,ha,hb,hk,CE,kp,hlen,vc]
theorem xS{op:Int}:∀{l r:List SV} {k:Nat} {x y:SV},l[k]?=some x->r[k]?=some y->k9 op (l.take (k+1)) (r.take (k+1))=k9 op (l.take k) (r.take k)++[(dp op x.n y.n).1]
 | a::l,b::r,0,x,y,h1,h2=>by
  simp only[List.getElem?_cons_zero,Option.some.injEq]at h1 h2;subst h1;subst h2;simp[k9]
 | a::l,b::r,k+1,x,y,h1,h2=>by
  have ih:=xS (op:=op) (l:=l) (r:=r) (k:=k) (by simpa using h1) (by simpa using h2);simp only[List.take_succ_cons,k9,List.cons_append];rw[ih]
theorem wo{op:Int}:∀(l r:List SV),(k9 op l r).length=min l.length r.length
 | [],_=>by simp[k9]
 | _::_,[]=>by simp[k9]
 | a::l,b::r=>by simp[k9,wo l r]
theorem pL(k:Nat)(op a b:Int):SV.bk k (dp op a b).1:=by
 unfold dp
 repeat' split
 all_goals exact wj _ _
theorem qJ{op:Int}{k:Nat}:∀(l r:List SV),∀v∈k9 op l r,SV.bk k v
 | [],_,v,h=>by simp[k9]at h
 | _::_,[],v,h=>by simp[k9]at h
 | a::l,b::r,v,h=>by
  simp only[k9,List.mem_cons]at h;rcases h with rfl|h
  ·exact pL _ _ _ _
  exact qJ l r v h
theorem Bq{O:List ay}(bD:∀o∈O,o.upto O.length)(i:db)(args:List SV)(hl:∀v∈args,SV.bk O.length v)(h1:i.op=24->∃x,args[0]?=some x)(h2:i.op≠22->i.op≠24->∃x y,args=[x,y])
  (hn:i.op=24->0<=i.n) (hw:∀v∈args,v.kind=4->v.list.length<=1000∧∀x∈v.list,gh x.n) :
  aY Tryz.prog 108 O [i.enc,.aC 4 (args.map SV.enc) .sh] (fun r O'=>r=.c5 [(dq i args).1.enc,aI (dq i args).2]∧O'=O):=by
 have PL:∀l:List SV,ae.agg [aI 4,aI 0,.aC 4 (l.map SV.enc) .sh,.v (.pointer none)]=(SV.mk 4 0 l none).enc:=fun l=>(SV.jM 4 0 l none).symm;refine zf true O.length Tryz.func108 Tryz.ntmps108 ?_;dsimp only[Tmp,TypeId,ax];refine aB (av ?_);refine cd 2 0 ([aI i.to,aI i.op,aI i.n,ct i.args]) rfl rfl (by rfl) ?_;simp -dsimp only[simprocAttr,↓aa,zp];refine cj (av ?_);refine aj ?_;refine aB (av ?_);apply aQ rfl<;>intro h
 ·have e:i.op=22:=by simpa using h
  refine cj ?_;refine .inr (.inr ⟨_,x8 bD args hl 0 _,ah (zj ?_)⟩);refine av ?_;cases bq:lh args 0 with
  | true =>
   apply aQ rfl<;>intro h
   ·simp[bq]at h
   refine eH ?_;refine aB (av ?_);refine ak ?_;simp -dsimp only[simprocAttr,↓aa,zp,zr,Tryz.results108,PL];have hz:=(SV.bk.mk (k:=4) (m:=0) (a:=none) (by simp) hl).aF;rw[SV.jM]at hz;refine⟨bD,⟨hz,trivial,trivial⟩,?_⟩;simp[dq,e,bq,SV.jM]
  | false =>
   apply aQ rfl<;>intro h
   ·refine aB (av ?_);refine ak ?_;simp -dsimp only[simprocAttr,↓aa,zp,zr,Tryz.results108,cF];refine⟨bD,gd,?_⟩;simp[dq,e,bq]
   simp[bq]at h
 have KY:i.op≠22:=by simpa using h
 refine aB (av ?_);apply aQ rfl<;>intro h
 ·have e:i.op=24:=by simpa using h
  obtain⟨x,hx⟩:=h1 e;have vc:=gi hx;have sr:=hn e;have DT:=hl x (List.mem_of_getElem? hx);by_cases hk:x.kind=4
  ·have hd:decide (x.kind=4)=true:=decide_eq_true hk;by_cases hlen:(x.list.length:Int)<=i.n
   ·have pj:decide ((x.list.length:Int)<=i.n)=true:=decide_eq_true hlen;refine cg ?_;simp -dsimp only[simprocAttr,↓aa,zp,hx,hd,pj];refine⟨ob (by kernel_rfl),?_⟩;refine av ?_;refine de rfl ?_;refine aB (av ?_);refine ak ?_;simp -dsimp only[simprocAttr,↓aa,zp,zr,Tryz.results108,cF];refine⟨bD,gd,?_⟩;simp[dq,e,vc,hlen]
   have pj:decide ((x.list.length:Int)<=i.n)=false:=decide_eq_false hlen;obtain⟨z,hz⟩:∃z,x.list[i.n.toNat]?=some z:=⟨x.list[i.n.toNat]'(by omega),List.getElem?_eq_getElem _⟩
   have Ms:=nH DT z (List.mem_of_getElem? hz);have Rs:=gi hz;refine cg ?_;simp -dsimp only[simprocAttr,↓aa,zp,hx,hd,pj];refine⟨ob (by kernel_rfl),?_⟩;refine av ?_;refine cB rfl ?_;refine eH ?_;refine aH ?_;simp -dsimp only[simprocAttr,↓aa,zp,hx,hz]
   repeat(refine⟨by omega,?_⟩)
   refine⟨ob (by kernel_rfl),?_⟩;refine av ?_;refine ak ?_;simp -dsimp only[simprocAttr,↓aa,zp,zr,Tryz.results108];refine⟨bD,vK Ms,?_⟩;simp[dq,e,vc,hlen,hk,Rs]
  have hd:decide (x.kind=4)=false:=decide_eq_false hk;refine cg ?_;simp -dsimp only[simprocAttr,↓aa,zp,hx,hd];refine⟨ob (by kernel_rfl),?_⟩;refine av ?_;refine de rfl ?_;refine aB (av ?_);refine ak ?_;simp -dsimp only[simprocAttr,↓aa,zp,zr,Tryz.results108,cF];refine⟨bD,gd,?_⟩;simp[dq,e,vc,hk]
 have Of:i.op≠24:=by simpa using h
 obtain⟨x,y,e⟩:=h2 KY Of;subst e;have bq:=x8 bD [x,y] hl 4;cases hk:lh [x,y] 4 with
 | false =>
  simp only[hk,List.map_cons,List.map_nil]at bq;refine pV ?_;refine cj ?_;refine .inr (.inr ⟨_,bq _,ah (zj ?_)⟩);refine⟨ob (by kernel_rfl),?_⟩;refine av ?_;refine de rfl ?_;refine aB (av ?_);refine ak ?_;simp -dsimp only[simprocAttr,↓aa,zp,zr,Tryz.results108,cF];refine⟨bD,gd,?_⟩;simp[dq,KY,Of,hk]
 | true =>
  simp only[hk,List.map_cons,List.map_nil]at bq;by_cases hlen:x.list.length=y.list.length
  ·have hd:decide ((x.list.length:Int)=y.list.length)=true:=decide_eq_true (by omega);refine pV ?_;refine cj ?_;refine .inr (.inr ⟨_,bq _,ah ?_⟩);simp -dsimp only[simprocAttr,↓aa,zp,hd];refine⟨ob (by kernel_rfl),?_⟩;refine av ?_;apply aQ rfl<;>intro h
   ·cases h
   refine eH ?_;refine aB (av ?_);refine gZ (O.length+2) 2 (by rw[lJ];rfl) rfl ?_;simp -dsimp only[simprocAttr,↓aa,zp];refine cj (av ?_);refine bT 68 rfl (fun R9=>?_);simp only[List.length_map]at R9;have gg:x.kind=4∧y.kind=4:=by simpa[lh]using hk
   obtain⟨P6,US⟩:=hw x (by simp) gg.1;obtain⟨Xg,UU⟩:=hw y (by simp) gg.2;refine aj (aO (ι:={j:Nat // j<=x.list.length}) (fun j=>⟨99,[(1,.aC 4 [x.enc,y.enc] .sh),(2,.ip none [aI i.to,aI i.op,aI i.n,ct i.args]),(4,.mp (O.length+1) 0),(5,aI 0),(6,.mp (O.length+2) 0),(68,.aC 4 (x.list.map SV.enc) .sh),(69,aI x.list.length),(70,aI j.1)],O++[.gone,.cells [aI 0,aI 0,.aC 4 [] .ex,.v (.pointer none)],.cells [aI 4,aI 0,.aC 4 ((k9 i.n (x.list.take j.1) (y.list.take j.1)).map SV.enc) (.tok (O.length+3)),.v (.pointer none)],.spare j.1]⟩) (fun j=>x.list.length-j.1) ⟨0,by omega⟩ ?_ ?_)
   ·refine zq rfl ?_ ?_;simp -dsimp only[simprocAttr,↓aa,zp,zc];simp[k9]
   rintro⟨j,hj⟩;have QV:(k9 i.n (x.list.take j) (y.list.take j)).length=j:=by
    rw[wo,List.length_take,List.length_take];omega
   refine aB (av ?_);apply gr rfl<;>intro h
   ·refine eH ?_;have aN:j<x.list.length:=by simpa using h
    obtain⟨a,ha⟩:∃a,x.list[j]?=some a:=⟨x.list[j],by simp[aN]⟩
    obtain⟨b,hb⟩:∃b,y.list[j]?=some b:=⟨y.list[j]'(by omega),List.getElem?_eq_getElem _⟩
    have Wq:=US a (List.mem_of_getElem? ha);have Wr:=UU b (List.mem_of_getElem? hb);refine aG (aj ?_);refine aH ?_;simp -dsimp only[simprocAttr,↓aa,zp,ha];refine av ?_;refine cd 8 4 ([aI a.kind,aI a.n,.aC 4 (a.list.map SV.enc) .sh,eP a.arr]) rfl rfl (by simp only[List.map_cons,List.map_nil,c4,cw,dY,dZ,dX,dV,dW,cC]) ?_;simp -dsimp only[simprocAttr,↓aa,zp];refine aH ?_;simp -dsimp only[simprocAttr,↓aa,zp,hb];refine zi (sU i.n a.n b.n Wq Wr) ?_;refine⟨ob (by kernel_rfl),?_⟩;refine av ?_;generalize hB:(dp i.n a.n b.n).1=B;refine cd 9 5 ([aI B.kind,aI B.n,.aC 4 (B.list.map SV.enc) .sh,eP B.arr]) rfl rfl (by simp only[List.map_cons,List.map_nil,c4,cw,dY,dZ,dX,dV,dW,cC]) ?_;simp -dsimp only[simprocAttr,↓aa,zp];refine fq ?_;simp -dsimp only[simprocAttr,↓aa,zp,QV]
    repeat(refine⟨by omega,?_⟩)
    refine av ?_;have CI:=xS (op:=i.n) ha hb;rw[hB]at CI;have DT:=(hl x (by simp)).mono (show O.length<=O.length+4 by omega);have SI:=(hl y (by simp)).mono (show O.length<=O.length+4 by omega);have Ms:=SV.an (n:=O.length+4) (qJ (op:=i.n) (x.list.take (j+1)) (y.list.take (j+1)));rw[CI,List.map_append,List.map_cons,List.map_nil]at Ms;have UR:=SV.an (nH DT);refine Lp 4 ([.gone,.cells [aI 0,aI 0,.aC 4 [] .ex,.v (.pointer none)],.cells [aI 4,aI 0,.aC 4 ((k9 i.n (x.list.take j) (y.list.take j)).map SV.enc++[B.enc]) (.tok (O.length+3)),.v (.pointer none)],.spare (j+1)]) [(1,.aC 4 [x.enc,y.enc] .sh),(2,.ip none [aI i.to,aI i.op,aI i.n,ct i.args]),(4,.mp (O.length+1) 0),(5,aI 0),(6,.mp (O.length+2) 0),(68,.aC 4 (x.list.map SV.enc) .sh),(69,aI x.list.length),(70,aI j)] rfl (by simp) (by omega) (by simp[cq,bL,Go.Av.look]) ?_ ?_ ?_ ?_
    ·exact fun o ho=>ay.ep (by omega) (bD o ho)
    ·simp[ay.upto,aq,ae.upto,Ms]
    ·simp[aq,ae.upto,aL,DT.aF,SI.aF,UR]
    refine du ?_
    repeat(refine⟨by omega,?_⟩)
    refine r7 ?_;refine⟨⟨j+1,aN⟩,by simp;omega,?_⟩;refine zq rfl ?_ ?_;simp -dsimp only[simprocAttr,↓aa,zp,zc]
    ·exact Sub.int (by simp)
    simp only[CI,List.map_append,List.map_cons,List.map_nil]
   refine aM ?_;simp -dsimp only[ai,ne_eq,Nat.reduceEqDiff,reduceCtorEq];have tN:j=x.list.length:=by simp at h;omega
   subst tN;have hy:y.list.take x.list.length=y.list:=by rw[hlen,List.take_length]
   have hz:=(SV.bk.mk (k:=4) (m:=0) (a:=none) (n:=O.length) (l:=k9 i.n x.list y.list) (by simp) (qJ _ _)).aF;rw[SV.jM]at hz;refine aB (av ?_);refine ak ?_;simp -dsimp only[simprocAttr,↓aa,zp,zr,Tryz.results108,hy];refine⟨bD,⟨hz,trivial,trivial⟩,?_⟩;have dt:cR [x,y] 0=x∧cR [x,y] 1=y:=⟨rfl,rfl⟩
   simp[dq,KY,Of,hk,hlen,SV.jM,dt,eP]
  have hd:decide ((x.list.length:Int)=y.list.length)=false:=decide_eq_false (by omega);refine pV ?_;refine cj ?_;refine .inr (.inr ⟨_,bq _,ah ?_⟩);simp -dsimp only[simprocAttr,↓aa,zp,hd];refine⟨ob (by kernel_rfl),?_⟩;refine av ?_;refine de rfl ?_;refine aB (av ?_);refine ak ?_;simp -dsimp only[simprocAttr,↓aa,zp,zr,Tryz.results108,cF];refine⟨bD,gd,?_⟩;simp[dq,KY,Of,hk,hlen,cR]
def wY(l:List Int)(n:Int):Int:=if l.findIdx (· == n)<l.length then(l.findIdx (· == n):Nat)else -1
theorem Cr{l:List Int}{n:Int}{k:Nat}(hk:l[k]?=some n)(h:∀x∈l.take k,x≠n):l.findIdx (· == n)=k:=by
 have aN:=ag hk;have e:l=l.take k++n::l.drop (k+1):=by
  rw[List.getElem?_eq_getElem aN]at hk;simp only[Option.some.injEq]at hk
  conv=>lhs;rw[<-List.take_append_drop k l,List.drop_eq_getElem_cons aN,hk]
 have hn:(l.take k).findIdx (· == n)=(l.take k).length:=by
  rw[List.findIdx_eq_length];intro x hx;simpa using h x hx
 rw[e,List.findIdx_append,hn];simp[List.findIdx_cons];omega
theorem nq(l:List Int)(n:Int):aV Tryz.prog 20 [ct l,aI n] (aI (wY l n)):=by
 refine zf true 0 Tryz.func20 Tryz.ntmps20 ?_;dsimp only[Tmp,TypeId,ax];refine aB (av ?_);refine bT 0 rfl (fun hlen=>?_);simp only[List.length_map]at hlen;refine cj (av ?_);refine aj (aO (ι:={j:Nat // j<=l.length∧∀x∈l.take j,x≠n}) (fun j=>⟨19,[(0,ct l),(1,aI n),(4,aI 0),(7,aI l.length),(8,aI j.1)],[]⟩) (fun j=>l.length-j.1) ⟨0,by omega,by simp⟩ ?_ ?_)
 ·refine zq rfl ?_ ?_;simp -dsimp only[simprocAttr,↓aa,zp,zc];rfl
 rintro⟨j,hj,bq⟩;refine aB (av ?_);apply gr rfl<;>intro h
 ·refine eH ?_;have aN:j<l.length:=by simpa using h
  obtain⟨v,hv⟩:∃v,l[j]?=some v:=⟨l[j],by simp[aN]⟩
  refine aG (aj ?_);refine aB (av ?_);refine aH ?_;simp -dsimp only[simprocAttr,↓aa,zp,hv]
  repeat(refine⟨by omega,?_⟩)
  refine av ?_;apply aQ rfl<;>intro h
  ·have hk:n=v:=by simpa using h
   refine aB (av ?_);refine ak ?_;simp -dsimp only[simprocAttr,↓aa,zp,zr,Tryz.results20];subst hk;have:=Cr hv bq;simp[wY,this,aN]
  refine pV ?_;have hk:n≠v:=by simpa using h
  refine du ?_
  repeat(refine⟨by omega,?_⟩)
  refine r7 ?_;refine⟨⟨j+1,aN,fun w hw=>?_⟩,by simp;omega,?_⟩
  ·rw[List.take_add_one,hv]at hw;simp only[Option.toList_some,List.mem_append,List.mem_singleton]at hw;rcases hw with hw|rfl
   ·exact bq w hw
   exact fun e=>hk e.symm
  refine zq rfl ?_ ?_;simp -dsimp only[simprocAttr,↓aa,zp,zc]
  ·exact Sub.int (by simp)
  rfl
 refine aM ?_;simp -dsimp only[ai,ne_eq,Nat.reduceEqDiff,reduceCtorEq];have gg:j=l.length:=by simp at h;omega
 subst gg;refine aB (av ?_);refine ak ?_;simp -dsimp only[simprocAttr,↓aa,zp,zr,Tryz.results20];rw[List.take_length]at bq;have:l.findIdx (· == n)=l.length:=by
  rw[List.findIdx_eq_length];intro x hx;simpa using bq x hx
 simp[wY,this]
theorem z9(t:Term)(n:Int)(ht:t.cases.length<=2 ^ 60):aV Tryz.prog 103 [t.enc,aI n] (aI (jo t n)):=by
 have DJ:=nq t.cases n;have hle:t.cases.findIdx (· == n)<=t.cases.length:=List.findIdx_le_length;refine zf true 0 Tryz.func103 Tryz.ntmps103 ?_;dsimp only[Tmp,TypeId,ax];refine aB (av ?_);refine cj (av ?_);apply aQ rfl<;>intro h
 ·have e:t.kind=2:=by simpa using h
  refine cj (av ?_);apply aQ rfl<;>intro h
  ·have e0:n≠0:=by simpa using h
   refine aB (av ?_);refine ak ?_;simp -dsimp only[simprocAttr,↓aa,zp,zr,Tryz.results103];simp[jo,e,e0]
  have e0:n=0:=by simpa using h
  refine eH ?_;refine aB (av ?_);refine ak ?_;simp -dsimp only[simprocAttr,↓aa,zp,zr,Tryz.results103];simp[jo,e,e0]
 have e:t.kind≠2:=by simpa using h
 refine eH ?_;by_cases hf:t.cases.findIdx (· == n)<t.cases.length
 ·have hI:wY t.cases n=(t.cases.findIdx (· == n):Nat):=by simp[wY,hf]
  rw[hI]at DJ;generalize hq:t.cases.findIdx (· == n)=q at DJ;refine cj ?_;refine zi DJ ?_;refine av ?_;refine aB (av ?_);apply aQ rfl<;>intro h
  ·refine aB (av ?_);refine ak ?_;simp -dsimp only[simprocAttr,↓aa,zp,zr,Tryz.results103];simp[jo,e,hq]
  simp at h
 have hI:wY t.cases n=-1:=by simp[wY,hf]
 rw[hI]at DJ;have hq:t.cases.findIdx (· == n)=t.cases.length:=by omega
 refine cj ?_;refine zi DJ ?_;refine av ?_;refine aB (av ?_);apply aQ rfl<;>intro h
 ·simp at h
 refine eH ?_;refine aB (av ?_);refine ak ?_;simp -dsimp only[simprocAttr,↓aa,zp,zr,Tryz.results103];simp[jo,e,hq]
def gj(t:Term):Int:=if t.kind=1 then 1 else if t.kind=2 then 2 else if t.kind=3 then(t.cases.length:Int)+1 else 0
def uu(t:Term):Bool:=decide (t.kind=0) ||(decide (t.kind=2) ||decide (t.kind=3))
def gJ(t:Term):Bool:=(decide (0<=t.kind)&&decide (t.kind<=4))&&(((decide ((t.to.length:Int)=gj t)&&(uu t ||decide (t.arg=0)))&&(decide (t.kind=4) ||decide (t.n=0)))&&(decide (t.kind=3) ||decide ((t.cases.length:Int)=0)))
theorem MC(t:Term)(hk:t.kind=0)(lB:t.cases.length<=2 ^ 60):aV Tryz.prog 112 [t.enc] (.v (.bool (gJ t))):=by
 have he:gj t=0:=by simp[gj,hk]
 have ha:uu t=true:=by simp[uu,hk]
 unfold gJ;rw[he,ha];have h0:decide (t.kind=0)=true:=decide_eq_true hk;have h4:decide (t.kind=4)=false:=decide_eq_false (by omega);have h3:decide (t.kind=3)=false:=decide_eq_false (by omega);have kp:decide (0<=t.kind)=true:=decide_eq_true (by omega);have pG:decide (t.kind<=4)=true:=decide_eq_true (by omega);rw[kp,pG,h3,h4];refine zf true 0 Tryz.func112 Tryz.ntmps112 ?_;dsimp only[Tmp,TypeId,ax];refine aB (av ?_);refine aB (av ?_);refine cj (av ?_);refine aj ?_;refine aH ?_;simp -dsimp only[simprocAttr,↓aa,zp,h0];refine av ?_;refine de rfl ?_;refine du (av ?_);cases hA:decide ((t.to.length:Int)=0)<;>cases hB:decide (t.arg=0)<;>cases hC:decide (t.n=0)<;>cases hD:decide ((t.cases.length:Int)=0)
 all_goals
  refine aH ?_;simp -dsimp only[simprocAttr,↓aa,zp,hA,hB,hC,hD];refine av ?_;refine ak ?_;simp -dsimp only[simprocAttr,↓aa,zp,zr,Tryz.results112,Bool.true_or,Bool.false_or,Bool.or_true,Bool.or_false,Bool.true_and,Bool.false_and,Bool.and_true,Bool.and_false]
theorem MD(t:Term)(hk:t.kind=1)(lB:t.cases.length<=2 ^ 60):aV Tryz.prog 112 [t.enc] (.v (.bool (gJ t))):=by
 have he:gj t=1:=by simp[gj,hk]
 have ha:uu t=false:=by simp[uu,hk]
 unfold gJ;rw[he,ha];have h0:decide (t.kind=0)=false:=decide_eq_false (by omega);have h1:decide (t.kind=1)=true:=decide_eq_true hk;have h4:decide (t.kind=4)=false:=decide_eq_false (by omega);have h3:decide (t.kind=3)=false:=decide_eq_false (by omega);have kp:decide (0<=t.kind)=true:=decide_eq_true (by omega);have pG:decide (t.kind<=4)=true:=decide_eq_true (by omega);rw[kp,pG,h3,h4];refine zf true 0 Tryz.func112 Tryz.ntmps112 ?_;dsimp only[Tmp,TypeId,ax];refine aB (av ?_);refine aB (av ?_);refine cj (av ?_);refine aj ?_;refine aH ?_;simp -dsimp only[simprocAttr,↓aa,zp,h0];refine av ?_;refine cB rfl ?_;refine aH ?_;simp -dsimp only[simprocAttr,↓aa,zp,h1];refine av ?_;refine de rfl ?_;refine du (av ?_);cases hA:decide ((t.to.length:Int)=1)<;>cases hB:decide (t.arg=0)<;>cases hC:decide (t.n=0)<;>cases hD:decide ((t.cases.length:Int)=0)
 all_goals
  refine aH ?_;simp -dsimp only[simprocAttr,↓aa,zp,hA,hB,hC,hD];refine av ?_;refine ak ?_;simp -dsimp only[simprocAttr,↓aa,zp,zr,Tryz.results112,Bool.true_or,Bool.false_or,Bool.or_true,Bool.or_false,Bool.true_and,Bool.false_and,Bool.and_true,Bool.and_false]
theorem ME(t:Term)(hk:t.kind=2)(lB:t.cases.length<=2 ^ 60):aV Tryz.prog 112 [t.enc] (.v (.bool (gJ t))):=by
 have he:gj t=2:=by simp[gj,hk]
 have ha:uu t=true:=by simp[uu,hk]
 unfold gJ;rw[he,ha];have h0:decide (t.kind=0)=false:=decide_eq_false (by omega);have h1:decide (t.kind=1)=false:=decide_eq_false (by omega);have h2:decide (t.kind=2)=true:=decide_eq_true hk;have h4:decide (t.kind=4)=false:=decide_eq_false (by omega);have h3:decide (t.kind=3)=false:=decide_eq_false (by omega);have kp:decide (0<=t.kind)=true:=decide_eq_true (by omega);have pG:decide (t.kind<=4)=true:=decide_eq_true (by omega);rw[kp,pG,h3,h4];refine zf true 0 Tryz.func112 Tryz.ntmps112 ?_;dsimp only[Tmp,TypeId,ax];refine aB (av ?_);refine aB (av ?_);refine cj (av ?_);refine aj ?_;refine aH ?_;simp -dsimp only[simprocAttr,↓aa,zp,h0];refine av ?_;refine cB rfl ?_;refine aH ?_;simp -dsimp only[simprocAttr,↓aa,zp,h1];refine av ?_;refine cB rfl ?_;refine aH ?_;simp -dsimp only[simprocAttr,↓aa,zp,h2];refine av ?_;refine de rfl ?_;refine du (av ?_);cases hA:decide ((t.to.length:Int)=2)<;>cases hB:decide (t.arg=0)<;>cases hC:decide (t.n=0)<;>cases hD:decide ((t.cases.length:Int)=0)
 all_goals
  refine aH ?_;simp -dsimp only[simprocAttr,↓aa,zp,hA,hB,hC,hD];refine av ?_;refine ak ?_;simp -dsimp only[simprocAttr,↓aa,zp,zr,Tryz.results112,Bool.true_or,Bool.false_or,Bool.or_true,Bool.or_false,Bool.true_and,Bool.false_and,Bool.and_true,Bool.and_false]
theorem MF(t:Term)(hk:t.kind=3)(lB:t.cases.length<=2 ^ 60):aV Tryz.prog 112 [t.enc] (.v (.bool (gJ t))):=by
 have he:gj t=(t.cases.length:Int)+1:=by simp[gj,hk]
 have ha:uu t=true:=by simp[uu,hk]
 unfold gJ;rw[he,ha];have h0:decide (t.kind=0)=false:=decide_eq_false (by omega);have h1:decide (t.kind=1)=false:=decide_eq_false (by omega);have h2:decide (t.kind=2)=false:=decide_eq_false (by omega);have h3:decide (t.kind=3)=true:=decide_eq_true hk;have h4:decide (t.kind=4)=false:=decide_eq_false (by omega);have kp:decide (0<=t.kind)=true:=decide_eq_true (by omega);have pG:decide (t.kind<=4)=true:=decide_eq_true (by omega);rw[kp,pG,h3,h4];refine zf true 0 Tryz.func112 Tryz.ntmps112 ?_;dsimp only[Tmp,TypeId,ax];refine aB (av ?_);refine aB (av ?_);refine cj (av ?_);refine aj ?_;refine aH ?_;simp -dsimp only[simprocAttr,↓aa,zp,h0];refine av ?_;refine cB rfl ?_;refine aH ?_;simp -dsimp only[simprocAttr,↓aa,zp,h1];refine av ?_;refine cB rfl ?_;refine aH ?_;simp -dsimp only[simprocAttr,↓aa,zp,h2];refine av ?_;refine cB rfl ?_;refine aH ?_;simp -dsimp only[simprocAttr,↓aa,zp,h3];refine av ?_;refine de rfl ?_;refine du ?_
 repeat(refine⟨by omega,?_⟩)
 refine av ?_;cases hA:decide ((t.to.length:Int)=(t.cases.length:Int)+1)<;>cases hB:decide (t.arg=0)<;>cases hC:decide (t.n=0)<;>cases hD:decide ((t.cases.length:Int)=0)
 all_goals
  refine aH ?_;simp -dsimp only[simprocAttr,↓aa,zp,hA,hB,hC,hD];refine av ?_;refine ak ?_;simp -dsimp only[simprocAttr,↓aa,zp,zr,Tryz.results112,Bool.true_or,Bool.false_or,Bool.or_true,Bool.or_false,Bool.true_and,Bool.false_and,Bool.and_true,Bool.and_false]
theorem MG(t:Term)(hk:t.kind=4)(lB:t.cases.length<=2 ^ 60):aV Tryz.prog 112 [t.enc] (.v (.bool (gJ t))):=by
 have he:gj t=0:=by simp[gj,hk]
 have ha:uu t=false:=by simp[uu,hk]
 unfold gJ;rw[he,ha];have h0:decide (t.kind=0)=false:=decide_eq_false (by omega);have h1:decide (t.kind=1)=false:=decide_eq_false (by omega);have h2:decide (t.kind=2)=false:=decide_eq_false (by omega);have h3:decide (t.kind=3)=false:=decide_eq_false (by omega);have h4:decide (t.kind=4)=true:=decide_eq_true hk;have kp:decide (0<=t.kind)=true:=decide_eq_true (by omega);have pG:decide (t.kind<=4)=true:=decide_eq_true (by omega);rw[kp,pG,h3,h4];refine zf true 0 Tryz.func112 Tryz.ntmps112 ?_;dsimp only[Tmp,TypeId,ax];refine aB (av ?_);refine aB (av ?_);refine cj (av ?_);refine aj ?_;refine aH ?_;simp -dsimp only[simprocAttr,↓aa,zp,h0];refine av ?_;refine cB rfl ?_;refine aH ?_;simp -dsimp only[simprocAttr,↓aa,zp,h1];refine av ?_;refine cB rfl ?_;refine aH ?_;simp -dsimp only[simprocAttr,↓aa,zp,h2];refine av ?_;refine cB rfl ?_;refine aH ?_;simp -dsimp only[simprocAttr,↓aa,zp,h3];refine av ?_;refine cB rfl ?_;refine aH ?_;simp -dsimp only[simprocAttr,↓aa,zp,h4];refine av ?_;refine de rfl ?_;refine du (av ?_);cases hA:decide ((t.to.length:Int)=0)<;>cases hB:decide (t.arg=0)<;>cases hC:decide (t.n=0)<;>cases hD:decide ((t.cases.length:Int)=0)
 all_goals
  refine aH ?_;simp -dsimp only[simprocAttr,↓aa,zp,hA,hB,hC,hD];refine av ?_;refine ak ?_;simp -dsimp only[simprocAttr,↓aa,zp,zr,Tryz.results112,Bool.true_or,Bool.false_or,Bool.or_true,Bool.or_false,Bool.true_and,Bool.false_and,Bool.and_true,Bool.and_false]
theorem Bd(t:Term)(hk:¬(0<=t.kind∧t.kind<=4)):aV Tryz.prog 112 [t.enc] (.v (.bool (gJ t))):=by
 have hr:gJ t=false:=by
  unfold gJ;have:(decide (0<=t.kind)&&decide (t.kind<=4))=false:=by
   by_cases h0:0<=t.kind<;>by_cases h4:t.kind<=4<;>simp[h0,h4]<;>omega
  rw[this];rfl
 rw[hr];have h0:decide (t.kind=0)=false:=decide_eq_false (by omega);have h1:decide (t.kind=1)=false:=decide_eq_false (by omega);have h2:decide (t.kind=2)=false:=decide_eq_false (by omega);have h3:decide (t.kind=3)=false:=decide_eq_false (by omega);have h4:decide (t.kind=4)=false:=decide_eq_false (by omega);refine zf true 0 Tryz.func112 Tryz.ntmps112 ?_;dsimp only[Tmp,TypeId,ax];refine aB (av ?_);refine aB (av ?_);refine cj (av ?_);refine aj ?_;refine aH ?_;simp -dsimp only[simprocAttr,↓aa,zp,h0];refine av ?_;refine cB rfl ?_;refine aH ?_;simp -dsimp only[simprocAttr,↓aa,zp,h1];refine av ?_;refine cB rfl ?_;refine aH ?_;simp -dsimp only[simprocAttr,↓aa,zp,h2];refine av ?_;refine cB rfl ?_;refine aH ?_;simp -dsimp only[simprocAttr,↓aa,zp,h3];refine av ?_;refine cB rfl ?_;refine aH ?_;simp -dsimp only[simprocAttr,↓aa,zp,h4];refine av ?_;refine cB rfl ?_;refine aB (av ?_);refine ak ?_;simp -dsimp only[simprocAttr,↓aa,zp,zr,Tryz.results112]
theorem Dc(t:Term)(lB:t.cases.length<=2 ^ 60):aV Tryz.prog 112 [t.enc] (.v (.bool (gJ t))):=by
 by_cases hk:0<=t.kind∧t.kind<=4
 ·rcases(show t.kind=0∨t.kind=1∨t.kind=2∨t.kind=3∨t.kind=4 by omega)with h|h|h|h|h
  ·exact MC t h lB
  ·exact MD t h lB
  ·exact ME t h lB
  ·exact MF t h lB
  exact MG t h lB
 exact Bd t hk
def FB(l:List Int)(n:Int):Bool:=decide (l.findIdx (· == n)<l.length)
theorem wL(l:List Int)(n:Int):aV Tryz.prog 66 [ct l,aI n] (.v (.bool (FB l n))):=by
 have DJ:=nq l n;have hd:decide (0<=wY l n)=FB l n:=by
  unfold wY FB;by_cases h:l.findIdx (· == n)<l.length
  ·rw[if_pos h];simp[h]
  rw[if_neg h];simp[h]
 generalize wY l n=r at *;refine zf true 0 Tryz.func66 Tryz.ntmps66 ?_;dsimp only[Tmp,TypeId,ax];refine aB (av ?_);refine aB ?_;refine .inl ⟨_,DJ,by simp only[aq,ae.upto,zt,zu,aL],ah ?_⟩;simp -dsimp only[simprocAttr,↓aa,zp,hd];refine av ?_;refine ak ?_;simp -dsimp only[simprocAttr,↓aa,zp,zr,Tryz.results66]
theorem wz{u:cW}{m:Mach}{O:List ay}(bD:∀o∈O,o.upto O.length)(h0:O[2]?=some (.cells (aD u m)))(size fill:SV)(hs:SV.bk O.length size)(hf:SV.bk O.length fill)(h1:0<=m.left)(h2:m.left<=2 ^ 40)(wv:m.short=false)
  (cA:∀x,((m.bQ size fill).2.1).arr≠some x) :
  aY Tryz.prog 122 O [.mp 2 0,size.enc,fill.enc] (fun r O'=>r=.c5 [(m.bQ size fill).2.1.enc,aI (m.bQ size fill).2.2]∧O'=O.set 2 (.cells (aD u (m.bQ size fill).1))):=by
 have iW:O.set 2 (.cells (aD u m))=O:=by
  obtain⟨aN,e⟩:=List.getElem?_eq_some_iff.1 h0;rw[<-e,List.set_getElem_self]
 by_cases hk:size.kind=0
 ·by_cases hn:size.n<0∨1024<size.n
  ·have hd:decide (size.kind=0)=true:=decide_eq_true hk;rcases(show size.n<0∨(¬size.n<0∧1024<size.n) by omega)with OA|⟨OA,QP⟩
   ·have vf:decide (size.n<0)=true:=decide_eq_true OA;refine zf true O.length Tryz.func122 Tryz.ntmps122 ?_;dsimp only[Tmp,TypeId,ax];refine aB (av ?_);refine aG (aj ?_);refine aH ?_;simp -dsimp only[simprocAttr,↓aa,zp,hd];refine av ?_;refine cB rfl ?_;refine aH ?_;simp -dsimp only[simprocAttr,↓aa,zp,vf];refine av ?_;refine de rfl ?_;refine aB (av ?_);refine ak ?_;simp -dsimp only[simprocAttr,↓aa,zp,zr,Tryz.results122,cF];refine⟨bD,gd,?_⟩;simp[Mach.bQ,hk,hn,iW]
   have vf:decide (size.n<0)=false:=decide_eq_false OA;have n6:decide (1024<size.n)=true:=decide_eq_true QP;refine zf true O.length Tryz.func122 Tryz.ntmps122 ?_;dsimp only[Tmp,TypeId,ax];refine aB (av ?_);refine aG (aj ?_);refine aH ?_;simp -dsimp only[simprocAttr,↓aa,zp,hd];refine av ?_;refine cB rfl ?_;refine aH ?_;simp -dsimp only[simprocAttr,↓aa,zp,vf,n6];refine av ?_;refine de rfl ?_;refine aB (av ?_);refine ak ?_;simp -dsimp only[simprocAttr,↓aa,zp,zr,Tryz.results122,cF];refine⟨bD,gd,?_⟩;simp[Mach.bQ,hk,hn,iW]
  have hd:decide (size.kind=0)=true:=decide_eq_true hk;have vf:decide (size.n<0)=false:=decide_eq_false (by omega);have n6:decide (1024<size.n)=false:=decide_eq_false (by omega);by_cases hp:m.left<size.n
  ·have ml:(m.gp size.n).short=true:=by simp[Mach.gp,hp]
   have wT:=aY.frame (vG bD h0 size.n h1 h2 (by omega)) (by simp) ⟨ag h0,trivial,trivial⟩ bD;have Fy:=dK h0 (.cells (aD u (m.gp size.n)));have fo:=bo bD h0 (ds:=aD u (m.gp size.n)) (fun h=>ca h (pw m size.n));obtain⟨O1,ff⟩:∃O1,O1=O.set 2 (.cells (aD u (m.gp size.n))):=⟨_,rfl⟩
   have hlen:O.length=O1.length:=by rw[ff];simp
   have fm:(m.bQ size fill)=(m.gp size.n,.zero,0):=by simp[Mach.bQ,hk,hn,ml]
   rw[fm];simp only[<-ff]at wT Fy fo ⊢;have Cv:∀X,(O1++X)[2]?=some (.cells (aD u (m.gp size.n))):=fun X=>eU Fy;unfold aD at Cv;rw[ml]at Cv;rw[hlen]at fo;refine zf true O.length Tryz.func122 Tryz.ntmps122 ?_;dsimp only[Tmp,TypeId,ax];refine aB (av ?_);refine aG (aj ?_);refine aH ?_;simp -dsimp only[simprocAttr,↓aa,zp,hd];refine av ?_;refine cB rfl ?_;refine aH ?_;simp -dsimp only[simprocAttr,↓aa,zp,vf,n6];refine av ?_;refine cB rfl ?_;refine pV ?_;refine aB ?_;refine .inr (.inl ⟨_,_,wT _,.inl (ah (zj ?_))⟩);refine av ?_;refine cg ?_;simp -dsimp only[simprocAttr,↓aa,zp,Cv];refine av ?_;refine de rfl ?_;refine aH ?_;simp -dsimp only[simprocAttr,↓aa,zp,hlen];refine av ?_;refine ak ?_;simp -dsimp only[simprocAttr,↓aa,zp,zr,Tryz.results122,cF,hlen];exact⟨fo,gd⟩
  exfalso;have ml:(m.gp size.n).short=false:=by simp[Mach.gp,hp,wv]
  refine cA (m.next+8) ?_;simp[Mach.bQ,hk,hn,ml,SV.arr]
 have hd:decide (size.kind=0)=false:=decide_eq_false hk;refine zf true O.length Tryz.func122 Tryz.ntmps122 ?_;dsimp only[Tmp,TypeId,ax];refine aB (av ?_);refine aG (aj ?_);refine aH ?_;simp -dsimp only[simprocAttr,↓aa,zp,hd];refine av ?_;refine de rfl ?_;refine aB (av ?_);refine ak ?_;simp -dsimp only[simprocAttr,↓aa,zp,zr,Tryz.results122,cF];refine⟨bD,gd,?_⟩;simp[Mach.bQ,hk,iW]
theorem pB{O X:List ay}{k:Nat}:(O++X).take (O.length+k)=O++X.take k:=by
 rw[List.take_append,List.take_of_length_le (by omega),Nat.add_sub_cancel_left]
def tS(v:SV)(n k:Nat):List ae:=List.replicate k v.enc++List.replicate (n-k) (.agg [aI 0,aI 0,.aC 4 [] .ex,.v (.pointer none)])
theorem A'{v:SV}{n k:Nat}(h:k<=n):(tS v n k).length=n:=by
 simp[tS];omega
theorem vL{v:SV}{n k:Nat}:∀x∈tS v n k,x.cells.length=4:=fun x hx=>by
 simp only[tS,List.mem_append,List.mem_replicate]at hx;rcases hx with⟨_,rfl⟩|⟨_,rfl⟩
 ·exact v.bK
 rfl
theorem F7(v:SV)(n:Nat):ar (tS v n 0)=(List.replicate n [aI 0,aI 0,.aC 4 [] .ex,.v (.pointer none)]).flatten:=by
 simp[tS,ar,List.flatMap,ae.cells]
theorem F6{v:SV}{n k:Nat}(h:k<n):(tS v n k).set k v.enc=tS v n (k+1):=by
 obtain⟨j,hj⟩:∃j,n-k=j+1:=⟨n-k-1,by omega⟩
 unfold tS;rw[hj,show n-(k+1)=j by omega,List.set_append_right _ _ (by simp),List.replicate_succ' (n:=k)];simp[List.replicate_succ]
theorem Iv(v:SV)(n:Nat):tS v n n=(List.replicate n v).map SV.enc:=by simp[tS]
theorem zS{u:cW}{m:Mach}{O:List ay}(bD:∀o∈O,o.upto O.length)(h0:O[2]?=some (.cells (aD u m)))(size fill:SV)(hs:SV.bk O.length size)(hf:SV.bk O.length fill)(h1:0<=m.left)(h2:m.left<=2 ^ 40)(wv:m.short=false)
  (hk:size.kind=0) (OA:0<=size.n) (QP:size.n<=1024) (hp:size.n<=m.left) :
  aY Tryz.prog 122 O [.mp 2 0,size.enc,fill.enc] (fun r O'=>r=.c5 [.agg [aI 3,aI 0,.aC 4 [] .sh,.mp (O.length+4) 0],aI 0]∧O'=O.set 2 (.cells (aD u (m.gp size.n))) ++
   [.gone,.gone,.cells [aI 3,aI 0,.aC 4 [] .ex,.mp (O.length+4) 0],.cells (ar ((List.replicate size.n.toNat fill).map SV.enc)),.cells [.ms (O.length+3) 0 size.n.toNat size.n.toNat]]):=by
 have hd:decide (size.kind=0)=true:=decide_eq_true hk;have vf:decide (size.n<0)=false:=decide_eq_false (by omega);have n6:decide (1024<size.n)=false:=decide_eq_false (by omega);have ml:(m.gp size.n).short=false:=by simp[Mach.gp,wv,show ¬m.left<size.n by omega]
 have wT:=aY.frame (vG bD h0 size.n h1 h2 (by omega)) (by simp) ⟨ag h0,trivial,trivial⟩ bD;have Fy:=dK h0 (.cells (aD u (m.gp size.n)));have fo:=bo bD h0 (ds:=aD u (m.gp size.n)) (fun h=>ca h (pw m size.n));obtain⟨O1,ff⟩:∃O1,O1=O.set 2 (.cells (aD u (m.gp size.n))):=⟨_,rfl⟩
 have hlen:O.length=O1.length:=by rw[ff];simp
 simp only[<-ff]at wT Fy fo ⊢;have Cv:∀X,(O1++X)[2]?=some (.cells (aD u (m.gp size.n))):=fun X=>eU Fy;unfold aD at Cv;rw[ml]at Cv;rw[hlen]at fo;obtain⟨n,hn⟩:∃n:Nat,size.n=n:=⟨size.n.toNat,by omega⟩
 refine zf true (O.length+5) Tryz.func122 Tryz.ntmps122 ?_;dsimp only[Tmp,TypeId,ax];refine aB (av ?_);refine cd 4 0 ([aI size.kind,aI size.n,.aC 4 (size.list.map SV.enc) .sh,eP size.arr]) rfl rfl (by simp only[List.map_cons,List.map_nil,c4,cw,dY,dZ,dX,dV,dW,cC]) ?_;simp -dsimp only[simprocAttr,↓aa,zp];refine cd 5 1 ([aI fill.kind,aI fill.n,.aC 4 (fill.list.map SV.enc) .sh,eP fill.arr]) rfl rfl (by simp only[List.map_cons,List.map_nil,c4,cw,dY,dZ,dX,dV,dW,cC]) ?_;simp -dsimp only[simprocAttr,↓aa,zp];refine aG (aj ?_);refine aH ?_;simp -dsimp only[simprocAttr,↓aa,zp,hd];refine av ?_;apply aQ rfl<;>intro h
 ·cases h
 refine aH ?_;simp -dsimp only[simprocAttr,↓aa,zp,vf,n6];refine av ?_;apply aQ rfl<;>intro h
 ·cases h
 refine pV ?_;refine aB ?_;refine .inr (.inl ⟨_,_,wT _,.inl (ah (zj ?_))⟩);refine av ?_;refine cg ?_;simp -dsimp only[simprocAttr,↓aa,zp,Cv];refine av ?_;apply aQ rfl<;>intro h
 ·cases h
 refine eH ?_;refine aH ?_;simp -dsimp only[simprocAttr,↓aa,zp,hlen,hn]
 repeat(refine⟨by omega,?_⟩)
 refine av ?_;refine cg ?_;simp -dsimp only[simprocAttr,↓aa,zp,hlen,hn];refine av ?_;refine aj (aO (ι:={j:Nat // j<=n}) (fun j=>⟨48,[(5,.ip none [aI fill.kind,aI fill.n,.aC 4 (fill.list.map SV.enc) .sh,eP fill.arr]),(6,.mp (O1.length+2) 0),(7,aI 0),(8,.mp (O1.length+4) 0),(38,aI n),(39,aI j.1)],O1++[.gone,.gone,.cells [aI 0,aI 0,.aC 4 [] .ex,.v (.pointer none)],.cells (ar (tS fill n j.1)),.cells [.ms (O1.length+3) 0 n n]]⟩) (fun j=>n-j.1) ⟨0,by omega⟩ ?_ ?_)
 ·refine zq rfl ?_ ?_;simp -dsimp only[simprocAttr,↓aa,zp,zc];rw[F7]
 rintro⟨j,hj⟩;refine aB (av ?_);apply gr rfl<;>intro h
 ·refine eH ?_;have aN:j<n:=by simpa using h
  have fc:=bI (vL (v:=fill) (n:=n) (k:=j));rw[A' hj]at fc;have iW:=nc (vL (v:=fill) (n:=n) (k:=j)) (k:=j) (by rw[A' hj];exact aN) fill.bK;rw[F6 aN,SV.al]at iW;refine aG (aj ?_);refine aB (av ?_);refine fq ?_;simp -dsimp only[simprocAttr,↓aa,zp,fc,iW]
  repeat(refine⟨by omega,?_⟩)
  refine av ?_;refine du ?_
  repeat(refine⟨by omega,?_⟩)
  refine r7 ?_;refine⟨⟨j+1,aN⟩,by simp;omega,?_⟩;refine zq rfl ?_ ?_;simp -dsimp only[simprocAttr,↓aa,zp,zc]
  ·exact Sub.int (by simp)
  rfl
 refine aM ?_;simp -dsimp only[ai,ne_eq,Nat.reduceEqDiff,reduceCtorEq];have tN:j=n:=by simp at h;omega
 subst tN;refine aB (av ?_);refine ak ?_;simp -dsimp only[simprocAttr,↓aa,zp,zr,Tryz.results122,hlen];have WI:size.n.toNat=j:=by omega
 have eN:∀v∈List.replicate j fill,SV.bk (O1.length+5) v:=fun v hv=>by
  rw[(List.mem_replicate.1 hv).2];exact hf.mono (by omega)
 rw[pB,WI,Iv];refine⟨fun o ho=>?_,by simp[aq,ae.upto],rfl⟩;rcases List.mem_append.1 ho with ho|ho
 ·exact ay.ep (by omega) (fo o ho)
 have hc:=SV.dL eN;simp only[List.take_succ_cons,List.take_zero,List.mem_cons,List.mem_nil_iff,or_false]at ho;rcases ho with rfl|rfl|rfl|rfl|rfl
 ·trivial
 ·trivial
 ·simp[ay.upto,aq,ae.upto]
 ·exact hc
 simp[ay.upto,aq,ae.upto]
theorem lx{O X:List ay}{k:Nat}{x y:ay}(h:O[k]?=some x):(O++X).set k y=O.set k y++X:=by
 rw[List.set_append_left _ _ (ag h)]
theorem oX{O:List ay}{k:Nat}{x:ay}(h:O[k]?=some x):O.set k x=O:=by
 obtain⟨aN,e⟩:=List.getElem?_eq_some_iff.1 h;rw[<-e,List.set_getElem_self]
theorem yu{u:cW}{m:Mach}{O:List ay}(bD:∀o∈O,o.upto O.length)(h0:O[2]?=some (.cells (aD u m)))(AK:O[3]?=some (.spare m.out.length))(i:db)(args:List SV)(hl:∀v∈args,SV.bk O.length v)
  (kq:i.op=15) (x:SV) (hx:args[0]?=some x) (ho:m.out.length<=1000) :
  aY Tryz.prog 109 O [.mp 2 0,i.enc,.aC 4 (args.map SV.enc) .sh] (fun r O'=>r=.c5 [(m.effect i args).2.1.enc,aI (m.effect i args).2.2]∧O'=(O.set 3 (.spare (m.effect i args).1.out.length)).set 2 (.cells (aD u (m.effect i args).1))):=by
 have vc:=gi hx;have lp:decide (i.op=15)=true:=decide_eq_true kq;have gO:(O.set 3 (.spare m.out.length)).set 2 (.cells (aD u m))=O:=by rw[oX AK,oX h0]
 have GA:∀X,(O++X)[2]?=some (.cells (aD u m)):=fun X=>eU h0;have TG:∀X,(O++X)[3]?=some (.spare m.out.length):=fun X=>eU AK;unfold aD at GA;by_cases hk:x.kind=0
 ·have hd:decide (x.kind=0)=true:=decide_eq_true hk;by_cases hf:m.out.length=1000
  ·have Px:decide ((m.out.length:Int)=1000)=true:=decide_eq_true (by omega);have fm:m.effect i args=(m,.zero,6):=by simp[Mach.effect,kq,vc,hk,hf]
   rw[fm];refine zf true O.length Tryz.func109 Tryz.ntmps109 ?_;dsimp only[Tmp,TypeId,ax];refine aB (av ?_);refine cd 4 0 ([aI i.to,aI i.op,aI i.n,ct i.args]) rfl rfl (by rfl) ?_;simp -dsimp only[simprocAttr,↓aa,zp];refine cg ?_;simp -dsimp only[simprocAttr,↓aa,zp,lp];refine av ?_;refine aj ?_;refine aH ?_;simp -dsimp only[simprocAttr,↓aa,zp,lp];refine av ?_;refine de rfl ?_;refine cg ?_;simp -dsimp only[simprocAttr,↓aa,zp,hx,hd];refine av ?_;refine cB rfl ?_;refine eH ?_;refine cg ?_;simp -dsimp only[simprocAttr,↓aa,zp,GA,Px];refine av ?_;refine de rfl ?_;refine aB (av ?_);refine ak ?_;simp -dsimp only[simprocAttr,↓aa,zp,zr,Tryz.results109,cF,gO];exact⟨bD,gd⟩
  have Px:decide ((m.out.length:Int)=1000)=false:=decide_eq_false (by omega);have fm:m.effect i args=({ m with out:=m.out++[x.n] },.word 0,0):=by simp[Mach.effect,kq,vc,hk,hf]
  rw[fm];obtain⟨m',eS⟩:∃m',m' = { m with out:=m.out++[x.n] }:=⟨_,rfl⟩
  have PY:=cb (k:=2) (j:=3) (y:=.spare (m.out.length+1)) h0 (by omega);have hp:[cc u.fns,aI u.main,.os m.sid m.frames.length 1,aI m.left,.v (.bool m.short),.v (.bool m.over),.aC 1 (m.out.map aI++[aI x.n]) (.tok 3),aI m.fin,aI m.val]=aD u m':=by
   rw[eS];simp[aD]
  obtain⟨O2,oI⟩:∃O2,O2=(O.set 3 (.spare (m.out.length+1))).set 2 (.cells (aD u m')):=⟨_,rfl⟩
  have hlen:O.length=O2.length:=by rw[oI];simp
  have jF:∀o∈O2,o.upto O2.length:=by
   rw[<-hlen,oI];exact bo (dH bD trivial) PY (fun h=>ca h (by rw[eS]))
  have e1:∀X,(O++X).set 3 (.spare (m.out.length+1))=O.set 3 (.spare (m.out.length+1))++X:=fun X=>lx AK;have e2:∀X y,(O.set 3 (.spare (m.out.length+1))++X).set 2 y=(O.set 3 (.spare (m.out.length+1))).set 2 y++X:=fun X y=>lx PY;have e3:∀X,(O.set 3 (.spare (m.out.length+1))++X)[2]?=some (.cells (aD u m)):=fun X=>eU PY;unfold aD at e3;have FJ:m'.out.length=m.out.length+1:=by rw[eS];simp
  rw[<-eS];simp only[FJ,<-oI];refine zf true O.length Tryz.func109 Tryz.ntmps109 ?_;dsimp only[Tmp,TypeId,ax];refine aB (av ?_);refine cd 4 0 ([aI i.to,aI i.op,aI i.n,ct i.args]) rfl rfl (by rfl) ?_;simp -dsimp only[simprocAttr,↓aa,zp];refine cg ?_;simp -dsimp only[simprocAttr,↓aa,zp,lp];refine av ?_;refine aj ?_;refine aH ?_;simp -dsimp only[simprocAttr,↓aa,zp,lp];refine av ?_;refine de rfl ?_;refine cg ?_;simp -dsimp only[simprocAttr,↓aa,zp,hx,hd];refine av ?_;refine cB rfl ?_;refine eH ?_;refine cg ?_;simp -dsimp only[simprocAttr,↓aa,zp,GA,Px];refine av ?_;refine cB rfl ?_;refine eH ?_;refine aH ?_;simp -dsimp only[simprocAttr,↓aa,zp,GA,hx,TG,e1,e2,e3,hp,<-oI]
  repeat(refine⟨by omega,?_⟩)
  refine⟨ob (by kernel_rfl),?_⟩;refine av ?_;refine aH ?_;simp -dsimp only[simprocAttr,↓aa,zp,hlen];refine .inl ⟨_,dd 0,by simp only[aq,ae.upto,zt,zu,aL],ah ?_⟩;simp -dsimp only[simprocAttr,↓aa,zp,dF];refine av ?_;refine ak ?_;simp -dsimp only[simprocAttr,↓aa,zp,zr,Tryz.results109,fL,hlen];exact⟨jF,ma⟩
 have hd:decide (x.kind=0)=false:=decide_eq_false hk;have fm:m.effect i args=(m,.zero,5):=by simp[Mach.effect,kq,vc,hk]
 rw[fm];refine zf true O.length Tryz.func109 Tryz.ntmps109 ?_;dsimp only[Tmp,TypeId,ax];refine aB (av ?_);refine cd 4 0 ([aI i.to,aI i.op,aI i.n,ct i.args]) rfl rfl (by rfl) ?_;simp -dsimp only[simprocAttr,↓aa,zp];refine cg ?_;simp -dsimp only[simprocAttr,↓aa,zp,lp];refine av ?_;refine aj ?_;refine aH ?_;simp -dsimp only[simprocAttr,↓aa,zp,lp];refine av ?_;refine de rfl ?_;refine cg ?_;simp -dsimp only[simprocAttr,↓aa,zp,hx,hd];refine av ?_;refine de rfl ?_;refine aB (av ?_);refine ak ?_;simp -dsimp only[simprocAttr,↓aa,zp,zr,Tryz.results109,cF,gO];exact⟨bD,gd⟩
theorem Al{u:cW}{m:Mach}{O:List ay}(bD:∀o∈O,o.upto O.length)(h0:O[2]?=some (.cells (aD u m)))(i:db)(size fill:SV)(hs:SV.bk O.length size)(hf:SV.bk O.length fill)
  (kq:i.op=16) (h1:0<=m.left) (h2:m.left<=2 ^ 40) (wv:m.short=false) (cA:∀x,((m.bQ size fill).2.1).arr≠some x) :
  aY Tryz.prog 109 O [.mp 2 0,i.enc,.aC 4 [size.enc,fill.enc] .sh] (fun r O'=>r=.c5 [(m.bQ size fill).2.1.enc,aI (m.bQ size fill).2.2]∧O'=O.set 2 (.cells (aD u (m.bQ size fill).1))):=by
 have lp:decide (i.op=15)=false:=decide_eq_false (by omega);have pF:decide (i.op=16)=true:=decide_eq_true (by omega);have eL:=aY.frame (wz bD h0 size fill hs hf h1 h2 wv cA) (by simp) ⟨ag h0,hs.aF,hf.aF,trivial⟩ bD;have UG:(m.bQ size fill).1.sid=m.sid:=by
  unfold Mach.bQ
  repeat' split
  all_goals first|rfl|exact pw _ _
 have fo:=bo bD h0 (ds:=aD u (m.bQ size fill).1) (fun h=>ca h UG);have qn:SV.bk O.length (m.bQ size fill).2.1:=by
  have:∀r:Mach×SV×Int,r=m.bQ size fill->r.2.1=SV.zero∨∃x,r.2.1.arr=some x:=fun r hr=>by
   subst hr;unfold Mach.bQ
   repeat' split
   all_goals first|exact .inl rfl|exact .inr ⟨_,rfl⟩
  rcases this _ rfl with e|⟨x,e⟩
  ·rw[e];exact qI _
  exact absurd e (cA x)
 generalize m.bQ size fill=R at *;obtain⟨O1,ff⟩:∃O1,O1=O.set 2 (.cells (aD u R.1)):=⟨_,rfl⟩
 have hlen:O.length=O1.length:=by rw[ff];simp
 simp only[<-ff]at eL fo ⊢;rw[hlen]at fo qn;refine zf true O.length Tryz.func109 Tryz.ntmps109 ?_;dsimp only[Tmp,TypeId,ax];refine aB (av ?_);refine cd 4 0 ([aI i.to,aI i.op,aI i.n,ct i.args]) rfl rfl (by rfl) ?_;simp -dsimp only[simprocAttr,↓aa,zp];refine cj (av ?_);refine aj ?_;refine aH ?_;simp -dsimp only[simprocAttr,↓aa,zp,lp];refine av ?_;refine cB rfl ?_;refine aH ?_;simp -dsimp only[simprocAttr,↓aa,zp,pF];refine av ?_;refine de rfl ?_;refine aB ?_;refine .inr (.inl ⟨_,_,eL _,.inl (ah ?_)⟩);simp -dsimp only[simprocAttr,↓aa,zp,hlen];refine⟨ob (by kernel_rfl),?_⟩;refine av ?_;refine ak ?_;simp -dsimp only[simprocAttr,↓aa,zp,zr,Tryz.results109,hlen];exact⟨fo,vK qn⟩
theorem Fq{u:cW}{m:Mach}{O:List ay}(bD:∀o∈O,o.upto O.length)(h0:O[2]?=some (.cells (aD u m)))(i:db)(size fill:SV)(hs:SV.bk O.length size)(hf:SV.bk O.length fill)
  (kq:i.op=16) (h1:0<=m.left) (h2:m.left<=2 ^ 40) (wv:m.short=false) (hk:size.kind=0) (OA:0<=size.n) (QP:size.n<=1024) (hp:size.n<=m.left) :
  aY Tryz.prog 109 O [.mp 2 0,i.enc,.aC 4 [size.enc,fill.enc] .sh] (fun r O'=>r=.c5 [.agg [aI 3,aI 0,.aC 4 [] .sh,.mp (O.length+6) 0],aI 0]∧O'=O.set 2 (.cells (aD u (m.gp size.n))) ++
   [.gone,.cells [aI 3,aI 0,.aC 4 [] .sh,.mp (O.length+6) 0],.gone,.gone,.cells [aI 3,aI 0,.aC 4 [] .ex,.mp (O.length+6) 0],.cells (ar ((List.replicate size.n.toNat fill).map SV.enc)),.cells [.ms (O.length+5) 0 size.n.toNat size.n.toNat]]):=by
 have lp:decide (i.op=15)=false:=decide_eq_false (by omega);have pF:decide (i.op=16)=true:=decide_eq_true (by omega);have FO:∀o∈O++[.gone,.cells [aI 0,aI 0,.aC 4 [] .ex,.v (.pointer none)]],o.upto (O++[ay.gone,.cells [aI 0,aI 0,.aC 4 [] .ex,.v (.pointer none)]]).length:=fun o ho=>by
  rcases List.mem_append.1 ho with ho|ho
  ·exact ay.ep (by simp) (bD o ho)
  simp only[List.mem_cons,List.mem_nil_iff,or_false]at ho;rcases ho with rfl|rfl
  ·trivial
  simp[ay.upto,aq,ae.upto]
 have Ui:(O++[ay.gone,.cells [aI 0,aI 0,.aC 4 [] .ex,.v (.pointer none)]]).length=O.length+2:=by simp
 have eL:=zS FO (eU h0) size fill (hs.mono (by simp)) (hf.mono (by simp)) h1 h2 wv hk OA QP hp;have Fy:=dK h0 (.cells (aD u (m.gp size.n)));have fo:=bo bD h0 (ds:=aD u (m.gp size.n)) (fun h=>ca h (pw m size.n));rw[lx h0,Ui]at eL;obtain⟨O1,ff⟩:∃O1,O1=O.set 2 (.cells (aD u (m.gp size.n))):=⟨_,rfl⟩
 have hlen:O.length=O1.length:=by rw[ff];simp
 simp only[<-ff]at eL fo ⊢;rw[hlen]at fo;have eN:∀v∈List.replicate size.n.toNat fill,SV.bk (O1.length+7) v:=fun v hv=>by
  rw[(List.mem_replicate.1 hv).2];exact hf.mono (by omega)
 have hc:=SV.dL eN;generalize fc:ar ((List.replicate size.n.toNat fill).map SV.enc)=row at *;refine zf true (O.length+7) Tryz.func109 Tryz.ntmps109 ?_;dsimp only[Tmp,TypeId,ax];refine aB (av ?_);refine cd 4 0 ([aI i.to,aI i.op,aI i.n,ct i.args]) rfl rfl (by rfl) ?_;simp -dsimp only[simprocAttr,↓aa,zp];refine cj (av ?_);refine aj ?_;refine aH ?_;simp -dsimp only[simprocAttr,↓aa,zp,lp];refine av ?_;refine cB rfl ?_;refine aH ?_;simp -dsimp only[simprocAttr,↓aa,zp,pF];refine av ?_;refine de rfl ?_;refine aB ?_;refine .inr (.inl ⟨_,_,eL,.inl (ah ?_)⟩);simp -dsimp only[simprocAttr,↓aa,zp,hlen];refine⟨ob (by kernel_rfl),?_⟩;refine av ?_;refine ak ?_;simp -dsimp only[simprocAttr,↓aa,zp,zr,Tryz.results109,hlen];rw[pB];refine⟨fun o ho=>?_,by simp[aq,ae.upto],rfl⟩;rcases List.mem_append.1 ho with ho|ho
 ·exact ay.ep (by omega) (fo o ho)
 simp only[List.take_succ_cons,List.take_zero,List.mem_cons,List.mem_nil_iff,or_false]at ho;rcases ho with rfl|rfl|rfl|rfl|rfl|rfl|rfl
 ·trivial
 ·simp[ay.upto,aq,ae.upto]
 ·trivial
 ·trivial
 ·simp[ay.upto,aq,ae.upto]
 ·exact hc
 simp[ay.upto,aq,ae.upto]
theorem yt{u:cW}{m:Mach}{O:List ay}(bD:∀o∈O,o.upto O.length)(i:db)(x y:SV)(hx:SV.bk O.length x)(hy:SV.bk O.length y)(lr:2<O.length)
  (kq:i.op=18):aY Tryz.prog 109 O [.mp 2 0,i.enc,.aC 4 [x.enc,y.enc] .sh] (fun r O'=>r=.c5 [(m.effect i [x,y]).2.1.enc,aI (m.effect i [x,y]).2.2]∧O'=O):=by
 have hl:∀v∈[x,y],SV.bk O.length v:=fun v hv=>by
  simp only[List.mem_cons,List.mem_nil_iff,or_false]at hv;rcases hv with rfl|rfl
  ·exact hx
  exact hy
 have lp:decide (i.op=15)=false:=decide_eq_false (by omega);have pF:decide (i.op=16)=false:=decide_eq_false (by omega);have tL:decide (i.op=18)=true:=decide_eq_true (by omega);have bq:=x8 bD [x,y] hl 0;have ha:cR [x,y] 0=x∧cR [x,y] 1=y:=⟨rfl,rfl⟩
 cases hk:lh [x,y] 0 with
 | false =>
  simp only[hk,List.map_cons,List.map_nil]at bq;refine zf true O.length Tryz.func109 Tryz.ntmps109 ?_;dsimp only[Tmp,TypeId,ax];refine aB (av ?_);refine cd 4 0 ([aI i.to,aI i.op,aI i.n,ct i.args]) rfl rfl (by rfl) ?_;simp -dsimp only[simprocAttr,↓aa,zp];refine cj (av ?_);refine aj ?_;refine aH ?_;simp -dsimp only[simprocAttr,↓aa,zp,lp];refine av ?_;refine cB rfl ?_;refine aH ?_;simp -dsimp only[simprocAttr,↓aa,zp,pF];refine av ?_;refine cB rfl ?_;refine aH ?_;simp -dsimp only[simprocAttr,↓aa,zp,tL];refine av ?_;refine de rfl ?_;refine cj ?_;refine .inr (.inr ⟨_,bq _,ah (zj ?_)⟩);refine av ?_;refine de rfl ?_;refine aB (av ?_);refine ak ?_;simp -dsimp only[simprocAttr,↓aa,zp,zr,Tryz.results109,cF];refine⟨bD,gd,?_⟩;simp[Mach.effect,kq,hk]
 | true =>
  simp only[hk,List.map_cons,List.map_nil]at bq;by_cases hb:x.n<0∨y.n<=x.n
  ·have yD:decide (x.n<0)=true∨(decide (x.n<0)=false∧decide (y.n<=x.n)=true):=by
    by_cases h1:x.n<0
    ·exact .inl (decide_eq_true h1)
    exact .inr ⟨decide_eq_false h1,decide_eq_true (by omega)⟩
   rcases yD with yD|⟨yD,AA⟩
   ·refine zf true O.length Tryz.func109 Tryz.ntmps109 ?_;dsimp only[Tmp,TypeId,ax];refine aB (av ?_);refine cd 4 0 ([aI i.to,aI i.op,aI i.n,ct i.args]) rfl rfl (by rfl) ?_;simp -dsimp only[simprocAttr,↓aa,zp];refine cj (av ?_);refine aj ?_;refine aH ?_;simp -dsimp only[simprocAttr,↓aa,zp,lp];refine av ?_;refine cB rfl ?_;refine aH ?_;simp -dsimp only[simprocAttr,↓aa,zp,pF];refine av ?_;refine cB rfl ?_;refine aH ?_;simp -dsimp only[simprocAttr,↓aa,zp,tL];refine av ?_;refine de rfl ?_;refine cj ?_;refine .inr (.inr ⟨_,bq _,ah (zj ?_)⟩);refine av ?_;refine cB rfl ?_;refine eH ?_;refine cg ?_;simp -dsimp only[simprocAttr,↓aa,zp,yD];refine⟨ob (by kernel_rfl),?_⟩;refine av ?_;refine de rfl ?_;refine aB (av ?_);refine ak ?_;simp -dsimp only[simprocAttr,↓aa,zp,zr,Tryz.results109,cF];refine⟨bD,gd,?_⟩;simp[Mach.effect,kq,hk,ha,hb]
   refine zf true O.length Tryz.func109 Tryz.ntmps109 ?_;dsimp only[Tmp,TypeId,ax];refine aB (av ?_);refine cd 4 0 ([aI i.to,aI i.op,aI i.n,ct i.args]) rfl rfl (by rfl) ?_;simp -dsimp only[simprocAttr,↓aa,zp];refine cj (av ?_);refine aj ?_;refine aH ?_;simp -dsimp only[simprocAttr,↓aa,zp,lp];refine av ?_;refine cB rfl ?_;refine aH ?_;simp -dsimp only[simprocAttr,↓aa,zp,pF];refine av ?_;refine cB rfl ?_;refine aH ?_;simp -dsimp only[simprocAttr,↓aa,zp,tL];refine av ?_;refine de rfl ?_;refine cj ?_;refine .inr (.inr ⟨_,bq _,ah (zj ?_)⟩);refine av ?_;refine cB rfl ?_;refine eH ?_;refine cg ?_;simp -dsimp only[simprocAttr,↓aa,zp,yD,AA];refine⟨ob (by kernel_rfl),?_⟩;refine av ?_;refine de rfl ?_;refine aB (av ?_);refine ak ?_;simp -dsimp only[simprocAttr,↓aa,zp,zr,Tryz.results109,cF];refine⟨bD,gd,?_⟩;simp[Mach.effect,kq,hk,ha,hb]
  have yD:decide (x.n<0)=false:=decide_eq_false (by omega);have AA:decide (y.n<=x.n)=false:=decide_eq_false (by omega);refine zf true O.length Tryz.func109 Tryz.ntmps109 ?_;dsimp only[Tmp,TypeId,ax];refine aB (av ?_);refine cd 4 0 ([aI i.to,aI i.op,aI i.n,ct i.args]) rfl rfl (by rfl) ?_;simp -dsimp only[simprocAttr,↓aa,zp];refine cj (av ?_);refine aj ?_;refine aH ?_;simp -dsimp only[simprocAttr,↓aa,zp,lp];refine av ?_;refine cB rfl ?_;refine aH ?_;simp -dsimp only[simprocAttr,↓aa,zp,pF];refine av ?_;refine cB rfl ?_;refine aH ?_;simp -dsimp only[simprocAttr,↓aa,zp,tL];refine av ?_;refine de rfl ?_;refine cj ?_;refine .inr (.inr ⟨_,bq _,ah (zj ?_)⟩);refine av ?_;refine cB rfl ?_;refine eH ?_;refine cg ?_;simp -dsimp only[simprocAttr,↓aa,zp,yD,AA];refine⟨ob (by kernel_rfl),?_⟩;refine av ?_;refine cB rfl ?_;refine eH ?_;refine aB ?_;refine .inl ⟨_,dd 0,by simp only[aq,ae.upto,zt,zu,aL],ah ?_⟩;simp -dsimp only[simprocAttr,↓aa,zp,dF];refine av ?_;refine ak ?_;simp -dsimp only[simprocAttr,↓aa,zp,zr,Tryz.results109,fL];refine⟨bD,ma,?_⟩;simp[Mach.effect,kq,hk,ha,hb]
def Li(m m':Mach)(a:Option Nat)(O O':List ay):Prop :=
 (O'=O∧m'=m)∨∃(l9 ou k:Nat) (z:SV) (l:List SV),a=some l9∧O[l9]?=some (.cells [.ms ou 0 l.length l.length])∧O[ou]?=some (.cells (ar (l.map SV.enc)))∧k<l.length∧l=Mach.kh m.heap a∧SV.bk O.length z ∧
  O'=O.set ou (.cells (ar ((l.set k z).map SV.enc)))∧m' = { m with heap:=Mach.kN m.heap a (l.set k z) }
theorem Cl{m:Mach}{O:List ay}(bD:∀o∈O,o.upto O.length)(i:db)(args:List SV)(hl:∀v∈args,SV.bk O.length v)(x:SV)(hx:args[0]?=some x)
  (Oh:i.op≠15) (yz:i.op≠16) (Oi:i.op≠18) (h1:i.op≠17->∃y,args[1]?=some y) (h2:i.op≠17->i.op≠19->∃z,args[2]?=some z)
  (hu:∀v∈Mach.kh m.heap x.arr,SV.bk O.length v) (ha:x.kind=3->∃l9 ou,x.arr=some l9∧O[l9]?=some (.cells [.ms ou 0 (Mach.kh m.heap x.arr).length (Mach.kh m.heap x.arr).length])∧O[ou]?=some (.cells (ar ((Mach.kh m.heap x.arr).map SV.enc)))) :
  ∃O',aY Tryz.prog 109 O [.mp 2 0,i.enc,.aC 4 (args.map SV.enc) .sh] (fun r O1=>r=.c5 [(m.effect i args).2.1.enc,aI (m.effect i args).2.2]∧O1=O')∧Li m (m.effect i args).1 x.arr O O':=by
 have vc:=gi hx;have lp:decide (i.op=15)=false:=decide_eq_false (by omega);have pF:decide (i.op=16)=false:=decide_eq_false (by omega);have tL:decide (i.op=18)=false:=decide_eq_false (by omega);by_cases hk:x.kind=3
 ·have wu:decide (x.kind=3)=true:=decide_eq_true hk;obtain⟨l9,ou,e1,e2,e3⟩:=ha hk;have RP:eP x.arr=.mp l9 0:=by rw[e1];rfl
  have Vl:=hu;generalize hL:Mach.kh m.heap x.arr=L at *;have Rf:∀X,(O++X)[l9]?=some (.cells [.ms ou 0 L.length L.length]):=fun X=>eU e2;have Vg:∀X,(O++X)[ou]?=some (.cells (ar (L.map SV.enc))):=fun X=>eU e3;by_cases LK:i.op=17
  ·have tK:decide (i.op=17)=true:=decide_eq_true LK;have fm:m.effect i args=(m,.word L.length,0):=by simp[Mach.effect,LK,vc,hk,hL]
   rw[fm];refine⟨O,?_,.inl ⟨rfl,rfl⟩⟩;refine zf true O.length Tryz.func109 Tryz.ntmps109 ?_;dsimp only[Tmp,TypeId,ax];refine aB (av ?_);refine cd 4 0 ([aI i.to,aI i.op,aI i.n,ct i.args]) rfl rfl (by rfl) ?_;simp -dsimp only[simprocAttr,↓aa,zp];refine cj (av ?_);refine aj ?_;refine aH ?_;simp -dsimp only[simprocAttr,↓aa,zp,lp];refine av ?_;refine cB rfl ?_;refine aH ?_;simp -dsimp only[simprocAttr,↓aa,zp,pF];refine av ?_;refine cB rfl ?_;refine aH ?_;simp -dsimp only[simprocAttr,↓aa,zp,tL];refine av ?_;refine cB rfl ?_;refine pV ?_;refine cg ?_;simp -dsimp only[simprocAttr,↓aa,zp,hx,wu,tK];refine av ?_;refine cB rfl ?_;refine eH ?_;refine aH ?_;simp -dsimp only[simprocAttr,↓aa,zp,hx,RP,Rf];refine av ?_;refine cg ?_;simp -dsimp only[simprocAttr,↓aa,zp,tK];refine av ?_;refine de rfl ?_;refine aB ?_;refine .inl ⟨_,dd L.length,by simp only[aq,ae.upto,zt,zu,aL],ah ?_⟩;simp -dsimp only[simprocAttr,↓aa,zp,dF];refine av ?_;refine ak ?_;simp -dsimp only[simprocAttr,↓aa,zp,zr,Tryz.results109,fL];exact⟨bD,ma⟩
  have tK:decide (i.op=17)=false:=decide_eq_false LK;obtain⟨y,hy⟩:=h1 LK;have QJ:=gi hy;by_cases FP:y.kind=0
  ·have QU:decide (y.kind=0)=true:=decide_eq_true FP;by_cases hb:y.n<0∨(L.length:Int)<=y.n
   ·have fm:m.effect i args=(m,.zero,2):=by simp[Mach.effect,Oh,yz,Oi,LK,vc,QJ,hk,FP,hL,hb]
    rw[fm];refine⟨O,?_,.inl ⟨rfl,rfl⟩⟩;rcases(show y.n<0∨(¬y.n<0∧(L.length:Int)<=y.n) by omega)with K4|⟨K4,yC⟩
    ·have yD:decide (y.n<0)=true:=decide_eq_true K4;refine zf true O.length Tryz.func109 Tryz.ntmps109 ?_;dsimp only[Tmp,TypeId,ax];refine aB (av ?_);refine cd 4 0 ([aI i.to,aI i.op,aI i.n,ct i.args]) rfl rfl (by rfl) ?_;simp -dsimp only[simprocAttr,↓aa,zp];refine cj (av ?_);refine aj ?_;refine aH ?_;simp -dsimp only[simprocAttr,↓aa,zp,lp];refine av ?_;refine cB rfl ?_;refine aH ?_;simp -dsimp only[simprocAttr,↓aa,zp,pF];refine av ?_;refine cB rfl ?_;refine aH ?_;simp -dsimp only[simprocAttr,↓aa,zp,tL];refine av ?_;refine cB rfl ?_;refine pV ?_;refine cg ?_;simp -dsimp only[simprocAttr,↓aa,zp,hx,hy,wu,tK,QU];refine av ?_;refine cB rfl ?_;refine eH ?_;refine aH ?_;simp -dsimp only[simprocAttr,↓aa,zp,hx,RP,Rf];refine av ?_;refine cg ?_;simp -dsimp only[simprocAttr,↓aa,zp,tK];refine av ?_;refine cB rfl ?_;refine eH ?_;refine aH ?_;simp -dsimp only[simprocAttr,↓aa,zp,hy];refine av ?_;refine cg ?_;simp -dsimp only[simprocAttr,↓aa,zp,yD];refine av ?_;refine de rfl ?_;refine aB (av ?_);refine ak ?_;simp -dsimp only[simprocAttr,↓aa,zp,zr,Tryz.results109,cF];exact⟨bD,gd⟩
    have yD:decide (y.n<0)=false:=decide_eq_false K4;have AA:decide ((L.length:Int)<=y.n)=true:=decide_eq_true yC;refine zf true O.length Tryz.func109 Tryz.ntmps109 ?_;dsimp only[Tmp,TypeId,ax];refine aB (av ?_);refine cd 4 0 ([aI i.to,aI i.op,aI i.n,ct i.args]) rfl rfl (by rfl) ?_;simp -dsimp only[simprocAttr,↓aa,zp];refine cj (av ?_);refine aj ?_;refine aH ?_;simp -dsimp only[simprocAttr,↓aa,zp,lp];refine av ?_;refine cB rfl ?_;refine aH ?_;simp -dsimp only[simprocAttr,↓aa,zp,pF];refine av ?_;refine cB rfl ?_;refine aH ?_;simp -dsimp only[simprocAttr,↓aa,zp,tL];refine av ?_;refine cB rfl ?_;refine pV ?_;refine cg ?_;simp -dsimp only[simprocAttr,↓aa,zp,hx,hy,wu,tK,QU];refine av ?_;refine cB rfl ?_;refine eH ?_;refine aH ?_;simp -dsimp only[simprocAttr,↓aa,zp,hx,RP,Rf];refine av ?_;refine cg ?_;simp -dsimp only[simprocAttr,↓aa,zp,tK];refine av ?_;refine cB rfl ?_;refine eH ?_;refine aH ?_;simp -dsimp only[simprocAttr,↓aa,zp,hy];refine av ?_;refine cg ?_;simp -dsimp only[simprocAttr,↓aa,zp,yD,AA];refine av ?_;refine de rfl ?_;refine aB (av ?_);refine ak ?_;simp -dsimp only[simprocAttr,↓aa,zp,zr,Tryz.results109,cF];exact⟨bD,gd⟩
   have yD:decide (y.n<0)=false:=decide_eq_false (by omega);have AA:decide ((L.length:Int)<=y.n)=false:=decide_eq_false (by omega);obtain⟨k,mU⟩:∃k:Nat,y.n=k:=⟨y.n.toNat,by omega⟩
   have DL:k<L.length:=by omega
   have fc:=SV.iv L;by_cases Rj:i.op=19
   ·have Pw:decide (i.op=19)=true:=decide_eq_true Rj;obtain⟨z,hz⟩:∃z,L[k]?=some z:=⟨L[k],by simp[DL]⟩
    have Rs:=gi hz;have iM:=SV.pz hz;have Ms:SV.bk O.length z:=Vl z (List.mem_of_getElem? hz);have fm:m.effect i args=(m,z,0):=by simp[Mach.effect,LK,Rj,vc,QJ,hk,FP,hL,hb,mU,Rs,DL]
    rw[fm];refine⟨O,?_,.inl ⟨rfl,rfl⟩⟩;refine zf true O.length Tryz.func109 Tryz.ntmps109 ?_;dsimp only[Tmp,TypeId,ax];refine aB (av ?_);refine cd 4 0 ([aI i.to,aI i.op,aI i.n,ct i.args]) rfl rfl (by rfl) ?_;simp -dsimp only[simprocAttr,↓aa,zp];refine cj (av ?_);refine aj ?_;refine aH ?_;simp -dsimp only[simprocAttr,↓aa,zp,lp];refine av ?_;refine cB rfl ?_;refine aH ?_;simp -dsimp only[simprocAttr,↓aa,zp,pF];refine av ?_;refine cB rfl ?_;refine aH ?_;simp -dsimp only[simprocAttr,↓aa,zp,tL];refine av ?_;refine cB rfl ?_;refine pV ?_;refine cg ?_;simp -dsimp only[simprocAttr,↓aa,zp,hx,hy,wu,tK,QU];refine av ?_;refine cB rfl ?_;refine eH ?_;refine aH ?_;simp -dsimp only[simprocAttr,↓aa,zp,hx,RP,Rf];refine av ?_;refine cg ?_;simp -dsimp only[simprocAttr,↓aa,zp,tK];refine av ?_;refine cB rfl ?_;refine eH ?_;refine aH ?_;simp -dsimp only[simprocAttr,↓aa,zp,hy];refine av ?_;refine cg ?_;simp -dsimp only[simprocAttr,↓aa,zp,yD,AA];refine av ?_;refine cB rfl ?_;refine eH ?_;refine cg ?_;simp -dsimp only[simprocAttr,↓aa,zp,Pw];refine av ?_;refine de rfl ?_;refine aH ?_;simp -dsimp only[simprocAttr,↓aa,zp,mU,Vg,fc,iM]
    repeat(refine⟨by omega,?_⟩)
    refine av ?_;refine ak ?_;simp -dsimp only[simprocAttr,↓aa,zp,zr,Tryz.results109];exact⟨bD,vK Ms⟩
   have Pw:decide (i.op=19)=false:=decide_eq_false Rj;obtain⟨z,hz⟩:=h2 LK Rj;have Rs:=gi hz;have iW:=SV.zb DL z;rw[SV.al]at iW;have Ms:SV.bk O.length z:=hl z (List.mem_of_getElem? hz);have fm:m.effect i args=({ m with heap:=Mach.kN m.heap x.arr (L.set k z) },.word 0,0):=by simp[Mach.effect,Oh,yz,Oi,LK,Rj,vc,QJ,hk,FP,hL,hb,mU,Rs,DL]
   rw[fm];obtain⟨O1,ff⟩:∃O1,O1=O.set ou (.cells (ar ((L.set k z).map SV.enc))):=⟨_,rfl⟩
   have hlen:O.length=O1.length:=by rw[ff];simp
   have fo:∀o∈O1,o.upto O1.length:=by
    rw[<-hlen,ff];refine dH bD (SV.dL fun v hv=>?_);rcases List.mem_or_eq_of_mem_set hv with q|q
    ·exact Vl v q
    exact q ▸ Ms
   have AK:∀X y,(O++X).set ou y=O.set ou y++X:=fun X y=>lx e3;refine⟨O1,?_,.inr ⟨l9,ou,k,z,L,e1,e2,e3,DL,hL.symm,Ms,ff,rfl⟩⟩;refine zf true O.length Tryz.func109 Tryz.ntmps109 ?_;dsimp only[Tmp,TypeId,ax];refine aB (av ?_);refine cd 4 0 ([aI i.to,aI i.op,aI i.n,ct i.args]) rfl rfl (by rfl) ?_;simp -dsimp only[simprocAttr,↓aa,zp];refine cj (av ?_);refine aj ?_;refine aH ?_;simp -dsimp only[simprocAttr,↓aa,zp,lp];refine av ?_;refine cB rfl ?_;refine aH ?_;simp -dsimp only[simprocAttr,↓aa,zp,pF];refine av ?_;refine cB rfl ?_;refine aH ?_;simp -dsimp only[simprocAttr,↓aa,zp,tL];refine av ?_;refine cB rfl ?_;refine pV ?_;refine cg ?_;simp -dsimp only[simprocAttr,↓aa,zp,hx,hy,wu,tK,QU];refine av ?_;refine cB rfl ?_;refine eH ?_;refine aH ?_;simp -dsimp only[simprocAttr,↓aa,zp,hx,RP,Rf];refine av ?_;refine cg ?_;simp -dsimp only[simprocAttr,↓aa,zp,tK];refine av ?_;refine cB rfl ?_;refine eH ?_;refine aH ?_;simp -dsimp only[simprocAttr,↓aa,zp,hy];refine av ?_;refine cg ?_;simp -dsimp only[simprocAttr,↓aa,zp,yD,AA];refine av ?_;refine cB rfl ?_;refine eH ?_;refine cg ?_;simp -dsimp only[simprocAttr,↓aa,zp,Pw];refine av ?_;refine cB rfl ?_;refine eH ?_;refine aH ?_;simp -dsimp only[simprocAttr,↓aa,zp,mU,hz,Vg,fc,SV.bK,iW,AK,<-ff]
   repeat(refine⟨by omega,?_⟩)
   refine av ?_;refine aH ?_;simp -dsimp only[simprocAttr,↓aa,zp,hlen];refine .inl ⟨_,dd 0,by simp only[aq,ae.upto,zt,zu,aL],ah ?_⟩;simp -dsimp only[simprocAttr,↓aa,zp,dF];refine av ?_;refine ak ?_;simp -dsimp only[simprocAttr,↓aa,zp,zr,Tryz.results109,fL,hlen];exact⟨fo,ma⟩
  have QU:decide (y.kind=0)=false:=decide_eq_false FP;have fm:m.effect i args=(m,.zero,5):=by simp[Mach.effect,Oh,yz,Oi,LK,vc,QJ,hk,FP]
  rw[fm];refine⟨O,?_,.inl ⟨rfl,rfl⟩⟩;refine zf true O.length Tryz.func109 Tryz.ntmps109 ?_;dsimp only[Tmp,TypeId,ax];refine aB (av ?_);refine cd 4 0 ([aI i.to,aI i.op,aI i.n,ct i.args]) rfl rfl (by rfl) ?_;simp -dsimp only[simprocAttr,↓aa,zp];refine cj (av ?_);refine aj ?_;refine aH ?_;simp -dsimp only[simprocAttr,↓aa,zp,lp];refine av ?_;refine cB rfl ?_;refine aH ?_;simp -dsimp only[simprocAttr,↓aa,zp,pF];refine av ?_;refine cB rfl ?_;refine aH ?_;simp -dsimp only[simprocAttr,↓aa,zp,tL];refine av ?_;refine cB rfl ?_;refine pV ?_;refine cg ?_;simp -dsimp only[simprocAttr,↓aa,zp,hx,hy,wu,tK,QU];refine av ?_;refine de rfl ?_;refine aB (av ?_);refine ak ?_;simp -dsimp only[simprocAttr,↓aa,zp,zr,Tryz.results109,cF];exact⟨bD,gd⟩
 have wu:decide (x.kind=3)=false:=decide_eq_false hk;have fm:m.effect i args=(m,.zero,5):=by simp[Mach.effect,Oh,yz,Oi,vc,hk]
 rw[fm];refine⟨O,?_,.inl ⟨rfl,rfl⟩⟩;refine zf true O.length Tryz.func109 Tryz.ntmps109 ?_;dsimp only[Tmp,TypeId,ax];refine aB (av ?_);refine cd 4 0 ([aI i.to,aI i.op,aI i.n,ct i.args]) rfl rfl (by rfl) ?_;simp -dsimp only[simprocAttr,↓aa,zp];refine cj (av ?_);refine aj ?_;refine aH ?_;simp -dsimp only[simprocAttr,↓aa,zp,lp];refine av ?_;refine cB rfl ?_;refine aH ?_;simp -dsimp only[simprocAttr,↓aa,zp,pF];refine av ?_;refine cB rfl ?_;refine aH ?_;simp -dsimp only[simprocAttr,↓aa,zp,tL];refine av ?_;refine cB rfl ?_;refine pV ?_;refine cg ?_;simp -dsimp only[simprocAttr,↓aa,zp,hx,wu];refine av ?_;refine de rfl ?_;refine aB (av ?_);refine ak ?_;simp -dsimp only[simprocAttr,↓aa,zp,zr,Tryz.results109,cF];exact⟨bD,gd⟩
theorem Hr{u:cW}{m:Mach}{O:List ay}(bD:∀o∈O,o.upto O.length)(i:db)(args:List SV)(hl:∀v∈args,SV.bk O.length v)(kq:i.op=0):aY Tryz.prog 85 O [.mp 2 0,i.enc,.aC 4 (args.map SV.enc) .sh] (fun r O'=>r=.c5 [(m.exec i args).2.1.enc,aI (m.exec i args).2.2]∧O'=O):=by
 refine zf true O.length Tryz.func85 Tryz.ntmps85 ?_;dsimp only[Tmp,TypeId,ax];refine aB (av ?_);refine cd 4 0 ([aI i.to,aI i.op,aI i.n,ct i.args]) rfl rfl (by rfl) ?_;simp -dsimp only[simprocAttr,↓aa,zp];refine cj (av ?_);refine aj ?_;refine aB (av ?_);apply aQ rfl<;>intro h
 ·refine aB ?_;refine .inl ⟨_,dd i.n,by simp only[aq,ae.upto,zt,zu,aL],ah ?_⟩;simp -dsimp only[simprocAttr,↓aa,zp,dF];refine av ?_;refine ak ?_;simp -dsimp only[simprocAttr,↓aa,zp,zr,Tryz.results85,fL];refine⟨bD,ma,?_⟩;simp[Mach.exec,kq]
 exact af h (by omega)
theorem Co{u:cW}{m:Mach}{O:List ay}(bD:∀o∈O,o.upto O.length)(i:db)(args:List SV)(hl:∀v∈args,SV.bk O.length v)(kq:1<=i.op∧i.op<=7)(x y:SV)(hx:args[0]?=some x)(hy:args[1]?=some y)(US:x.kind=0->gh x.n)(UU:y.kind=0->gh y.n):aY Tryz.prog 85 O [.mp 2 0,i.enc,.aC 4 (args.map SV.enc) .sh] (fun r O'=>r=.c5 [(m.exec i args).2.1.enc,aI (m.exec i args).2.2]∧O'=O):=by
 have vc:=gi hx;have QJ:=gi hy;have bq:=x8 bD args hl 0;have h0:i.op≠0:=by omega
 cases hk:lh args 0 with
 | false =>
  rw[hk]at bq;refine zf true O.length Tryz.func85 Tryz.ntmps85 ?_;dsimp only[Tmp,TypeId,ax];refine aB (av ?_);refine cd 4 0 ([aI i.to,aI i.op,aI i.n,ct i.args]) rfl rfl (by rfl) ?_;simp -dsimp only[simprocAttr,↓aa,zp];refine cj (av ?_);refine aj ?_;refine aB (av ?_);apply aQ rfl<;>intro h
  ·exact ab h (by omega)
  refine cj (av ?_);refine jj (⟨82,[(0,.mp 2 0),(2,.aC 4 (args.map SV.enc) .sh),(4,.ip none [aI i.to,aI i.op,aI i.n,ct i.args]),(6,.mp (O.length+1) 0),(7,aI 0),(9,aI i.op),(15,.v (.bool true))],O++[.gone,.cells [aI 0,aI 0,.aC 4 [] .ex,.v (.pointer none)]]⟩) ?_ ?_
  ·apply aQ rfl<;>intro h
   ·refine au ?_;show bn _ _;refine zq rfl ?_ ?_;simp -dsimp only[simprocAttr,↓aa,zp,zc]
    ·exact Sub.of_eq (by rw[h])
    rfl
   refine aB (av ?_);apply aQ rfl<;>intro h
   ·refine au ?_;show bn _ _;refine zq rfl ?_ ?_;simp -dsimp only[simprocAttr,↓aa,zp,zc]
    ·exact Sub.of_eq (by rw[h])
    rfl
   refine aB (av ?_);apply aQ rfl<;>intro h
   ·refine au ?_;show bn _ _;refine zq rfl ?_ ?_;simp -dsimp only[simprocAttr,↓aa,zp,zc]
    ·exact Sub.of_eq (by rw[h])
    rfl
   refine aB (av ?_);apply aQ rfl<;>intro h
   ·refine au ?_;show bn _ _;refine zq rfl ?_ ?_;simp -dsimp only[simprocAttr,↓aa,zp,zc]
    ·exact Sub.of_eq (by rw[h])
    rfl
   refine aB (av ?_);apply aQ rfl<;>intro h
   ·refine au ?_;show bn _ _;refine zq rfl ?_ ?_;simp -dsimp only[simprocAttr,↓aa,zp,zc]
    ·exact Sub.of_eq (by rw[h])
    rfl
   refine aB (av ?_);apply aQ rfl<;>intro h
   ·refine au ?_;show bn _ _;refine zq rfl ?_ ?_;simp -dsimp only[simprocAttr,↓aa,zp,zc]
    ·exact Sub.of_eq (by rw[h])
    rfl
   refine du ?_;refine I ?_;show bn _ _;refine zq rfl ?_ ?_;simp -dsimp only[simprocAttr,↓aa,zp,zc]
   ·exact Sub.of_eq (by rw[decide_eq_true (show i.op=7 by simp only[decide_eq_false_iff_not]at *;omega)])
   rfl
  refine de rfl ?_;refine cj ?_;refine .inr (.inr ⟨_,bq _,ah (zj ?_)⟩);refine av ?_;refine de rfl ?_;refine aB (av ?_);refine ak ?_;simp -dsimp only[simprocAttr,↓aa,zp,zr,Tryz.results85,cF];refine⟨bD,gd,?_⟩;simp[Mach.exec,kq,h0,hk]
 | true =>
  rw[hk]at bq;have WQ:x.kind=0:=by
   simp only[lh,List.all_eq_true,decide_eq_true_eq]at hk;exact hk x (List.mem_of_getElem? hx)
  have WR:y.kind=0:=by
   simp only[lh,List.all_eq_true,decide_eq_true_eq]at hk;exact hk y (List.mem_of_getElem? hy)
  have TU:=sU i.op x.n y.n (US WQ) (UU WR);have RA:=pL O.length i.op x.n y.n;have fm:m.exec i args=(m,dp i.op x.n y.n):=by simp[Mach.exec,kq,h0,hk,vc,QJ]
  rw[fm];generalize dp i.op x.n y.n=B at *;refine zf true O.length Tryz.func85 Tryz.ntmps85 ?_;dsimp only[Tmp,TypeId,ax];refine aB (av ?_);refine cd 4 0 ([aI i.to,aI i.op,aI i.n,ct i.args]) rfl rfl (by rfl) ?_;simp -dsimp only[simprocAttr,↓aa,zp];refine cj (av ?_);refine aj ?_;refine aB (av ?_);apply aQ rfl<;>intro h
  ·exact ab h (by omega)
  refine cj (av ?_);refine jj (⟨82,[(0,.mp 2 0),(2,.aC 4 (args.map SV.enc) .sh),(4,.ip none [aI i.to,aI i.op,aI i.n,ct i.args]),(6,.mp (O.length+1) 0),(7,aI 0),(9,aI i.op),(15,.v (.bool true))],O++[.gone,.cells [aI 0,aI 0,.aC 4 [] .ex,.v (.pointer none)]]⟩) ?_ ?_
  ·apply aQ rfl<;>intro h
   ·refine au ?_;show bn _ _;refine zq rfl ?_ ?_;simp -dsimp only[simprocAttr,↓aa,zp,zc]
    ·exact Sub.of_eq (by rw[h])
    rfl
   refine aB (av ?_);apply aQ rfl<;>intro h
   ·refine au ?_;show bn _ _;refine zq rfl ?_ ?_;simp -dsimp only[simprocAttr,↓aa,zp,zc]
    ·exact Sub.of_eq (by rw[h])
    rfl
   refine aB (av ?_);apply aQ rfl<;>intro h
   ·refine au ?_;show bn _ _;refine zq rfl ?_ ?_;simp -dsimp only[simprocAttr,↓aa,zp,zc]
    ·exact Sub.of_eq (by rw[h])
    rfl
   refine aB (av ?_);apply aQ rfl<;>intro h
   ·refine au ?_;show bn _ _;refine zq rfl ?_ ?_;simp -dsimp only[simprocAttr,↓aa,zp,zc]
    ·exact Sub.of_eq (by rw[h])
    rfl
   refine aB (av ?_);apply aQ rfl<;>intro h
   ·refine au ?_;show bn _ _;refine zq rfl ?_ ?_;simp -dsimp only[simprocAttr,↓aa,zp,zc]
    ·exact Sub.of_eq (by rw[h])
    rfl
   refine aB (av ?_);apply aQ rfl<;>intro h
   ·refine au ?_;show bn _ _;refine zq rfl ?_ ?_;simp -dsimp only[simprocAttr,↓aa,zp,zc]
    ·exact Sub.of_eq (by rw[h])
    rfl
   refine du ?_;refine I ?_;show bn _ _;refine zq rfl ?_ ?_;simp -dsimp only[simprocAttr,↓aa,zp,zc]
   ·exact Sub.of_eq (by rw[decide_eq_true (show i.op=7 by simp only[decide_eq_false_iff_not]at *;omega)])
   rfl
  refine de rfl ?_;refine cj ?_;refine .inr (.inr ⟨_,bq _,ah (zj ?_)⟩);refine av ?_;refine cB rfl ?_;refine eH ?_;refine aH ?_;simp -dsimp only[simprocAttr,↓aa,zp,hx,hy];refine zi TU ?_;refine⟨ob (by kernel_rfl),?_⟩;refine av ?_;refine ak ?_;simp -dsimp only[simprocAttr,↓aa,zp,zr,Tryz.results85];exact⟨bD,vK RA⟩
theorem Hq{u:cW}{m:Mach}{O:List ay}(bD:∀o∈O,o.upto O.length)(i:db)(args:List SV)(hl:∀v∈args,SV.bk O.length v)(kq:i.op=8):aY Tryz.prog 85 O [.mp 2 0,i.enc,.aC 4 (args.map SV.enc) .sh] (fun r O'=>r=.c5 [(m.exec i args).2.1.enc,aI (m.exec i args).2.2]∧O'=O):=by
 have hz:=(SV.bk.mk (k:=1) (m:=i.n) (a:=none) (by simp) hl).aF;rw[SV.jM]at hz;refine zf true O.length Tryz.func85 Tryz.ntmps85 ?_;dsimp only[Tmp,TypeId,ax];refine aB (av ?_);refine cd 4 0 ([aI i.to,aI i.op,aI i.n,ct i.args]) rfl rfl (by rfl) ?_;simp -dsimp only[simprocAttr,↓aa,zp];refine cj (av ?_);refine aj ?_;refine aB (av ?_);apply aQ rfl<;>intro h
 ·exact ab h (by omega)
 refine cj (av ?_);apply aQ rfl<;>intro h
 ·exact ab h (by omega)
 refine aB (av ?_);apply aQ rfl<;>intro h
 ·exact ab h (by omega)
 refine aB (av ?_);apply aQ rfl<;>intro h
 ·exact ab h (by omega)
 refine aB (av ?_);apply aQ rfl<;>intro h
 ·exact ab h (by omega)
 refine aB (av ?_);apply aQ rfl<;>intro h
 ·exact ab h (by omega)
 refine aB (av ?_);apply aQ rfl<;>intro h
 ·exact ab h (by omega)
 refine du (av ?_);apply aQ rfl<;>intro h
 ·exact ab h (by omega)
 refine aB (av ?_);apply aQ rfl<;>intro h
 ·refine aB (av ?_);refine ak ?_;simp -dsimp only[simprocAttr,↓aa,zp,zr,Tryz.results85];refine⟨bD,⟨hz,trivial,trivial⟩,?_⟩;simp[Mach.exec,kq,SV.jM,eP]
 exact af h (by omega)
theorem Fs{u:cW}{m:Mach}{O:List ay}(bD:∀o∈O,o.upto O.length)(i:db)(args:List SV)(hl:∀v∈args,SV.bk O.length v)(kq:i.op=9):aY Tryz.prog 85 O [.mp 2 0,i.enc,.aC 4 (args.map SV.enc) .sh] (fun r O'=>r=.c5 [(m.exec i args).2.1.enc,aI (m.exec i args).2.2]∧O'=O):=by
 have hz:=(SV.bk.mk (k:=2) (m:=i.n) (a:=none) (by simp) hl).aF;rw[SV.jM]at hz;refine zf true O.length Tryz.func85 Tryz.ntmps85 ?_;dsimp only[Tmp,TypeId,ax];refine aB (av ?_);refine cd 4 0 ([aI i.to,aI i.op,aI i.n,ct i.args]) rfl rfl (by rfl) ?_;simp -dsimp only[simprocAttr,↓aa,zp];refine cj (av ?_);refine aj ?_;refine aB (av ?_);apply aQ rfl<;>intro h
 ·exact ab h (by omega)
 refine cj (av ?_);apply aQ rfl<;>intro h
 ·exact ab h (by omega)
 refine aB (av ?_);apply aQ rfl<;>intro h
 ·exact ab h (by omega)
 refine aB (av ?_);apply aQ rfl<;>intro h
 ·exact ab h (by omega)
 refine aB (av ?_);apply aQ rfl<;>intro h
 ·exact ab h (by omega)
 refine aB (av ?_);apply aQ rfl<;>intro h
 ·exact ab h (by omega)
 refine aB (av ?_);apply aQ rfl<;>intro h
 ·exact ab h (by omega)
 refine du (av ?_);apply aQ rfl<;>intro h
 ·exact ab h (by omega)
 refine aB (av ?_);apply aQ rfl<;>intro h
 ·exact ab h (by omega)
 refine aB (av ?_);apply aQ rfl<;>intro h
 ·refine aB (av ?_);refine ak ?_;simp -dsimp only[simprocAttr,↓aa,zp,zr,Tryz.results85];refine⟨bD,⟨hz,trivial,trivial⟩,?_⟩;simp[Mach.exec,kq,SV.jM,eP]
 exact af h (by omega)
theorem Hs{u:cW}{m:Mach}{O:List ay}(bD:∀o∈O,o.upto O.length)(i:db)(args:List SV)(hl:∀v∈args,SV.bk O.length v)(kq:i.op=10∨i.op=11∨i.op=12∨i.op=21)(hC:aY Tryz.prog 107 O [i.enc,.aC 4 (args.map SV.enc) .sh] (fun r O'=>r=.c5 [(dc i args).1.enc,aI (dc i args).2]∧O'=O))(hR:SV.bk O.length (dc i args).1):aY Tryz.prog 85 O [.mp 2 0,i.enc,.aC 4 (args.map SV.enc) .sh] (fun r O'=>r=.c5 [(m.exec i args).2.1.enc,aI (m.exec i args).2.2]∧O'=O):=by
 have eL:=aY.frame hC rfl ⟨i.aF _,⟨SV.an hl,trivial⟩,trivial⟩ bD;have fm:m.exec i args=(m,dc i args):=by
  unfold Mach.exec;rw[if_neg (by omega),if_neg (by omega),if_neg (by omega),if_neg (by omega),if_pos kq]
 rw[fm];generalize dc i args=B at *;refine zf true O.length Tryz.func85 Tryz.ntmps85 ?_;dsimp only[Tmp,TypeId,ax];refine aB (av ?_);refine cd 4 0 ([aI i.to,aI i.op,aI i.n,ct i.args]) rfl rfl (by rfl) ?_;simp -dsimp only[simprocAttr,↓aa,zp];refine cj (av ?_);refine aj ?_;refine aB (av ?_);apply aQ rfl<;>intro h
 ·exact ab h (by omega)
 refine cj (av ?_);apply aQ rfl<;>intro h
 ·exact ab h (by omega)
 refine aB (av ?_);apply aQ rfl<;>intro h
 ·exact ab h (by omega)
 refine aB (av ?_);apply aQ rfl<;>intro h
 ·exact ab h (by omega)
 refine aB (av ?_);apply aQ rfl<;>intro h
 ·exact ab h (by omega)
 refine aB (av ?_);apply aQ rfl<;>intro h
 ·exact ab h (by omega)
 refine aB (av ?_);apply aQ rfl<;>intro h
 ·exact ab h (by omega)
 refine du (av ?_);apply aQ rfl<;>intro h
 ·exact ab h (by omega)
 refine aB (av ?_);apply aQ rfl<;>intro h
 ·exact ab h (by omega)
 refine aB (av ?_);apply aQ rfl<;>intro h
 ·exact ab h (by omega)
 refine cj (av ?_);refine jj (⟨82,[(0,.mp 2 0),(2,.aC 4 (args.map SV.enc) .sh),(4,.ip none [aI i.to,aI i.op,aI i.n,ct i.args]),(6,.mp (O.length+1) 0),(7,aI 0),(9,aI i.op),(52,.v (.bool true))],O++[.gone,.cells [aI 0,aI 0,.aC 4 [] .ex,.v (.pointer none)]]⟩) ?_ ?_
 ·apply aQ rfl<;>intro h
  ·refine au ?_;show bn _ _;refine zq rfl ?_ ?_;simp -dsimp only[simprocAttr,↓aa,zp,zc]
   ·exact Sub.of_eq (by rw[h])
   rfl
  refine aB (av ?_);apply aQ rfl<;>intro h
  ·refine au ?_;show bn _ _;refine zq rfl ?_ ?_;simp -dsimp only[simprocAttr,↓aa,zp,zc]
   ·exact Sub.of_eq (by rw[h])
   rfl
  refine aB (av ?_);apply aQ rfl<;>intro h
  ·refine au ?_;show bn _ _;refine zq rfl ?_ ?_;simp -dsimp only[simprocAttr,↓aa,zp,zc]
   ·exact Sub.of_eq (by rw[h])
   rfl
  refine du ?_;refine I ?_;show bn _ _;refine zq rfl ?_ ?_;simp -dsimp only[simprocAttr,↓aa,zp,zc]
  ·exact Sub.of_eq (by rw[decide_eq_true (show i.op=21 by simp only[decide_eq_false_iff_not]at *;omega)])
  rfl
 refine de rfl ?_;refine aB ?_;refine .inr (.inr ⟨_,eL _,ah (zj ?_)⟩);refine av ?_;refine ak ?_;simp -dsimp only[simprocAttr,↓aa,zp,zr,Tryz.results85];exact⟨bD,vK hR⟩
theorem Ht{u:cW}{m:Mach}{O:List ay}(bD:∀o∈O,o.upto O.length)(i:db)(args:List SV)(hl:∀v∈args,SV.bk O.length v)(kq:i.op=22∨i.op=23∨i.op=24)(hC:aY Tryz.prog 108 O [i.enc,.aC 4 (args.map SV.enc) .sh] (fun r O'=>r=.c5 [(dq i args).1.enc,aI (dq i args).2]∧O'=O))(hR:SV.bk O.length (dq i args).1):aY Tryz.prog 85 O [.mp 2 0,i.enc,.aC 4 (args.map SV.enc) .sh] (fun r O'=>r=.c5 [(m.exec i args).2.1.enc,aI (m.exec i args).2.2]∧O'=O):=by
 have eL:=aY.frame hC rfl ⟨i.aF _,⟨SV.an hl,trivial⟩,trivial⟩ bD;have fm:m.exec i args=(m,dq i args):=by
  unfold Mach.exec;rw[if_neg (by omega),if_neg (by omega),if_neg (by omega),if_neg (by omega),if_neg (by omega),if_pos kq]
 rw[fm];generalize dq i args=B at *;refine zf true O.length Tryz.func85 Tryz.ntmps85 ?_;dsimp only[Tmp,TypeId,ax];refine aB (av ?_);refine cd 4 0 ([aI i.to,aI i.op,aI i.n,ct i.args]) rfl rfl (by rfl) ?_;simp -dsimp only[simprocAttr,↓aa,zp];refine cj (av ?_);refine aj ?_;refine aB (av ?_);apply aQ rfl<;>intro h
 ·exact ab h (by omega)
 refine cj (av ?_);apply aQ rfl<;>intro h
 ·exact ab h (by omega)
 refine aB (av ?_);apply aQ rfl<;>intro h
 ·exact ab h (by omega)
 refine aB (av ?_);apply aQ rfl<;>intro h
 ·exact ab h (by omega)
 refine aB (av ?_);apply aQ rfl<;>intro h
 ·exact ab h (by omega)
 refine aB (av ?_);apply aQ rfl<;>intro h
 ·exact ab h (by omega)
 refine aB (av ?_);apply aQ rfl<;>intro h
 ·exact ab h (by omega)
 refine du (av ?_);apply aQ rfl<;>intro h
 ·exact ab h (by omega)
 refine aB (av ?_);apply aQ rfl<;>intro h
 ·exact ab h (by omega)
 refine aB (av ?_);apply aQ rfl<;>intro h
 ·exact ab h (by omega)
 refine cj (av ?_);apply aQ rfl<;>intro h
 ·exact ab h (by omega)
 refine aB (av ?_);apply aQ rfl<;>intro h
 ·exact ab h (by omega)
 refine aB (av ?_);apply aQ rfl<;>intro h
 ·exact ab h (by omega)
 refine du (av ?_);apply aQ rfl<;>intro h
 ·exact ab h (by omega)
 refine cj (av ?_);refine jj (⟨82,[(0,.mp 2 0),(2,.aC 4 (args.map SV.enc) .sh),(4,.ip none [aI i.to,aI i.op,aI i.n,ct i.args]),(6,.mp (O.length+1) 0),(7,aI 0),(9,aI i.op),(62,.v (.bool true))],O++[.gone,.cells [aI 0,aI 0,.aC 4 [] .ex,.v (.pointer none)]]⟩) ?_ ?_
 ·apply aQ rfl<;>intro h
  ·refine au ?_;show bn _ _;refine zq rfl ?_ ?_;simp -dsimp only[simprocAttr,↓aa,zp,zc]
   ·exact Sub.of_eq (by rw[h])
   rfl
  refine aB (av ?_);apply aQ rfl<;>intro h
  ·refine au ?_;show bn _ _;refine zq rfl ?_ ?_;simp -dsimp only[simprocAttr,↓aa,zp,zc]
   ·exact Sub.of_eq (by rw[h])
   rfl
  refine du ?_;refine I ?_;show bn _ _;refine zq rfl ?_ ?_;simp -dsimp only[simprocAttr,↓aa,zp,zc]
  ·exact Sub.of_eq (by rw[decide_eq_true (show i.op=24 by simp only[decide_eq_false_iff_not]at *;omega)])
  rfl
 refine de rfl ?_;refine aB ?_;refine .inr (.inr ⟨_,eL _,ah (zj ?_)⟩);refine av ?_;refine ak ?_;simp -dsimp only[simprocAttr,↓aa,zp,zr,Tryz.results85];exact⟨bD,vK hR⟩
theorem Ft{u:cW}{m:Mach}{O:List ay}(bD:∀o∈O,o.upto O.length)(i:db)(args:List SV)(hl:∀v∈args,SV.bk O.length v)(kq:i.op=100)(x:SV)(hx:args[0]?=some x):aY Tryz.prog 85 O [.mp 2 0,i.enc,.aC 4 (args.map SV.enc) .sh] (fun r O'=>r=.c5 [(m.exec i args).2.1.enc,aI (m.exec i args).2.2]∧O'=O):=by
 have vc:=gi hx;have DT:=hl x (List.mem_of_getElem? hx);refine zf true O.length Tryz.func85 Tryz.ntmps85 ?_;dsimp only[Tmp,TypeId,ax];refine aB (av ?_);refine cd 4 0 ([aI i.to,aI i.op,aI i.n,ct i.args]) rfl rfl (by rfl) ?_;simp -dsimp only[simprocAttr,↓aa,zp];refine cj (av ?_);refine aj ?_;refine aB (av ?_);apply aQ rfl<;>intro h
 ·exact ab h (by omega)
 refine cj (av ?_);apply aQ rfl<;>intro h
 ·exact ab h (by omega)
 refine aB (av ?_);apply aQ rfl<;>intro h
 ·exact ab h (by omega)
 refine aB (av ?_);apply aQ rfl<;>intro h
 ·exact ab h (by omega)
 refine aB (av ?_);apply aQ rfl<;>intro h
 ·exact ab h (by omega)
 refine aB (av ?_);apply aQ rfl<;>intro h
 ·exact ab h (by omega)
 refine aB (av ?_);apply aQ rfl<;>intro h
 ·exact ab h (by omega)
 refine du (av ?_);apply aQ rfl<;>intro h
 ·exact ab h (by omega)
 refine aB (av ?_);apply aQ rfl<;>intro h
 ·exact ab h (by omega)
 refine aB (av ?_);apply aQ rfl<;>intro h
 ·exact ab h (by omega)
 refine cj (av ?_);apply aQ rfl<;>intro h
 ·exact ab h (by omega)
 refine aB (av ?_);apply aQ rfl<;>intro h
 ·exact ab h (by omega)
 refine aB (av ?_);apply aQ rfl<;>intro h
 ·exact ab h (by omega)
 refine du (av ?_);apply aQ rfl<;>intro h
 ·exact ab h (by omega)
 refine cj (av ?_);apply aQ rfl<;>intro h
 ·exact ab h (by omega)
 refine aB (av ?_);apply aQ rfl<;>intro h
 ·exact ab h (by omega)
 refine du (av ?_);apply aQ rfl<;>intro h
 ·exact ab h (by omega)
 refine aB (av ?_);apply aQ rfl<;>intro h
 ·refine aH ?_;simp -dsimp only[simprocAttr,↓aa,zp,hx];refine av ?_;refine ak ?_;simp -dsimp only[simprocAttr,↓aa,zp,zr,Tryz.results85];refine⟨bD,vK DT,?_⟩;simp[Mach.exec,kq,vc]
 exact af h (by omega)
theorem Aq(m:Mach)(i:db)(args:List SV)(h0:i.op≠0)(h1:¬(1<=i.op∧i.op<=7))(h8:i.op≠8)(h9:i.op≠9)(Hz:i.op≠10∧i.op≠11∧i.op≠12∧i.op≠21)(S3:i.op≠22∧i.op≠23∧i.op≠24)(vb:i.op≠100):m.exec i args=m.effect i args:=by
 unfold Mach.exec;rw[if_neg h0,if_neg h1,if_neg h8,if_neg h9,if_neg (by omega),if_neg (by omega),if_neg vb]
theorem oE{O O':List ay}(bD:∀o∈O,o.upto O.length)(i:db)(args:List SV)(hl:∀v∈args,SV.bk O.length v)(h0:i.op≠0)(h1:¬(1<=i.op∧i.op<=7))(h8:i.op≠8)(h9:i.op≠9)(Hz:i.op≠10∧i.op≠11∧i.op≠12∧i.op≠21)(S3:i.op≠22∧i.op≠23∧i.op≠24)(vb:i.op≠100)(lr:2<O.length)(v:SV)(t:Int)(hv:SV.bk O.length v)
  (hC:aY Tryz.prog 109 O [.mp 2 0,i.enc,.aC 4 (args.map SV.enc) .sh] (fun r O1=>r=.c5 [v.enc,aI t]∧O1=O')) (hlen:O.length=O'.length) (nZ:∀o∈O',o.upto O'.length) :
  aY Tryz.prog 85 O [.mp 2 0,i.enc,.aC 4 (args.map SV.enc) .sh] (fun r O1=>r=.c5 [v.enc,aI t]∧O1=O'):=by
 have eL:=aY.frame hC hlen.symm ⟨lr,i.aF _,⟨SV.an hl,trivial⟩,trivial⟩ bD;rw[hlen]at hv;refine zf true O.length Tryz.func85 Tryz.ntmps85 ?_;dsimp only[Tmp,TypeId,ax];refine aB (av ?_);refine cd 4 0 ([aI i.to,aI i.op,aI i.n,ct i.args]) rfl rfl (by rfl) ?_;simp -dsimp only[simprocAttr,↓aa,zp];refine cj (av ?_);refine aj ?_;refine aB (av ?_);apply aQ rfl<;>intro h
 ·exact ab h (by omega)
 refine cj (av ?_);apply aQ rfl<;>intro h
 ·exact ab h (by omega)
 refine aB (av ?_);apply aQ rfl<;>intro h
 ·exact ab h (by omega)
 refine aB (av ?_);apply aQ rfl<;>intro h
 ·exact ab h (by omega)
 refine aB (av ?_);apply aQ rfl<;>intro h
 ·exact ab h (by omega)
 refine aB (av ?_);apply aQ rfl<;>intro h
 ·exact ab h (by omega)
 refine aB (av ?_);apply aQ rfl<;>intro h
 ·exact ab h (by omega)
 refine du (av ?_);apply aQ rfl<;>intro h
 ·exact ab h (by omega)
 refine aB (av ?_);apply aQ rfl<;>intro h
 ·exact ab h (by omega)
 refine aB (av ?_);apply aQ rfl<;>intro h
 ·exact ab h (by omega)
 refine cj (av ?_);apply aQ rfl<;>intro h
 ·exact ab h (by omega)
 refine aB (av ?_);apply aQ rfl<;>intro h
 ·exact ab h (by omega)
 refine aB (av ?_);apply aQ rfl<;>intro h
 ·exact ab h (by omega)
 refine du (av ?_);apply aQ rfl<;>intro h
 ·exact ab h (by omega)
 refine cj (av ?_);apply aQ rfl<;>intro h
 ·exact ab h (by omega)
 refine aB (av ?_);apply aQ rfl<;>intro h
 ·exact ab h (by omega)
 refine du (av ?_);apply aQ rfl<;>intro h
 ·exact ab h (by omega)
 refine aB (av ?_);apply aQ rfl<;>intro h
 ·exact ab h (by omega)
 refine pV ?_;refine aB ?_;refine .inr (.inl ⟨_,_,eL _,.inl (ah ?_)⟩);simp -dsimp only[simprocAttr,↓aa,zp,hlen];refine av ?_;refine ak ?_;simp -dsimp only[simprocAttr,↓aa,zp,zr,Tryz.results85,hlen];exact⟨nZ,vK hv⟩
theorem Lz{u:cW}{m:Mach}{O:List ay}(bD:∀o∈O,o.upto O.length)(GA:O[2]?=some (.cells (aD u m)))(i:db)(size fill:SV)(hs:SV.bk O.length size)(hf:SV.bk O.length fill)
  (kq:i.op=16) (TG:0<=m.left) (h2:m.left<=2 ^ 40) (wv:m.short=false) (hk:size.kind=0) (OA:0<=size.n) (QP:size.n<=1024) (hp:size.n<=m.left) :
  aY Tryz.prog 85 O [.mp 2 0,i.enc,.aC 4 [size.enc,fill.enc] .sh] (fun r O'=>r=.c5 [.agg [aI 3,aI 0,.aC 4 [] .sh,.mp (O.length+8) 0],aI 0]∧O'=O.set 2 (.cells (aD u (m.gp size.n))) ++
   [.gone,.cells [aI 3,aI 0,.aC 4 [] .sh,.mp (O.length+8) 0],.gone,.cells [aI 3,aI 0,.aC 4 [] .sh,.mp (O.length+8) 0],.gone,.gone,.cells [aI 3,aI 0,.aC 4 [] .ex,.mp (O.length+8) 0],.cells (ar ((List.replicate size.n.toNat fill).map SV.enc)),.cells [.ms (O.length+7) 0 size.n.toNat size.n.toNat]]):=by
 have FO:∀o∈O++[.gone,.cells [aI 0,aI 0,.aC 4 [] .ex,.v (.pointer none)]],o.upto (O++[ay.gone,.cells [aI 0,aI 0,.aC 4 [] .ex,.v (.pointer none)]]).length:=fun o ho=>by
  rcases List.mem_append.1 ho with ho|ho
  ·exact ay.ep (by simp) (bD o ho)
  simp only[List.mem_cons,List.mem_nil_iff,or_false]at ho;rcases ho with rfl|rfl
  ·trivial
  simp[ay.upto,aq,ae.upto]
 have Ui:(O++[ay.gone,.cells [aI 0,aI 0,.aC 4 [] .ex,.v (.pointer none)]]).length=O.length+2:=by simp
 have eL:=Fq FO (eU GA) i size fill (hs.mono (by simp)) (hf.mono (by simp)) kq TG h2 wv hk OA QP hp;have fo:=bo bD GA (ds:=aD u (m.gp size.n)) (fun h=>ca h (pw m size.n));rw[lx GA,Ui]at eL;obtain⟨O1,ff⟩:∃O1,O1=O.set 2 (.cells (aD u (m.gp size.n))):=⟨_,rfl⟩
 have hlen:O.length=O1.length:=by rw[ff];simp
 simp only[<-ff]at eL fo ⊢;rw[hlen]at fo;have eN:∀v∈List.replicate size.n.toNat fill,SV.bk (O1.length+9) v:=fun v hv=>by
  rw[(List.mem_replicate.1 hv).2];exact hf.mono (by omega)
 have hc:=SV.dL eN;have h0:i.op≠0:=by omega
 generalize fc:ar ((List.replicate size.n.toNat fill).map SV.enc)=row at *;refine zf true (O.length+9) Tryz.func85 Tryz.ntmps85 ?_;dsimp only[Tmp,TypeId,ax];refine aB (av ?_);refine cd 4 0 ([aI i.to,aI i.op,aI i.n,ct i.args]) rfl rfl (by rfl) ?_;simp -dsimp only[simprocAttr,↓aa,zp];refine cj (av ?_);refine aj ?_;refine aB (av ?_);apply aQ rfl<;>intro h
 ·exact ab h (by omega)
 refine cj (av ?_);apply aQ rfl<;>intro h
 ·exact ab h (by omega)
 refine aB (av ?_);apply aQ rfl<;>intro h
 ·exact ab h (by omega)
 refine aB (av ?_);apply aQ rfl<;>intro h
 ·exact ab h (by omega)
 refine aB (av ?_);apply aQ rfl<;>intro h
 ·exact ab h (by omega)
 refine aB (av ?_);apply aQ rfl<;>intro h
 ·exact ab h (by omega)
 refine aB (av ?_);apply aQ rfl<;>intro h
 ·exact ab h (by omega)
 refine du (av ?_);apply aQ rfl<;>intro h
 ·exact ab h (by omega)
 refine aB (av ?_);apply aQ rfl<;>intro h
 ·exact ab h (by omega)
 refine aB (av ?_);apply aQ rfl<;>intro h
 ·exact ab h (by omega)
 refine cj (av ?_);apply aQ rfl<;>intro h
 ·exact ab h (by omega)
 refine aB (av ?_);apply aQ rfl<;>intro h
 ·exact ab h (by omega)
 refine aB (av ?_);apply aQ rfl<;>intro h
 ·exact ab h (by omega)
 refine du (av ?_);apply aQ rfl<;>intro h
 ·exact ab h (by omega)
 refine cj (av ?_);apply aQ rfl<;>intro h
 ·exact ab h (by omega)
 refine aB (av ?_);apply aQ rfl<;>intro h
 ·exact ab h (by omega)
 refine du (av ?_);apply aQ rfl<;>intro h
 ·exact ab h (by omega)
 refine aB (av ?_);apply aQ rfl<;>intro h
 ·exact ab h (by omega)
 refine pV ?_;refine aB ?_;refine .inr (.inl ⟨_,_,eL,.inl (ah ?_)⟩);simp -dsimp only[simprocAttr,↓aa,zp,hlen];refine av ?_;refine ak ?_;simp -dsimp only[simprocAttr,↓aa,zp,zr,Tryz.results85,hlen];rw[pB];refine⟨fun o ho=>?_,by simp[aq,ae.upto],rfl⟩;rcases List.mem_append.1 ho with ho|ho
 ·exact ay.ep (by omega) (fo o ho)
 simp only[List.take_succ_cons,List.take_zero,List.mem_cons,List.mem_nil_iff,or_false]at ho;rcases ho with rfl|rfl|rfl|rfl|rfl|rfl|rfl|rfl|rfl
 ·trivial
 ·simp[ay.upto,aq,ae.upto]
 ·trivial
 ·simp[ay.upto,aq,ae.upto]
 ·trivial
 ·trivial
 ·simp[ay.upto,aq,ae.upto]
 ·exact hc
 simp[ay.upto,aq,ae.upto]
theorem p9:∀{es:List (Int×SV)} {ps:List Int} {l:List SV} {j:Nat} {p:Int} {a:SV},ps[j]?=some p->l[j]?=some a->g5 es (ps.take (j+1)) (l.take (j+1))=fZ (g5 es (ps.take j) (l.take j)) p a
 | es,q::ps,b::l,0,p,a,h1,h2=>by
  simp only[List.getElem?_cons_zero,Option.some.injEq]at h1 h2;subst h1;subst h2;simp[g5]
 | es,q::ps,b::l,j+1,p,a,h1,h2=>by
  have ih:=p9 (es:=fZ es q b) (ps:=ps) (l:=l) (j:=j) (by simpa using h1) (by simpa using h2);simp only[List.take_succ_cons,g5];exact ih
 | _,[],_,_,_,_,h1,_=>by simp at h1
 | _,_::_,[],_,_,_,_,h2=>by simp at h2
theorem uA(es:List (Int×SV))(ps:List Int)(l:List SV):g5 es (ps.take 0) (l.take 0)=es:=by simp[g5]
theorem la:∀{es:List (Int×SV)} {ps:List Int} {l:List SV} {e:Int×SV},e∈g5 es ps l->e∈es∨e.2∈l
 | es,[],_,e,h=>.inl (by simpa[g5]using h)
 | es,_::_,[],e,h=>.inl (by simpa[g5]using h)
 | es,p::ps,a::l,e,h=>by
  simp only[g5]at h;rcases la h with h|h
  ·rcases jT h with h|h
   ·exact .inl h
   exact .inr (by simp[h])
  exact .inr (by simp[h])
theorem lQ{u:cW}{k:Int}(h0:0<=k)(h1:k<u.fns.length):u.fns[k.toNat]?=some (dg u k):=by
 have aN:k.toNat<u.fns.length:=by omega
 simp[dg,aN]
theorem gx{f:Func}{k:Int}(h0:0<=k)(h1:k<f.blocks.length):f.blocks[k.toNat]?=some (bU f k):=by
 have aN:k.toNat<f.blocks.length:=by omega
 simp[bU,aN]
theorem An{es:List (Int×SV)}{n:Nat}(h:∀e∈es,SV.bk n e.2):kC n (es.map il):=by
 induction es with
 | nil=>trivial
 | cons e r ih=>exact⟨(h e (by simp)).aF,ih fun x hx=>h x (by simp[hx])⟩
theorem Aw{u:cW}{m:Mach}{O:List ay}(bD:∀o∈O,o.upto O.length)(h0:O[2]?=some (.cells (aD u m)))(f:Fr)(hf:O[f.b9]?=some (.cells (aX f)))(hv:O[f.dR]?=some (.map (.int .i64) (f.vals.map il)))
  (hu:∀e∈f.vals,SV.bk O.length e.2) (Xn:2≠f.b9) (Xo:2≠f.dR) (ub:f.b9≠f.dR) (rA:0<=f.fn∧f.fn<u.fns.length) (e:Edge) (he:xT (dg u f.fn) e) (f':Fr)
  (fA:f' = { f with blk:=e.block,pos:=0,vals:=g5 f.vals (bU (dg u f.fn) e.block).params (gR f.vals e.args) }) :
  aY Tryz.prog 101 O [.mp 2 0,.mp f.b9 0,e.enc] (fun r O'=>r=.c5 []∧O'=(O.set f.b9 (.cells (aX f'))).set f.dR (.map (.int .i64) (f'.vals.map il))):=by
 have iw:=j0 bD hf hv hu e.args he.len;have hF:=lQ rA.1 rA.2;have hB:=gx he.lo he.hi;have mT:=he.args;have kp:=he.lo;have Vp:=he.len;have gf:=ag hf;have FJ:=ag hv;have fj:=ag h0;have VZ:=oZ hu e.args;have mV:(gR f.vals e.args).length=e.args.length:=by simp[gR]
 generalize XO:gR f.vals e.args=T at *;generalize bU (dg u f.fn) e.block=B at *;generalize dg u f.fn=F at *;have XP:=SV.an VZ;have hc:[aI f.fn,aI e.block,aI 0,aI f.to,.mm f.dR]=aX f':=by
  rw[fA];rfl
 obtain⟨O1,ff⟩:∃O1,O1=O.set f.b9 (.cells (aX f')):=⟨_,rfl⟩
 have hlen:O.length=O1.length:=by rw[ff];simp
 have hs:=dK hf;have nk:O1[2]?=some (.cells (aD u m)):=by rw[ff];exact cb h0 Xn.symm
 have ni:O1[f.b9]?=some (.cells (aX f')):=by rw[ff];exact hs _
 have wW:O1[f.dR]?=some (.map (.int .i64) (f.vals.map il)):=by rw[ff];exact cb hv ub
 have fo:∀o∈O1,o.upto O1.length:=by
  rw[<-hlen,ff];refine bo bD hf fun h=>?_;simp only[aX,aq,ae.upto,true_and,and_true]at h ⊢;rw[fA];exact h
 rw[<-ff];have FI:∀x,(O1.set f.dR x)[2]?=some (.cells (aD u m)):=fun x=>cb nk Xo.symm;have HI:∀x,(O1.set f.dR x)[f.b9]?=some (.cells (aX f')):=fun x=>cb ni ub.symm;have Mo:∀x,(O1.set f.dR x)[f.dR]?=some x:=dK wW;unfold aD at nk FI;have eV:=hf;unfold aX at eV;have R2:aX f'=[aI f.fn,aI e.block,aI 0,aI f.to,.mm f.dR]:=hc.symm;have RW:=ni;have RY:=HI;rw[R2]at RW RY;have AK:O1.set f.dR (.map (.int .i64) (f.vals.map il))=O1:=oX wW;have nQ:∀x,(O1.set f.dR x).take O1.length=O1.set f.dR x:=fun x=>c9;refine zf true O.length Tryz.func101 Tryz.ntmps101 ?_;dsimp only[Tmp,TypeId,ax];refine aB (av ?_);refine bg 5 ([aI e.block,ct e.args]) [(0,.mp 2 0),(1,.mp f.b9 0),(5,.ip none [aI e.block,ct e.args])] rfl (by rfl) (by omega) (by simp[cq,bL,Go.Av.look]) ?_ ?_ ?_
 ·exact bD
 ·simp[aq,ae.upto,aL,gf,fj]
 refine aB ?_;refine .inr (.inr ⟨_,iw,ah (zj ?_)⟩);refine av ?_;refine aH ?_;simp -dsimp only[simprocAttr,↓aa,zp,eV,hs,List.set_set,hc,<-ff];refine av ?_;refine aH ?_;simp -dsimp only[simprocAttr,↓aa,zp,nk,RW,hF,hB]
 repeat(refine⟨by omega,?_⟩)
 refine⟨ob (by kernel_rfl),?_⟩;refine av ?_;refine aj (aO (ι:={j:Nat // j<=B.params.length}) (fun j=>⟨54,[(0,.mp 2 0),(1,.mp f.b9 0),(5,.ip none [aI e.block,ct e.args]),(6,.aC 4 (T.map SV.enc) .sh),(37,ct B.params),(38,aI B.params.length),(39,aI j.1)],O1.set f.dR (.map (.int .i64) ((g5 f.vals (B.params.take j.1) (T.take j.1)).map il))⟩) (fun j=>B.params.length-j.1) ⟨0,by omega⟩ ?_ ?_)
 ·refine zq rfl ?_ ?_;simp -dsimp only[simprocAttr,↓aa,zp,zc];rw[uA,AK]
 rintro⟨j,hj⟩;refine aB (av ?_);apply gr rfl<;>intro h
 ·refine eH ?_;have aN:j<B.params.length:=by simpa using h
  obtain⟨p,hp⟩:∃p,B.params[j]?=some p:=⟨B.params[j],by simp[aN]⟩
  obtain⟨a,ha⟩:∃a,T[j]?=some a:=⟨T[j]'(by omega),List.getElem?_eq_getElem _⟩
  refine aG (aj ?_);refine aH ?_;simp -dsimp only[simprocAttr,↓aa,zp,hp];refine av ?_;refine fq ?_;simp -dsimp only[simprocAttr,↓aa,zp,RY,ha,Mo,rN,<-p9 hp ha,List.set_set]
  repeat(refine⟨by omega,?_⟩)
  refine⟨ob (by kernel_rfl),?_⟩;refine av ?_;refine du ?_
  repeat(refine⟨by omega,?_⟩)
  refine r7 ?_;refine⟨⟨j+1,aN⟩,by simp;omega,?_⟩;refine zq rfl ?_ ?_;simp -dsimp only[simprocAttr,↓aa,zp,zc]
  ·exact Sub.int (by simp)
  rfl
 refine aM ?_;simp -dsimp only[ai,ne_eq,Nat.reduceEqDiff,reduceCtorEq];have tN:j=B.params.length:=by simp at h;omega
 subst tN;have TQ:T.take B.params.length=T:=List.take_of_length_le (by omega)
 skip
 simp -dsimp only[simprocAttr,↓aa,zp,zr,Tryz.results101,hlen,TQ,List.take_length,nQ,List.length_set];refine⟨dH fo (An fun x hx=>?_),trivial,by rw[fA]⟩;rw[<-hlen];rcases la hx with q|q
 ·exact hu x q
 exact VZ _ q
def m9(l:List Int):Nat->Int
 | 0=>0
 | k+1 =>
  match l[l.length-(k+1)]? with
  | none=>0
  | some c=>if !decide (gh c)then 4 else if FB (l.take (l.length-(k+1))) c then 7 else m9 l k
def qh(f:Func):List Edge->Int
 | []=>0
 | e::r=>if !within e.block 1 ((f.blocks.length:Int)-1)then 4 else if e.args.length≠(bU f e.block).params.length then 3 else qh f r
def Am(f:Func)(t:Term):Int :=
 if !gJ t then 3
 else if 256<t.cases.length then 2
 else if t.kind=4∧within t.n 1 6=false then 4
 else if m9 t.cases t.cases.length≠0 then m9 t.cases t.cases.length
 else qh f t.to
theorem zZ{l:List Int}{j:Nat}{c:Int}(h:l[j]?=some c):m9 l (l.length-j)=if !decide (gh c)then 4 else if FB (l.take j) c then 7 else m9 l (l.length-(j+1)):=by
 have aN:=ag h;obtain⟨k,hk⟩:∃k,l.length-j=k+1:=⟨l.length-j-1,by omega⟩
 have hj:l.length-(k+1)=j:=by omega
 rw[hk];simp only[m9,hj,h];rw[show l.length-(j+1)=k by omega]
theorem Ak{f:Func}{l:List Edge}{j:Nat}{e:Edge}(h:l[j]?=some e):qh f (l.drop j)=if !within e.block 1 ((f.blocks.length:Int)-1)then 4 else if e.args.length≠(bU f e.block).params.length then 3 else qh f (l.drop (j+1)):=by
 have aN:=ag h;rw[List.getElem?_eq_getElem aN]at h;simp only[Option.some.injEq]at h;rw[List.drop_eq_getElem_cons aN,h];rfl
theorem ja{n lo hi:Int}:within n lo hi=true↔lo<=n∧n<=hi:=by
 simp[within]
theorem Hm(f:Func)(t:Term)(lB:t.cases.length<=2 ^ 60)(zF:f.blocks.length<=2 ^ 60):aV Tryz.prog 96 [f.enc,t.enc] (aI (Am f t)):=by
 have ml:=Dc t lB;have hw:=eh t.n 1 6;obtain⟨R,hR⟩:∃R,R=Am f t:=⟨_,rfl⟩
 rw[<-hR];unfold Am at hR;generalize gJ t=sh at *;have RQ:∀e:Edge,aV Tryz.prog 23 [aI e.block,aI 1,aI ((f.blocks.length:Int)-1)] (.v (.bool (within e.block 1 ((f.blocks.length:Int)-1)))):=fun e=>eh _ _ _;have WO:(t.kind=4∧within t.n 1 6=false)∨(¬(t.kind=4∧within t.n 1 6=false)∧((decide (t.kind=4)=false)∨(decide (t.kind=4)=true∧within t.n 1 6=true))):=by
  by_cases h4:t.kind=4
  ·cases X5:within t.n 1 6
   ·exact .inl ⟨h4,rfl⟩
   exact .inr ⟨by simp,.inr ⟨decide_eq_true h4,rfl⟩⟩
  exact .inr ⟨fun q=>h4 q.1,.inl (decide_eq_false h4)⟩
 refine zf true 0 Tryz.func96 Tryz.ntmps96 ?_;dsimp only[Tmp,TypeId,ax];refine aB (av ?_);refine aR 2 0 (.ip none [aI f.name,bf f.blocks]) rfl (by simp[ay.aP]) trivial rfl ?_ ?_;rotate_left;simp -dsimp only[simprocAttr,↓aa,zp]
 ·refine aR 3 1 (.ip none [aI t.kind,aI t.arg,aI t.n,ct t.cases,bx t.to]) rfl (by simp[ay.aP]) trivial rfl ?_ ?_;rotate_left;simp -dsimp only[simprocAttr,↓aa,zp]
  ·by_cases yG:sh=false∨256<t.cases.length∨(t.kind=4∧within t.n 1 6=false)
   ·refine aG (aj ?_);refine aB ?_;refine zi ml ?_;refine av ?_;cases sh with
    | false =>
     refine de rfl ?_;refine aB (av ?_);refine ak ?_;simp -dsimp only[simprocAttr,↓aa,zp,zr,Tryz.results96];simp[hR]
    | true =>
     refine cB rfl ?_;by_cases hc:256<t.cases.length
     ·have hd:decide ((256:Int)<t.cases.length)=true:=decide_eq_true (by omega);refine aH ?_;simp -dsimp only[simprocAttr,↓aa,zp,hd];refine av ?_;refine de rfl ?_;refine aB (av ?_);refine ak ?_;simp -dsimp only[simprocAttr,↓aa,zp,zr,Tryz.results96];simp[hR,hc]
     have hd:decide ((256:Int)<t.cases.length)=false:=decide_eq_false (by omega);have hk:t.kind=4∧within t.n 1 6=false:=by
      rcases yG with q|q|q
      ·cases q
      ·exact absurd q hc
      exact q
     have LU:decide (t.kind=4)=true:=decide_eq_true hk.1;rw[hk.2]at hw;refine aH ?_;simp -dsimp only[simprocAttr,↓aa,zp,hd];refine av ?_;refine cB rfl ?_;refine aH ?_;simp -dsimp only[simprocAttr,↓aa,zp,LU];refine zi hw ?_;refine av ?_;refine de rfl ?_;refine aB (av ?_);refine ak ?_;simp -dsimp only[simprocAttr,↓aa,zp,zr,Tryz.results96];simp[hR,hc,hk]
   have UE:sh=true:=by
    cases sh
    ·exact absurd (.inl rfl) yG
    rfl
   subst UE;have hc:¬256<t.cases.length:=fun q=>yG (.inr (.inl q));have hk:¬(t.kind=4∧within t.n 1 6=false):=fun q=>yG (.inr (.inr q));have hd:decide ((256:Int)<t.cases.length)=false:=decide_eq_false (by omega);rw[if_neg (by simp),if_neg hc,if_neg hk]at hR;have Ug:=WO.resolve_left hk;refine m6 (⟨78,[(2,.ip none [aI f.name,bf f.blocks]),(3,.ip none [aI t.kind,aI t.arg,aI t.n,ct t.cases,bx t.to]),(4,aI 0)],[.gone,.gone]⟩) ?_ ?_
   ·refine aj ?_;refine aB ?_;refine zi ml ?_;refine av ?_;refine cB rfl ?_;refine aH ?_;simp -dsimp only[simprocAttr,↓aa,zp,hd];refine av ?_;refine cB rfl ?_;rcases Ug.2 with LU|⟨LU,qo⟩
    ·refine aH ?_;simp -dsimp only[simprocAttr,↓aa,zp,LU];refine av ?_;refine cB rfl ?_;refine au ?_;show bn _ _;refine zq rfl ?_ ?_;simp -dsimp only[simprocAttr,↓aa,zp,zc];rfl
    rw[qo]at hw;refine aH ?_;simp -dsimp only[simprocAttr,↓aa,zp,LU];refine zi hw ?_;refine av ?_;refine cB rfl ?_;refine au ?_;show bn _ _;refine zq rfl ?_ ?_;simp -dsimp only[simprocAttr,↓aa,zp,zc];rfl
   refine cj (av ?_);refine aj (aO (ι:={j:Nat // j<=t.cases.length∧m9 t.cases t.cases.length=m9 t.cases (t.cases.length-j)}) (fun j=>⟨78,[(2,.ip none [aI f.name,bf f.blocks]),(3,.ip none [aI t.kind,aI t.arg,aI t.n,ct t.cases,bx t.to]),(4,aI 0),(29,ct t.cases),(30,aI t.cases.length),(31,aI j.1)],[.gone,.gone]⟩) (fun j=>t.cases.length-j.1) ⟨0,by omega,rfl⟩ ?_ ?_)
   ·refine zq rfl ?_ ?_;simp -dsimp only[simprocAttr,↓aa,zp,zc];rfl
   rintro⟨j,hj,lC⟩;refine aB (av ?_);apply gr rfl<;>intro h
   ·refine eH ?_;have aN:j<t.cases.length:=by simpa using h
    obtain⟨c,Vt⟩:∃c,t.cases[j]?=some c:=⟨t.cases[j],by simp[aN]⟩
    have dQ:=zZ Vt;rw[<-lC]at dQ;have Ue:=tg c;have ve:=wL (t.cases.take j) c;refine aG (aj ?_);refine aH ?_;simp -dsimp only[simprocAttr,↓aa,zp,Vt];refine av ?_;refine aj ?_;refine aB ?_;refine zi Ue ?_;refine av ?_;cases hw:decide (gh c)with
    | false =>
     rw[hw]at dQ;refine de rfl ?_;refine aB (av ?_);refine ak ?_;simp -dsimp only[simprocAttr,↓aa,zp,zr,Tryz.results96];simp[hR,dQ]
    | true =>
     rw[hw]at dQ;refine cB rfl ?_;refine aH ?_;simp -dsimp only[simprocAttr,↓aa,zp,Int.toNat_natCast,List.drop_zero,<-List.map_take]
     repeat(refine⟨by omega,?_⟩)
     refine zi ve ?_;refine av ?_;cases hh:FB (t.cases.take j) c with
     | true =>
      rw[hh]at dQ;refine de rfl ?_;refine aB (av ?_);refine ak ?_;simp -dsimp only[simprocAttr,↓aa,zp,zr,Tryz.results96];simp[hR,dQ]
     | false =>
      rw[hh]at dQ;refine cB rfl ?_;refine V8 ?_;refine du ?_
      repeat(refine⟨by omega,?_⟩)
      refine r7 ?_;refine⟨⟨j+1,aN,by rw[dQ];simp⟩,by simp;omega,?_⟩;refine zq rfl ?_ ?_;simp -dsimp only[simprocAttr,↓aa,zp,zc]
      ·exact Sub.int (by simp)
      rfl
   refine aM ?_;simp -dsimp only[ai,ne_eq,Nat.reduceEqDiff,reduceCtorEq];have tN:j=t.cases.length:=by simp at h;omega
   subst tN;have hz:m9 t.cases t.cases.length=0:=by rw[lC,Nat.sub_self];rfl
   rw[hz,if_neg (by simp)]at hR;refine cj (av ?_);refine bT 49 rfl (fun mV=>?_);simp only[List.length_map]at mV;refine aj (aO (ι:={j:Nat // j<=t.to.length∧R=qh f (t.to.drop j)}) (fun j=>⟨78,[(2,.ip none [aI f.name,bf f.blocks]),(4,aI 0),(49,bx t.to),(50,aI t.to.length),(51,aI j.1)],[.gone,.gone]⟩) (fun j=>t.to.length-j.1) ⟨0,by omega,hR⟩ ?_ ?_)
   ·refine zq rfl ?_ ?_;simp -dsimp only[simprocAttr,↓aa,zp,zc];rfl
   rintro⟨j,hj,lC⟩;refine aB (av ?_);apply gr rfl<;>intro h
   ·refine eH ?_;have aN:j<t.to.length:=by simpa using h
    obtain⟨e,FC⟩:∃e,t.to[j]?=some e:=⟨t.to[j],by simp[aN]⟩
    have dQ:=Ak (f:=f) FC;rw[<-lC]at dQ;have SG:=RQ e;refine aG (aj ?_);refine aH ?_;simp -dsimp only[simprocAttr,↓aa,zp,FC];refine av ?_;refine aR 8 2 (.ip none [aI e.block,ct e.args]) rfl (by simp[ay.aP]) trivial rfl ?_ ?_;rotate_left;simp -dsimp only[simprocAttr,↓aa,zp]
    ·refine ba 2 [(2,.ip none [aI f.name,bf f.blocks]),(4,aI 0),(8,.ip none [aI e.block,ct e.args]),(49,bx t.to),(50,aI t.to.length),(51,aI j)] (by simp) (by omega) [.gone,.gone] ?_ ?_ ?_ ?_ ?_
     ·rfl
     ·simp[ay.upto]
     ·simp[dy,St.get,cq,bL,Go.Av.look,Sub.refl]
     ·simp[aq,ae.upto,aL,Block.an,Edge.an]
     cases hw:within e.block 1 ((f.blocks.length:Int)-1)with
     | false =>
      rw[hw]at dQ SG;refine aj ?_;refine aB ?_
      repeat(refine⟨by omega,?_⟩)
      refine zi SG ?_;refine av ?_;refine de rfl ?_;refine aB (av ?_);refine ak ?_;simp -dsimp only[simprocAttr,↓aa,zp,zr,Tryz.results96];simp[dQ]
     | true =>
      rw[hw]at dQ SG;have X4:=ja.1 hw;have hB:=gx (f:=f) (k:=e.block) (by omega) (by omega);generalize bU f e.block=B at *;by_cases hl:e.args.length=B.params.length
      ·have pj:decide ((e.args.length:Int)=B.params.length)=true:=decide_eq_true (by omega);refine aj ?_;refine aB ?_
       repeat(refine⟨by omega,?_⟩)
       refine zi SG ?_;refine av ?_;refine cB rfl ?_;refine aH ?_;simp -dsimp only[simprocAttr,↓aa,zp,hB,pj]
       repeat(refine⟨by omega,?_⟩)
       refine⟨ob (by kernel_rfl),?_⟩;refine av ?_;refine cB rfl ?_;refine V8 ?_;refine du ?_
       repeat(refine⟨by omega,?_⟩)
       refine r7 ?_;refine⟨⟨j+1,aN,by rw[dQ];simp[hl]⟩,by simp;omega,?_⟩;refine zq rfl ?_ ?_;simp -dsimp only[simprocAttr,↓aa,zp,zc]
       ·exact Sub.int (by simp)
       rfl
      have pj:decide ((e.args.length:Int)=B.params.length)=false:=decide_eq_false (by omega);refine aj ?_;refine aB ?_
      repeat(refine⟨by omega,?_⟩)
      refine zi SG ?_;refine av ?_;refine cB rfl ?_;refine aH ?_;simp -dsimp only[simprocAttr,↓aa,zp,hB,pj]
      repeat(refine⟨by omega,?_⟩)
      refine⟨ob (by kernel_rfl),?_⟩;refine av ?_;refine de rfl ?_;refine aB (av ?_);refine ak ?_;simp -dsimp only[simprocAttr,↓aa,zp,zr,Tryz.results96];simp[dQ,hl]
    exact da.mp rfl rfl
   refine aM ?_;simp -dsimp only[ai,ne_eq,Nat.reduceEqDiff,reduceCtorEq];have tN:j=t.to.length:=by simp at h;omega
   subst tN;rw[List.drop_length]at lC;refine aB (av ?_);refine ak ?_;simp -dsimp only[simprocAttr,↓aa,zp,zr,Tryz.results96];simp[lC,qh]
  exact da.mp rfl rfl
 exact da.mp rfl rfl
abbrev Defs:=List (Int×Int×Int)
def eD(p:Int×Int):ae:=.agg [aI p.1,aI p.2]
def fP(e:Int×Int×Int):Value×ae:=(.int .i64 e.1,eD e.2)
def kv:Defs->Int->Option (Int×Int)
 | [],_=>none
 | (k,p)::r,key=>if k=key then some p else kv r key
theorem jR(es:Defs)(k:Int):iy (es.map fP) (.int .i64 k)=(kv es k).map eD:=by
 induction es with
 | nil=>rfl
 | cons p r ih =>
  obtain⟨a,v⟩:=p;simp only[List.map_cons,fP,iy,kv,pd,decide_eq_true_eq];split
  ·rfl
  exact ih
theorem It{es:Defs}{k:Int}(p:Int×Int)(h:kv es k=none):jG (es.map fP) (.int .i64 k) (.agg [aI p.1,aI p.2])=(es++[(k,p)]).map fP:=by
 induction es with
 | nil=>rfl
 | cons q r ih =>
  obtain⟨a,v⟩:=q;simp only[kv]at h;split at h
  ·cases h
  rename_i cA;simp only[List.map_cons,fP,jG,pd,decide_eq_true_eq,if_neg cA,List.cons_append];rw[<-ih h]
theorem fT(n:Nat)(es:Defs):kC n (es.map fP):=by
 induction es with
 | nil=>trivial
 | cons p r ih=>exact⟨⟨trivial,trivial,trivial⟩,ih⟩
def fi(ds:Defs)(v:Int)(p:Int×Int):Int×Defs :=
 if !within v 0 4095 then(4,ds)else if(kv ds v).isSome then(7,ds)else(0,ds++[(v,p)])
theorem Ai{O:List ay}(bD:∀o∈O,o.upto O.length){c d:Nat}{f:Func}{ds:Defs}(hc:O[c]?=some (.cells [aI f.name,bf f.blocks,.mm d]))(hd:O[d]?=some (.map (.int .i64) (ds.map fP)))(v:Int)(p:Int×Int) :
  aY Tryz.prog 94 O [.mp c 0,aI v,.agg [aI p.1,aI p.2]] (fun r O'=>r=aI (fi ds v p).1∧O'=O.set d (.map (.int .i64) ((fi ds v p).2.map fP))):=by
 have hw:=eh v 0 4095;have lB:=ag hc;have gO:O.set d (.map (.int .i64) (ds.map fP))=O:=oX hd;unfold fi;cases hv:within v 0 4095 with
 | false =>
  rw[hv]at hw;refine zf true O.length Tryz.func94 Tryz.ntmps94 ?_;dsimp only[Tmp,TypeId,ax];refine aB (av ?_);refine bg 5 ([aI p.1,aI p.2]) [(0,.mp c 0),(1,aI v),(5,.ip none [aI p.1,aI p.2]),(6,aI 0)] rfl (by rfl) (by omega) (by simp[cq,bL,Go.Av.look]) ?_ ?_ ?_
  ·exact bD
  ·simp[ae.upto,aq,lB]
  refine cj ?_;refine zi hw ?_;refine av ?_;refine de rfl ?_;refine aB (av ?_);refine ak ?_;simp -dsimp only[simprocAttr,↓aa,zp,zr,Tryz.results94];exact⟨bD,gO.symm⟩
 | true =>
  rw[hv]at hw;cases hl:kv ds v with
  | some q =>
   have hq:eD q=.agg [aI q.1,aI q.2]:=rfl;refine zf true O.length Tryz.func94 Tryz.ntmps94 ?_;dsimp only[Tmp,TypeId,ax];refine aB (av ?_);refine bg 5 ([aI p.1,aI p.2]) [(0,.mp c 0),(1,aI v),(5,.ip none [aI p.1,aI p.2]),(6,aI 0)] rfl (by rfl) (by omega) (by simp[cq,bL,Go.Av.look]) ?_ ?_ ?_
   ·exact bD
   ·simp[ae.upto,aq,lB]
   refine cj ?_;refine zi hw ?_;refine av ?_;refine cB rfl ?_;refine eH ?_;refine cg ?_;simp -dsimp only[simprocAttr,↓aa,zp,hc,hd,jR,hl,hq,Option.map_some,Option.getD_some,Option.isSome_some];refine av ?_;refine aB (av ?_);refine de rfl ?_;refine aB (av ?_);refine ak ?_;simp -dsimp only[simprocAttr,↓aa,zp,zr,Tryz.results94];exact⟨bD,gO.symm⟩
  | none =>
   have CF:=It p hl;have jF:=dH (k:=d) (x:=.map (.int .i64) ((ds++[(v,p)]).map fP)) bD (fT _ _);have nQ:=c9 (O:=O) (k:=d) (x:=.map (.int .i64) ((ds++[(v,p)]).map fP));refine zf true O.length Tryz.func94 Tryz.ntmps94 ?_;dsimp only[Tmp,TypeId,ax];refine aB (av ?_);refine bg 5 ([aI p.1,aI p.2]) [(0,.mp c 0),(1,aI v),(5,.ip none [aI p.1,aI p.2]),(6,aI 0)] rfl (by rfl) (by omega) (by simp[cq,bL,Go.Av.look]) ?_ ?_ ?_
   ·exact bD
   ·simp[ae.upto,aq,lB]
   refine cj ?_;refine zi hw ?_;refine av ?_;refine cB rfl ?_;refine eH ?_;refine cg ?_;simp -dsimp only[simprocAttr,↓aa,zp,hc,hd,jR,hl,Option.map_none,Option.getD_none,Option.isSome_none];refine av ?_;refine bg 7 ([aI 0,aI 0]) [(0,.mp c 0),(1,aI v),(5,.ip none [aI p.1,aI p.2]),(6,aI 0),(8,.v (.bool false))] rfl (by rfl) (by omega) (by simp[cq,bL,Go.Av.look]) ?_ ?_ ?_
   ·exact bD
   ·simp[ae.upto,aq,lB]
   refine aB (av ?_);refine cB rfl ?_;refine eH ?_;refine aH ?_;simp -dsimp only[simprocAttr,↓aa,zp,hc,hd,CF];refine⟨ob (by kernel_rfl),?_⟩;refine av ?_;refine aB (av ?_);refine ak ?_;simp -dsimp only[simprocAttr,↓aa,zp,zr,Tryz.results94,nQ,List.length_set];exact jF
def gn(k:Int):Defs->List Int->Int×Defs
 | ds,[]=>(0,ds)
 | ds,p::r=>if(fi ds p (k,0)).1≠0 then fi ds p (k,0)else gn k (fi ds p (k,0)).2 r
def su(k:Int):Int->Defs->List db->Int×Defs
 | _,ds,[]=>(0,ds)
 | n,ds,i::r=>if(fi ds i.to (k,n+1)).1≠0 then fi ds i.to (k,n+1)else if rm i≠0 then(rm i,(fi ds i.to (k,n+1)).2)else su k (n+1) (fi ds i.to (k,n+1)).2 r
def jK(f:Func)(ds:Defs)(k:Int):Int×Defs :=
 if(gn k ds (bU f k).params).1≠0 then gn k ds (bU f k).params
 else if(su k 0 (gn k ds (bU f k).params).2 (bU f k).ins).1≠0 then su k 0 (gn k ds (bU f k).params).2 (bU f k).ins
 else(Am f (bU f k).term,(su k 0 (gn k ds (bU f k).params).2 (bU f k).ins).2)
theorem iT{α:Type}{l:List α}{j:Nat}{x:α}(h:l[j]?=some x):l.drop j=x::l.drop (j+1):=by
 have aN:=ag h;rw[List.getElem?_eq_getElem aN]at h;simp only[Option.some.injEq]at h;rw[List.drop_eq_getElem_cons aN,h]
theorem BV{O:List ay}(bD:∀o∈O,o.upto O.length){c d:Nat}(Ws:c≠d){f:Func}{ds:Defs}(hc:O[c]?=some (.cells [aI f.name,bf f.blocks,.mm d]))(hd:O[d]?=some (.map (.int .i64) (ds.map fP)))(k:Int)(DK:0<=k)(L4:k<f.blocks.length)
  (zF:f.blocks.length<=2 ^ 60) (lB:(bU f k).term.cases.length<=2 ^ 60) :
  aY Tryz.prog 80 O [.mp c 0,aI k] (fun r O'=>r=aI (jK f ds k).1∧O'=O.set d (.map (.int .i64) ((jK f ds k).2.map fP))):=by
 have hB:=gx DK L4;have RF:=ag hc;obtain⟨R,hR⟩:∃R,R=jK f ds k:=⟨_,rfl⟩
 rw[<-hR];unfold jK at hR;have LY:=Hm f (bU f k).term lB zF;generalize bU f k=B at *;have Vs:∀x,(O.set d x)[c]?=some (.cells [aI f.name,bf f.blocks,.mm d]):=fun x=>cb hc Ws.symm;have Wt:=dK hd;have FO:∀(es:Defs),∀o∈O.set d (.map (.int .i64) (es.map fP)),o.upto (O.set d (.map (.int .i64) (es.map fP))).length:=fun es=>by
  rw[List.length_set];exact dH bD (fT _ _)
 have RK:∀(es:Defs) (v:Int) (p:Int×Int),aY Tryz.prog 94 (O.set d (.map (.int .i64) (es.map fP))) [.mp c 0,aI v,.agg [aI p.1,aI p.2]] (fun r O'=>r=aI (fi es v p).1∧O'=O.set d (.map (.int .i64) ((fi es v p).2.map fP))):=fun es v p=>by
  have h:=Ai (FO es) (Vs _) (Wt (.map (.int .i64) (es.map fP))) v p;rw[List.set_set]at h;exact h
 have gO:O.set d (.map (.int .i64) (ds.map fP))=O:=oX hd;have nQ:∀es:Defs,(O.set d (.map (.int .i64) (es.map fP))).take O.length=O.set d (.map (.int .i64) (es.map fP)):=fun es=>c9;have AM:∀es:Defs,∀o∈O.set d (.map (.int .i64) (es.map fP)),o.upto O.length:=fun es=>dH bD (fT _ _);refine zf true O.length Tryz.func80 Tryz.ntmps80 ?_;dsimp only[Tmp,TypeId,ax];refine aB (av ?_);refine aH ?_;simp -dsimp only[simprocAttr,↓aa,zp,hc,hB]
 repeat(refine⟨by omega,?_⟩)
 refine av ?_;refine bg 5 ([ct B.params,dA B.ins,aI B.term.kind,aI B.term.arg,aI B.term.n,ct B.term.cases,bx B.term.to]) [(0,.mp c 0),(1,aI k),(4,aI 0),(5,.ip none [ct B.params,dA B.ins,aI B.term.kind,aI B.term.arg,aI B.term.n,ct B.term.cases,bx B.term.to])] rfl (by rfl) (by omega) (by simp[cq,bL,Go.Av.look]) ?_ ?_ ?_
 ·exact bD
 ·simp[ae.upto,aq,RF,aL,Edge.an,db.an]
 refine cj (av ?_);refine bT 22 rfl (fun oM=>?_);simp only[List.length_map]at oM;refine aj (aO (ι:={x:Nat×Defs // x.1<=B.params.length∧gn k ds B.params=gn k x.2 (B.params.drop x.1)}) (fun x=>⟨69,[(0,.mp c 0),(1,aI k),(4,aI 0),(5,.ip none [ct B.params,dA B.ins,aI B.term.kind,aI B.term.arg,aI B.term.n,ct B.term.cases,bx B.term.to]),(22,ct B.params),(23,aI B.params.length),(24,aI x.1.1)],O.set d (.map (.int .i64) (x.1.2.map fP))⟩) (fun x=>B.params.length-x.1.1) ⟨(0,ds),by simp,rfl⟩ ?_ ?_)
 ·refine zq rfl ?_ ?_;simp -dsimp only[simprocAttr,↓aa,zp,zc];rw[gO]
 rintro⟨⟨j,es⟩,hj,lC⟩;simp only at hj lC;refine aB (av ?_);apply gr rfl<;>intro h
 ·refine eH ?_;have aN:j<B.params.length:=by simpa using h
  obtain⟨p,hp⟩:∃p,B.params[j]?=some p:=⟨B.params[j],by simp[aN]⟩
  have dQ:=lC;rw[iT hp]at dQ;simp only[gn]at dQ;have Px:=RK es p (k,0);generalize fi es p (k,0)=X at *;refine aG (aj ?_);refine aH ?_;simp -dsimp only[simprocAttr,↓aa,zp,hp];refine av ?_;refine aB ?_;refine .inr (.inl ⟨_,_,Px,.inl (ah (zj ?_))⟩);refine av ?_;by_cases hX:X.1=0
  ·have HG:decide (X.1=0)=true:=decide_eq_true hX;rw[if_neg (by simp[hX])]at dQ;refine aH ?_;simp -dsimp only[simprocAttr,↓aa,zp,HG];refine av ?_;refine cB rfl ?_;refine pV ?_;refine du ?_
   repeat(refine⟨by omega,?_⟩)
   refine r7 ?_;refine⟨⟨(j+1,X.2),by simp only;omega,dQ⟩,by simp;omega,?_⟩;refine zq rfl ?_ ?_;simp -dsimp only[simprocAttr,↓aa,zp,zc]
   ·exact Sub.int (by simp)
   rfl
  have HG:decide (X.1=0)=false:=decide_eq_false hX;rw[if_pos hX]at dQ;rw[dQ,if_pos hX]at hR;refine aH ?_;simp -dsimp only[simprocAttr,↓aa,zp,HG];refine av ?_;refine de rfl ?_;refine aB (av ?_);refine ak ?_;simp -dsimp only[simprocAttr,↓aa,zp,zr,Tryz.results80,nQ,List.length_set];rw[hR];exact⟨AM X.2,rfl,rfl⟩
 refine aM ?_;simp -dsimp only[ai,ne_eq,Nat.reduceEqDiff,reduceCtorEq];have tN:j=B.params.length:=by simp at h;omega
 subst tN;rw[List.drop_length]at lC;simp only[gn]at lC;rw[lC,if_neg (by simp)]at hR;simp only at hR;refine cj (av ?_);refine bT 38 rfl (fun Tc=>?_);simp only[List.length_map]at Tc;refine aj (aO (ι:={x:Nat×Defs // x.1<=B.ins.length∧su k 0 es B.ins=su k x.1 x.2 (B.ins.drop x.1)}) (fun x=>⟨69,[(0,.mp c 0),(1,aI k),(4,aI 0),(5,.ip none [ct B.params,dA B.ins,aI B.term.kind,aI B.term.arg,aI B.term.n,ct B.term.cases,bx B.term.to]),(38,dA B.ins),(39,aI B.ins.length),(40,aI x.1.1)],O.set d (.map (.int .i64) (x.1.2.map fP))⟩) (fun x=>B.ins.length-x.1.1) ⟨(0,es),by simp,rfl⟩ ?_ ?_)
 ·refine zq rfl ?_ ?_;simp -dsimp only[simprocAttr,↓aa,zp,zc];rfl
 rintro⟨⟨j,S2⟩,hj,lC⟩;simp only at hj lC;refine aB (av ?_);apply gr rfl<;>intro h
 ·refine eH ?_;have aN:j<B.ins.length:=by simpa using h
  obtain⟨i,hi⟩:∃i,B.ins[j]?=some i:=⟨B.ins[j],by simp[aN]⟩
  have dQ:=lC;rw[iT hi]at dQ;simp only[su]at dQ;have Px:=RK S2 i.to (k,(j:Int)+1);have HM:=Fw i;generalize rm i=e at *;generalize fi S2 i.to (k,(j:Int)+1)=X at *;refine aG (aj ?_);refine aH ?_;simp -dsimp only[simprocAttr,↓aa,zp,hi];refine av ?_;refine bg 10 ([aI i.to,aI i.op,aI i.n,ct i.args]) [(0,.mp c 0),(1,aI k),(4,aI 0),(5,.ip none [ct B.params,dA B.ins,aI B.term.kind,aI B.term.arg,aI B.term.n,ct B.term.cases,bx B.term.to]),(38,dA B.ins),(39,aI B.ins.length),(40,aI j),(9,aI j),(10,.ip none [aI i.to,aI i.op,aI i.n,ct i.args])] (by simp[cq,bL,Go.Av.look]) (by rfl) (by simp) (by simp[cq,bL,Go.Av.look]) ?_ ?_ ?_
  ·exact FO S2
  ·simp[ae.upto,aq,RF,aL,Edge.an,db.an]
  refine cj ?_
  repeat(refine⟨by omega,?_⟩)
  refine .inr (.inl ⟨_,_,Px,.inl (ah (zj ?_))⟩);refine av ?_;by_cases hX:X.1=0
  ·have HG:decide (X.1=0)=true:=decide_eq_true hX;rw[if_neg (by simp[hX])]at dQ;refine aH ?_;simp -dsimp only[simprocAttr,↓aa,zp,HG];refine av ?_;refine cB rfl ?_;refine eH ?_;refine aB ?_;refine zi HM ?_;refine av ?_;by_cases he:e=0
   ·have Bz:decide (e=0)=true:=decide_eq_true he;rw[if_neg (by simp[he])]at dQ;refine aH ?_;simp -dsimp only[simprocAttr,↓aa,zp,Bz];refine av ?_;refine cB rfl ?_;refine pV ?_;refine du ?_
    repeat(refine⟨by omega,?_⟩)
    refine r7 ?_;refine⟨⟨(j+1,X.2),by simp only;omega,dQ⟩,by simp;omega,?_⟩;refine zq rfl ?_ ?_;simp -dsimp only[simprocAttr,↓aa,zp,zc]
    ·exact Sub.int (by simp)
    rfl
   have Bz:decide (e=0)=false:=decide_eq_false he;rw[if_pos he]at dQ;rw[dQ,if_pos he]at hR;refine aH ?_;simp -dsimp only[simprocAttr,↓aa,zp,Bz];refine av ?_;refine de rfl ?_;refine aB (av ?_);refine ak ?_;simp -dsimp only[simprocAttr,↓aa,zp,zr,Tryz.results80,nQ,List.length_set];rw[hR];exact⟨AM X.2,rfl,rfl⟩
  have HG:decide (X.1=0)=false:=decide_eq_false hX;rw[if_pos hX]at dQ;rw[dQ,if_pos hX]at hR;refine aH ?_;simp -dsimp only[simprocAttr,↓aa,zp,HG];refine av ?_;refine de rfl ?_;refine aB (av ?_);refine ak ?_;simp -dsimp only[simprocAttr,↓aa,zp,zr,Tryz.results80,nQ,List.length_set];rw[hR];exact⟨AM X.2,rfl,rfl⟩
 refine aM ?_;simp -dsimp only[ai,ne_eq,Nat.reduceEqDiff,reduceCtorEq];have tN:j=B.ins.length:=by simp at h;omega
 subst tN;rw[List.drop_length]at lC;simp only[su]at lC;rw[lC,if_neg (by simp)]at hR;simp only at hR;refine aH ?_;simp -dsimp only[simprocAttr,↓aa,zp,Vs];refine zi LY ?_;refine⟨ob (by kernel_rfl),?_⟩;refine av ?_;refine ak ?_;simp -dsimp only[simprocAttr,↓aa,zp,zr,Tryz.results80,nQ,List.length_set];rw[hR];exact⟨AM S2,rfl,rfl⟩
theorem Mw:xW Tryz.prog 180 .u64:=by
 obtain⟨⟨i,z,q1,q2,_⟩,_⟩:=hT 178 _ EM;exact⟨178,i,Tryz.underlying180,q1,q2,Tryz.underlying178,by kernel_rfl⟩
theorem Pa(N V:Bs):(decide ((N.a:Int)=V.a)&&decide ((N.b:Int)=V.b))=decide (N=V):=by
 obtain⟨n1,n2⟩:=N;obtain⟨v1,v2⟩:=V;simp only[Bs.mk.injEq,Int.natCast_inj];by_cases q1:n1=v1<;>by_cases q2:n2=v2<;>simp[q1,q2]
theorem v9(N V:Bs)(K:gU):pT Tryz.prog .neq 180 N.enc V.enc K=K (.v (.bool (!decide (N=V)))) .pure:=by
 show((IntKind.u64=IntKind.u64∧IntKind.u64=IntKind.u64∧IntKind.u64=IntKind.u64∧xW Tryz.prog 180 .u64)∧on (j8 .neq (decide ((N.a:Int)=V.a)&&decide ((N.b:Int)=V.b))) fun r=>K (.v (.bool r)) .pure)=_;rw[Pa];simp only[Mw,j8,y1,and_self,true_and]
theorem qS{sz:Nat}:∀{xs:List ae} {k:Nat} {x:ae},(∀y∈xs,y.cells.length=sz)->xs[k]?=some x->((ar xs).drop (k*sz)).take sz=x.cells
 | q::r,0,x,dk,h=>by
  simp only[List.getElem?_cons_zero,Option.some.injEq]at h;subst h;have hq:=dk q (by simp);simp only[ar,List.flatMap_cons,Nat.zero_mul,List.drop_zero];rw[List.take_append_of_le_length (by omega),List.take_of_length_le (by omega)]
 | q::r,k+1,x,dk,h=>by
  have ih:=qS (xs:=r) (k:=k) (x:=x) (fun y hy=>dk y (by simp[hy])) (by simpa using h);have hq:=dk q (by simp);have e1:(k+1)*sz-sz=k*sz:=by rw[Nat.succ_mul];omega
  have e3:sz<=(k+1)*sz:=by rw[Nat.succ_mul];omega
  simp only[ar,List.flatMap_cons]at ih ⊢;rw[List.drop_append,List.drop_of_length_le (by omega),hq,e1,List.nil_append];exact ih
theorem Dy(l:List Bs):∀y∈l.map Bs.enc,y.cells.length=2:=fun y hy=>by
 obtain⟨s,_,rfl⟩:=List.mem_map.1 hy;rfl
theorem yc(l:List Bs):(ar (l.map Bs.enc)).length=l.length*2:=by
 rw[bI (Dy l),List.length_map]
theorem GR{l:List Bs}{k:Nat}{s:Bs}(h:l[k]?=some s):((ar (l.map Bs.enc)).drop (k*2)).take 2=[.v (.int .u64 s.a),.v (.int .u64 s.b)]:=qS (Dy l) (x:=s.enc) (by simp[h])
theorem BW{l:List Bs}{k:Nat}(h:k<l.length)(s:Bs):bu (ar (l.map Bs.enc)) (k*2) [.v (.int .u64 s.a),.v (.int .u64 s.b)]=ar ((l.set k s).map Bs.enc):=by
 have:=nc (Dy l) (k:=k) (by simpa using h) (y:=s.enc) rfl;rw[<-List.map_set]at this;exact this
theorem iJ(n:Nat)(l:List Bs):aq n (l.map Bs.enc):=by
 rw[a9];intro x hx;obtain⟨s,_,rfl⟩:=List.mem_map.1 hx;exact s.aF n
theorem jl(n:Nat)(l:List Bs):aq n (ar (l.map Bs.enc)):=by
 rw[a9];intro c hc;simp only[ar,List.mem_flatMap,List.mem_map]at hc;obtain⟨_,⟨p,_,rfl⟩,hc⟩:=hc;simp only[Bs.al,List.mem_cons,List.mem_nil_iff,or_false]at hc;rcases hc with rfl|rfl<;>trivial
theorem aA(s:Bs):ae.agg [.v (.int .u64 s.a),.v (.int .u64 s.b)]=s.enc:=rfl
theorem uo:∀n,n<=128->(zQ n).fit
 | 0,_=>Bs.oG
 | n+1,h=>Bs.pf (uo n (by omega)) (by omega)
theorem zR:∀n,n<=128->∀k,k<n->(zQ n).has k=true
 | n+1,h,k,hk=>by
  simp only[zQ];rw[Bs.has_add _ _ _ (by omega) (by omega)];by_cases e:k=n
  ·simp[e]
  rw[zR n (by omega) k (by omega)];rfl
theorem DF{f:Func}(h0:f.blocks≠[])(h1:f.blocks.length<=128):nU f.blocks.length (yr f) where
 By:=h1
 len:=by simp[yr]
 fit:=fun s hs=>by
  rcases List.mem_or_eq_of_mem_set hs with q|q
  ·rw[(List.mem_replicate.1 q).2];exact uo _ h1
  rw[q];exact Bs.pf Bs.oG (by omega)
 seen:=Bs.pf Bs.oG (by omega)
 self:=fun k hk=>by
  unfold Ds.at_ yr;by_cases e:k=0
  ·subst e;rw[List.getElem?_set_self (by simpa using hk)];decide
  rw[List.getElem?_set_ne (Ne.symm e)];simp only[List.getElem?_replicate,hk,if_true,Option.getD_some];exact zR _ h1 k hk
theorem Qg{l:List Nat}{b:Nat}(h:∀x∈l,x<=b):l.sum<=l.length*b:=by
 induction l with
 | nil=>simp
 | cons a r ih =>
  have:=h a (by simp);have:=ih fun x hx=>h x (by simp[hx]);simp only[List.sum_cons,List.length_cons,Nat.succ_mul];omega
theorem Gu{n:Nat}{S:Ds}(h:nU n S):S.weight<=16512:=by
 have h1:(S.over.map Bs.size).sum<=(S.over.map Bs.size).length*128:=Qg fun x hx=>by
  obtain⟨s,_,rfl⟩:=List.mem_map.1 hx;exact s.tr
 have h2:=h.By;have h3:=h.len;simp only[List.length_map]at h1;have h4:S.over.length*128<=128*128:=Nat.mul_le_mul_right _ (by omega);simp only[Ds.weight];omega
theorem Fm{f:Func}{S:Ds}(h:S.again=false)(n:Nat):uZ f n S=S:=by
 cases n with
 | zero=>rfl
 | succ n=>simp[uZ,h]
theorem tH(f:Func)(h0:f.blocks≠[])(h1:f.blocks.length<=128)(he:∀b∈f.blocks,∀e∈b.term.to,0<=e.block∧e.block.toNat<f.blocks.length) :
  aV Tryz.prog 97 [f.enc] (.c5 [.aC 2 ((yp f).1.map Bs.enc) .sh,(yp f).2.enc]):=by
 have hS:=DF h0 h1;have nm:=List.length_pos_iff.2 h0;have DQ:∀(s:Bs) (k:Nat),s.fit->k<128->aV Tryz.prog 114 [s.enc,aI k] (s.add k).enc:=fun s k hs hk=>Gv s hs k hk;obtain⟨R,hR⟩:∃R,R=uZ f 20000 (yr f):=⟨_,rfl⟩
 have hM:yp f=(R.over,R.seen):=by rw[hR];rfl
 rw[hM];obtain⟨n,hn⟩:∃n,n=f.blocks.length:=⟨_,rfl⟩
 rw[<-hn]at hS nm h1 he;have OB:ae.agg [.v (.int .u64 0),.v (.int .u64 0)]=Bs.none.enc:=rfl;refine zf true 0 Tryz.func97 Tryz.ntmps97 ?_;dsimp only[Tmp,TypeId,ax];refine aH ?_;simp -dsimp only[simprocAttr,↓aa,zp,Bs.al,Bs.aw,Bs.ao,aA];refine av ?_;refine aR 1 0 (.ip none [aI f.name,bf f.blocks]) rfl (by simp[ay.aP]) trivial rfl ?_ ?_;rotate_left;simp -dsimp only[simprocAttr,↓aa,zp,Bs.al,Bs.aw,Bs.ao,aA]
 ·refine aH ?_;simp -dsimp only[simprocAttr,↓aa,zp,Bs.al,Bs.aw,Bs.ao,aA];refine av ?_;refine cg ?_;simp -dsimp only[simprocAttr,↓aa,zp,Bs.al,Bs.aw,Bs.ao,aA,<-hn];refine av ?_;refine aj (aO (ι:={j:Nat // j<=n}) (fun j=>⟨106,[(1,.ip none [aI f.name,bf f.blocks]),(3,.mp 1 0),(4,.mp 2 0),(17,aI n),(18,aI j.1)],[.gone,.cells [.v (.int .u64 0),.v (.int .u64 0)],.cells (zQ j.1).enc.cells]⟩) (fun j=>n-j.1) ⟨0,by omega⟩ ?_ ?_)
  ·refine zq rfl ?_ ?_;simp -dsimp only[simprocAttr,↓aa,zp,Bs.al,Bs.aw,Bs.ao,aA,zc]
   all_goals rfl
  rintro⟨j,hj⟩;have Xc:=fun h=>DQ (zQ j) j (uo j (by omega)) h;refine aH ?_;simp -dsimp only[simprocAttr,↓aa,zp,Bs.al,Bs.aw,Bs.ao,aA];refine av ?_;apply gr rfl<;>intro h
  ·refine eH ?_;have aN:j<n:=by simpa using h
   refine aG (aj ?_);refine aH ?_;simp -dsimp only[simprocAttr,↓aa,zp,Bs.al,Bs.aw,Bs.ao,aA];refine av ?_;refine fq ?_;simp -dsimp only[simprocAttr,↓aa,zp,Bs.al,Bs.aw,Bs.ao,aA];refine .inl ⟨_,(Xc (by omega)),by simp only[aq,ae.upto,zt,zu,aL,Bs.aF,Bs.ao],ah ?_⟩;simp -dsimp only[simprocAttr,↓aa,zp,Bs.al,Bs.aw,Bs.ao,aA];refine av ?_;refine fq ?_;simp -dsimp only[simprocAttr,↓aa,zp,Bs.al,Bs.aw,Bs.ao,aA]
   repeat(refine⟨by omega,?_⟩)
   refine r7 ?_;refine⟨⟨j+1,aN⟩,by simp;omega,?_⟩;refine zq rfl ?_ ?_;simp -dsimp only[simprocAttr,↓aa,zp,Bs.al,Bs.aw,Bs.ao,aA,zc]
   all_goals first|rfl|exact Sub.refl _
  refine aM ?_;simp -dsimp only[ai,ne_eq,Nat.reduceEqDiff,reduceCtorEq];have tN:j=n:=by simp at h;omega
  subst tN;refine aH ?_;simp -dsimp only[simprocAttr,↓aa,zp,Bs.al,Bs.aw,Bs.ao,aA,<-hn]
  repeat(refine⟨by omega,?_⟩)
  refine av ?_;refine cg ?_;simp -dsimp only[simprocAttr,↓aa,zp,Bs.al,Bs.aw,Bs.ao,aA,<-hn];refine av ?_;obtain⟨A,hA⟩:∃A,A=zQ j:=⟨_,rfl⟩
  rw[<-hA];refine aj (aO (ι:={i:Nat // i<=j}) (fun i=>⟨106,[(1,.ip none [aI f.name,bf f.blocks]),(3,.mp 1 0),(4,.mp 2 0),(6,.ms 3 0 j j),(30,aI j),(31,aI i.1)],[.gone,.cells [.v (.int .u64 0),.v (.int .u64 0)],.cells A.enc.cells,.cells (ar ((List.replicate i.1 A++List.replicate (j-i.1) Bs.none).map Bs.enc))]⟩) (fun i=>j-i.1) ⟨0,by omega⟩ ?_ ?_)
  ·refine zq rfl ?_ ?_;simp -dsimp only[simprocAttr,↓aa,zp,Bs.al,Bs.aw,Bs.ao,aA,zc];simp[ar,List.flatMap,Bs.al,Bs.none]
  rintro⟨i,hi⟩;have fc:(List.replicate i A++List.replicate (j-i) Bs.none).length=j:=by simp;omega
  refine aH ?_;simp -dsimp only[simprocAttr,↓aa,zp,Bs.al,Bs.aw,Bs.ao,aA];refine av ?_;apply gr rfl<;>intro h
  ·refine eH ?_;have aN:i<j:=by simpa using h
   have iW:=BW (l:=List.replicate i A++List.replicate (j-i) Bs.none) (k:=i) (by rw[fc];exact aN) A;have wx:(List.replicate i A++List.replicate (j-i) Bs.none).set i A=List.replicate (i+1) A++List.replicate (j-(i+1)) Bs.none:=by
    obtain⟨q,hq⟩:∃q,j-i=q+1:=⟨j-i-1,by omega⟩
    rw[hq,show j-(i+1)=q by omega,List.set_append_right _ _ (by simp),List.replicate_succ' (n:=i)];simp[List.replicate_succ]
   rw[wx]at iW;have hlen:=yc (List.replicate i A++List.replicate (j-i) Bs.none);rw[fc]at hlen;refine aG (aj ?_);refine aH ?_;simp -dsimp only[simprocAttr,↓aa,zp,Bs.al,Bs.aw,Bs.ao,aA];refine av ?_;refine fq ?_;simp -dsimp only[simprocAttr,↓aa,zp,Bs.al,Bs.aw,Bs.ao,aA,iW,hlen]
   repeat(refine⟨by omega,?_⟩)
   refine av ?_;refine fq ?_;simp -dsimp only[simprocAttr,↓aa,zp,Bs.al,Bs.aw,Bs.ao,aA]
   repeat(refine⟨by omega,?_⟩)
   refine r7 ?_;refine⟨⟨i+1,aN⟩,by simp;omega,?_⟩;refine zq rfl ?_ ?_;simp -dsimp only[simprocAttr,↓aa,zp,Bs.al,Bs.aw,Bs.ao,aA,zc]
   all_goals first|rfl|exact Sub.refl _
  refine aM ?_;simp -dsimp only[ai,ne_eq,Nat.reduceEqDiff,reduceCtorEq];have QO:i=j:=by simp at h;omega
  subst QO;have TF:=DQ Bs.none 0 Bs.oG (by omega);have hlen:=yc (List.replicate i A++List.replicate (i-i) Bs.none);rw[fc]at hlen;have iW:=BW (l:=List.replicate i A++List.replicate (i-i) Bs.none) (k:=0) (by rw[fc];exact nm) (Bs.none.add 0);have wv:(List.replicate i A++List.replicate (i-i) Bs.none).set 0 (Bs.none.add 0)=(yr f).over:=by
   simp[yr,<-hn,hA]
  rw[wv,Nat.zero_mul]at iW;have RD:aI ((0:Nat):Int)=aI 0:=rfl;rw[RD]at TF;refine aH ?_;simp -dsimp only[simprocAttr,↓aa,zp,Bs.al,Bs.aw,Bs.ao,aA,OB];refine .inl ⟨_,TF,by simp only[aq,ae.upto,zt,zu,aL,Bs.aF,Bs.ao],ah ?_⟩;simp -dsimp only[simprocAttr,↓aa,zp,Bs.al,Bs.aw,Bs.ao,aA,iW,hlen];refine⟨by omega,by omega,?_⟩;refine av ?_;refine aH ?_;simp -dsimp only[simprocAttr,↓aa,zp,Bs.al,Bs.aw,Bs.ao,aA,OB];refine .inl ⟨_,TF,by simp only[aq,ae.upto,zt,zu,aL,Bs.aF,Bs.ao],ah ?_⟩;simp -dsimp only[simprocAttr,↓aa,zp,Bs.al,Bs.aw,Bs.ao,aA];refine av ?_;refine cg ?_;simp -dsimp only[simprocAttr,↓aa,zp,Bs.al,Bs.aw,Bs.ao,aA];refine av ?_;have X3:=Gu hS;refine aj (aO (ι:={x:Ds×Nat // nU i x.1∧R=uZ f x.2 x.1∧(x.1.again=true->x.1.weight<x.2)}) (fun x=>⟨106,[(1,.ip none [aI f.name,bf f.blocks]),(3,.mp 1 0),(6,.ms 3 0 i i),(8,.mp 4 0),(9,.v (.bool x.1.1.again))],[.gone,.cells [.v (.int .u64 0),.v (.int .u64 0)],.cells A.enc.cells,.cells (ar (x.1.1.over.map Bs.enc)),.cells x.1.1.seen.enc.cells]⟩) (fun x=>x.1.1.weight+if x.1.1.again then 1 else 0) ⟨(yr f,20000),hS,hR,fun _=>by simp only;omega⟩ ?_ ?_)
  ·refine zq rfl ?_ ?_;simp -dsimp only[simprocAttr,↓aa,zp,Bs.al,Bs.aw,Bs.ao,aA,zc]
   all_goals first|rfl|exact Sub.refl _
  rintro⟨⟨S,q⟩,Pl,S6,UQ⟩;simp only at Pl S6 UQ;refine cg ?_;simp -dsimp only[simprocAttr,↓aa,zp,Bs.al,Bs.aw,Bs.ao,aA];refine av ?_;apply aQ rfl<;>intro h
  ·refine eH ?_;have nW:S.again=true:=h;have UQ:=UQ nW;obtain⟨q,rfl⟩:∃q',q=q'+1:=⟨q-1,by omega⟩
   have Ro:R=uZ f q (tG 0 ⟨S.over,S.seen,false⟩ f.blocks):=by
    rw[S6];simp[uZ,nW]
   have Vm:nU i ⟨S.over,S.seen,false⟩:=⟨Pl.By,Pl.len,Pl.fit,Pl.seen,Pl.self⟩
   have VV:=yq f.blocks (k:=0) Vm he;obtain⟨S1,Vn⟩:∃S1,S1=tG 0 ⟨S.over,S.seen,false⟩ f.blocks:=⟨_,rfl⟩
   rw[<-Vn]at Ro VV;obtain⟨Xv,Xw,U1⟩:=VV;have Xb:(⟨S.over,S.seen,false⟩:Ds).weight=S.weight:=rfl;rw[Xb]at Xw U1;refine aj ?_;refine aH ?_;simp -dsimp only[simprocAttr,↓aa,zp,Bs.al,Bs.aw,Bs.ao,aA];refine av ?_;refine aH ?_;simp -dsimp only[simprocAttr,↓aa,zp,Bs.al,Bs.aw,Bs.ao,aA,<-hn];refine av ?_;refine aj (aO (ι:={y:Nat×Ds // y.1<=i∧nU i y.2∧S1=tG y.1 y.2 (f.blocks.drop y.1)}) (fun y=>⟨106,[(1,.ip none [aI f.name,bf f.blocks]),(3,.mp 1 0),(6,.ms 3 0 i i),(8,.mp 4 0),(47,bf f.blocks),(48,aI i),(9,.v (.bool y.1.2.again)),(49,aI y.1.1)],[.gone,.cells [.v (.int .u64 0),.v (.int .u64 0)],.cells A.enc.cells,.cells (ar (y.1.2.over.map Bs.enc)),.cells y.1.2.seen.enc.cells]⟩) (fun y=>i-y.1.1) ⟨(0,⟨S.over,S.seen,false⟩),by simp,Vm,Vn⟩ ?_ ?_)
   ·refine zq rfl ?_ ?_;simp -dsimp only[simprocAttr,↓aa,zp,Bs.al,Bs.aw,Bs.ao,aA,zc]
    all_goals rfl
   rintro⟨⟨k,T⟩,hk,Rp,HA⟩;simp only at hk Rp HA;refine aH ?_;simp -dsimp only[simprocAttr,↓aa,zp,Bs.al,Bs.aw,Bs.ao,aA];refine av ?_;apply gr rfl<;>intro h
   ·refine eH ?_;have aN:k<i:=by simpa using h
    obtain⟨b,hb⟩:∃b,f.blocks[k]?=some b:=⟨f.blocks[k]'(by omega),List.getElem?_eq_getElem _⟩
    have Rx:=List.mem_of_getElem? hb;rw[iT hb]at HA;simp only[tG]at HA;have Vy:=DC (k:=k) Rp (he b Rx);have LZ:=rr T.seen Rp.seen k (by omega);refine aG (aj ?_);refine aH ?_;simp -dsimp only[simprocAttr,↓aa,zp,Bs.al,Bs.aw,Bs.ao,aA,hb];refine av ?_;refine aR 11 5 (.ip none [ct b.params,dA b.ins,aI b.term.kind,aI b.term.arg,aI b.term.n,ct b.term.cases,bx b.term.to]) rfl (by simp[ay.aP]) trivial rfl ?_ ?_;rotate_left;simp -dsimp only[simprocAttr,↓aa,zp,Bs.al,Bs.aw,Bs.ao,aA]
    ·refine ba 5 [(1,.ip none [aI f.name,bf f.blocks]),(3,.mp 1 0),(6,.ms 3 0 i i),(8,.mp 4 0),(47,bf f.blocks),(48,aI i),(9,.v (.bool T.again)),(10,aI k),(11,.ip none [ct b.params,dA b.ins,aI b.term.kind,aI b.term.arg,aI b.term.n,ct b.term.cases,bx b.term.to]),(49,aI k)] (by simp) (by omega) [.gone,.cells [.v (.int .u64 0),.v (.int .u64 0)],.cells A.enc.cells,.cells (ar (T.over.map Bs.enc)),.cells T.seen.enc.cells] ?_ ?_ ?_ ?_ ?_
     ·rfl
     ·simp[ay.upto,aq,ae.upto,aL,Block.an,Edge.an,db.an,jl,Bs.al]
     ·simp[dy,St.get,cq,bL,Go.Av.look,Sub.refl]
     ·simp[ay.upto,aq,ae.upto,aL,Block.an,Edge.an,db.an,jl,Bs.al]
     cases OE:T.seen.has k with
     | false =>
      rw[OE]at LZ;have T3:wM k T b=T:=by simp[wM,OE]
      rw[T3]at HA;refine cg ?_;simp -dsimp only[simprocAttr,↓aa,zp,Bs.al,Bs.aw,Bs.ao,aA];refine .inl ⟨_,LZ,by simp only[aq,ae.upto,zt,zu,aL,Bs.aF,Bs.ao],ah ?_⟩;simp -dsimp only[simprocAttr,↓aa,zp,Bs.al,Bs.aw,Bs.ao,aA];refine av ?_;refine de rfl ?_;refine aM ?_;simp -dsimp only[ai,ne_eq,Nat.reduceEqDiff,reduceCtorEq];refine fq ?_;simp -dsimp only[simprocAttr,↓aa,zp,Bs.al,Bs.aw,Bs.ao,aA]
      repeat(refine⟨by omega,?_⟩)
      refine r7 ?_;refine⟨⟨(k+1,T),by simp only;omega,Rp,HA⟩,by simp;omega,?_⟩;refine zq rfl ?_ ?_;simp -dsimp only[simprocAttr,↓aa,zp,Bs.al,Bs.aw,Bs.ao,aA,zc]
      all_goals first|rfl|exact Sub.refl _
     | true =>
      rw[OE]at LZ;have T3:wM k T b=b.term.to.foldl (nV k) T:=by simp[wM,OE]
      rw[T3]at HA Vy;refine cg ?_;simp -dsimp only[simprocAttr,↓aa,zp,Bs.al,Bs.aw,Bs.ao,aA];refine .inl ⟨_,LZ,by simp only[aq,ae.upto,zt,zu,aL,Bs.aF,Bs.ao],ah ?_⟩;simp -dsimp only[simprocAttr,↓aa,zp,Bs.al,Bs.aw,Bs.ao,aA];refine av ?_;apply aQ rfl<;>intro h
      ·cases h
      refine eH ?_;refine aH ?_;simp -dsimp only[simprocAttr,↓aa,zp,Bs.al,Bs.aw,Bs.ao,aA];refine av ?_;refine bT 60 rfl (fun mV=>?_);simp only[List.length_map]at mV;obtain⟨T1,Vo⟩:∃T1,T1=b.term.to.foldl (nV k) T:=⟨_,rfl⟩
      rw[<-Vo]at HA Vy;refine aj (aO (ι:={y:Nat×Ds // y.1<=b.term.to.length∧nU i y.2∧T1=(b.term.to.drop y.1).foldl (nV k) y.2}) (fun y=>⟨106,[(1,.ip none [aI f.name,bf f.blocks]),(3,.mp 1 0),(6,.ms 3 0 i i),(8,.mp 4 0),(47,bf f.blocks),(48,aI i),(9,.v (.bool y.1.2.again)),(10,aI k),(49,aI k),(60,bx b.term.to),(61,aI b.term.to.length),(62,aI y.1.1)],[.gone,.cells [.v (.int .u64 0),.v (.int .u64 0)],.cells A.enc.cells,.cells (ar (y.1.2.over.map Bs.enc)),.cells y.1.2.seen.enc.cells]⟩) (fun y=>b.term.to.length-y.1.1) ⟨(0,T),by simp,Rp,Vo⟩ ?_ ?_)
      ·refine zq rfl ?_ ?_;simp -dsimp only[simprocAttr,↓aa,zp,Bs.al,Bs.aw,Bs.ao,aA,zc]
       all_goals rfl
      rintro⟨⟨z,U⟩,hz,Fz,LL⟩;simp only at hz Fz LL;refine aH ?_;simp -dsimp only[simprocAttr,↓aa,zp,Bs.al,Bs.aw,Bs.ao,aA];refine av ?_;apply gr rfl<;>intro h
      ·refine eH ?_;have L8:z<b.term.to.length:=by simpa using h
       obtain⟨e,FC⟩:∃e,b.term.to[z]?=some e:=⟨b.term.to[z],by simp[L8]⟩
       obtain⟨QK,zG⟩:=he b Rx e (List.mem_of_getElem? FC);rw[iT FC]at LL;simp only[List.foldl_cons]at LL;have Bz:=DD (k:=k) Fz QK zG;obtain⟨ej,QL⟩:∃ej:Nat,e.block=ej:=⟨e.block.toNat,by omega⟩
       have RR:e.block.toNat=ej:=by omega
       rw[RR]at zG;have Si:U.over[ej]?=some (U.at_ ej):=by
        have:ej<U.over.length:=by rw[Fz.len];exact zG
        simp[Ds.at_,this]
       have jh:U.over[k]?=some (U.at_ k):=by
        have:k<U.over.length:=by rw[Fz.len];exact aN
        simp[Ds.at_,this]
       have Rz:=E' (U.at_ ej) (U.at_ k) (Fz.yb ej) (Fz.yb k);have QM:=Bs.Au (t:=U.at_ k) (Fz.yb ej);have gl:=DQ ((U.at_ ej).meet (U.at_ k)) ej QM (by omega);have rA:=Bs.pf QM (k:=ej) (by omega);have vp:=rr U.seen Fz.seen ej (by omega);have OD:=DQ U.seen ej Fz.seen (by omega);have ql:=GR Si;have R3:=GR jh;have wU:=yc U.over;rw[Fz.len]at wU;have T0:nV k U e=if((U.at_ ej).meet (U.at_ k)).add ej≠U.at_ ej∨U.seen.has ej=false then⟨U.over.set ej (((U.at_ ej).meet (U.at_ k)).add ej),U.seen.add ej,true⟩else U:=by
        simp only[nV,RR]
       generalize XM:(U.at_ ej).meet (U.at_ k)=M1 at *;generalize hN:M1.add ej=N at *;generalize hV:U.at_ ej=V at *;have iW:=BW (l:=U.over) (k:=ej) (by rw[Fz.len];exact zG) N;refine aG (aj ?_);refine aH ?_;simp -dsimp only[simprocAttr,↓aa,zp,Bs.al,Bs.aw,Bs.ao,aA,FC];refine av ?_;refine aR 13 5 (.ip none [aI e.block,ct e.args]) rfl (by simp[ay.aP]) trivial rfl ?_ ?_;rotate_left;simp -dsimp only[simprocAttr,↓aa,zp,Bs.al,Bs.aw,Bs.ao,aA]
       ·refine ba 5 [(1,.ip none [aI f.name,bf f.blocks]),(3,.mp 1 0),(6,.ms 3 0 i i),(8,.mp 4 0),(47,bf f.blocks),(48,aI i),(9,.v (.bool U.again)),(10,aI k),(13,.ip none [aI e.block,ct e.args]),(49,aI k),(60,bx b.term.to),(61,aI b.term.to.length),(62,aI z)] (by simp) (by omega) [.gone,.cells [.v (.int .u64 0),.v (.int .u64 0)],.cells A.enc.cells,.cells (ar (U.over.map Bs.enc)),.cells U.seen.enc.cells] ?_ ?_ ?_ ?_ ?_
        ·rfl
        ·simp[ay.upto,aq,ae.upto,aL,Block.an,Edge.an,db.an,jl,Bs.al]
        ·simp[dy,St.get,cq,bL,Go.Av.look,Sub.refl]
        ·simp[ay.upto,aq,ae.upto,aL,Block.an,Edge.an,db.an,jl,Bs.al]
        refine aH ?_;simp -dsimp only[simprocAttr,↓aa,zp,Bs.al,Bs.aw,Bs.ao,aA,QL,Int.toNat_natCast,ql,R3,wU];refine⟨by omega,by omega,by omega,by omega,?_⟩;refine .inl ⟨_,Rz,by simp only[aq,ae.upto,zt,zu,aL,Bs.aF,Bs.ao],ah ?_⟩;simp -dsimp only[simprocAttr,↓aa,zp,Bs.al,Bs.aw,Bs.ao,aA];refine .inl ⟨_,gl,by simp only[aq,ae.upto,zt,zu,aL,Bs.aF,Bs.ao],ah ?_⟩;simp -dsimp only[simprocAttr,↓aa,zp,Bs.al,Bs.aw,Bs.ao,aA];refine⟨ob (by kernel_rfl),?_⟩;refine av ?_;have RA:=jl 5 (U.over.set ej N);rw[List.map_set]at RA;by_cases S5:N=V
        ·have S9:decide (N=V)=true:=decide_eq_true S5;cases Ti:U.seen.has ej with
         | true =>
          rw[Ti]at vp;have CA:nV k U e=U:=by rw[T0,if_neg (by simp[S5,Ti])]
          refine aH ?_;simp -dsimp only[simprocAttr,↓aa,zp,Bs.al,Bs.aw,Bs.ao,aA,QL,Int.toNat_natCast,ql,wU,v9,S9]
          repeat(refine⟨by omega,?_⟩)
          refine .inl ⟨_,vp,by simp only[aq,ae.upto,zt,zu,aL,Bs.aF,Bs.ao],ah ?_⟩;simp -dsimp only[simprocAttr,↓aa,zp,Bs.al,Bs.aw,Bs.ao,aA];refine⟨ob (by kernel_rfl),?_⟩;refine av ?_;refine cB rfl ?_;refine pV ?_;refine ba 5 [(1,.ip none [aI f.name,bf f.blocks]),(3,.mp 1 0),(6,.ms 3 0 i i),(8,.mp 4 0),(47,bf f.blocks),(48,aI i),(9,.v (.bool U.again)),(10,aI k),(49,aI k),(60,bx b.term.to),(61,aI b.term.to.length),(62,aI z)] (by simp) (by omega) [.gone,.cells [.v (.int .u64 0),.v (.int .u64 0)],.cells A.enc.cells,.cells (ar ((U.over).map Bs.enc)),.cells (U.seen).enc.cells] ?_ ?_ ?_ ?_ ?_
          ·rfl
          ·simp[ay.upto,aq,ae.upto,aL,Block.an,Edge.an,db.an,jl,Bs.al]
          ·simp[dy,St.get,cq,bL,Go.Av.look,Sub.refl]
          ·simp[ay.upto,aq,ae.upto,aL,Block.an,Edge.an,db.an,jl,Bs.al]
          refine fq ?_;simp -dsimp only[simprocAttr,↓aa,zp,Bs.al,Bs.aw,Bs.ao,aA]
          repeat(refine⟨by omega,?_⟩)
          refine r7 ?_;refine⟨⟨(z+1,U),by simp only;omega,Fz,by rw[LL,CA]⟩,by simp;omega,?_⟩;refine zq rfl ?_ ?_;simp -dsimp only[simprocAttr,↓aa,zp,Bs.al,Bs.aw,Bs.ao,aA,zc]
          all_goals first|rfl|exact Sub.refl _
         | false =>
          rw[Ti]at vp;have CA:nV k U e=⟨U.over.set ej N,U.seen.add ej,true⟩:=by rw[T0,if_pos (.inr Ti)]
          refine aH ?_;simp -dsimp only[simprocAttr,↓aa,zp,Bs.al,Bs.aw,Bs.ao,aA,QL,Int.toNat_natCast,ql,wU,v9,S9]
          repeat(refine⟨by omega,?_⟩)
          refine .inl ⟨_,vp,by simp only[aq,ae.upto,zt,zu,aL,Bs.aF,Bs.ao],ah ?_⟩;simp -dsimp only[simprocAttr,↓aa,zp,Bs.al,Bs.aw,Bs.ao,aA];refine⟨ob (by kernel_rfl),?_⟩;refine av ?_;refine de rfl ?_;refine fq ?_;simp -dsimp only[simprocAttr,↓aa,zp,Bs.al,Bs.aw,Bs.ao,aA,QL,Int.toNat_natCast,iW,wU]
          repeat(refine⟨by omega,?_⟩)
          refine .inl ⟨_,OD,by simp only[aq,ae.upto,zt,zu,aL,Bs.aF,Bs.ao],ah ?_⟩;simp -dsimp only[simprocAttr,↓aa,zp,Bs.al,Bs.aw,Bs.ao,aA,iW,wU]
          repeat(refine⟨by omega,?_⟩)
          refine⟨ob (by kernel_rfl),?_⟩;refine av ?_;refine ba 5 [(1,.ip none [aI f.name,bf f.blocks]),(3,.mp 1 0),(6,.ms 3 0 i i),(8,.mp 4 0),(47,bf f.blocks),(48,aI i),(9,.v (.bool true)),(10,aI k),(49,aI k),(60,bx b.term.to),(61,aI b.term.to.length),(62,aI z)] (by simp) (by omega) [.gone,.cells [.v (.int .u64 0),.v (.int .u64 0)],.cells A.enc.cells,.cells (ar ((U.over.set ej N).map Bs.enc)),.cells (U.seen.add ej).enc.cells] ?_ ?_ ?_ ?_ ?_
          ·rfl
          ·simp[ay.upto,aq,ae.upto,aL,Block.an,Edge.an,db.an,jl,Bs.al,RA]
          ·simp[dy,St.get,cq,bL,Go.Av.look,Sub.refl]
          ·simp[ay.upto,aq,ae.upto,aL,Block.an,Edge.an,db.an,jl,Bs.al]
          refine fq ?_;simp -dsimp only[simprocAttr,↓aa,zp,Bs.al,Bs.aw,Bs.ao,aA]
          repeat(refine⟨by omega,?_⟩)
          refine r7 ?_;refine⟨⟨(z+1,⟨U.over.set ej N,U.seen.add ej,true⟩),by simp only;omega,by rw[<-CA];exact Bz.1,by rw[LL,CA]⟩,by simp;omega,?_⟩;refine zq rfl ?_ ?_;simp -dsimp only[simprocAttr,↓aa,zp,Bs.al,Bs.aw,Bs.ao,aA,zc]
          all_goals first|rfl|exact Sub.refl _
        have S9:decide (N=V)=false:=decide_eq_false S5;have CA:nV k U e=⟨U.over.set ej N,U.seen.add ej,true⟩:=by rw[T0,if_pos (.inl S5)]
        refine aH ?_;simp -dsimp only[simprocAttr,↓aa,zp,Bs.al,Bs.aw,Bs.ao,aA,QL,Int.toNat_natCast,ql,wU,v9,S9]
        repeat(refine⟨by omega,?_⟩)
        refine⟨ob (by kernel_rfl),?_⟩;refine av ?_;refine de rfl ?_;refine fq ?_;simp -dsimp only[simprocAttr,↓aa,zp,Bs.al,Bs.aw,Bs.ao,aA,QL,Int.toNat_natCast,iW,wU]
        repeat(refine⟨by omega,?_⟩)
        refine .inl ⟨_,OD,by simp only[aq,ae.upto,zt,zu,aL,Bs.aF,Bs.ao],ah ?_⟩;simp -dsimp only[simprocAttr,↓aa,zp,Bs.al,Bs.aw,Bs.ao,aA,iW,wU]
        repeat(refine⟨by omega,?_⟩)
        refine⟨ob (by kernel_rfl),?_⟩;refine av ?_;refine ba 5 [(1,.ip none [aI f.name,bf f.blocks]),(3,.mp 1 0),(6,.ms 3 0 i i),(8,.mp 4 0),(47,bf f.blocks),(48,aI i),(9,.v (.bool true)),(10,aI k),(49,aI k),(60,bx b.term.to),(61,aI b.term.to.length),(62,aI z)] (by simp) (by omega) [.gone,.cells [.v (.int .u64 0),.v (.int .u64 0)],.cells A.enc.cells,.cells (ar ((U.over.set ej N).map Bs.enc)),.cells (U.seen.add ej).enc.cells] ?_ ?_ ?_ ?_ ?_
        ·rfl
        ·simp[ay.upto,aq,ae.upto,aL,Block.an,Edge.an,db.an,jl,Bs.al,RA]
        ·simp[dy,St.get,cq,bL,Go.Av.look,Sub.refl]
        ·simp[ay.upto,aq,ae.upto,aL,Block.an,Edge.an,db.an,jl,Bs.al]
        refine fq ?_;simp -dsimp only[simprocAttr,↓aa,zp,Bs.al,Bs.aw,Bs.ao,aA]
        repeat(refine⟨by omega,?_⟩)
        refine r7 ?_;refine⟨⟨(z+1,⟨U.over.set ej N,U.seen.add ej,true⟩),by simp only;omega,by rw[<-CA];exact Bz.1,by rw[LL,CA]⟩,by simp;omega,?_⟩;refine zq rfl ?_ ?_;simp -dsimp only[simprocAttr,↓aa,zp,Bs.al,Bs.aw,Bs.ao,aA,zc]
        all_goals first|rfl|exact Sub.refl _
       exact da.mp rfl rfl
      refine aM ?_;simp -dsimp only[ai,ne_eq,Nat.reduceEqDiff,reduceCtorEq];have wX:z=b.term.to.length:=by simp at h;omega
      subst wX;rw[List.drop_length]at LL;simp only[List.foldl_nil]at LL;refine fq ?_;simp -dsimp only[simprocAttr,↓aa,zp,Bs.al,Bs.aw,Bs.ao,aA]
      repeat(refine⟨by omega,?_⟩)
      refine r7 ?_;refine⟨⟨(k+1,U),by simp only;omega,Fz,by rw[HA,LL]⟩,by simp;omega,?_⟩;refine zq rfl ?_ ?_;simp -dsimp only[simprocAttr,↓aa,zp,Bs.al,Bs.aw,Bs.ao,aA,zc]
      all_goals first|rfl|exact Sub.refl _
    exact da.mp rfl rfl
   refine aM ?_;simp -dsimp only[ai,ne_eq,Nat.reduceEqDiff,reduceCtorEq];have WN:k=i:=by simp at h;omega
   subst WN;rw[hn,List.drop_length]at HA;simp only[tG]at HA;subst HA;have PK:S1.again=true->S1.weight<q:=fun hh=>by
    rcases U1 hh with r|r
    ·cases r
    omega
   refine⟨⟨(S1,q),Xv,Ro,PK⟩,?_,?_⟩
   ·simp only[nW,if_true];cases AK:S1.again
    ·simp;omega
    rcases U1 AK with r|r
    ·cases r
    simp;omega
   refine zq rfl ?_ ?_;simp -dsimp only[simprocAttr,↓aa,zp,Bs.al,Bs.aw,Bs.ao,aA,zc]
   all_goals rfl
  refine aM ?_;simp -dsimp only[ai,ne_eq,Nat.reduceEqDiff,reduceCtorEq];have nW:S.again=false:=h;rw[Fm nW]at S6;subst S6;have dk:=Pl.len;refine aR 6 3 (.aC 2 (R.over.map Bs.enc) .sh) rfl (by simp[ay.aP]) trivial rfl ?_ ?_;rotate_left;simp -dsimp only[simprocAttr,↓aa,zp,Bs.al,Bs.aw,Bs.ao,aA]
  ·refine aH ?_;simp -dsimp only[simprocAttr,↓aa,zp,Bs.al,Bs.aw,Bs.ao,aA];refine⟨ob (by kernel_rfl),?_⟩;refine av ?_;refine ak ?_;simp -dsimp only[simprocAttr,↓aa,zp,Bs.al,Bs.aw,Bs.ao,aA,zr,Tryz.results97];exact⟨⟨iJ _ _,trivial⟩,Bs.aF _ _,trivial⟩
  refine da.ms rfl (Dy R.over) (by simp[dk]) ?_;rw[List.drop_zero,List.take_of_length_le (by rw[yc,dk];exact Nat.le_refl _),<-ef];simp[List.map_map,Function.comp_def,Bs.ao]
 exact da.mp rfl rfl
abbrev GX(f:Func)(ds:Defs)(over:List Bs)(seen:Bs)(k:Nat)(A:Nat):List ae:=[.ip none [.ip none [aI f.name,bf f.blocks,.im (.int .i64) (ds.map fP)]],.ip none [aI (k:Int)],.mp A 0,.ip none [.aC 2 (over.map Bs.enc) .sh],.ip none [.v (.int .u64 seen.a),.v (.int .u64 seen.b)]]
def oF(ds:Defs)(over:List Bs)(seen:Bs)(k:Nat)(at_:Int)(v:Int):Bool :=
 match kv ds v with
 | none=>false
 | some p=>(decide (p.1=k)&&decide (p.2<=at_)) || ((!decide (p.1=k)&&(over[k]?.getD .none).has p.1.toNat) || !seen.has k)
def BF(n:Nat)(ds:Defs):Prop:=∀v p,kv ds v=some p->0<=p.1∧p.1.toNat<n
theorem Fu{O:List ay}(bD:∀o∈O,o.upto O.length){f:Func}{ds:Defs}{over:List Bs}{seen:Bs}{k A:Nat}{at_:Int}(hA:O[A]?=some (.cells [aI at_]))(hn:over.length<=128)(hk:k<over.length)(iA:∀s∈over,s.fit)(T':seen.fit)(tX:BF over.length ds)(v:Int) :
  aY Tryz.prog 98 O (aI v::GX f ds over seen k A) (fun r O'=>r=.v (.bool (oF ds over seen k at_ v))∧O'=O):=by
 have Rl:=ag hA;have jh:over[k]?=some over[k]:=List.getElem?_eq_getElem hk;have VF:=iA _ (List.getElem_mem hk);obtain⟨s,hs⟩:∃s,s=over[k]:=⟨_,rfl⟩
 rw[<-hs]at jh VF;have vp:=rr seen T' k (by omega);unfold oF;have XL:∀X,(O++X)[A]?=some (.cells [aI at_]):=fun X=>eU hA;have XT:=fT O.length ds;rw[jh];simp only[Option.getD_some];generalize OE:seen.has k=sk at *;cases hl:kv ds v with
 | none =>
  refine zf true O.length Tryz.func98 Tryz.ntmps98 ?_;dsimp only[Tmp,TypeId,ax];refine aH ?_;simp -dsimp only[simprocAttr,↓aa,zp,Bs.al,Bs.aw,Bs.ao,aA];refine av ?_;refine aH ?_;simp -dsimp only[simprocAttr,↓aa,zp,Bs.al,Bs.aw,Bs.ao,aA,jR,hl,Option.map_none,Option.getD_none,Option.isSome_none];refine av ?_;refine bg 8 ([aI 0,aI 0]) [(9,.v (.bool false))] rfl (by rfl) (by omega) (by simp[cq,bL,Go.Av.look]) ?_ ?_ ?_
  ·exact bD
  ·simp[ae.upto]
  refine aH ?_;simp -dsimp only[simprocAttr,↓aa,zp,Bs.al,Bs.aw,Bs.ao,aA];refine⟨ob (by kernel_rfl),?_⟩;refine av ?_;refine ak ?_;simp -dsimp only[simprocAttr,↓aa,zp,Bs.al,Bs.aw,Bs.ao,aA,zr,Tryz.results98];exact bD
 | some p =>
  have hq:eD p=.agg [aI p.1,aI p.2]:=rfl;obtain⟨b0,b1⟩:=tX v p hl;have wv:=rr s VF p.1.toNat (by omega)
  rw[show((p.1.toNat:Nat):Int)=p.1 by omega]at wv;simp only;generalize s.has p.1.toNat=sv at *;by_cases CE:p.1=k
  ·have hd:decide (p.1=(k:Int))=true:=decide_eq_true CE;by_cases PT:p.2<=at_
   ·have n6:decide (p.2<=at_)=true:=decide_eq_true PT;rw[hd,n6];refine zf true O.length Tryz.func98 Tryz.ntmps98 ?_;dsimp only[Tmp,TypeId,ax];refine aH ?_;simp -dsimp only[simprocAttr,↓aa,zp,Bs.al,Bs.aw,Bs.ao,aA];refine av ?_;refine aH ?_;simp -dsimp only[simprocAttr,↓aa,zp,Bs.al,Bs.aw,Bs.ao,aA,jR,hl,hq,Option.map_some,Option.getD_some,Option.isSome_some];refine av ?_;refine bg 8 ([aI p.1,aI p.2]) [(2,.ip none [aI k]),(3,.mp A 0),(4,.ip none [.aC 2 (over.map Bs.enc) .sh]),(5,.ip none [.v (.int .u64 seen.a),.v (.int .u64 seen.b)]),(8,.ip none [aI p.1,aI p.2]),(9,.v (.bool true))] rfl (by rfl) (by omega) (by simp[cq,bL,Go.Av.look]) ?_ ?_ ?_
    ·exact bD
    ·simp[ae.upto,aq,Rl,iJ]
    refine aH ?_;simp -dsimp only[simprocAttr,↓aa,zp,Bs.al,Bs.aw,Bs.ao,aA,hA,jh,Int.toNat_natCast,hd,n6];refine⟨ob (by kernel_rfl),?_⟩;refine av ?_;refine ak ?_;simp -dsimp only[simprocAttr,↓aa,zp,Bs.al,Bs.aw,Bs.ao,aA,zr,Tryz.results98];exact⟨bD,by simp⟩
   have n6:decide (p.2<=at_)=false:=decide_eq_false PT;rw[hd,n6];refine zf true O.length Tryz.func98 Tryz.ntmps98 ?_;dsimp only[Tmp,TypeId,ax];refine aH ?_;simp -dsimp only[simprocAttr,↓aa,zp,Bs.al,Bs.aw,Bs.ao,aA];refine av ?_;refine aH ?_;simp -dsimp only[simprocAttr,↓aa,zp,Bs.al,Bs.aw,Bs.ao,aA,jR,hl,hq,Option.map_some,Option.getD_some,Option.isSome_some];refine av ?_;refine bg 8 ([aI p.1,aI p.2]) [(2,.ip none [aI k]),(3,.mp A 0),(4,.ip none [.aC 2 (over.map Bs.enc) .sh]),(5,.ip none [.v (.int .u64 seen.a),.v (.int .u64 seen.b)]),(8,.ip none [aI p.1,aI p.2]),(9,.v (.bool true))] rfl (by rfl) (by omega) (by simp[cq,bL,Go.Av.look]) ?_ ?_ ?_
   ·exact bD
   ·simp[ae.upto,aq,Rl,iJ]
   refine aH ?_;simp -dsimp only[simprocAttr,↓aa,zp,Bs.al,Bs.aw,Bs.ao,aA,hA,jh,Int.toNat_natCast,hd,n6];refine .inl ⟨_,vp,by simp only[aq,ae.upto,zt,zu,aL,Bs.aF,Bs.ao],ah ?_⟩;simp -dsimp only[simprocAttr,↓aa,zp,Bs.al,Bs.aw,Bs.ao,aA,hd,n6,hA,jh,Int.toNat_natCast];refine⟨ob (by kernel_rfl),?_⟩;refine av ?_;refine ak ?_;simp -dsimp only[simprocAttr,↓aa,zp,Bs.al,Bs.aw,Bs.ao,aA,zr,Tryz.results98];exact⟨bD,by simp⟩
  have hd:decide (p.1=(k:Int))=false:=decide_eq_false CE;rw[hd];cases sv with
  | true =>
   refine zf true O.length Tryz.func98 Tryz.ntmps98 ?_;dsimp only[Tmp,TypeId,ax];refine aH ?_;simp -dsimp only[simprocAttr,↓aa,zp,Bs.al,Bs.aw,Bs.ao,aA];refine av ?_;refine aH ?_;simp -dsimp only[simprocAttr,↓aa,zp,Bs.al,Bs.aw,Bs.ao,aA,jR,hl,hq,Option.map_some,Option.getD_some,Option.isSome_some];refine av ?_;refine bg 8 ([aI p.1,aI p.2]) [(2,.ip none [aI k]),(3,.mp A 0),(4,.ip none [.aC 2 (over.map Bs.enc) .sh]),(5,.ip none [.v (.int .u64 seen.a),.v (.int .u64 seen.b)]),(8,.ip none [aI p.1,aI p.2]),(9,.v (.bool true))] rfl (by rfl) (by omega) (by simp[cq,bL,Go.Av.look]) ?_ ?_ ?_
   ·exact bD
   ·simp[ae.upto,aq,Rl,iJ]
   refine aH ?_;simp -dsimp only[simprocAttr,↓aa,zp,Bs.al,Bs.aw,Bs.ao,aA,hA,jh,Int.toNat_natCast,hd];refine .inl ⟨_,wv,by simp only[aq,ae.upto,zt,zu,aL,Bs.aF,Bs.ao],ah ?_⟩;simp -dsimp only[simprocAttr,↓aa,zp,Bs.al,Bs.aw,Bs.ao,aA,hd,hA,jh,Int.toNat_natCast];refine⟨ob (by kernel_rfl),?_⟩;refine av ?_;refine ak ?_;simp -dsimp only[simprocAttr,↓aa,zp,Bs.al,Bs.aw,Bs.ao,aA,zr,Tryz.results98];exact⟨bD,by simp⟩
  | false =>
   refine zf true O.length Tryz.func98 Tryz.ntmps98 ?_;dsimp only[Tmp,TypeId,ax];refine aH ?_;simp -dsimp only[simprocAttr,↓aa,zp,Bs.al,Bs.aw,Bs.ao,aA];refine av ?_;refine aH ?_;simp -dsimp only[simprocAttr,↓aa,zp,Bs.al,Bs.aw,Bs.ao,aA,jR,hl,hq,Option.map_some,Option.getD_some,Option.isSome_some];refine av ?_;refine bg 8 ([aI p.1,aI p.2]) [(2,.ip none [aI k]),(3,.mp A 0),(4,.ip none [.aC 2 (over.map Bs.enc) .sh]),(5,.ip none [.v (.int .u64 seen.a),.v (.int .u64 seen.b)]),(8,.ip none [aI p.1,aI p.2]),(9,.v (.bool true))] rfl (by rfl) (by omega) (by simp[cq,bL,Go.Av.look]) ?_ ?_ ?_
   ·exact bD
   ·simp[ae.upto,aq,Rl,iJ]
   refine aH ?_;simp -dsimp only[simprocAttr,↓aa,zp,Bs.al,Bs.aw,Bs.ao,aA,hA,jh,Int.toNat_natCast,hd];refine .inl ⟨_,wv,by simp only[aq,ae.upto,zt,zu,aL,Bs.aF,Bs.ao],ah ?_⟩;simp -dsimp only[simprocAttr,↓aa,zp,Bs.al,Bs.aw,Bs.ao,aA,hd,hA,jh,Int.toNat_natCast];refine .inl ⟨_,vp,by simp only[aq,ae.upto,zt,zu,aL,Bs.aF,Bs.ao],ah ?_⟩;simp -dsimp only[simprocAttr,↓aa,zp,Bs.al,Bs.aw,Bs.ao,aA,hd,hA,jh,Int.toNat_natCast];refine⟨ob (by kernel_rfl),?_⟩;refine av ?_;refine ak ?_;simp -dsimp only[simprocAttr,↓aa,zp,Bs.al,Bs.aw,Bs.ao,aA,zr,Tryz.results98];exact⟨bD,by simp⟩
def v5(t:Term)(p:Int->Bool):Bool:=((decide (t.kind=1) ||decide (t.kind=4)) ||p t.arg)&&t.to.all fun e=>e.args.all p
theorem uq{α:Type}{l:List α}{p:α->Bool}{j:Nat}{x:α}(h:l[j]?=some x):(l.drop j).all p=(p x&&(l.drop (j+1)).all p):=by
 rw[iT h];rfl
theorem Gr{O:List ay}(bD:∀o∈O,o.upto O.length)(id:Nat)(yd:List ae)(wQ:aq O.length yd)(p:Int->Bool)(hp:∀v,aY Tryz.prog id O (aI v::yd) (fun r O'=>r=.v (.bool (p v))∧O'=O))(t:Term) :
  aY Tryz.prog 100 O [t.enc,.fn (.func id) [] yd] (fun r O'=>r=.v (.bool (v5 t p))∧O'=O):=by
 obtain⟨R,hR⟩:∃R,R=v5 t p:=⟨_,rfl⟩
 rw[<-hR];unfold v5 at hR;have On:ae.upto O.length (.fn (.func id) [] yd):=⟨trivial,wQ⟩
 have PT:=hp t.arg;refine zf true O.length Tryz.func100 Tryz.ntmps100 ?_;dsimp only[Tmp,TypeId,ax];refine aH ?_;simp -dsimp only[simprocAttr,↓aa,zp,Bs.al,Bs.aw,Bs.ao,aA];refine av ?_;refine bg 2 ([aI t.kind,aI t.arg,aI t.n,ct t.cases,bx t.to]) [(1,.fn (.func id) [] yd),(2,.ip none [aI t.kind,aI t.arg,aI t.n,ct t.cases,bx t.to]),(4,.v (.bool false))] rfl (by rfl) (by omega) (by simp[cq,bL,Go.Av.look]) ?_ ?_ ?_
 ·exact bD
 ·simp[ae.upto,aq,aL,Edge.an,wQ]
 cases hb:(decide (t.kind=1) ||decide (t.kind=4)) ||p t.arg with
 | false =>
  rw[hb]at hR;obtain⟨h1,h4,yC⟩:decide (t.kind=1)=false∧decide (t.kind=4)=false∧p t.arg=false:=by
   revert hb;cases decide (t.kind=1)<;>cases decide (t.kind=4)<;>cases p t.arg<;>simp
  rw[yC]at PT;refine cg ?_;simp -dsimp only[simprocAttr,↓aa,zp,Bs.al,Bs.aw,Bs.ao,aA,h1,h4];refine .inr (.inr ⟨_,PT,ah ?_⟩);simp -dsimp only[simprocAttr,↓aa,zp,Bs.al,Bs.aw,Bs.ao,aA];refine av ?_;refine de rfl ?_;refine aH ?_;simp -dsimp only[simprocAttr,↓aa,zp,Bs.al,Bs.aw,Bs.ao,aA];refine av ?_;refine ak ?_;simp -dsimp only[simprocAttr,↓aa,zp,Bs.al,Bs.aw,Bs.ao,aA,zr,Tryz.results100];exact⟨bD,by rw[hR];rfl⟩
 | true =>
  rw[hb,Bool.true_and]at hR;refine m6 (⟨44,[(1,.fn (.func id) [] yd),(2,.ip none [aI t.kind,aI t.arg,aI t.n,ct t.cases,bx t.to]),(4,.v (.bool false))],O⟩) ?_ ?_
  ·cases h1:decide (t.kind=1)with
   | true =>
    refine aH ?_;simp -dsimp only[simprocAttr,↓aa,zp,Bs.al,Bs.aw,Bs.ao,aA,h1];refine av ?_;refine cB rfl ?_;refine au ?_;show bn _ _;refine zq rfl ?_ ?_;simp -dsimp only[simprocAttr,↓aa,zp,Bs.al,Bs.aw,Bs.ao,aA,zc];rfl
   | false =>
    cases h4:decide (t.kind=4)with
    | true =>
     refine aH ?_;simp -dsimp only[simprocAttr,↓aa,zp,Bs.al,Bs.aw,Bs.ao,aA,h1,h4];refine av ?_;refine cB rfl ?_;refine au ?_;show bn _ _;refine zq rfl ?_ ?_;simp -dsimp only[simprocAttr,↓aa,zp,Bs.al,Bs.aw,Bs.ao,aA,zc];rfl
    | false =>
     have yC:p t.arg=true:=by
      rw[h1,h4]at hb;simpa using hb
     rw[yC]at PT;refine aH ?_;simp -dsimp only[simprocAttr,↓aa,zp,Bs.al,Bs.aw,Bs.ao,aA,h1,h4];refine .inr (.inr ⟨_,PT,ah ?_⟩);simp -dsimp only[simprocAttr,↓aa,zp,Bs.al,Bs.aw,Bs.ao,aA];refine av ?_;refine cB rfl ?_;refine au ?_;show bn _ _;refine zq rfl ?_ ?_;simp -dsimp only[simprocAttr,↓aa,zp,Bs.al,Bs.aw,Bs.ao,aA,zc];rfl
  skip
  refine cg ?_;simp -dsimp only[simprocAttr,↓aa,zp,Bs.al,Bs.aw,Bs.ao,aA];refine av ?_;refine bT 25 rfl (fun mV=>?_);simp only[List.length_map]at mV;refine aj (aO (ι:={j:Nat // j<=t.to.length∧R=(t.to.drop j).all fun e=>e.args.all p}) (fun j=>⟨44,[(1,.fn (.func id) [] yd),(4,.v (.bool false)),(25,bx t.to),(26,aI t.to.length),(27,aI j.1)],O⟩) (fun j=>t.to.length-j.1) ⟨0,by omega,hR⟩ ?_ ?_)
  ·refine zq rfl ?_ ?_;simp -dsimp only[simprocAttr,↓aa,zp,Bs.al,Bs.aw,Bs.ao,aA,zc];rfl
  rintro⟨j,hj,lC⟩;refine aH ?_;simp -dsimp only[simprocAttr,↓aa,zp,Bs.al,Bs.aw,Bs.ao,aA];refine av ?_;apply gr rfl<;>intro h
  ·refine eH ?_;have aN:j<t.to.length:=by simpa using h
   obtain⟨e,FC⟩:∃e,t.to[j]?=some e:=⟨t.to[j],by simp[aN]⟩
   rw[uq FC]at lC;refine aG (aj ?_);refine aH ?_;simp -dsimp only[simprocAttr,↓aa,zp,Bs.al,Bs.aw,Bs.ao,aA,FC];refine av ?_;refine bg 6 ([aI e.block,ct e.args]) [(1,.fn (.func id) [] yd),(4,.v (.bool false)),(6,.ip none [aI e.block,ct e.args]),(25,bx t.to),(26,aI t.to.length),(27,aI j)] rfl (by rfl) (by omega) (by simp[cq,bL,Go.Av.look]) ?_ ?_ ?_
   ·exact bD
   ·simp[ae.upto,aq,aL,Edge.an,wQ]
   refine aH ?_;simp -dsimp only[simprocAttr,↓aa,zp,Bs.al,Bs.aw,Bs.ao,aA];refine av ?_;refine bT 32 rfl (fun mT=>?_);simp only[List.length_map]at mT;refine aj (aO (ι:={z:Nat // z<=e.args.length∧R=((e.args.drop z).all p&&(t.to.drop (j+1)).all fun e=>e.args.all p)}) (fun z=>⟨44,[(1,.fn (.func id) [] yd),(4,.v (.bool false)),(25,bx t.to),(26,aI t.to.length),(27,aI j),(32,ct e.args),(33,aI e.args.length),(34,aI z.1)],O⟩) (fun z=>e.args.length-z.1) ⟨0,by omega,lC⟩ ?_ ?_)
   ·refine zq rfl ?_ ?_;simp -dsimp only[simprocAttr,↓aa,zp,Bs.al,Bs.aw,Bs.ao,aA,zc];rfl
   rintro⟨z,hz,wX⟩;refine aH ?_;simp -dsimp only[simprocAttr,↓aa,zp,Bs.al,Bs.aw,Bs.ao,aA];refine av ?_;apply gr rfl<;>intro h
   ·refine eH ?_;have L8:z<e.args.length:=by simpa using h
    obtain⟨v,hv⟩:∃v,e.args[z]?=some v:=⟨e.args[z],by simp[L8]⟩
    rw[uq hv]at wX;have W1:=hp v;refine aG (aj ?_);refine aH ?_;simp -dsimp only[simprocAttr,↓aa,zp,Bs.al,Bs.aw,Bs.ao,aA,hv];refine av ?_;refine aH ?_;simp -dsimp only[simprocAttr,↓aa,zp,Bs.al,Bs.aw,Bs.ao,aA];refine .inr (.inr ⟨_,W1,ah ?_⟩);simp -dsimp only[simprocAttr,↓aa,zp,Bs.al,Bs.aw,Bs.ao,aA];refine av ?_;cases yC:p v with
    | true =>
     rw[yC,Bool.true_and]at wX;refine cB rfl ?_;refine pV ?_;refine fq ?_;simp -dsimp only[simprocAttr,↓aa,zp,Bs.al,Bs.aw,Bs.ao,aA]
     repeat(refine⟨by omega,?_⟩)
     refine r7 ?_;refine⟨⟨z+1,L8,wX⟩,by simp;omega,?_⟩;refine zq rfl ?_ ?_;simp -dsimp only[simprocAttr,↓aa,zp,Bs.al,Bs.aw,Bs.ao,aA,zc]
     ·exact Sub.int (by simp)
     rfl
    | false =>
     rw[yC]at wX;refine de rfl ?_;refine aH ?_;simp -dsimp only[simprocAttr,↓aa,zp,Bs.al,Bs.aw,Bs.ao,aA];refine av ?_;refine ak ?_;simp -dsimp only[simprocAttr,↓aa,zp,Bs.al,Bs.aw,Bs.ao,aA,zr,Tryz.results100];exact⟨bD,by rw[wX];rfl⟩
   refine aM ?_;simp -dsimp only[ai,ne_eq,Nat.reduceEqDiff,reduceCtorEq];have SJ:z=e.args.length:=by simp at h;omega
   subst SJ;rw[List.drop_length]at wX;refine fq ?_;simp -dsimp only[simprocAttr,↓aa,zp,Bs.al,Bs.aw,Bs.ao,aA]
   repeat(refine⟨by omega,?_⟩)
   refine r7 ?_;refine⟨⟨j+1,aN,by simpa using wX⟩,by simp;omega,?_⟩;refine zq rfl ?_ ?_;simp -dsimp only[simprocAttr,↓aa,zp,Bs.al,Bs.aw,Bs.ao,aA,zc]
   ·exact Sub.int (by simp)
   rfl
  refine aM ?_;simp -dsimp only[ai,ne_eq,Nat.reduceEqDiff,reduceCtorEq];have tN:j=t.to.length:=by simp at h;omega
  subst tN;rw[List.drop_length]at lC;refine aH ?_;simp -dsimp only[simprocAttr,↓aa,zp,Bs.al,Bs.aw,Bs.ao,aA];refine av ?_;refine ak ?_;simp -dsimp only[simprocAttr,↓aa,zp,Bs.al,Bs.aw,Bs.ao,aA,zr,Tryz.results100];exact⟨bD,by rw[lC];rfl⟩
def po(ds:Defs)(over:List Bs)(seen:Bs)(k:Nat):Nat->List db->Bool
 | _,[]=>true
 | n,i::r=>i.args.all (oF ds over seen k n)&&po ds over seen k (n+1) r
def Dx(ds:Defs)(over:List Bs)(seen:Bs)(k:Nat)(b:Block):Bool:=po ds over seen k 0 b.ins&&v5 b.term (oF ds over seen k b.ins.length)
def m5(ds:Defs)(over:List Bs)(seen:Bs):Nat->List Block->Bool
 | _,[]=>true
 | k,b::r=>Dx ds over seen k b&&m5 ds over seen (k+1) r
def Bn(f:Func)(ds:Defs):Int:=if m5 ds (yp f).1 (yp f).2 0 f.blocks then 0 else 6
theorem Lx(f:Func)(h0:f.blocks≠[])(h1:f.blocks.length<=128)(he:∀b∈f.blocks,∀e∈b.term.to,0<=e.block∧e.block.toNat<f.blocks.length):(yp f).1.length=f.blocks.length∧(∀s∈(yp f).1,s.fit)∧(yp f).2.fit:=by
 have key:∀(n:Nat) (S:Ds),nU f.blocks.length S->nU f.blocks.length (uZ f n S):=fun n=>by
  induction n with
  | zero=>exact fun S h=>h
  | succ n ih =>
   intro S h;simp only[uZ];split
   ·exact ih _ (yq f.blocks (k:=0) (S:=⟨S.over,S.seen,false⟩) ⟨h.By,h.len,h.fit,h.seen,h.self⟩ he).1
   exact h
 have h:=key 20000 _ (DF h0 h1);exact⟨h.len,h.fit,h.seen⟩
theorem Gs(f:Func)(ds:Defs)(h0:f.blocks≠[])(h1:f.blocks.length<=128)(he:∀b∈f.blocks,∀e∈b.term.to,0<=e.block∧e.block.toNat<f.blocks.length)(tX:BF f.blocks.length ds) :
  aV Tryz.prog 81 [.ip none [aI f.name,bf f.blocks,.im (.int .i64) (ds.map fP)]] (aI (Bn f ds)):=by
 have RN:=tH f h0 h1 he;obtain⟨d1,d2,d3⟩:=Lx f h0 h1 he;obtain⟨R,hR⟩:∃R,R=Bn f ds:=⟨_,rfl⟩
 rw[<-hR];unfold Bn at hR;generalize yp f=D at *;obtain⟨over,seen⟩:=D;simp only at RN d1 d2 d3 hR;have HF:=fT 6 ds;have LW:=fT 3 ds;have Ww:=fT 0 ds;have Oo:∀(k:Nat) (at_:Int) (v:Int),k<f.blocks.length->aY Tryz.prog 98 [.gone,.gone,.gone,.gone,.gone,.cells [aI at_]] (aI v::GX f ds over seen k 5) (fun r O'=>r=.v (.bool (oF ds over seen k at_ v))∧O'=[.gone,.gone,.gone,.gone,.gone,.cells [aI at_]]):=fun k at_ v hk=>by
  refine Fu (O:=[.gone,.gone,.gone,.gone,.gone,.cells [aI at_]]) ?_ rfl (by omega) (by omega) d2 d3 (by rw[d1];exact tX) v;simp[ay.upto,aq,ae.upto]
 refine zf true 0 Tryz.func81 Tryz.ntmps81 ?_;dsimp only[Tmp,TypeId,ax];refine aH ?_;simp -dsimp only[simprocAttr,↓aa,zp,Bs.al,Bs.aw,Bs.ao,aA];refine av ?_;refine aR 1 0 (.ip none [.ip none [aI f.name,bf f.blocks,.im (.int .i64) (ds.map fP)]]) rfl (by simp[ay.aP]) trivial rfl ?_ ?_;rotate_left;simp -dsimp only[simprocAttr,↓aa,zp,Bs.al,Bs.aw,Bs.ao,aA]
 ·refine aH ?_;simp -dsimp only[simprocAttr,↓aa,zp,Bs.al,Bs.aw,Bs.ao,aA];refine .inl ⟨_,RN,by simp only[aq,ae.upto,zt,zu,aL,Bs.aF,Bs.ao],ah ?_⟩;simp -dsimp only[simprocAttr,↓aa,zp,Bs.al,Bs.aw,Bs.ao,aA];refine av ?_;refine aR 3 1 (.ip none [.aC 2 (over.map Bs.enc) .sh]) rfl (by simp[ay.aP]) trivial rfl ?_ ?_;rotate_left;simp -dsimp only[simprocAttr,↓aa,zp,Bs.al,Bs.aw,Bs.ao,aA]
  ·refine aR 4 2 (.ip none [.v (.int .u64 seen.a),.v (.int .u64 seen.b)]) rfl (by simp[ay.aP]) trivial rfl ?_ ?_;rotate_left;simp -dsimp only[simprocAttr,↓aa,zp,Bs.al,Bs.aw,Bs.ao,aA]
   ·refine cg ?_;simp -dsimp only[simprocAttr,↓aa,zp,Bs.al,Bs.aw,Bs.ao,aA];refine av ?_;refine aj (aO (ι:={k:Nat // k<=f.blocks.length∧R=if m5 ds over seen k (f.blocks.drop k)then 0 else 6}) (fun k=>⟨64,[(1,.ip none [.ip none [aI f.name,bf f.blocks,.im (.int .i64) (ds.map fP)]]),(2,aI 0),(3,.ip none [.aC 2 (over.map Bs.enc) .sh]),(4,.ip none [.v (.int .u64 seen.a),.v (.int .u64 seen.b)]),(25,bf f.blocks),(26,aI f.blocks.length),(27,aI k.1)],[.gone,.gone,.gone]⟩) (fun k=>f.blocks.length-k.1) ⟨0,by omega,hR⟩ ?_ ?_)
    ·refine zq rfl ?_ ?_;simp -dsimp only[simprocAttr,↓aa,zp,Bs.al,Bs.aw,Bs.ao,aA,zc];rfl
    rintro⟨k,hk,mv⟩;refine aH ?_;simp -dsimp only[simprocAttr,↓aa,zp,Bs.al,Bs.aw,Bs.ao,aA];refine av ?_;apply gr rfl<;>intro h
    ·refine eH ?_;have aN:k<f.blocks.length:=by simpa using h
     obtain⟨b,hb⟩:∃b,f.blocks[k]?=some b:=⟨f.blocks[k],by simp[aN]⟩
     rw[iT hb]at mv;simp only[m5,Dx]at mv;refine aG (aj ?_);refine aH ?_;simp -dsimp only[simprocAttr,↓aa,zp,Bs.al,Bs.aw,Bs.ao,aA,hb];refine av ?_;refine aR 5 3 (.ip none [aI k]) rfl (by simp[ay.aP]) trivial rfl ?_ ?_;rotate_left;simp -dsimp only[simprocAttr,↓aa,zp,Bs.al,Bs.aw,Bs.ao,aA]
     ·refine aR 6 4 (.ip none [ct b.params,dA b.ins,aI b.term.kind,aI b.term.arg,aI b.term.n,ct b.term.cases,bx b.term.to]) rfl (by simp[ay.aP]) trivial rfl ?_ ?_;rotate_left;simp -dsimp only[simprocAttr,↓aa,zp,Bs.al,Bs.aw,Bs.ao,aA]
      ·refine aH ?_;simp -dsimp only[simprocAttr,↓aa,zp,Bs.al,Bs.aw,Bs.ao,aA];refine av ?_;refine aH ?_;simp -dsimp only[simprocAttr,↓aa,zp,Bs.al,Bs.aw,Bs.ao,aA];refine av ?_;refine cg ?_;simp -dsimp only[simprocAttr,↓aa,zp,Bs.al,Bs.aw,Bs.ao,aA];refine av ?_;refine bT 34 rfl (fun Tc=>?_);simp only[List.length_map]at Tc;refine aj (aO (ι:={x:Nat×Int // x.1<=b.ins.length∧R=if(po ds over seen k x.1 (b.ins.drop x.1)&&v5 b.term (oF ds over seen k b.ins.length))&&m5 ds over seen (k+1) (f.blocks.drop (k+1))then 0 else 6}) (fun x=>⟨64,[(1,.ip none [.ip none [aI f.name,bf f.blocks,.im (.int .i64) (ds.map fP)]]),(2,aI 0),(3,.ip none [.aC 2 (over.map Bs.enc) .sh]),(4,.ip none [.v (.int .u64 seen.a),.v (.int .u64 seen.b)]),(25,bf f.blocks),(26,aI f.blocks.length),(27,aI k),(6,.ip none [ct b.params,dA b.ins,aI b.term.kind,aI b.term.arg,aI b.term.n,ct b.term.cases,bx b.term.to]),(7,.mp 5 0),(8,.fn (.func 98) [] [.ip none [.ip none [aI f.name,bf f.blocks,.im (.int .i64) (ds.map fP)]],.ip none [aI k],.mp 5 0,.ip none [.aC 2 (over.map Bs.enc) .sh],.ip none [.v (.int .u64 seen.a),.v (.int .u64 seen.b)]]),(34,dA b.ins),(35,aI b.ins.length),(36,aI x.1.1)],[.gone,.gone,.gone,.gone,.gone,.cells [aI x.1.2]]⟩) (fun x=>b.ins.length-x.1.1) ⟨(0,0),by simp,mv⟩ ?_ ?_)
       ·refine zq rfl ?_ ?_;simp -dsimp only[simprocAttr,↓aa,zp,Bs.al,Bs.aw,Bs.ao,aA,zc];rfl
       rintro⟨⟨j,z⟩,hj,lC⟩;simp only at hj lC;refine aH ?_;simp -dsimp only[simprocAttr,↓aa,zp,Bs.al,Bs.aw,Bs.ao,aA];refine av ?_;apply gr rfl<;>intro h
       ·refine eH ?_;have Ox:j<b.ins.length:=by simpa using h
        obtain⟨i,hi⟩:∃i,b.ins[j]?=some i:=⟨b.ins[j],by simp[Ox]⟩
        rw[iT hi]at lC;simp only[po]at lC;refine aG (aj ?_);refine aH ?_;simp -dsimp only[simprocAttr,↓aa,zp,Bs.al,Bs.aw,Bs.ao,aA,hi];refine av ?_;refine aR 10 6 (.ip none [aI i.to,aI i.op,aI i.n,ct i.args]) rfl (by simp[ay.aP]) trivial rfl ?_ ?_;rotate_left;simp -dsimp only[simprocAttr,↓aa,zp,Bs.al,Bs.aw,Bs.ao,aA]
        ·refine ba 6 [(1,.ip none [.ip none [aI f.name,bf f.blocks,.im (.int .i64) (ds.map fP)]]),(2,aI 0),(3,.ip none [.aC 2 (over.map Bs.enc) .sh]),(4,.ip none [.v (.int .u64 seen.a),.v (.int .u64 seen.b)]),(25,bf f.blocks),(26,aI f.blocks.length),(27,aI k),(6,.ip none [ct b.params,dA b.ins,aI b.term.kind,aI b.term.arg,aI b.term.n,ct b.term.cases,bx b.term.to]),(7,.mp 5 0),(8,.fn (.func 98) [] [.ip none [.ip none [aI f.name,bf f.blocks,.im (.int .i64) (ds.map fP)]],.ip none [aI k],.mp 5 0,.ip none [.aC 2 (over.map Bs.enc) .sh],.ip none [.v (.int .u64 seen.a),.v (.int .u64 seen.b)]]),(34,dA b.ins),(35,aI b.ins.length),(36,aI j),(9,aI j),(10,.ip none [aI i.to,aI i.op,aI i.n,ct i.args])] (by simp) (by omega) [.gone,.gone,.gone,.gone,.gone,.cells [aI z]] ?_ ?_ ?_ ?_ ?_
         ·rfl
         ·simp[ay.upto,aq,ae.upto,aL,Block.an,Edge.an,db.an,iJ,HF,LW]
         ·simp[dy,St.get,cq,bL,Go.Av.look,Sub.refl]
         ·simp[ay.upto,aq,ae.upto,aL,Block.an,Edge.an,db.an,iJ,HF,LW]
         refine aH ?_;simp -dsimp only[simprocAttr,↓aa,zp,Bs.al,Bs.aw,Bs.ao,aA];refine av ?_;refine aH ?_;simp -dsimp only[simprocAttr,↓aa,zp,Bs.al,Bs.aw,Bs.ao,aA];refine av ?_;refine bT 43 rfl (fun mT=>?_);simp only[List.length_map]at mT;refine aj (aO (ι:={y:Nat // y<=i.args.length∧R=if(((i.args.drop y).all (oF ds over seen k j)&&po ds over seen k (j+1) (b.ins.drop (j+1)))&&v5 b.term (oF ds over seen k b.ins.length))&&m5 ds over seen (k+1) (f.blocks.drop (k+1))then 0 else 6}) (fun y=>⟨64,[(1,.ip none [.ip none [aI f.name,bf f.blocks,.im (.int .i64) (ds.map fP)]]),(2,aI 0),(3,.ip none [.aC 2 (over.map Bs.enc) .sh]),(4,.ip none [.v (.int .u64 seen.a),.v (.int .u64 seen.b)]),(25,bf f.blocks),(26,aI f.blocks.length),(27,aI k),(6,.ip none [ct b.params,dA b.ins,aI b.term.kind,aI b.term.arg,aI b.term.n,ct b.term.cases,bx b.term.to]),(7,.mp 5 0),(8,.fn (.func 98) [] [.ip none [.ip none [aI f.name,bf f.blocks,.im (.int .i64) (ds.map fP)]],.ip none [aI k],.mp 5 0,.ip none [.aC 2 (over.map Bs.enc) .sh],.ip none [.v (.int .u64 seen.a),.v (.int .u64 seen.b)]]),(34,dA b.ins),(35,aI b.ins.length),(36,aI j),(43,ct i.args),(44,aI i.args.length),(45,aI y.1)],[.gone,.gone,.gone,.gone,.gone,.cells [aI j]]⟩) (fun y=>i.args.length-y.1) ⟨0,by omega,lC⟩ ?_ ?_)
         ·refine zq rfl ?_ ?_;simp -dsimp only[simprocAttr,↓aa,zp,Bs.al,Bs.aw,Bs.ao,aA,zc];rfl
         rintro⟨y,hy,P7⟩;refine aH ?_;simp -dsimp only[simprocAttr,↓aa,zp,Bs.al,Bs.aw,Bs.ao,aA];refine av ?_;apply gr rfl<;>intro h
         ·refine eH ?_;have VM:y<i.args.length:=by simpa using h
          obtain⟨v,hv⟩:∃v,i.args[y]?=some v:=⟨i.args[y],by simp[VM]⟩
          rw[uq hv]at P7;have Wz:=Oo k j v aN;refine aG (aj ?_);refine aH ?_;simp -dsimp only[simprocAttr,↓aa,zp,Bs.al,Bs.aw,Bs.ao,aA,hv];refine av ?_;refine aH ?_;simp -dsimp only[simprocAttr,↓aa,zp,Bs.al,Bs.aw,Bs.ao,aA];refine .inr (.inr ⟨_,Wz,ah ?_⟩);simp -dsimp only[simprocAttr,↓aa,zp,Bs.al,Bs.aw,Bs.ao,aA];refine av ?_;cases yC:oF ds over seen k j v with
          | true =>
           rw[yC,Bool.true_and]at P7;refine cB rfl ?_;refine pV ?_;refine fq ?_;simp -dsimp only[simprocAttr,↓aa,zp,Bs.al,Bs.aw,Bs.ao,aA]
           repeat(refine⟨by omega,?_⟩)
           refine r7 ?_;refine⟨⟨y+1,VM,P7⟩,by simp;omega,?_⟩;refine zq rfl ?_ ?_;simp -dsimp only[simprocAttr,↓aa,zp,Bs.al,Bs.aw,Bs.ao,aA,zc]
           ·exact Sub.int (by simp)
           rfl
          | false =>
           rw[yC]at P7;refine de rfl ?_;refine aH ?_;simp -dsimp only[simprocAttr,↓aa,zp,Bs.al,Bs.aw,Bs.ao,aA];refine av ?_;refine ak ?_;simp -dsimp only[simprocAttr,↓aa,zp,Bs.al,Bs.aw,Bs.ao,aA,zr,Tryz.results81];rw[P7];simp
         refine aM ?_;simp -dsimp only[ai,ne_eq,Nat.reduceEqDiff,reduceCtorEq];have Xh:y=i.args.length:=by simp at h;omega
         subst Xh;rw[List.drop_length]at P7;refine fq ?_;simp -dsimp only[simprocAttr,↓aa,zp,Bs.al,Bs.aw,Bs.ao,aA]
         repeat(refine⟨by omega,?_⟩)
         refine r7 ?_;refine⟨⟨(j+1,j),Ox,by simpa using P7⟩,by simp;omega,?_⟩;refine zq rfl ?_ ?_;simp -dsimp only[simprocAttr,↓aa,zp,Bs.al,Bs.aw,Bs.ao,aA,zc]
         ·exact Sub.int (by simp)
         rfl
        exact da.mp rfl rfl
       refine aM ?_;simp -dsimp only[ai,ne_eq,Nat.reduceEqDiff,reduceCtorEq];have tN:j=b.ins.length:=by simp at h;omega
       subst tN;rw[List.drop_length]at lC;simp only[po,Bool.true_and]at lC;have Tk:=Gr (O:=[.gone,.gone,.gone,.gone,.gone,.cells [aI b.ins.length]]) (by simp[ay.upto,aq,ae.upto]) 98 (GX f ds over seen k 5) (by simp[ay.upto,aq,ae.upto,aL,Block.an,iJ,HF]) (oF ds over seen k b.ins.length) (fun v=>Oo k b.ins.length v aN) b.term;refine aH ?_;simp -dsimp only[simprocAttr,↓aa,zp,Bs.al,Bs.aw,Bs.ao,aA];refine av ?_;refine aH ?_;simp -dsimp only[simprocAttr,↓aa,zp,Bs.al,Bs.aw,Bs.ao,aA];refine .inr (.inr ⟨_,Tk,ah ?_⟩);simp -dsimp only[simprocAttr,↓aa,zp,Bs.al,Bs.aw,Bs.ao,aA];refine av ?_;cases yC:v5 b.term (oF ds over seen k b.ins.length)with
       | true =>
        rw[yC,Bool.true_and]at lC;refine cB rfl ?_;refine pV ?_;refine ba 3 [(1,.ip none [.ip none [aI f.name,bf f.blocks,.im (.int .i64) (ds.map fP)]]),(2,aI 0),(3,.ip none [.aC 2 (over.map Bs.enc) .sh]),(4,.ip none [.v (.int .u64 seen.a),.v (.int .u64 seen.b)]),(25,bf f.blocks),(26,aI f.blocks.length),(27,aI k)] (by simp) (by omega) [.gone,.gone,.gone] ?_ ?_ ?_ ?_ ?_
        ·rfl
        ·simp[ay.upto,aq,ae.upto,aL,Block.an,Edge.an,db.an,iJ,HF,LW]
        ·simp[dy,St.get,cq,bL,Go.Av.look,Sub.refl]
        ·simp[ay.upto,aq,ae.upto,aL,Block.an,Edge.an,db.an,iJ,HF,LW]
        refine fq ?_;simp -dsimp only[simprocAttr,↓aa,zp,Bs.al,Bs.aw,Bs.ao,aA]
        repeat(refine⟨by omega,?_⟩)
        refine r7 ?_;refine⟨⟨k+1,aN,lC⟩,by simp;omega,?_⟩;refine zq rfl ?_ ?_;simp -dsimp only[simprocAttr,↓aa,zp,Bs.al,Bs.aw,Bs.ao,aA,zc]
        ·exact Sub.int (by simp)
        rfl
       | false =>
        rw[yC]at lC;refine de rfl ?_;refine aH ?_;simp -dsimp only[simprocAttr,↓aa,zp,Bs.al,Bs.aw,Bs.ao,aA];refine av ?_;refine ak ?_;simp -dsimp only[simprocAttr,↓aa,zp,Bs.al,Bs.aw,Bs.ao,aA,zr,Tryz.results81];rw[lC];simp
      exact da.mp rfl rfl
     exact da.mp rfl rfl
    refine aM ?_;simp -dsimp only[ai,ne_eq,Nat.reduceEqDiff,reduceCtorEq];have gg:k=f.blocks.length:=by simp at h;omega
    subst gg;rw[List.drop_length]at mv;refine aH ?_;simp -dsimp only[simprocAttr,↓aa,zp,Bs.al,Bs.aw,Bs.ao,aA];refine av ?_;refine ak ?_;simp -dsimp only[simprocAttr,↓aa,zp,Bs.al,Bs.aw,Bs.ao,aA,zr,Tryz.results81];simp[mv,m5]
   exact da.mp rfl rfl
  exact da.mp rfl rfl
 exact da.mp rfl rfl
end Go.Proofs.YtkkookchlddbkaaGreat
namespace Go.Av
theorem oA{P:Program}{ops all:Array Oper}{k:Nat}(hk:∀i o,ops[i]?=some o->all[k+i]?=some o)(hg:∀o∈all.toList,o.guard=none):∀{l:List (Nat×Kind)} {σ τ:St},iG P ops l σ τ->iG P all (l.map fun p=>(k+p.1,p.2)) σ τ
 | [],_,_,h=>h
 | (i,q)::r,_,_,h=>by
  obtain⟨ji,⟨o,ho,h1⟩,h2⟩:=h;refine⟨ji,⟨o,hk i o ho,?_⟩,oA hk hg h2⟩;have kY:=hk i o ho;have zH:o.guard=none:=hg o (by
   rw[<-Array.getElem?_toList]at kY;exact List.mem_of_getElem? kY)
  have w1:∀(a:Array Oper) (σ:St),eA a o σ=some true:=fun a σ=>by simp[eA,zH]
  rcases h1 with⟨_,h1⟩|⟨h1,_⟩
  ·exact .inl ⟨w1 _ _,h1⟩
  rw[w1]at h1;cases h1
def Oc(P:Program)(aS:fM)(md:Md)(o:Oper)(l2:List Oper)(Q:dw->St->Prop)(τ:St):Prop:=∃x m,Cert P o τ x m∧dh P aS md l2 0 [] ⟨τ.n,tR o.dst x τ.bC,m.post τ.objs⟩ [] fun ρ _=>At ρ (Q .norm)
theorem BT{P:Program}{kb:Nat}{aS:fM}(md:Md)(hT:cG P aS){id:Nat}{l l1 l2:List Oper}{o:Oper}{Q:dw->St->Prop}{σ:St}(k:Nat)(h1:l.take k=l1)(h2:l[k]?=some o)(h3:l.drop (k+1)=l2)(hg:∀o∈l,o.guard=none)
  (h:dh P aS md l1 0 [] σ [] fun τ _=>Oc P aS md o l2 Q τ):cy P kb (.region id l.toArray false) Q σ:=by
 have aN:=ag h2;obtain⟨τ,Lg,c1,n1,x,m,hc,h⟩:=ij (all:=l1.toArray) hT l1 0 [] σ [] (fun j=>by simp) (fun j t hj=>by simp[ly]at hj) h;obtain⟨ρ,To,c2,n2,hQ⟩:=ij (all:=l2.toArray) hT l2 0 [] _ [] (fun j=>by simp) (fun j t hj=>by simp[ly]at hj) h;intro base a g hb hr;have zH:o.guard=none:=hg o (List.mem_of_getElem? h2);have Xm:l1.length=k:=by rw[<-h1,List.length_take];omega
 have X8:l2.length=l.length-(k+1):=by rw[<-h3,List.length_drop]
 have d1:=oA (all:=l.toArray) (k:=0) (fun i o' hi=>by
  have lS:l1[i]?=some o':=by simpa using hi
  have:=ag lS;rw[<-h1,List.getElem?_take]at lS;split at lS
  ·simpa using lS
  cases lS) (by simpa using hg) c1
 have d2:=oA (all:=l.toArray) (k:=k+1) (fun i o' hi=>by
  have lS:l2[i]?=some o':=by simpa using hi
  rw[<-h3,List.getElem?_drop]at lS;simpa using lS) (by simpa using hg) c2
 have dm:iG P l.toArray [(k,m.kind)] τ ⟨τ.n,tR o.dst x τ.bC,m.post τ.objs⟩:=⟨_,⟨o,by simpa using h2,.inl ⟨by simp[eA,zH],x,m,hc,rfl,rfl⟩⟩,jg.refl _⟩
 have sb:=nd d1 (nd dm d2);obtain⟨ks,DM⟩:∃ks,ks=Lg++m.kind::To:=⟨_,rfl⟩
 have e:(List.range l.toArray.size).map (fun i=>(i,ks.getD i .write))=(List.map (fun p=>(0+p.1,p.2)) (List.map (fun p=>(p.2,p.1)) (Lg.zipIdx 0))++([(k,m.kind)]++List.map (fun p=>(k+1+p.1,p.2)) (List.map (fun p=>(p.2,p.1)) (To.zipIdx 0)))):=by
  have dk:l.toArray.size=ks.length:=by
   rw[DM];simp only[List.size_toArray,List.length_append,List.length_cons];omega
  rw[dk];apply List.ext_getElem?;intro i;rw[DM];simp only[List.getElem?_map];by_cases q1:i<Lg.length
  ·rw[List.getElem?_append_left (by simpa using q1),List.getElem?_range (by simp;omega)];simp[q1,List.getElem?_append_left]
  rw[List.getElem?_append_right (by simp;omega)];simp only[List.length_map,List.length_zipIdx];by_cases q2:i=Lg.length
  ·subst q2;rw[List.getElem?_range (by simp)];simp[n1,Xm]
  rw[List.getElem?_append_right (by simp;omega)];obtain⟨j,hj⟩:∃j,i=Lg.length+1+j:=⟨i-Lg.length-1,by omega⟩
  subst hj;simp only[List.length_cons,List.length_nil,show Lg.length+1+j-Lg.length-(0+1)=j by omega,List.getElem?_map,List.getElem?_zipIdx];by_cases q3:j<To.length
  ·rw[List.getElem?_range (by simp;omega)];simp only[Option.map_some,List.getElem?_eq_getElem q3,Option.some.injEq,Prod.mk.injEq];refine⟨by omega,?_⟩;rw[List.getD_eq_getElem?_getD,List.getElem?_append_right (by omega),show Lg.length+1+j-Lg.length=j+1 by omega,List.getElem?_cons_succ,List.getElem?_eq_getElem q3];rfl
  rw[List.getElem?_eq_none (l:=List.range _) (by simp;omega),List.getElem?_eq_none (l:=To) (by omega)];rfl
 rw[<-e]at sb;exact pU sb hr fun a g xy=>⟨g,ρ,rfl,xy,hQ⟩
theorem ye{P:Program}{o:Oper}{σ:St}{t t':TypeId}{x y:Operand}{k:IntKind}{m n:Int}
  (ho:o.op=.binOp .add t x y t') (hd:∀d,o.dst=some d->d<σ.n) (hx:σ.ev x=some (.v (.int k m))) (hy:σ.ev y=some (.v (.int k n))) :
  Cert P o σ (.v (.int k (k.wrap (m+n)))) .pure :=
 Cert.bZ .pure (.inl rfl) hd fun a g _ h _=>by
  have ex:=(h x (by simp[ho,Op.operands]) _ hx).cL.1;have ey:=(h y (by simp[ho,Op.operands]) _ hy).cL.1;have hg:=c8 (P:=P) .add t x y (.int k m) (.int k n) g.w (by simp) (by simp);refine⟨.int k (k.wrap (m+n)),?_,.v (wrap_within k _)⟩;have hb:(binOp .add t (.int k m) (.int k n)).run P g.w=.ok (.int k (k.wrap (m+n))) g.w:=by
   simp[binOp,Op.intArith]
  simp[execOp,ho,ex,ey,hg,hb]
theorem FZ{P:Program}{aS:fM}{md:Md}{o:Oper}{l2:List Oper}{Q:dw->St->Prop}{τ:St}{t t':TypeId}{x y:Operand}{k:IntKind}{m n:Int}{d:Nat}
  (ho:o.op=.binOp .add t x y t') (mj:o.dst=some d) (hd:d<τ.n) (hx:τ.ev x=some (.v (.int k m))) (hy:τ.ev y=some (.v (.int k n)))
  (h:dh P aS md l2 0 [] ⟨τ.n,tR o.dst (.v (.int k (k.wrap (m+n)))) τ.bC,τ.objs⟩ [] fun ρ _=>At ρ (Q .norm)):Oc P aS md o l2 Q τ :=
 ⟨_,.pure,ye ho (fun d' e=>by rw[mj]at e;cases e;exact hd) hx hy,h⟩
end Go.Av
namespace Go.Proofs.YtkkookchlddbkaaGreat
open Go.Av
theorem CR(ds:Defs)(k v:Int)(p:Int×Int):kv (ds++[(k,p)]) v=match kv ds v with|some q=>some q|none=>if k=v then some p else none:=by
 induction ds with
 | nil=>rfl
 | cons e r ih =>
  obtain⟨a,q⟩:=e;simp only[List.cons_append,kv];split
  ·rfl
  exact ih
structure lH(n:Nat)(ds:Defs):Prop where
 ok:BF n ds
 nodup:(ds.map (·.1)).Nodup
 range:∀e∈ds,0<=e.1∧e.1<=4095
theorem CQ{ds:Defs}{v:Int}(h:kv ds v=none):∀e∈ds,e.1≠v:=by
 induction ds with
 | nil=>simp
 | cons e r ih =>
  obtain⟨a,q⟩:=e;simp only[kv]at h;split at h
  ·cases h
  rename_i cA;intro e he;rcases List.mem_cons.1 he with q|q
  ·subst q;exact cA
  exact ih h e q
theorem oS:∀(n:Nat) (l:List Nat),l.Nodup->(∀x∈l,x<n)->l.length<=n
 | 0,l,_,h=>by
  cases l with
  | nil=>simp
  | cons a r=>exact absurd (h a (by simp)) (by omega)
 | n+1,l,hn,h=>by
  by_cases hm:n∈l
  ·have:=oS n (l.erase n) (hn.erase n) (fun x hx=>by
    have h1:=(List.Nodup.mem_erase_iff hn).1 hx;have h2:=h x h1.2;have h3:=h1.1;omega)
   rw[List.length_erase_of_mem hm]at this;omega
  have:=oS n l hn (fun x hx=>by
   have h2:=h x hx;have:x≠n:=fun e=>hm (e ▸ hx);omega)
  omega
theorem lH.By{n:Nat}{ds:Defs}(h:lH n ds):ds.length<=4096:=by
 have h1:(ds.map fun e=>e.1.toNat).Nodup:=by
  have h0:=h.nodup;have hr:=h.range;clear h;induction ds with
  | nil=>simp
  | cons e r ih =>
   simp only[List.map_cons,List.nodup_cons,List.mem_map,not_exists,not_and]at h0 ⊢;refine⟨fun x hx q=>h0.1 x hx ?_,ih h0.2 (fun e he=>hr e (by simp[he]))⟩;have a:=hr e (by simp);have b:=hr x (by simp[hx]);omega
 have:=oS 4096 _ h1 (fun x hx=>by
  obtain⟨e,he,rfl⟩:=List.mem_map.1 hx;have:=h.range e he;omega)
 simpa using this
theorem uY{n:Nat}{ds:Defs}(h:lH n ds)(v:Int){p:Int×Int}(h0:0<=p.1)(h1:p.1.toNat<n):lH n (fi ds v p).2∧((fi ds v p).1=0->(fi ds v p).2.length=ds.length+1):=by
 unfold fi;split
 ·exact⟨h,fun q=>by simp at q⟩
 rename_i hw;split
 ·exact⟨h,fun q=>by simp at q⟩
 rename_i hl;have rB:kv ds v=none:=by simpa using hl
 have xA:0<=v∧v<=4095:=by simpa[within]using hw
 refine⟨⟨fun w q hq=>?_,?_,fun e he=>?_⟩,fun _=>by simp⟩
 ·rw[CR]at hq;cases hd:kv ds w with
  | some q' =>
   rw[hd]at hq;simp only[Option.some.injEq]at hq;exact hq ▸ h.ok w q' hd
  | none =>
   rw[hd]at hq;simp only at hq;split at hq
   ·simp only[Option.some.injEq]at hq;exact hq ▸ ⟨h0,h1⟩
   cases hq
 ·rw[List.map_append,List.map_cons,List.map_nil,List.nodup_append];refine⟨h.nodup,by simp,fun a ha b hb=>?_⟩;obtain⟨e,he,rfl⟩:=List.mem_map.1 ha;simp only[List.mem_singleton]at hb;subst hb;exact CQ rB e he
 rcases List.mem_append.1 he with q|q
 ·exact h.range e q
 simp only[List.mem_singleton]at q;subst q;exact xA
theorem vF{n:Nat}{k:Int}(h0:0<=k)(h1:k.toNat<n):∀(l:List Int) (ds:Defs),lH n ds->lH n (gn k ds l).2∧((gn k ds l).1=0->(gn k ds l).2.length=ds.length+l.length)
 | [],ds,h=>⟨h,fun _=>by simp[gn]⟩
 | p::r,ds,h=>by
  have hd:=uY h p (p:=(k,0)) h0 h1;simp only[gn];split
  ·rename_i cA;exact⟨hd.1,fun q=>absurd q cA⟩
  rename_i he;have ih:=vF h0 h1 r _ hd.1;refine⟨ih.1,fun q=>?_⟩;rw[ih.2 q,hd.2 (by simpa using he)];simp only[List.length_cons];omega
theorem DZ{n:Nat}{k:Int}(h0:0<=k)(h1:k.toNat<n):∀(l:List db) (j:Int) (ds:Defs),lH n ds->lH n (su k j ds l).2∧((su k j ds l).1=0->(su k j ds l).2.length=ds.length+l.length∧∀i∈l,rm i=0)
 | [],j,ds,h=>⟨h,fun _=>by simp[su]⟩
 | i::r,j,ds,h=>by
  have hd:=uY h i.to (p:=(k,j+1)) h0 h1;simp only[su];split
  ·rename_i cA;exact⟨hd.1,fun q=>absurd q cA⟩
  rename_i he;split
  ·rename_i hf;exact⟨hd.1,fun q=>absurd q hf⟩
  rename_i hf;have ih:=DZ h0 h1 r (j+1) _ hd.1;refine⟨ih.1,fun q=>?_⟩;obtain⟨a,b⟩:=ih.2 q;refine⟨?_,fun x hx=>?_⟩
  ·rw[a,hd.2 (by simpa using he)];simp only[List.length_cons];omega
  rcases List.mem_cons.1 hx with e|e
  ·subst e;simpa using hf
  exact b x e
structure Lj(f:Func)(b:Block):Prop where
 Og:∀i∈b.ins,rm i=0
 fin:Am f b.term=0
 By:b.params.length+b.ins.length<=4096
theorem E9{f:Func}{ds:Defs}{k:Int}(h:lH f.blocks.length ds)(h0:0<=k)(h1:k.toNat<f.blocks.length):lH f.blocks.length (jK f ds k).2∧((jK f ds k).1=0->Lj f (bU f k)):=by
 have hp:=vF h0 h1 (bU f k).params ds h;have hi:=DZ h0 h1 (bU f k).ins 0 _ hp.1;unfold jK;split
 ·rename_i cA;exact⟨hp.1,fun q=>absurd q cA⟩
 rename_i DO;split
 ·rename_i cA;exact⟨hi.1,fun q=>absurd q cA⟩
 rename_i WE;refine⟨hi.1,fun q=>?_⟩;have a:=hp.2 (by simpa using DO);have b:=hi.2 (by simpa using WE);have c:=hi.1.By;exact⟨b.2,q,by rw[b.1,a]at c;omega⟩
theorem rf{f:Func}{t:Term}(h:Am f t=0):gJ t=true∧t.cases.length<=256∧(t.kind=4->1<=t.n∧t.n<=6)∧∀e∈t.to,(1<=e.block∧e.block<=(f.blocks.length:Int)-1)∧e.args.length=(bU f e.block).params.length:=by
 unfold Am at h;split at h
 ·simp at h
 rename_i hs;split at h
 ·simp at h
 rename_i hc;split at h
 ·simp at h
 rename_i hk;split at h
 ·rename_i cA;exact absurd h cA
 refine⟨by simpa using hs,by omega,fun k4=>?_,?_⟩
 ·by_cases hw:within t.n 1 6=false
  ·exact absurd ⟨k4,hw⟩ hk
  simpa[within]using hw
 generalize t.to=l at h;induction l with
 | nil=>simp
 | cons e r ih =>
  simp only[qh]at h;split at h
  ·simp at h
  rename_i h1;split at h
  ·simp at h
  rename_i h2;intro x hx;rcases List.mem_cons.1 hx with q|q
  ·subst q;exact⟨by simpa[within]using h1,by simpa using h2⟩
  exact ih h x q
def xd:Int->List Block->Int
 | m,[]=>m
 | m,b::r=>xd (IntKind.i64.wrap (m+b.ins.length)) r
def gL(f:Func):Nat->Int->Defs->Int×Defs
 | 0,_,ds=>(0,ds)
 | n+1,k,ds=>if(jK f ds k).1≠0 then jK f ds k else gL f n (k+1) (jK f ds k).2
def g6(f:Func):Int :=
 if f.blocks.length=0 then 3
 else if 128<f.blocks.length∨1024<xd 0 f.blocks∨6<(bU f 0).params.length then 2
 else if within f.name (-1) 1048575=false then 4
 else if(gL f f.blocks.length 0 []).1≠0 then(gL f f.blocks.length 0 []).1
 else Bn f (gL f f.blocks.length 0 []).2
theorem qa{f:Func}:∀(n:Nat) (k:Int) (ds:Defs),lH f.blocks.length ds->0<=k->k.toNat+n<=f.blocks.length->(gL f n k ds).1=0->lH f.blocks.length (gL f n k ds).2∧∀j:Nat,j<n->Lj f (bU f (k+j))
 | 0,k,ds,h,_,_,_=>⟨h,fun j hj=>absurd hj (by omega)⟩
 | n+1,k,ds,h,h0,h1,he=>by
  have hb:=E9 (k:=k) h h0 (by omega);simp only[gL]at he ⊢;split at he
  ·rename_i cA;exact absurd he cA
  rename_i cA;rw[if_neg cA];have ih:=qa n (k+1) _ hb.1 (by omega) (by omega) he;refine⟨ih.1,fun j hj=>?_⟩;cases j with
  | zero=>simpa using hb.2 (by simpa using cA)
  | succ j =>
   have:=ih.2 j (by omega)
   rwa [show k+((j+1:Nat):Int)=k+1+(j:Int) by omega]
theorem lH.nil(n:Nat):lH n []:=⟨fun v p h=>(by cases h),by simp,by simp⟩
theorem FY{f:Func}{b:Block}(h:b∈f.blocks):∃j:Nat,j<f.blocks.length∧b=bU f (j:Int):=by
 obtain⟨j,hj,rfl⟩:=List.getElem_of_mem h;exact⟨j,hj,by simp[bU,hj]⟩
theorem sV{f:Func}(he:(gL f f.blocks.length 0 []).1=0):∀b∈f.blocks,Lj f b:=fun b hb=>by
 obtain⟨j,hj,rfl⟩:=FY hb;have:=(qa f.blocks.length 0 [] (.nil _) (by omega) (by simp) he).2 j hj;simpa using this
theorem uU(f:Func)(iA:f.fit):aV Tryz.prog 46 [f.enc] (aI (g6 f)):=by
 have hw:=eh f.name (-1) 1048575;have T8:f.blocks.length<=2 ^ 47:=iA.2.1;obtain⟨R,hR⟩:∃R,R=g6 f:=⟨_,rfl⟩
 rw[<-hR];unfold g6 at hR;refine zf true 0 Tryz.func46 Tryz.ntmps46 ?_;dsimp only[Tmp,TypeId,ax];refine aB (av ?_);refine aR 1 0 (.ip none [aI f.name,bf f.blocks]) rfl (by simp[ay.aP]) trivial rfl ?_ ?_;rotate_left;simp -dsimp only[simprocAttr,↓aa,zp]
 ·refine aB (av ?_);refine cj (av ?_);refine aj (aO (ι:={x:Nat×Int // x.1<=f.blocks.length∧xd 0 f.blocks=xd x.2 (f.blocks.drop x.1)}) (fun x=>⟨69,[(1,.ip none [aI f.name,bf f.blocks]),(2,aI 0),(3,aI x.1.2),(10,bf f.blocks),(11,aI f.blocks.length),(12,aI x.1.1)],[.gone]⟩) (fun x=>f.blocks.length-x.1.1) ⟨(0,0),by simp,rfl⟩ ?_ ?_)
  ·refine zq rfl ?_ ?_;simp -dsimp only[simprocAttr,↓aa,zp,zc];rfl
  rintro⟨⟨k,m⟩,hk,mv⟩;simp only at hk mv;refine aB (av ?_);apply gr rfl<;>intro h
  ·refine eH ?_;have aN:k<f.blocks.length:=by simpa using h
   obtain⟨b,hb⟩:∃b,f.blocks[k]?=some b:=⟨f.blocks[k],by simp[aN]⟩
   rw[iT hb]at mv;simp only[xd]at mv;refine aG (aj ?_);refine aH ?_;simp -dsimp only[simprocAttr,↓aa,zp,hb];refine av ?_;refine aR 5 1 (.ip none [ct b.params,dA b.ins,aI b.term.kind,aI b.term.arg,aI b.term.n,ct b.term.cases,bx b.term.to]) rfl (by simp[ay.aP]) trivial rfl ?_ ?_;rotate_left;simp -dsimp only[simprocAttr,↓aa,zp]
   ·refine BT ⟨false,false⟩ hT 4 rfl rfl rfl (by simp) ?_;simp -dsimp only[simprocAttr,↓aa,zp];refine FZ rfl rfl (by simp) rfl rfl ?_;simp -dsimp only[simprocAttr,↓aa,zp];refine av ?_;refine ba 1 [(1,.ip none [aI f.name,bf f.blocks]),(2,aI 0),(3,aI (IntKind.i64.wrap (m+b.ins.length))),(10,bf f.blocks),(11,aI f.blocks.length),(12,aI k)] (by simp) (by omega) [.gone] ?_ ?_ ?_ ?_ ?_
    ·rfl
    ·simp[ay.upto,aq,ae.upto,aL,Block.an]
    ·simp[dy,St.get,cq,bL,Go.Av.look,Sub.refl]
    ·simp[ay.upto,aq,ae.upto,aL,Block.an]
    refine du ?_
    repeat(refine⟨by omega,?_⟩)
    refine r7 ?_;refine⟨⟨(k+1,IntKind.i64.wrap (m+b.ins.length)),by simp only;omega,mv⟩,by simp;omega,?_⟩;refine zq rfl ?_ ?_;simp -dsimp only[simprocAttr,↓aa,zp,zc]
    ·exact Sub.int (by simp)
    rfl
   exact da.mp rfl rfl
  refine aM ?_;simp -dsimp only[ai,ne_eq,Nat.reduceEqDiff,reduceCtorEq];have gg:k=f.blocks.length:=by simp at h;omega
  subst gg;rw[List.drop_length]at mv;simp only[xd]at mv;rw[mv]at hR;refine aG (aj ?_);refine aB (av ?_);apply aQ rfl<;>intro h
  ·have hl:f.blocks.length=0:=by simpa using h
   rw[if_pos hl]at hR;refine aB (av ?_);refine ak ?_;simp -dsimp only[simprocAttr,↓aa,zp,zr,Tryz.results46];rw[hR]
  have hl:¬f.blocks.length=0:=by simpa using h
  rw[if_neg hl]at hR;have hB:f.blocks[0]?=some (bU f 0):=gx (f:=f) (k:=0) (by omega) (by omega);generalize bU f 0=B at *;refine m6 (⟨69,[(1,.ip none [aI f.name,bf f.blocks]),(2,aI 0),(27,.v (.bool (decide ((128:Int)<f.blocks.length) ||decide ((1024:Int)<m) ||decide ((6:Int)<B.params.length))))],[.gone]⟩) ?_ ?_
  ·cases hA:decide ((128:Int)<f.blocks.length)<;>cases TN:decide ((1024:Int)<m)<;>cases hC:decide ((6:Int)<B.params.length)
   all_goals
    refine m7 hT hm ?_;simp -dsimp only[simprocAttr,↓aa,zp,hA,TN,hC,hB];refine I ?_;show bn _ _;refine zq rfl ?_ ?_;simp -dsimp only[simprocAttr,↓aa,zp,zc]
    ·exact Sub.refl _
    rfl
  by_cases LN:128<f.blocks.length∨1024<m∨6<B.params.length
  ·rw[if_pos LN]at hR;have hd:(decide ((128:Int)<f.blocks.length) ||decide ((1024:Int)<m) ||decide ((6:Int)<B.params.length))=true:=by
    simp only[Bool.or_eq_true,decide_eq_true_eq];omega
   rw[hd];refine de rfl ?_;refine aB (av ?_);refine ak ?_;simp -dsimp only[simprocAttr,↓aa,zp,zr,Tryz.results46];rw[hR]
  rw[if_neg LN]at hR;have hd:(decide ((128:Int)<f.blocks.length) ||decide ((1024:Int)<m) ||decide ((6:Int)<B.params.length))=false:=by
   simp only[Bool.or_eq_false_iff,decide_eq_false_iff_not];omega
  rw[hd];have RX:f.blocks.length<=128:=by omega
  have cA:f.blocks≠[]:=fun e=>hl (by rw[e];rfl);cases hn:within f.name (-1) 1048575 with
  | false =>
   rw[if_pos hn]at hR;rw[hn]at hw;refine cB rfl ?_;refine aB ?_;refine .inl ⟨_,hw,by simp only[aq,ae.upto,zt,zu,aL,fT],ah ?_⟩;simp -dsimp only[simprocAttr,↓aa,zp];refine av ?_;refine de rfl ?_;refine aB (av ?_);refine ak ?_;simp -dsimp only[simprocAttr,↓aa,zp,zr,Tryz.results46];rw[hR]
  | true =>
   rw[if_neg (by simp[hn])]at hR;rw[hn]at hw;apply aQ rfl<;>intro h
   ·cases h
   refine aB ?_;refine .inl ⟨_,hw,by simp only[aq,ae.upto,zt,zu,aL,fT],ah ?_⟩;simp -dsimp only[simprocAttr,↓aa,zp];refine av ?_;apply aQ rfl<;>intro h
   ·cases h
   refine pV ?_;refine aB (av ?_);refine cj (av ?_);have yE:∀(ds:Defs) (k:Nat),k<f.blocks.length->aY Tryz.prog 80 [.gone,.map (.int .i64) (ds.map fP),.cells [aI f.name,bf f.blocks,.mm 1]] [.mp 2 0,aI k] (fun r O'=>r=aI (jK f ds k).1∧O'=[.gone,.map (.int .i64) ((jK f ds k).2.map fP),.cells [aI f.name,bf f.blocks,.mm 1]]):=fun ds k hk=>by
    have lB:(bU f k).term.cases.length<=2 ^ 60:=by
     have hb:=List.mem_of_getElem? (gx (f:=f) (k:=k) (by omega) (by omega));have:=(iA.2.2 _ hb).2.2.2.2.2.2.2.2.1;omega
    exact BV (O:=[.gone,.map (.int .i64) (ds.map fP),.cells [aI f.name,bf f.blocks,.mm 1]]) (c:=2) (d:=1) (by simp[ay.upto,aq,ae.upto,Block.an,fT]) (by omega) rfl rfl k (by omega) (by omega) (by omega) lB
   refine aj (aO (ι:={x:Nat×Defs // x.1<=f.blocks.length∧gL f f.blocks.length 0 []=gL f (f.blocks.length-x.1) x.1 x.2}) (fun x=>⟨69,[(1,.ip none [aI f.name,bf f.blocks]),(2,aI 0),(6,.mp 2 0),(56,aI f.blocks.length),(57,aI x.1.1)],[.gone,.map (.int .i64) (x.1.2.map fP),.cells [aI f.name,bf f.blocks,.mm 1]]⟩) (fun x=>f.blocks.length-x.1.1) ⟨(0,[]),by simp,rfl⟩ ?_ ?_)
   ·refine zq rfl ?_ ?_;simp -dsimp only[simprocAttr,↓aa,zp,zc];rfl
   rintro⟨⟨k,ds⟩,hk,mv⟩;simp only at hk mv;refine aB (av ?_);apply gr rfl<;>intro h
   ·refine eH ?_;have aN:k<f.blocks.length:=by simpa using h
    rw[show f.blocks.length-k=f.blocks.length-(k+1)+1 by omega]at mv;simp only[gL]at mv;have hb:=yE ds k aN;generalize jK f ds k=X at *;refine aG (aj ?_);refine aB (av ?_);refine aB ?_;refine .inr (.inl ⟨_,_,hb,.inl (ah (zj ?_))⟩);refine av ?_;by_cases hX:X.1=0
    ·have HG:decide (X.1=0)=true:=decide_eq_true hX;rw[if_neg (by simp[hX])]at mv;refine aH ?_;simp -dsimp only[simprocAttr,↓aa,zp,HG];refine av ?_;refine cB rfl ?_;refine pV ?_;refine du ?_
     repeat(refine⟨by omega,?_⟩)
     refine r7 ?_;refine⟨⟨(k+1,X.2),by simp only;omega,mv⟩,by simp;omega,?_⟩;refine zq rfl ?_ ?_;simp -dsimp only[simprocAttr,↓aa,zp,zc]
     ·exact Sub.int (by simp)
     rfl
    have HG:decide (X.1=0)=false:=decide_eq_false hX;rw[if_pos hX]at mv;rw[mv,if_pos hX]at hR;refine aH ?_;simp -dsimp only[simprocAttr,↓aa,zp,HG];refine av ?_;refine de rfl ?_;refine aB (av ?_);refine ak ?_;simp -dsimp only[simprocAttr,↓aa,zp,zr,Tryz.results46];rw[hR]
   refine aM ?_;simp -dsimp only[ai,ne_eq,Nat.reduceEqDiff,reduceCtorEq];have gg:k=f.blocks.length:=by simp at h;omega
   subst gg;rw[Nat.sub_self]at mv;simp only[gL]at mv;have Rw:(gL f f.blocks.length 0 []).1=0:=by rw[mv]
   have bq:=sV Rw;have VB:=(qa f.blocks.length 0 [] (.nil _) (by omega) (by simp) Rw).1;rw[mv]at VB;rw[mv,if_neg (by simp)]at hR;have Tk:=Gs f ds cA RX (fun b hb e he=>by
    have:=(rf (bq b hb).fin).2.2.2 e he;omega) VB.ok
   simp only at hR;rw[<-hR]at Tk;refine pK 1 rfl (by simp[ay.aP]) trivial [(2,aI 0),(6,.mp 2 0)] ?_ 2 (by omega) _ [aI f.name,bf f.blocks,.im (.int .i64) (ds.map fP)] rfl rfl ?_ ?_ ?_
   ·intro s y hy;simp only[Go.Av.look]at hy;split at hy
    ·cases hy;rename_i e;subst e;exact⟨_,rfl,.refl _⟩
    split at hy
    ·cases hy;rename_i e;subst e;exact⟨_,rfl,.refl _⟩
    cases hy
   ·simp[ae.scalar]
   ·intro j c d hc hd
    match j,hc,hd with
    | 0,hc,hd =>
     cases hc;cases hd;exact .refl _
    | 1,hc,hd =>
     cases hc;cases hd;exact .refl _
    | 2,hc,hd =>
     cases hc;cases hd;exact .mm rfl
   show cy Tryz.prog _ _ _ ⟨_,_,[.gone,.gone,.cells [aI f.name,bf f.blocks,.im (.int .i64) (ds.map fP)]]⟩;refine aR 6 2 (.ip none [aI f.name,bf f.blocks,.im (.int .i64) (ds.map fP)]) rfl (by simp[ay.aP]) trivial rfl ?_ ?_;rotate_left;simp -dsimp only[simprocAttr,↓aa,zp]
   ·refine aB ?_;refine .inl ⟨_,Tk,by simp only[aq,ae.upto,zt,zu,aL,fT],ah ?_⟩;simp -dsimp only[simprocAttr,↓aa,zp];refine av ?_;refine ak ?_;simp -dsimp only[simprocAttr,↓aa,zp,zr,Tryz.results46]
   exact da.mp rfl rfl
 exact da.mp rfl rfl
def lk(u:cW)(i:db):Int :=
 if i.op≠13∧i.op≠9 then 0
 else if(u.fns.length:Int)<=i.n then 4
 else if(i.op=13∧(bU (dg u i.n) 0).params.length≠i.args.length)∨(i.op=9∧(bU (dg u i.n) 0).params.length=0)then 3
 else 0
theorem BZ(u:cW)(i:db)(hn:i.op=13∨i.op=9->0<=i.n)(cA:∀f∈u.fns,f.blocks≠[]):aV Tryz.prog 47 [u.enc,i.enc] (aI (lk u i)):=by
 obtain⟨R,hR⟩:∃R,R=lk u i:=⟨_,rfl⟩
 rw[<-hR];unfold lk at hR;rcases(show(i.op≠13∧i.op≠9)∨i.op=13∨i.op=9 by omega)with h|h|h
 ·rw[if_pos h]at hR;have h1:decide (i.op=13)=false:=decide_eq_false h.1;have h2:decide (i.op=9)=false:=decide_eq_false h.2;refine zf true 0 Tryz.func47 Tryz.ntmps47 ?_;dsimp only[Tmp,TypeId,ax];refine aB (av ?_);refine cg ?_;simp -dsimp only[simprocAttr,↓aa,zp,h1,h2];refine av ?_;refine de rfl ?_;refine aB (av ?_);refine ak ?_;simp -dsimp only[simprocAttr,↓aa,zp,zr,Tryz.results47];rw[hR]
 all_goals
  have hn:=hn (by omega);rw[if_neg (by omega)]at hR;by_cases hl:(u.fns.length:Int)<=i.n
  ·rw[if_pos hl]at hR;have h3:decide ((u.fns.length:Int)<=i.n)=true:=decide_eq_true hl;have TI:(decide (i.op=13)=true∧decide (i.op=9)=false)∨(decide (i.op=13)=false∧decide (i.op=9)=true):=by
    simp only[decide_eq_true_eq,decide_eq_false_iff_not];omega
   rcases TI with⟨h1,h2⟩|⟨h1,h2⟩
   all_goals
    refine zf true 0 Tryz.func47 Tryz.ntmps47 ?_;dsimp only[Tmp,TypeId,ax];refine aB (av ?_);refine cg ?_;simp -dsimp only[simprocAttr,↓aa,zp,h1,h2];refine av ?_;refine cB rfl ?_;refine eH ?_;refine cg ?_;simp -dsimp only[simprocAttr,↓aa,zp,h3];refine av ?_;refine de rfl ?_;refine aB (av ?_);refine ak ?_;simp -dsimp only[simprocAttr,↓aa,zp,zr,Tryz.results47];rw[hR]
  rw[if_neg hl]at hR;have h3:decide ((u.fns.length:Int)<=i.n)=false:=decide_eq_false hl;have hF:=lQ (u:=u) (k:=i.n) hn (by omega);have T9:=cA _ (List.mem_of_getElem? hF);have gf:0<(dg u i.n).blocks.length:=by
   cases hb:(dg u i.n).blocks with
   | nil=>exact absurd hb T9
   | cons=>simp
  have hB:(dg u i.n).blocks[0]?=some (bU (dg u i.n) 0):=gx (f:=dg u i.n) (k:=0) (by omega) (by omega);generalize bU (dg u i.n) 0=B at *;generalize dg u i.n=F at *;have TI:(decide (i.op=13)=true∧decide (i.op=9)=false)∨(decide (i.op=13)=false∧decide (i.op=9)=true):=by
   simp only[decide_eq_true_eq,decide_eq_false_iff_not];omega
  rcases TI with⟨h1,h2⟩|⟨h1,h2⟩
  ·have g1:=of_decide_eq_true h1;have g2:=of_decide_eq_false h2;by_cases So:B.params.length=i.args.length
   ·rw[if_neg (by omega)]at hR;have hq:decide ((B.params.length:Int)=i.args.length)=true:=decide_eq_true (by omega);refine zf true 0 Tryz.func47 Tryz.ntmps47 ?_;dsimp only[Tmp,TypeId,ax];refine aB (av ?_);refine cg ?_;simp -dsimp only[simprocAttr,↓aa,zp,h1,h2];refine av ?_;refine cB rfl ?_;refine eH ?_;refine cg ?_;simp -dsimp only[simprocAttr,↓aa,zp,h3];refine av ?_;refine cB rfl ?_;refine eH ?_;refine aH ?_;simp -dsimp only[simprocAttr,↓aa,zp,hF,hB]
    repeat(refine⟨by omega,?_⟩)
    refine av ?_;refine cg ?_;simp -dsimp only[simprocAttr,↓aa,zp,h1,h2,hq];refine av ?_;refine cB rfl ?_;refine eH ?_;refine aB (av ?_);refine ak ?_;simp -dsimp only[simprocAttr,↓aa,zp,zr,Tryz.results47];rw[hR]
   rw[if_pos (.inl ⟨g1,So⟩)]at hR;have hq:decide ((B.params.length:Int)=i.args.length)=false:=decide_eq_false (by omega);refine zf true 0 Tryz.func47 Tryz.ntmps47 ?_;dsimp only[Tmp,TypeId,ax];refine aB (av ?_);refine cg ?_;simp -dsimp only[simprocAttr,↓aa,zp,h1,h2];refine av ?_;refine cB rfl ?_;refine eH ?_;refine cg ?_;simp -dsimp only[simprocAttr,↓aa,zp,h3];refine av ?_;refine cB rfl ?_;refine eH ?_;refine aH ?_;simp -dsimp only[simprocAttr,↓aa,zp,hF,hB]
   repeat(refine⟨by omega,?_⟩)
   refine av ?_;refine cg ?_;simp -dsimp only[simprocAttr,↓aa,zp,h1,h2,hq];refine av ?_;refine de rfl ?_;refine aB (av ?_);refine ak ?_;simp -dsimp only[simprocAttr,↓aa,zp,zr,Tryz.results47];rw[hR]
  have g1:=of_decide_eq_false h1;have g2:=of_decide_eq_true h2;by_cases So:B.params.length=0
  ·rw[if_pos (.inr ⟨g2,So⟩)]at hR;have hq:decide ((B.params.length:Int)=0)=true:=decide_eq_true (by omega);refine zf true 0 Tryz.func47 Tryz.ntmps47 ?_;dsimp only[Tmp,TypeId,ax];refine aB (av ?_);refine cg ?_;simp -dsimp only[simprocAttr,↓aa,zp,h1,h2];refine av ?_;refine cB rfl ?_;refine eH ?_;refine cg ?_;simp -dsimp only[simprocAttr,↓aa,zp,h3];refine av ?_;refine cB rfl ?_;refine eH ?_;refine aH ?_;simp -dsimp only[simprocAttr,↓aa,zp,hF,hB]
   repeat(refine⟨by omega,?_⟩)
   refine av ?_;refine cg ?_;simp -dsimp only[simprocAttr,↓aa,zp,h1,h2,hq];refine av ?_;refine de rfl ?_;refine aB (av ?_);refine ak ?_;simp -dsimp only[simprocAttr,↓aa,zp,zr,Tryz.results47];rw[hR]
  rw[if_neg (by omega)]at hR;have hq:decide ((B.params.length:Int)=0)=false:=decide_eq_false (by omega);refine zf true 0 Tryz.func47 Tryz.ntmps47 ?_;dsimp only[Tmp,TypeId,ax];refine aB (av ?_);refine cg ?_;simp -dsimp only[simprocAttr,↓aa,zp,h1,h2];refine av ?_;refine cB rfl ?_;refine eH ?_;refine cg ?_;simp -dsimp only[simprocAttr,↓aa,zp,h3];refine av ?_;refine cB rfl ?_;refine eH ?_;refine aH ?_;simp -dsimp only[simprocAttr,↓aa,zp,hF,hB]
  repeat(refine⟨by omega,?_⟩)
  refine av ?_;refine cg ?_;simp -dsimp only[simprocAttr,↓aa,zp,h1,h2,hq];refine av ?_;refine cB rfl ?_;refine eH ?_;refine aB (av ?_);refine ak ?_;simp -dsimp only[simprocAttr,↓aa,zp,zr,Tryz.results47];rw[hR]
end Go.Proofs.YtkkookchlddbkaaGreat
