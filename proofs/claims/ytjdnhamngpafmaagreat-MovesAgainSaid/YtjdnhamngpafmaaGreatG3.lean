/- Texts of the proof, bound together and shortened by a program of mine. -/
import Derived.Test.YtjdnhamngpafmaaGreatG2
set_option linter.all false
set_option maxRecDepth 100000
set_option maxHeartbeats 4000000
namespace Go.Proofs.YtjdnhamngpafmaaGreat
open Go.Av Tryz
instance (n:Int):Decidable (CR n):=by
 unfold CR
 infer_instance
theorem aei(n:Int):BR prog 111 [aI n] (.v (.bool (decide (CR n)))):=by
 have hw:=SW n (-1073741824) 1073741823;refine zf true 0 func111 ntmps111 ?_;refine LZ ?_;refine zi hw ?_;refine E9 ?_;simp -dsimp only[simprocAttr,↓AG,zp,zr,results111];simp only[within,CR];by_cases h1:-1073741824<=n<;>by_cases h2:n<=1073741823<;>simp[h1,h2]
def E5(i:Ins):Int×Bool :=
 if i.op=0 then(0,true)
 else if(1<=i.op∧i.op<=7)∨i.op=16∨i.op=18∨i.op=19∨i.op=21∨i.op=23 then(2,true)
 else if i.op=20 then(3,true)
 else if i.op=10∨i.op=11∨i.op=12∨i.op=15∨i.op=17∨i.op=24 then(1,true)
 else if i.op=8∨i.op=9∨i.op=13∨i.op=14 then(-1,true)
 else if i.op=22 then(i.n,decide (i.n=2∨i.n=4))
 else(0,false)
def GM(i:Ins):Bool :=
 if i.op=0 then decide (CR i.n)
 else if i.op=8 then within i.n 0 255
 else if i.op=11 then within i.n 0 15
 else if i.op=9∨i.op=13 then within i.n 0 255
 else if i.op=23 then decide (i.n=1∨i.n=2∨i.n=3)
 else if i.op=24 then within i.n 0 3
 else if i.op=22 then true
 else decide (i.n=0)
theorem qdU(i:Ins)(DL:i.op=0):BR prog 117 [i.enc] (.Ab [aI (E5 i).1,.v (.bool (E5 i).2)]):=by
 have hr:E5 i=(0,true):=by
  unfold E5;rw[A9 I]
 rw[hr];refine Uj (fun h=>?_) (fun h=>?_)
 ·refine D7 ?_;exact aY
 exact Ht h
theorem qdV(i:Ins)(DL:(1<=i.op∧i.op<=7)∨i.op=16∨i.op=18∨i.op=19∨i.op=21∨i.op=23):BR prog 117 [i.enc] (.Ab [aI (E5 i).1,.v (.bool (E5 i).2)]):=by
 have hr:E5 i=(2,true):=by
  unfold E5;rw[A4 I,A9 I]
 rw[hr];refine Uj (fun h=>?_) (fun h=>?_)
 ·exact AI h
 refine BF ?_;refine Xy (⟨47,[(1,.mp 0 0),(2,aI 0),(3,.v (.bool false)),(5,aI i.op),(8,.v (.bool true))],[.cells [aI i.to,aI i.op,aI i.n,AA i.args]]⟩) ?_ ?_
 ·apply AZ rfl<;>intro h
  ·refine F1 ?_ ?_
   ·exact FX
   rfl
  refine AJ (fun h=>?_) (fun h=>?_)
  ·refine F1 ?_ ?_
   ·exact FX
   rfl
  refine AJ (fun h=>?_) (fun h=>?_)
  ·refine F1 ?_ ?_
   ·exact FX
   rfl
  refine AJ (fun h=>?_) (fun h=>?_)
  ·refine F1 ?_ ?_
   ·exact FX
   rfl
  refine AJ (fun h=>?_) (fun h=>?_)
  ·refine F1 ?_ ?_
   ·exact FX
   rfl
  refine AJ (fun h=>?_) (fun h=>?_)
  ·refine F1 ?_ ?_
   ·exact FX
   rfl
  refine AJ (fun h=>?_) (fun h=>?_)
  ·refine F1 ?_ ?_
   ·exact FX
   rfl
  refine AJ (fun h=>?_) (fun h=>?_)
  ·refine F1 ?_ ?_
   ·exact FX
   rfl
  refine AJ (fun h=>?_) (fun h=>?_)
  ·refine F1 ?_ ?_
   ·exact FX
   rfl
  refine AJ (fun h=>?_) (fun h=>?_)
  ·refine F1 ?_ ?_
   ·exact FX
   rfl
  refine AJ (fun h=>?_) (fun h=>?_)
  ·refine F1 ?_ ?_
   ·exact FX
   rfl
  refine HA ?_;refine PH ?_ ?_
  ·exact Sub.of_eq (by rw[Ar (show i.op=23 from iy)])
  rfl
 refine E3 ?_;exact aY
theorem qdW(i:Ins)(DL:i.op=20):BR prog 117 [i.enc] (.Ab [aI (E5 i).1,.v (.bool (E5 i).2)]):=by
 have hr:E5 i=(3,true):=by
  unfold E5;rw[A4 I,A4 I,A9 I]
 rw[hr];refine Uj (fun h=>?_) (fun h=>?_)
 ·exact AI h
 refine BF ?_;apply AZ rfl<;>intro h
 ·exact AI h
 refine AJ (fun h=>?_) (fun h=>?_)
 ·exact AI h
 refine AJ (fun h=>?_) (fun h=>?_)
 ·exact AI h
 refine AJ (fun h=>?_) (fun h=>?_)
 ·exact AI h
 refine AJ (fun h=>?_) (fun h=>?_)
 ·exact AI h
 refine AJ (fun h=>?_) (fun h=>?_)
 ·exact AI h
 refine AJ (fun h=>?_) (fun h=>?_)
 ·exact AI h
 refine AJ (fun h=>?_) (fun h=>?_)
 ·exact AI h
 refine AJ (fun h=>?_) (fun h=>?_)
 ·exact AI h
 refine AJ (fun h=>?_) (fun h=>?_)
 ·exact AI h
 refine AJ (fun h=>?_) (fun h=>?_)
 ·exact AI h
 refine Et ?_;apply AZ rfl<;>intro h
 ·exact AI h
 refine AJ (fun h=>?_) (fun h=>?_)
 ·refine D7 ?_;exact aY
 exact Ht h
theorem qdA(i:Ins)(DL:i.op=10∨i.op=11∨i.op=12∨i.op=15∨i.op=17∨i.op=24):BR prog 117 [i.enc] (.Ab [aI (E5 i).1,.v (.bool (E5 i).2)]):=by
 have hr:E5 i=(1,true):=by
  unfold E5;rw[A4 I,A4 I,A4 I,A9 I]
 rw[hr];refine Uj (fun h=>?_) (fun h=>?_)
 ·exact AI h
 refine BF ?_;apply AZ rfl<;>intro h
 ·exact AI h
 refine AJ (fun h=>?_) (fun h=>?_)
 ·exact AI h
 refine AJ (fun h=>?_) (fun h=>?_)
 ·exact AI h
 refine AJ (fun h=>?_) (fun h=>?_)
 ·exact AI h
 refine AJ (fun h=>?_) (fun h=>?_)
 ·exact AI h
 refine AJ (fun h=>?_) (fun h=>?_)
 ·exact AI h
 refine AJ (fun h=>?_) (fun h=>?_)
 ·exact AI h
 refine AJ (fun h=>?_) (fun h=>?_)
 ·exact AI h
 refine AJ (fun h=>?_) (fun h=>?_)
 ·exact AI h
 refine AJ (fun h=>?_) (fun h=>?_)
 ·exact AI h
 refine AJ (fun h=>?_) (fun h=>?_)
 ·exact AI h
 refine Et ?_;apply AZ rfl<;>intro h
 ·exact AI h
 refine AJ (fun h=>?_) (fun h=>?_)
 ·exact AI h
 refine BF ?_;refine Xy (⟨47,[(1,.mp 0 0),(2,aI 0),(3,.v (.bool false)),(5,aI i.op),(23,.v (.bool true))],[.cells [aI i.to,aI i.op,aI i.n,AA i.args]]⟩) ?_ ?_
 ·apply AZ rfl<;>intro h
  ·refine F1 ?_ ?_
   ·exact FX
   rfl
  refine AJ (fun h=>?_) (fun h=>?_)
  ·refine F1 ?_ ?_
   ·exact FX
   rfl
  refine AJ (fun h=>?_) (fun h=>?_)
  ·refine F1 ?_ ?_
   ·exact FX
   rfl
  refine AJ (fun h=>?_) (fun h=>?_)
  ·refine F1 ?_ ?_
   ·exact FX
   rfl
  refine AJ (fun h=>?_) (fun h=>?_)
  ·refine F1 ?_ ?_
   ·exact FX
   rfl
  refine HA ?_;refine PH ?_ ?_
  ·exact Sub.of_eq aaQ
  rfl
 refine E3 ?_;exact aY
theorem qdB(i:Ins)(DL:i.op=8∨i.op=9∨i.op=13∨i.op=14):BR prog 117 [i.enc] (.Ab [aI (E5 i).1,.v (.bool (E5 i).2)]):=by
 have hr:E5 i=(-1,true):=by
  unfold E5;exact adD
 rw[hr];refine Uj (fun h=>?_) (fun h=>?_)
 ·exact AI h
 refine BF ?_;apply AZ rfl<;>intro h
 ·exact AI h
 refine AJ (fun h=>?_) (fun h=>?_)
 ·exact AI h
 refine AJ (fun h=>?_) (fun h=>?_)
 ·exact AI h
 refine AJ (fun h=>?_) (fun h=>?_)
 ·exact AI h
 refine AJ (fun h=>?_) (fun h=>?_)
 ·exact AI h
 refine AJ (fun h=>?_) (fun h=>?_)
 ·exact AI h
 refine AJ (fun h=>?_) (fun h=>?_)
 ·exact AI h
 refine AJ (fun h=>?_) (fun h=>?_)
 ·exact AI h
 refine AJ (fun h=>?_) (fun h=>?_)
 ·exact AI h
 refine AJ (fun h=>?_) (fun h=>?_)
 ·exact AI h
 refine AJ (fun h=>?_) (fun h=>?_)
 ·exact AI h
 refine Et ?_;apply AZ rfl<;>intro h
 ·exact AI h
 refine AJ (fun h=>?_) (fun h=>?_)
 ·exact AI h
 refine BF ?_;apply AZ rfl<;>intro h
 ·exact AI h
 refine AJ (fun h=>?_) (fun h=>?_)
 ·exact AI h
 refine AJ (fun h=>?_) (fun h=>?_)
 ·exact AI h
 refine AJ (fun h=>?_) (fun h=>?_)
 ·exact AI h
 refine AJ (fun h=>?_) (fun h=>?_)
 ·exact AI h
 refine Et ?_;apply AZ rfl<;>intro h
 ·exact AI h
 refine BF ?_;refine Xy (⟨47,[(1,.mp 0 0),(2,aI 0),(3,.v (.bool false)),(5,aI i.op),(30,.v (.bool true))],[.cells [aI i.to,aI i.op,aI i.n,AA i.args]]⟩) ?_ ?_
 ·apply AZ rfl<;>intro h
  ·refine F1 ?_ ?_
   ·exact FX
   rfl
  refine AJ (fun h=>?_) (fun h=>?_)
  ·refine F1 ?_ ?_
   ·exact FX
   rfl
  refine AJ (fun h=>?_) (fun h=>?_)
  ·refine F1 ?_ ?_
   ·exact FX
   rfl
  refine HA ?_;refine PH ?_ ?_
  ·exact Sub.of_eq (by rw[Ar (show i.op=14 from iy)])
  rfl
 refine E3 ?_;exact aY
theorem qdC(i:Ins)(DL:i.op=22):BR prog 117 [i.enc] (.Ab [aI (E5 i).1,.v (.bool (E5 i).2)]):=by
 have hr:E5 i=(i.n,decide (i.n=2∨i.n=4)):=by
  unfold E5;exact acv
 rw[hr];by_cases h2:i.n=2
 ·have G1:decide (i.n=2)=true:=Ar h2;refine Uj (fun h=>?_) (fun h=>?_)
  ·exact AI h
  refine BF ?_;apply AZ rfl<;>intro h
  ·exact AI h
  refine AJ (fun h=>?_) (fun h=>?_)
  ·exact AI h
  refine AJ (fun h=>?_) (fun h=>?_)
  ·exact AI h
  refine AJ (fun h=>?_) (fun h=>?_)
  ·exact AI h
  refine AJ (fun h=>?_) (fun h=>?_)
  ·exact AI h
  refine AJ (fun h=>?_) (fun h=>?_)
  ·exact AI h
  refine AJ (fun h=>?_) (fun h=>?_)
  ·exact AI h
  refine AJ (fun h=>?_) (fun h=>?_)
  ·exact AI h
  refine AJ (fun h=>?_) (fun h=>?_)
  ·exact AI h
  refine AJ (fun h=>?_) (fun h=>?_)
  ·exact AI h
  refine AJ (fun h=>?_) (fun h=>?_)
  ·exact AI h
  refine Et ?_;apply AZ rfl<;>intro h
  ·exact AI h
  refine AJ (fun h=>?_) (fun h=>?_)
  ·exact AI h
  refine BF ?_;apply AZ rfl<;>intro h
  ·exact AI h
  refine AJ (fun h=>?_) (fun h=>?_)
  ·exact AI h
  refine AJ (fun h=>?_) (fun h=>?_)
  ·exact AI h
  refine AJ (fun h=>?_) (fun h=>?_)
  ·exact AI h
  refine AJ (fun h=>?_) (fun h=>?_)
  ·exact AI h
  refine Et ?_;apply AZ rfl<;>intro h
  ·exact AI h
  refine BF ?_;apply AZ rfl<;>intro h
  ·exact AI h
  refine AJ (fun h=>?_) (fun h=>?_)
  ·exact AI h
  refine AJ (fun h=>?_) (fun h=>?_)
  ·exact AI h
  refine Et ?_;apply AZ rfl<;>intro h
  ·exact AI h
  refine AJ (fun h=>?_) (fun h=>?_)
  ·refine NJ G1 ?_;refine rX ?_;simp[AQ,A2.upto,h2]
  exact Ht h
 have G1:decide (i.n=2)=false:=Ac h2;by_cases h4:i.n=4
 ·have Tk:decide (i.n=4)=true:=Ar h4;refine Uj (fun h=>?_) (fun h=>?_)
  ·exact AI h
  refine BF ?_;apply AZ rfl<;>intro h
  ·exact AI h
  refine AJ (fun h=>?_) (fun h=>?_)
  ·exact AI h
  refine AJ (fun h=>?_) (fun h=>?_)
  ·exact AI h
  refine AJ (fun h=>?_) (fun h=>?_)
  ·exact AI h
  refine AJ (fun h=>?_) (fun h=>?_)
  ·exact AI h
  refine AJ (fun h=>?_) (fun h=>?_)
  ·exact AI h
  refine AJ (fun h=>?_) (fun h=>?_)
  ·exact AI h
  refine AJ (fun h=>?_) (fun h=>?_)
  ·exact AI h
  refine AJ (fun h=>?_) (fun h=>?_)
  ·exact AI h
  refine AJ (fun h=>?_) (fun h=>?_)
  ·exact AI h
  refine AJ (fun h=>?_) (fun h=>?_)
  ·exact AI h
  refine Et ?_;apply AZ rfl<;>intro h
  ·exact AI h
  refine AJ (fun h=>?_) (fun h=>?_)
  ·exact AI h
  refine BF ?_;apply AZ rfl<;>intro h
  ·exact AI h
  refine AJ (fun h=>?_) (fun h=>?_)
  ·exact AI h
  refine AJ (fun h=>?_) (fun h=>?_)
  ·exact AI h
  refine AJ (fun h=>?_) (fun h=>?_)
  ·exact AI h
  refine AJ (fun h=>?_) (fun h=>?_)
  ·exact AI h
  refine Et ?_;apply AZ rfl<;>intro h
  ·exact AI h
  refine BF ?_;apply AZ rfl<;>intro h
  ·exact AI h
  refine AJ (fun h=>?_) (fun h=>?_)
  ·exact AI h
  refine AJ (fun h=>?_) (fun h=>?_)
  ·exact AI h
  refine Et ?_;apply AZ rfl<;>intro h
  ·exact AI h
  refine AJ (fun h=>?_) (fun h=>?_)
  ·refine KJ G1 Tk ?_;refine rX ?_;simp[AQ,A2.upto,h4]
  exact Ht h
 have Tk:decide (i.n=4)=false:=Ac h4;refine Uj (fun h=>?_) (fun h=>?_)
 ·exact AI h
 refine BF ?_;apply AZ rfl<;>intro h
 ·exact AI h
 refine AJ (fun h=>?_) (fun h=>?_)
 ·exact AI h
 refine AJ (fun h=>?_) (fun h=>?_)
 ·exact AI h
 refine AJ (fun h=>?_) (fun h=>?_)
 ·exact AI h
 refine AJ (fun h=>?_) (fun h=>?_)
 ·exact AI h
 refine AJ (fun h=>?_) (fun h=>?_)
 ·exact AI h
 refine AJ (fun h=>?_) (fun h=>?_)
 ·exact AI h
 refine AJ (fun h=>?_) (fun h=>?_)
 ·exact AI h
 refine AJ (fun h=>?_) (fun h=>?_)
 ·exact AI h
 refine AJ (fun h=>?_) (fun h=>?_)
 ·exact AI h
 refine AJ (fun h=>?_) (fun h=>?_)
 ·exact AI h
 refine Et ?_;apply AZ rfl<;>intro h
 ·exact AI h
 refine AJ (fun h=>?_) (fun h=>?_)
 ·exact AI h
 refine BF ?_;apply AZ rfl<;>intro h
 ·exact AI h
 refine AJ (fun h=>?_) (fun h=>?_)
 ·exact AI h
 refine AJ (fun h=>?_) (fun h=>?_)
 ·exact AI h
 refine AJ (fun h=>?_) (fun h=>?_)
 ·exact AI h
 refine AJ (fun h=>?_) (fun h=>?_)
 ·exact AI h
 refine Et ?_;apply AZ rfl<;>intro h
 ·exact AI h
 refine BF ?_;apply AZ rfl<;>intro h
 ·exact AI h
 refine AJ (fun h=>?_) (fun h=>?_)
 ·exact AI h
 refine AJ (fun h=>?_) (fun h=>?_)
 ·exact AI h
 refine Et ?_;apply AZ rfl<;>intro h
 ·exact AI h
 refine AJ (fun h=>?_) (fun h=>?_)
 ·refine KJ G1 Tk ?_;refine rX ?_;simp[AQ,A2.upto,h2,h4]
 exact Ht h
theorem qam(i:Ins):BR prog 117 [i.enc] (.Ab [aI (E5 i).1,.v (.bool (E5 i).2)]):=by
 by_cases h0:i.op=0
 ·exact qdU i h0
 by_cases h1:(1<=i.op∧i.op<=7)∨i.op=16∨i.op=18∨i.op=19∨i.op=21∨i.op=23
 ·exact qdV i h1
 by_cases h2:i.op=20
 ·exact qdW i h2
 by_cases h3:i.op=10∨i.op=11∨i.op=12∨i.op=15∨i.op=17∨i.op=24
 ·exact qdA i h3
 by_cases h4:i.op=8∨i.op=9∨i.op=13∨i.op=14
 ·exact qdB i h4
 by_cases h5:i.op=22
 ·exact qdC i h5
 have hr:E5 i=(0,false):=by
  unfold E5;rw[A4 I,A4 I,A4 I,A4 I,A4 I,A4 I]
 rw[hr];refine Uj (fun h=>?_) (fun h=>?_)
 ·exact AI h
 refine BF ?_;apply AZ rfl<;>intro h
 ·exact AI h
 refine AJ (fun h=>?_) (fun h=>?_)
 ·exact AI h
 refine AJ (fun h=>?_) (fun h=>?_)
 ·exact AI h
 refine AJ (fun h=>?_) (fun h=>?_)
 ·exact AI h
 refine AJ (fun h=>?_) (fun h=>?_)
 ·exact AI h
 refine AJ (fun h=>?_) (fun h=>?_)
 ·exact AI h
 refine AJ (fun h=>?_) (fun h=>?_)
 ·exact AI h
 refine AJ (fun h=>?_) (fun h=>?_)
 ·exact AI h
 refine AJ (fun h=>?_) (fun h=>?_)
 ·exact AI h
 refine AJ (fun h=>?_) (fun h=>?_)
 ·exact AI h
 refine AJ (fun h=>?_) (fun h=>?_)
 ·exact AI h
 refine Et ?_;apply AZ rfl<;>intro h
 ·exact AI h
 refine AJ (fun h=>?_) (fun h=>?_)
 ·exact AI h
 refine BF ?_;apply AZ rfl<;>intro h
 ·exact AI h
 refine AJ (fun h=>?_) (fun h=>?_)
 ·exact AI h
 refine AJ (fun h=>?_) (fun h=>?_)
 ·exact AI h
 refine AJ (fun h=>?_) (fun h=>?_)
 ·exact AI h
 refine AJ (fun h=>?_) (fun h=>?_)
 ·exact AI h
 refine Et ?_;apply AZ rfl<;>intro h
 ·exact AI h
 refine BF ?_;apply AZ rfl<;>intro h
 ·exact AI h
 refine AJ (fun h=>?_) (fun h=>?_)
 ·exact AI h
 refine AJ (fun h=>?_) (fun h=>?_)
 ·exact AI h
 refine Et ?_;apply AZ rfl<;>intro h
 ·exact AI h
 refine AJ (fun h=>?_) (fun h=>?_)
 ·exact AI h
 refine H2 ?_;refine D7 ?_;exact aY
theorem qgS(i:Ins)(DL:i.op=0):BR prog 118 [i.enc] (.v (.bool (GM i))):=by
 have hr:GM i=decide (CR i.n):=by
  unfold GM;rw[A9 I]
 rw[hr];refine T7 (fun h=>?_) (fun h=>?_)
 ·refine BM ?_;refine zi (aei i.n) ?_;exact kG
 exact Ht h
theorem qgT(i:Ins)(DL:i.op=8):BR prog 118 [i.enc] (.v (.bool (GM i))):=by
 have hr:GM i=within i.n 0 255:=by
  unfold GM;rw[A4 I,A9 I]
 rw[hr];refine T7 (fun h=>?_) (fun h=>?_)
 ·exact AI h
 refine AJ (fun h=>?_) (fun h=>?_)
 ·exact adG
 exact Ht h
theorem qgU(i:Ins)(DL:i.op=11):BR prog 118 [i.enc] (.v (.bool (GM i))):=by
 have hr:GM i=within i.n 0 15:=by
  unfold GM;rw[A4 I,A4 I,A9 I]
 rw[hr];refine T7 (fun h=>?_) (fun h=>?_)
 ·exact AI h
 refine AJ (fun h=>?_) (fun h=>?_)
 ·exact AI h
 refine AJ (fun h=>?_) (fun h=>?_)
 ·refine BM ?_;refine zi (SW i.n 0 15) ?_;exact kG
 exact Ht h
theorem qgV(i:Ins)(DL:i.op=9∨i.op=13):BR prog 118 [i.enc] (.v (.bool (GM i))):=by
 have hr:GM i=within i.n 0 255:=by
  unfold GM;rw[A4 I,A4 I,A4 I,A9 I]
 rw[hr];refine T7 (fun h=>?_) (fun h=>?_)
 ·exact AI h
 refine AJ (fun h=>?_) (fun h=>?_)
 ·exact AI h
 refine AJ (fun h=>?_) (fun h=>?_)
 ·exact AI h
 refine BF ?_;refine Xy (⟨51,[(1,.mp 0 0),(2,.v (.bool false)),(4,aI i.op),(20,.v (.bool true))],[.cells [aI i.to,aI i.op,aI i.n,AA i.args]]⟩) ?_ ?_
 ·apply AZ rfl<;>intro h
  ·refine F1 ?_ ?_
   ·exact FX
   rfl
  refine HA ?_;refine PH ?_ ?_
  ·exact Sub.of_eq (by rw[Ar (show i.op=13 from iy)])
  rfl
 refine FF ?_;exact adG
theorem qgW(i:Ins)(DL:i.op=23):BR prog 118 [i.enc] (.v (.bool (GM i))):=by
 have hr:GM i=decide (i.n=1∨i.n=2∨i.n=3):=by
  unfold GM;exact adD
 rw[hr];by_cases h1:i.n=1
 ·have Gk:decide (i.n=1)=true:=Ar h1;refine T7 (fun h=>?_) (fun h=>?_)
  ·exact AI h
  refine AJ (fun h=>?_) (fun h=>?_)
  ·exact AI h
  refine AJ (fun h=>?_) (fun h=>?_)
  ·exact AI h
  refine BF ?_;apply AZ rfl<;>intro h
  ·exact AI h
  refine Et ?_;apply AZ rfl<;>intro h
  ·exact AI h
  refine AJ (fun h=>?_) (fun h=>?_)
  ·refine Ch Gk ?_;refine F3 ?_;refine rb ?_;simp[h1]
  exact Ht h
 have Gk:decide (i.n=1)=false:=Ac h1;by_cases h2:i.n=2
 ·have G1:decide (i.n=2)=true:=Ar h2;refine T7 (fun h=>?_) (fun h=>?_)
  ·exact AI h
  refine AJ (fun h=>?_) (fun h=>?_)
  ·exact AI h
  refine AJ (fun h=>?_) (fun h=>?_)
  ·exact AI h
  refine BF ?_;apply AZ rfl<;>intro h
  ·exact AI h
  refine Et ?_;apply AZ rfl<;>intro h
  ·exact AI h
  refine AJ (fun h=>?_) (fun h=>?_)
  ·refine KJ Gk G1 ?_;refine E9 ?_;refine rb ?_;simp[h2]
  exact Ht h
 have G1:decide (i.n=2)=false:=Ac h2;refine T7 (fun h=>?_) (fun h=>?_)
 ·exact AI h
 refine AJ (fun h=>?_) (fun h=>?_)
 ·exact AI h
 refine AJ (fun h=>?_) (fun h=>?_)
 ·exact AI h
 refine BF ?_;apply AZ rfl<;>intro h
 ·exact AI h
 refine Et ?_;apply AZ rfl<;>intro h
 ·exact AI h
 refine AJ (fun h=>?_) (fun h=>?_)
 ·refine KJ Gk G1 ?_;refine E9 ?_;refine rb ?_;simp[h1,h2]
 exact Ht h
theorem qgX(i:Ins)(DL:i.op=24):BR prog 118 [i.enc] (.v (.bool (GM i))):=by
 have hr:GM i=within i.n 0 3:=by
  unfold GM;exact acv
 rw[hr];refine T7 (fun h=>?_) (fun h=>?_)
 ·exact AI h
 refine AJ (fun h=>?_) (fun h=>?_)
 ·exact AI h
 refine AJ (fun h=>?_) (fun h=>?_)
 ·exact AI h
 refine BF ?_;apply AZ rfl<;>intro h
 ·exact AI h
 refine Et ?_;apply AZ rfl<;>intro h
 ·exact AI h
 refine AJ (fun h=>?_) (fun h=>?_)
 ·exact AI h
 refine AJ (fun h=>?_) (fun h=>?_)
 ·refine BM ?_;refine zi (SW i.n 0 3) ?_;exact kG
 exact Ht h
theorem qgY(i:Ins)(DL:i.op=22):BR prog 118 [i.enc] (.v (.bool (GM i))):=by
 have hr:GM i=true:=by
  unfold GM;rw[A4 I,A4 I,A4 I,A4 I,A4 I,A4 I,A9 I]
 rw[hr];refine T7 (fun h=>?_) (fun h=>?_)
 ·exact AI h
 refine AJ (fun h=>?_) (fun h=>?_)
 ·exact AI h
 refine AJ (fun h=>?_) (fun h=>?_)
 ·exact AI h
 refine BF ?_;apply AZ rfl<;>intro h
 ·exact AI h
 refine Et ?_;apply AZ rfl<;>intro h
 ·exact AI h
 refine AJ (fun h=>?_) (fun h=>?_)
 ·exact AI h
 refine AJ (fun h=>?_) (fun h=>?_)
 ·exact AI h
 refine AJ (fun h=>?_) (fun h=>?_)
 ·refine D7 ?_;exact r9
 exact Ht h
theorem qbv(i:Ins):BR prog 118 [i.enc] (.v (.bool (GM i))):=by
 by_cases h0:i.op=0
 ·exact qgS i h0
 by_cases h1:i.op=8
 ·exact qgT i h1
 by_cases h2:i.op=11
 ·exact qgU i h2
 by_cases h3:i.op=9∨i.op=13
 ·exact qgV i h3
 by_cases h4:i.op=23
 ·exact qgW i h4
 by_cases h5:i.op=24
 ·exact qgX i h5
 by_cases h6:i.op=22
 ·exact qgY i h6
 have hr:GM i=decide (i.n=0):=by
  unfold GM;rw[A4 I,A4 I,A4 I,A4 I,A4 I,A4 I,A4 I]
 rw[hr];refine T7 (fun h=>?_) (fun h=>?_)
 ·exact AI h
 refine AJ (fun h=>?_) (fun h=>?_)
 ·exact AI h
 refine AJ (fun h=>?_) (fun h=>?_)
 ·exact AI h
 refine BF ?_;apply AZ rfl<;>intro h
 ·exact AI h
 refine Et ?_;apply AZ rfl<;>intro h
 ·exact AI h
 refine AJ (fun h=>?_) (fun h=>?_)
 ·exact AI h
 refine AJ (fun h=>?_) (fun h=>?_)
 ·exact AI h
 refine AJ (fun h=>?_) (fun h=>?_)
 ·exact AI h
 refine H2 ?_;refine D7 ?_;exact r9
def bW(i:Ins)(many:Int)(known:Bool):Bool:=(!known ||(decide (0<=many)&&!decide ((i.args.length:Int)=many))) ||(decide (i.op=14)&&decide ((i.args.length:Int)=0))
def Yr(i:Ins):Bool:=(decide (i.op=8) ||decide (i.op=9))&&decide ((16:Int)<i.args.length)
def bX(i:Ins):Bool:=(decide (i.op=13) ||decide (i.op=14))&&decide ((6:Int)<i.args.length)
def MA(i:Ins):Int:=if bW i (E5 i).1 (E5 i).2 then 3 else if Yr i ||bX i then 2 else if GM i then 0 else 4
theorem uc(i:Ins):BR prog 87 [i.enc] (aI (MA i)):=by
 have DL:=qam i;have qmO:=qbv i;unfold MA;generalize E5 i=r at *;obtain⟨many,known⟩:=r;simp only at DL ⊢;generalize GM i=nb at *;refine zf true 0 func87 ntmps87 ?_;refine LZ ?_;refine zi DL ?_;refine Ak ?_;refine DW (Al ?_);refine LO (⟨68,[(1,.mp 0 0),(2,aI 0),(10,.v (.bool (bW i many known)))],[.cells [aI i.to,aI i.op,aI i.n,AA i.args]]⟩) ?_ ?_
 ·cases known<;>cases hA:decide ((0:Int)<=many)<;>cases hB:decide ((i.args.length:Int)=many)<;>cases hC:decide (i.op=14)<;>cases hD:decide ((i.args.length:Int)=0)
  all_goals
   refine RJ hT hm ?_;refine Yd hA hB hC hD ?_;refine PH ?_ ?_
   ·exact Sub.of_eq (by unfold bW;rw[hA,hB,hC,hD];rfl)
   rfl
 cases hfa:bW i many known
 ·refine KL ?_;refine LO (⟨68,[(1,.mp 0 0),(2,aI 0),(35,.v (.bool (Yr i ||bX i)))],[.cells [aI i.to,aI i.op,aI i.n,AA i.args]]⟩) ?_ ?_
  ·refine LO (⟨68,[(1,.mp 0 0),(2,aI 0),(35,.v (.bool (Yr i)))],[.cells [aI i.to,aI i.op,aI i.n,AA i.args]]⟩) ?_ ?_
   ·cases hA:decide (i.op=8)<;>cases hB:decide (i.op=9)<;>cases hC:decide ((16:Int)<i.args.length)
    all_goals
     refine RJ hT hm ?_;refine QR hA hB hC ?_;refine PH ?_ ?_
     ·exact Sub.of_eq (by unfold Yr;rw[hA,hB,hC];rfl)
     rfl
   cases hfb:Yr i
   ·refine KL ?_;cases hA:decide (i.op=13)<;>cases hB:decide (i.op=14)<;>cases hC:decide ((6:Int)<i.args.length)
    all_goals
     refine RJ hT hm ?_;refine QR hA hB hC ?_;refine PH ?_ ?_
     ·exact Sub.of_eq (by unfold bX;rw[hA,hB,hC];rfl)
     rfl
   refine FF ?_;refine F1 ?_ ?_
   ·exact Wa
   rfl
  cases hbc:(Yr i ||bX i)
  ·refine KL ?_;refine BM ?_;refine zi qmO ?_;refine Ak ?_;cases hnb:nb
   ·refine E3 ?_;exact jr
   refine ON ?_;refine D7 ?_;exact jr
  refine E3 ?_;exact jr
 refine E3 ?_;exact jr
variable {O:List A8}{k:Nat}
theorem Kr{y:A8}(h:O[k]?=some y)(x:A8):(O.set k x)[k]?=some x:=Bb (AE h)
variable {n:Nat}
theorem Gr{cs ds:List A2}(h:∀o∈O,o.upto n)(hk:O[k]?=some (.cells cs))(hd:AQ n cs->AQ n ds):∀o∈O.set k (.cells ds),o.upto n :=
 DY h (hd (h _ (AK hk)))
variable {u:Ad}{m:Mach}
theorem K1{v:Ad}{p:Mach}(h:AQ n (AV u m))(hs:p.sid=m.sid):AQ n (AV v p):=by
 simp only[AV,AQ,A2.upto,BU,Func.AX,FA,FW]at h ⊢;rw[hs];exact h
theorem ao(m:Mach)(n:Int):(m.Ae n).sid=m.sid:=by
 unfold Mach.Ae;split<;>rfl
theorem lf(AN:∀o∈O,o.upto O.length)(h0:O[2]?=some (.cells (AV u m)))(n:Int)(h1:0<=m.left)(h2:m.left<=2 ^ 40)(h3:0<=n) :
  Aq prog 82 O [.mp 2 0,aI n] (fun r O'=>r=.Ab []∧O'=O.set 2 (.cells (AV u (m.Ae n)))):=by
 have hs:=Kr h0;have P9:=Gr AN h0 (ds:=AV u (m.Ae n)) (fun h=>K1 h (ao m n));have BA:=LI (O:=O) (k:=2) (x:=.cells (AV u (m.Ae n)));unfold AV at h0;by_cases hc:m.left<n
 ·have hd:decide (m.left<n)=true:=Ar hc;have hp:[C8 u.fns,aI u.main,.os m.sid m.frames.length 1,aI m.left,.v (.bool true),.v (.bool true),.A3 1 (m.out.map aI) (.tok 3),aI m.fin,aI m.val]=AV u (m.Ae n):=by
   simp[Mach.Ae,hc,AV]
  refine zf true O.length func82 ntmps82 ?_;refine MM ?_;refine HZ h0 ?_;apply AZ rfl<;>intro h
  ·refine B9 ?_;simp -dsimp only[simprocAttr,↓AG,zp,h0,hs,Hr,hp];refine E9 ?_;exact ad7 BA
  simp[hd]at h
 have hd:decide (m.left<n)=false:=Ac hc;have hp:[C8 u.fns,aI u.main,.os m.sid m.frames.length 1,aI (m.left-n),.v (.bool m.short),.v (.bool m.over),.A3 1 (m.out.map aI) (.tok 3),aI m.fin,aI m.val]=AV u (m.Ae n):=by
  simp[Mach.Ae,hc,AV]
 refine zf true O.length func82 ntmps82 ?_;refine MM ?_;refine HZ h0 ?_;apply AZ rfl<;>intro h
 ·simp[hd]at h
 refine Az ?_;refine Dn ?_;simp -dsimp only[simprocAttr,↓AG,zp,h0,hs,Hr,hp]
 refine Ef ?_
 refine Ga ?_;exact ad7 BA
theorem Zh(AN:∀o∈O,o.upto O.length)(h0:O[2]?=some (.cells (AV u m)))(e n:Int) :
  Aq prog 114 O [.mp 2 0,aI e,aI n] (fun r O'=>r=.Ab []∧O'=O.set 2 (.cells (AV u (m.stop e n)))):=by
 have hs:=Kr h0;have P9:=Gr AN h0 (ds:=AV u (m.stop e n)) (fun h=>K1 h rfl);have BA:=LI (O:=O) (k:=2) (x:=.cells (AV u (m.stop e n)));unfold AV at h0;have hp:[C8 u.fns,aI u.main,.os m.sid m.frames.length 1,aI m.left,.v (.bool m.short),.v (.bool true),.A3 1 (m.out.map aI) (.tok 3),aI e,aI n]=AV u (m.stop e n):=rfl;refine zf true O.length func114 ntmps114 ?_;refine MM ?_;refine Ch h0 ?_;refine Dn ?_;simp -dsimp only[simprocAttr,↓AG,zp,hs,Hr,hp];refine Ga ?_;simp -dsimp only[simprocAttr,↓AG,zp,zr,results114,BA,B2];exact⟨P9,trivial⟩
theorem pA{sz:Nat}{xs:List A2}(h:∀x∈xs,x.cells.length=sz){k:Nat}(hk:k<xs.length){y:A2}(hy:y.cells.length=sz):As (AP xs) (k*sz) y.cells=AP (xs.set k y):=by
 induction xs generalizing k with
 | nil=>simp at hk
 | cons p r ih =>
  have hp:=h p A6;cases k with
  | zero =>
   simp only[OH,AP,GF,As,MH,T4,HF,Db,hy];rw[pc I,KD I];rfl
  | succ k =>
   have:=ih (fun x hx=>h x QQ) (k:=k) Ue;have e1:(k+1)*sz-sz=k*sz:=YN
   have e2:(k+1)*sz+sz-sz=k*sz+sz:=YN
   have e3:sz<=(k+1)*sz:=YN
   simp only[US,AP,GF,As,hy]at this ⊢;rw[YD,WJ,hp,Cb I,KD I,e1,e2,HF,Ez,this]
def Hp(es:List (Int×SV))(k:Int):A2:=(Option.map SV.enc (JI es k)).getD (.agg [aI 0,aI 0,.A3 4 [] .ex,.v (.pointer none)])
theorem uA(es:List (Int×SV))(k:Int):(Hp es k).share=(Bq es k).enc:=by
 unfold Hp Bq;cases JI es k with
 | none=>rfl
 | some v=>exact v.E4
theorem U7(es:List (Int×SV))(k:Int):(Hp es k).cells.length=4:=by
 unfold Hp;cases JI es k with
 | none=>rfl
 | some v=>exact v.Py
theorem oq(es:List (Int×SV))(k:Int):(Hp es k).flat:=by
 unfold Hp;cases JI es k with
 | none=>trivial
 | some v=>exact v.EK
def OT(es:List (Int×SV))(l:List Int)(k:Nat):List A2:=(l.take k).map (Hp es)++List.replicate (l.length-k) (.agg [aI 0,aI 0,.A3 4 [] .ex,.v (.pointer none)])
variable {es:List (Int×SV)}{l:List Int}
theorem lX(h:k<=l.length):(OT es l k).length=l.length:=by
 simp[OT];omega
theorem sl:∀x∈OT es l k,x.cells.length=4:=fun x hx=>by
 simp only[OT,HY,JQ,Zs]at hx;rcases hx with⟨v,_,rfl⟩|⟨_,rfl⟩
 ·exact U7 es v
 rfl
theorem qeW(es:List (Int×SV))(l:List Int):AP (OT es l 0)=(List.replicate l.length [aI 0,aI 0,.A3 4 [] .ex,.v (.pointer none)]).flatten:=by
 simp[OT,AP,List.flatMap,A2.cells]
theorem qeV{v:Int}(h:l[k]?=some v):(OT es l k).set k (Hp es v)=OT es l (k+1):=by
 have AF:=AE h;obtain⟨j,hj⟩:∃j,l.length-k=j+1:=⟨l.length-k-1,I⟩
 have e:l.take (k+1)=l.take k++[v]:=by rw[Fs,h];rfl
 have ek:((l.take k).map (Hp es)).length=k:=Ai
 unfold OT;rw[e,hj,show l.length-(k+1)=j from I,OF _ _ I,ek,FB];simp[KG]
theorem qgL(es:List (Int×SV))(l:List Int):(AP (OT es l l.length)).map A2.Dd=AP ((BV es l).map SV.enc):=by
 rw[<-ZP];simp only[OT,FB,iW,F9,Jk,BV,HV];congr 1;apply Rb;intro v _;exact uA es v
theorem ZZ(h:∀e∈es,SV.BC n e.2)(k:Int):SV.BC n (Bq es k):=by
 unfold Bq;cases hl:JI es k with
 | none=>exact .mk A6 A6
 | some v =>
  obtain⟨e,h1,rfl⟩:=vb hl;exact h e h1
theorem sH(h:∀e∈es,SV.BC n e.2)(l:List Int):∀v∈BV es l,SV.BC n v:=fun v hv=>by
 obtain⟨k,_,rfl⟩:=List.mem_map.1 hv;exact ZZ h k
theorem Xu{f:Fr}(AN:∀o∈O,o.upto O.length)(hf:O[f.AW]?=some (.cells (BP f)))(hv:O[f.Ay]?=some (.map (.int .i64) (f.vals.map CG)))(hu:∀e∈f.vals,SV.BC O.length e.2)(l:List Int)(hl:l.length<=4096) :
  Aq prog 113 O [.mp f.AW 0,AA l] (fun r O'=>r=.A3 4 ((BV f.vals l).map SV.enc) .sh∧O'=O):=by
 have Df:=SV.AX (sH hu l);have Bt:∀X:List A8,(O++X)[f.AW]?=some (.cells (BP f)):=fun X=>D8 hf;have hvl:∀X:List A8,(O++X)[f.Ay]?=some (.map (.int .i64) (f.vals.map CG)):=fun X=>D8 hv;unfold BP at Bt;refine zf true O.length func113 ntmps113 ?_;refine LZ ?_
 refine D1 ?_;refine BF ?_;refine Al (BZ (ι:={k:Nat // k<=l.length}) (fun k=>⟨29,[(0,.mp f.AW 0),(5,.ms O.length 0 l.length l.length),(11,AA l),(12,aI l.length),(13,aI k.1)],O++[.cells (AP (OT f.vals l k.1))]⟩) (fun k=>l.length-k.1) ⟨0,I⟩ ?_ ?_)
 ·refine C6 ?_;rw[qeW]
 rintro⟨k,hk⟩;refine C3 (fun h=>?_) (fun h=>?_)
 ·refine Az ?_;have AF:k<l.length:=Aa
  obtain⟨v,KR⟩:∃v,l[k]?=some v:=⟨l[k],Gu⟩
  have Qg:(Option.map SV.enc (JI f.vals v)).getD (.agg [aI 0,aI 0,.A3 4 [] .ex,.v (.pointer none)])=Hp f.vals v:=rfl;have CV:=Ja (sl (es:=f.vals) (l:=l) (k:=k));rw[lX hk]at CV;have Fk:=pA (sl (es:=f.vals) (l:=l) (k:=k)) (k:=k) (by rw[lX hk];exact AF) (U7 f.vals v);rw[qeV KR]at Fk;have hn:=Se O (A8.cells (AP (OT f.vals l k)));have Au:=fun y=>ln O (A8.cells (AP (OT f.vals l k))) y;refine DR KR ?_;refine Dn ?_;simp -dsimp only[simprocAttr,↓AG,zp,Bt,hvl,zd,Qg,hn,Au,oq,U7,CV,Fk]
  refine ak ?_;refine⟨⟨k+1,AF⟩,Ai,?_⟩;refine Ba ?_ ?_
  ·exact BY
  rfl
 refine BO ?_;have Bh:k=l.length:=Ee
 subst Bh;refine qd1 5 (sz:=4) ((BV f.vals l).map SV.enc) [(5,.A3 4 ((BV f.vals l).map SV.enc) .sh)] rfl ?_ ?_ ?_ I Dc ?_ ?_ ?_
 ·intro x hx;obtain⟨y,_,rfl⟩:=List.mem_map.1 hx;exact y.Py
 ·simp[BV]
 ·rw[<-qgL,Cb];rw[Ja sl,lX hk];exact B6 _
 ·exact AN
 ·intro p hp;simp only[Fq]at hp;subst hp;exact⟨Df,trivial⟩
 refine D7 ?_;simp -dsimp only[simprocAttr,↓AG,zp,zr,results113,Jk];exact⟨AN,Df⟩
theorem RH(n:Int):BR prog 132 [aI n] (SV.word n).enc:=by
 refine zf true 0 func132 ntmps132 ?_;refine Cw ?_;refine D7 ?_;simp -dsimp only[simprocAttr,↓AG,zp,zr,results132];simp[SV.word,SV.QB,eP,AQ,A2.upto]
theorem qah(b:Bool):BR prog 151 [.v (.bool b)] (SV.word (if b then 1 else 0)).enc:=by
 have h1:=RH 1;have h0:=RH 0;have c1:(SV.word 1).enc.cells=[aI 0,aI 1,.A3 4 [] .sh,.v (.pointer none)]:=rfl;have c0:(SV.word 0).enc.cells=[aI 0,aI 0,.A3 4 [] .sh,.v (.pointer none)]:=rfl;refine zf true 0 func151 ntmps151 ?_;refine Yj ?_;apply AZ rfl<;>intro h
 ·refine BM ?_;refine .inl ⟨_,h1,Kh,B4 ?_⟩;refine Gi c1 ?_;refine E9 ?_;simp -dsimp only[simprocAttr,↓AG,zp,zr,results151];subst h;exact aj
 refine WW ?_;refine .inl ⟨_,h0,Kh,B4 ?_⟩;refine Gi c0 ?_;refine E9 ?_;simp -dsimp only[simprocAttr,↓AG,zp,zr,results151];subst h;exact aj
theorem qfw(AN:∀o∈O,o.upto O.length)(l:List SV)(hl:∀v∈l,SV.BC O.length v)(k:Int):Aq prog 133 O [.A3 4 (l.map SV.enc) .sh,aI k] (fun r O'=>r=.v (.bool (J1 l k))∧O'=O):=by
 refine zf true O.length func133 ntmps133 ?_;refine Yj ?_;refine LN 7 rfl (fun hlen=>?_);simp only[BE]at hlen;refine Al (BZ (ι:={j:Nat // j<=l.length∧∀v∈l.take j,v.kind=k}) (fun j=>⟨18,[(1,aI k),(4,.v (.bool false)),(7,.A3 4 (l.map SV.enc) .sh),(8,aI l.length),(9,aI j.1)],O⟩) (fun j=>l.length-j.1) ⟨0,I,A6⟩ ?_ ?_)
 ·exact JU
 rintro⟨j,hj,Br⟩;refine C3 (fun h=>?_) (fun h=>?_)
 ·refine Az ?_;have AF:j<l.length:=Aa
  obtain⟨v,hv⟩:∃v,l[j]?=some v:=⟨l[j],Gu⟩
  have Gm:=(hl v (AK hv)).Cr;rw[SV.KY]at Gm;refine DR hv ?_;refine G4 6 ([aI v.kind,aI v.n,.A3 4 (v.list.map SV.enc) .sh,eP v.arr]) [(1,aI k),(4,.v (.bool false)),(6,.ip none [aI v.kind,aI v.n,.A3 4 (v.list.map SV.enc) .sh,eP v.arr]),(7,.A3 4 (l.map SV.enc) .sh),(8,aI l.length),(9,aI j)] rfl a7 I Dc ?_ ?_ ?_
  ·exact AN
  ·intro p hp;simp only[CL,NA,Di]at hp;have hlu:=SV.AX hl;rcases hp with rfl|rfl|rfl|rfl|rfl|rfl
   ·trivial
   ·trivial
   ·exact Gm
   ·exact⟨hlu,trivial⟩
   ·trivial
   trivial
  refine AJ (fun h=>?_) (fun h=>?_)
  ·refine D7 ?_;simp -dsimp only[simprocAttr,↓AG,zp,zr,results133];have hk:v.kind≠k:=Aa
   refine⟨AN,?_⟩;have:J1 l k=false:=by
    simp only[J1,List.all_eq_false,Cp];exact⟨v,AK hv,hk⟩
   rw[this]
  refine H2 ?_;have hk:v.kind=k:=Aa
  refine Bw ?_;refine⟨⟨j+1,AF,fun w hw=>?_⟩,Ai,?_⟩
  ·rw[Fs,hv]at hw;simp only[pP,HY,Fq]at hw;rcases hw with hw|rfl
   ·exact Br w hw
   exact hk
  refine Ba ?_ ?_
  ·exact BY
  rfl
 refine BO ?_;have Bh:j=l.length:=Ee
 subst Bh;refine D7 ?_;simp -dsimp only[simprocAttr,↓AG,zp,zr,results133];rw[Jk]at Br;refine⟨AN,?_⟩;have:J1 l k=true:=by
  simp only[J1,OJ,Cp];exact Br
 rw[this]
theorem fF(AN:∀o∈O,o.upto O.length)(l:List SV)(hl:∀v∈l,SV.BC O.length v)(k:Int)(X:List A8):Aq prog 133 (O++X) [.A3 4 (l.map SV.enc) .sh,aI k] (fun r O'=>r=.v (.bool (J1 l k))∧O'=O++X) :=
 Aq.frame (qfw AN l hl k) rfl ⟨⟨SV.AX hl,trivial⟩,trivial,trivial⟩ AN X
theorem zT(n:Int):(SV.word n).enc.cells=[aI 0,aI n,.A3 4 [] .sh,.v (.pointer none)]:=rfl
theorem uI(k:Nat)(n:Int):SV.BC k (SV.word n):=.mk A6 A6
theorem sb(k:Nat):SV.BC k SV.zero:=.mk A6 A6
theorem Ss{n m:Int}:AQ k [(SV.word n).enc,.v (.int .i64 m)]:=⟨(uI k n).Cr,trivial,trivial⟩
theorem RM{m:Int}:AQ k [SV.zero.enc,.v (.int .i64 m)]:=⟨(sb k).Cr,trivial,trivial⟩
theorem ZM(n:Int):A2.agg [aI 0,aI n,.A3 4 [] .sh,.v (.pointer none)]=(SV.word n).enc:=rfl
theorem Vw:A2.agg [aI 0,aI 0,.A3 4 [] .sh,.v (.pointer none)]=SV.zero.enc:=rfl
theorem aez(op a b:Int)(ha:CR a)(hb:CR b):BR prog 134 [aI op,aI a,aI b] (.Ab [(Jb op a b).1.enc,aI (Jb op a b).2]):=by
 have q1:=qfv a b ha hb;have q2:=qhl a b ha hb;have q3:=qgy a b ha hb;have q4:=fun h=>qfo a b ha hb h;have q5:=fun h=>qgx a b ha hb h;refine zf true 0 func134 ntmps134 ?_;refine qt (fun h=>?_) (fun h=>?_)
 ·have e:op=1:=Aa
  refine BM ?_;refine .inl ⟨_,q1,Kh,B4 ?_⟩;exact rB
 have e1:op≠1:=Aa
 refine AJ (fun h=>?_) (fun h=>?_)
 ·have e:op=2:=Aa
  refine BM ?_;refine .inl ⟨_,q2,Kh,B4 ?_⟩;exact rB
 have e2:op≠2:=Aa
 refine AJ (fun h=>?_) (fun h=>?_)
 ·have e:op=3:=Aa
  refine BM ?_;refine .inl ⟨_,q3,Kh,B4 ?_⟩;exact rB
 have e3:op≠3:=Aa
 refine AJ (fun h=>?_) (fun h=>?_)
 ·have e:op=6:=Aa
  exact acO
 have e6:op≠6:=Aa
 refine AJ (fun h=>?_) (fun h=>?_)
 ·have e:op=7:=Aa
  exact acO
 have e7:op≠7:=Aa
 refine H2 ?_;refine BF ?_;apply AZ rfl<;>intro h
 ·have e:b=0:=Aa
  refine D7 ?_;simp -dsimp only[simprocAttr,↓AG,zp,zr,results134,Vw];simp[Jb,e1,e2,e3,e6,e7,e,RM]
 have e0:b≠0:=Aa
 refine Az ?_;refine BF ?_;apply AZ rfl<;>intro h
 ·have e:op=4:=Aa
  refine BM ?_;refine zi (q4 e0) ?_;refine Ak ?_;refine BM ?_;refine .inl ⟨_,RH _,Kh,B4 ?_⟩;refine jb ?_;simp[Jb,e,Ss,e0]
 have e4:op≠4:=Aa
 refine WW ?_;refine zi (q5 e0) ?_;refine Ak ?_;refine BM ?_;refine .inl ⟨_,RH _,Kh,B4 ?_⟩;refine jb ?_;simp[Jb,e1,e2,e3,e4,e6,e7,Ss,e0]
variable {v:SV}
theorem Mt{l:List SV}(h:l[k]?=some v):BS l k=v:=by simp[BS,h]
theorem V3{m:Int}(h:SV.BC k v):AQ k [v.enc,.v (.int .i64 m)]:=⟨h.Cr,trivial,trivial⟩
theorem kR(h:SV.BC k v):∀x∈v.list,SV.BC k x:=by cases h;assumption
theorem qbw(AN:∀o∈O,o.upto O.length)(i:Ins)(args:List SV)(hl:∀v∈args,SV.BC O.length v)(o:SV)(h0:args[0]?=some o)
  (hp:i.op≠10->i.op≠11->i.op≠12->∃p,args[1]?=some p) (hn:i.op=11->0<=i.n) :
  Aq prog 135 O [i.enc,.A3 4 (args.map SV.enc) .sh] (fun r O'=>r=.Ab [(I' i args).1.enc,aI (I' i args).2]∧O'=O):=by
 have hou:=hl o (AK h0);have ha:=Mt h0;refine zf true O.length func135 ntmps135 ?_;refine Cw ?_;refine Ch h0 ?_;refine DW (Al ?_);refine AJ (fun h=>?_) (fun h=>?_)
 ·have e:i.op=11:=Aa
  by_cases hk:o.kind=1∨o.kind=2
  ·have hd:(decide (o.kind=1)=true)∨(decide (o.kind=1)=false∧decide (o.kind=2)=true):=by
    rcases hk with hk|hk
    ·exact .inl (Ar hk)
    exact .inr ⟨Ac I,Ar hk⟩
   have hnk:¬(o.kind≠1∧o.kind≠2):=I
   have Il:=hn e;by_cases hlen:(o.list.length:Int)<=i.n
   ·have DB:decide ((o.list.length:Int)<=i.n)=true:=Ar hlen;rcases hd with hd|⟨hd,G1⟩
    ·refine L7 hd DB ?_;refine E3 ?_;refine YY ?_;simp[I',e,ha,hlen]
    refine L5 hd G1 DB ?_;refine Rn ?_;refine YY ?_;simp[I',e,ha,hlen]
   have DB:decide ((o.list.length:Int)<=i.n)=false:=Ac hlen;obtain⟨x,hx⟩:∃x,o.list[i.n.toNat]?=some x:=⟨o.list[i.n.toNat]' I,AY _⟩
   have PT:=kR hou x (AK hx);have JW:=Mt hx;rcases hd with hd|⟨hd,G1⟩
   ·refine L7 hd DB ?_;refine FE ?_;refine QS hx ?_;refine rF ?_;simp[I',e,ha,hlen,JW,hnk]
   refine L5 hd G1 DB ?_;refine ML ?_;refine QS hx ?_;refine rF ?_;simp[I',e,ha,hlen,JW,hnk]
  have Mk:decide (o.kind=1)=false:=Ac I;have Ig:decide (o.kind=2)=false:=Ac I;have hnk:o.kind≠1∧o.kind≠2:=I
  refine L7 Mk Ig ?_;refine E3 ?_;refine YY ?_;simp[I',e,ha,hnk]
 have e11:i.op≠11:=Aa
 refine AJ (fun h=>?_) (fun h=>?_)
 ·have hk:o.kind≠1:=Aa
  refine D7 ?_;refine YY ?_;simp[I',e11,ha,hk]
 have hk:o.kind=1:=Aa
 refine AJ (fun h=>?_) (fun h=>?_)
 ·have XF:i.op=10:=Aa
  refine BM ?_;refine .inl ⟨_,RH o.n,Kh,B4 ?_⟩;exact acm XF ha hk
 have XF:i.op≠10:=Aa
 refine AJ (fun h=>?_) (fun h=>?_)
 ·have XX:i.op=12:=Aa
  refine BM ?_;refine .inl ⟨_,RH o.list.length,Kh,B4 ?_⟩;exact acm XX ha hk
 have XX:i.op≠12:=Aa
 obtain⟨p,h1⟩:=hp XF e11 XX;have hb:=Mt h1;refine Ch h1 ?_;apply AZ rfl<;>intro h
 ·have Nc:p.kind≠0:=Aa
  refine D7 ?_;refine YY ?_;simp[I',XF,e11,XX,ha,hb,hk,Nc]
 have Nc:p.kind=0:=Aa
 by_cases CA:p.n<0
 ·have DB:decide (p.n<0)=true:=Ar CA;refine KJ h1 DB ?_;refine Gj ?_;refine E3 ?_;refine YY ?_;simp[I',XF,e11,XX,ha,hb,hk,Nc,CA]
 have DB:decide (p.n<0)=false:=Ac CA;by_cases hlen:(o.list.length:Int)<=p.n
 ·have ES:decide ((o.list.length:Int)<=p.n)=true:=Ar hlen;refine B9 ?_;refine QR h1 DB ES ?_;refine Gj ?_;refine E3 ?_;refine YY ?_;simp[I',XF,e11,XX,ha,hb,hk,Nc,CA,hlen]
 have ES:decide ((o.list.length:Int)<=p.n)=false:=Ac hlen;obtain⟨x,hx⟩:∃x,o.list[p.n.toNat]?=some x:=⟨o.list[p.n.toNat]' I,AY _⟩
 have PT:=kR hou x (AK hx);have JW:=Mt hx;refine B9 ?_;refine QR h1 DB ES ?_;refine Gj ?_;refine ON ?_;refine KJ h1 hx ?_
 refine Gv ?_;refine rF ?_;simp[I',XF,e11,XX,ha,hb,hk,Nc,CA,hlen,JW]
theorem ur{op:Int}:∀{l r:List SV} {k:Nat} {x y:SV},l[k]?=some x->r[k]?=some y->IT op (l.take (k+1)) (r.take (k+1))=IT op (l.take k) (r.take k)++[(Jb op x.n y.n).1]
 | a::l,b::r,0,x,y,h1,h2=>by
  simp only[Dh,AM]at h1 h2;subst h1;subst h2;simp[IT]
 | a::l,b::r,k+1,x,y,h1,h2=>by
  have ih:=ur (op:=op) (l:=l) (r:=r) (k:=k) JT KI;simp only[Ra,IT,JR];rw[ih]
theorem lv{op:Int}:∀(l r:List SV),(IT op l r).length=min l.length r.length
 | [],_=>by simp[IT]
 | _::_,[]=>by simp[IT]
 | a::l,b::r=>by simp[IT,lv l r]
theorem adZ(k:Nat)(op a b:Int):SV.BC k (Jb op a b).1:=by
 unfold Jb
 repeat' split
 all_goals exact uI _ _
theorem sc{op:Int}{k:Nat}:∀(l r:List SV),∀v∈IT op l r,SV.BC k v
 | [],_,v,h=>by simp[IT]at h
 | _::_,[],v,h=>by simp[IT]at h
 | a::l,b::r,v,h=>by
  simp only[IT,CL]at h;rcases h with rfl|h
  ·exact adZ _ _ _ _
  exact sc l r v h
theorem qcE(AN:∀o∈O,o.upto O.length)(i:Ins)(args:List SV)(hl:∀v∈args,SV.BC O.length v)(h1:i.op=24->∃x,args[0]?=some x)(h2:i.op≠22->i.op≠24->∃x y,args=[x,y])
  (hn:i.op=24->0<=i.n) (hw:∀v∈args,v.kind=4->v.list.length<=1000∧∀x∈v.list,CR x.n) :
  Aq prog 136 O [i.enc,.A3 4 (args.map SV.enc) .sh] (fun r O'=>r=.Ab [(IM i args).1.enc,aI (IM i args).2]∧O'=O):=by
 have XL:∀l:List SV,A2.agg [aI 4,aI 0,.A3 4 (l.map SV.enc) .sh,.v (.pointer none)]=(SV.mk 4 0 l none).enc:=fun l=>(SV.QB 4 0 l none).symm;refine zf true O.length func136 ntmps136 ?_;refine Cw ?_;refine U2 2 0 ([aI i.to,aI i.op,aI i.n,AA i.args]) rfl rfl CX ?_;refine Ur ?_;refine Al ?_;refine AJ (fun h=>?_) (fun h=>?_)
 ·have e:i.op=22:=Aa
  refine GX ?_;refine .inr (.inr ⟨_,fF AN args hl 0 _,B4 (zj ?_)⟩);refine Ak ?_;cases Br:J1 args 0 with
  | true =>
   apply AZ rfl<;>intro h
   ·simp[Br]at h
   refine Az ?_;refine D7 ?_;simp -dsimp only[simprocAttr,↓AG,zp,zr,results136,XL];have hz:=(SV.BC.mk (k:=4) (m:=0) (a:=none) A6 hl).Cr;rw[SV.QB]at hz;refine⟨AN,⟨hz,trivial,trivial⟩,?_⟩;simp[IM,e,Br,SV.QB]
  | false =>
   apply AZ rfl<;>intro h
   ·refine D7 ?_;refine abu ?_;simp[IM,e,Br]
   simp[Br]at h
 have SJ:i.op≠22:=Aa
 refine AJ (fun h=>?_) (fun h=>?_)
 ·have e:i.op=24:=Aa
  obtain⟨x,hx⟩:=h1 e;have JW:=Mt hx;have Il:=hn e;have PT:=hl x (AK hx);by_cases hk:x.kind=4
  ·have hd:decide (x.kind=4)=true:=Ar hk;by_cases hlen:(x.list.length:Int)<=i.n
   ·have DB:decide ((x.list.length:Int)<=i.n)=true:=Ar hlen;refine L5 hx hd DB ?_;refine kE ?_;simp[IM,e,JW,hlen]
   have DB:decide ((x.list.length:Int)<=i.n)=false:=Ac hlen;obtain⟨z,hz⟩:∃z,x.list[i.n.toNat]?=some z:=⟨x.list[i.n.toNat]' I,AY _⟩
   have Th:=kR PT z (AK hz);have haz:=Mt hz;refine L5 hx hd DB ?_;refine Gj ?_;refine FE ?_;refine KJ hx hz ?_
   refine Gv ?_;refine F3 ?_;simp -dsimp only[simprocAttr,↓AG,zp,zr,results136];refine⟨AN,V3 Th,?_⟩;simp[IM,e,JW,hlen,hk,haz]
  have hd:decide (x.kind=4)=false:=Ac hk;refine Ej ?_;refine Ri hx hd ?_;refine kE ?_;simp[IM,e,JW,hk]
 have VW:i.op≠24:=Aa
 obtain⟨x,y,e⟩:=h2 SJ VW;subst e;have Br:=fF AN [x,y] hl 4;cases hk:J1 [x,y] 4 with
 | false =>
  simp only[hk,Bc,Ed]at Br;refine H2 ?_;refine GX ?_;refine .inr (.inr ⟨_,Br _,B4 (zj ?_)⟩);refine kE ?_;simp[IM,SJ,VW,hk]
 | true =>
  simp only[hk,Bc,Ed]at Br;by_cases hlen:x.list.length=y.list.length
  ·have hd:decide ((x.list.length:Int)=y.list.length)=true:=Ar I;refine H2 ?_;refine GX ?_;refine .inr (.inr ⟨_,Br _,B4 ?_⟩);refine Gi hd ?_;refine Gj ?_;apply AZ rfl<;>intro h
   ·cases h
   refine Az ?_;refine Cc ?_;refine No (O.length+2) 2 (by rw[W7];rfl) rfl ?_;refine Ur ?_;refine LN 68 rfl (fun qlL=>?_);simp only[BE]at qlL;have Bh:x.kind=4∧y.kind=4:=by simpa[J1]using hk
   obtain⟨JC,hxw⟩:=hw x A6 Bh.1;obtain⟨hyl,hyw⟩:=hw y A6 Bh.2;refine Al (BZ (ι:={j:Nat // j<=x.list.length}) (fun j=>⟨99,[(1,.A3 4 [x.enc,y.enc] .sh),(2,.ip none [aI i.to,aI i.op,aI i.n,AA i.args]),(4,.mp (O.length+1) 0),(5,aI 0),(6,.mp (O.length+2) 0),(68,.A3 4 (x.list.map SV.enc) .sh),(69,aI x.list.length),(70,aI j.1)],O++[.gone,.cells [aI 0,aI 0,.A3 4 [] .ex,.v (.pointer none)],.cells [aI 4,aI 0,.A3 4 ((IT i.n (x.list.take j.1) (y.list.take j.1)).map SV.enc) (.tok (O.length+3)),.v (.pointer none)],.spare j.1]⟩) (fun j=>x.list.length-j.1) ⟨0,I⟩ ?_ ?_)
   ·refine C6 ?_;simp[IT]
   rintro⟨j,hj⟩;have IY:(IT i.n (x.list.take j) (y.list.take j)).length=j:=by
    rw[lv,Dy,Dy];omega
   refine C3 (fun h=>?_) (fun h=>?_)
   ·refine Az ?_;have AF:j<x.list.length:=Aa
    obtain⟨a,ha⟩:∃a,x.list[j]?=some a:=⟨x.list[j],Gu⟩
    obtain⟨b,hb⟩:∃b,y.list[j]?=some b:=⟨y.list[j]' I,AY _⟩
    have haw:=hxw a (AK ha);have RA:=hyw b (AK hb);refine DR ha ?_;refine U2 8 4 ([aI a.kind,aI a.n,.A3 4 (a.list.map SV.enc) .sh,eP a.arr]) rfl rfl a7 ?_;refine BL ?_;refine NJ hb ?_;refine zi (aez i.n a.n b.n haw RA) ?_;refine Gj ?_;generalize hB:(Jb i.n a.n b.n).1=B;refine U2 9 5 ([aI B.kind,aI B.n,.A3 4 (B.list.map SV.enc) .sh,eP B.arr]) rfl rfl a7 ?_;refine BL ?_;refine WX IY ?_;have JX:=ur (op:=i.n) ha hb;rw[hB]at JX;have PT:=(hl x A6).mono (show O.length<=O.length+4 from I);have hyu:=(hl y A6).mono (show O.length<=O.length+4 from I);have Th:=SV.AX (n:=O.length+4) (sc (op:=i.n) (x.list.take (j+1)) (y.list.take (j+1)));rw[JX,Dx,Bc,Ed]at Th;have qmg:=SV.AX (kR PT);refine qi4 4 ([.gone,.cells [aI 0,aI 0,.A3 4 [] .ex,.v (.pointer none)],.cells [aI 4,aI 0,.A3 4 ((IT i.n (x.list.take j) (y.list.take j)).map SV.enc++[B.enc]) (.tok (O.length+3)),.v (.pointer none)],.spare (j+1)]) [(1,.A3 4 [x.enc,y.enc] .sh),(2,.ip none [aI i.to,aI i.op,aI i.n,AA i.args]),(4,.mp (O.length+1) 0),(5,aI 0),(6,.mp (O.length+2) 0),(68,.A3 4 (x.list.map SV.enc) .sh),(69,aI x.list.length),(70,aI j)] rfl A6 I Dc ?_ ?_ ?_ ?_
    ·exact fun o ho=>A8.IK I (AN o ho)
    ·simp[A8.upto,AQ,A2.upto,Th]
    ·simp[AQ,A2.upto,BU,PT.Cr,hyu.Cr,qmg]
    refine k7 ?_ ?_
    ·exact BY
    simp only[JX,Dx,Bc,Ed]
   refine BO ?_;have Gl:j=x.list.length:=Ee
   subst Gl;have hy:y.list.take x.list.length=y.list:=by rw[hlen,Jk]
   have hz:=(SV.BC.mk (k:=4) (m:=0) (a:=none) (n:=O.length) (l:=IT i.n x.list y.list) A6 (sc _ _)).Cr;rw[SV.QB]at hz;refine D7 ?_;simp -dsimp only[simprocAttr,↓AG,zp,zr,results136,hy];refine⟨AN,⟨hz,trivial,trivial⟩,?_⟩;have GP:BS [x,y] 0=x∧BS [x,y] 1=y:=⟨rfl,rfl⟩
   simp[IM,SJ,VW,hk,hlen,SV.QB,GP,eP]
  have hd:decide ((x.list.length:Int)=y.list.length)=false:=Ac I;refine H2 ?_;refine GX ?_;refine .inr (.inr ⟨_,Br _,B4 ?_⟩);refine Gi hd ?_;refine kE ?_;simp[IM,SJ,VW,hk,hlen,BS]
def I5(l:List Int)(n:Int):Int:=if l.findIdx (· == n)<l.length then(l.findIdx (· == n):Nat)else -1
theorem qcR{n:Int}(hk:l[k]?=some n)(h:∀x∈l.take k,x≠n):l.findIdx (· == n)=k:=by
 have AF:=AE hk;have e:l=l.take k++n::l.drop (k+1):=by
  rw[AY AF]at hk;simp only[AM]at hk
  conv=>lhs;rw[<-UP k l,Zp AF,hk]
 have hn:(l.take k).findIdx (· == n)=(l.take k).length:=by
  rw[aa0];intro x hx;simpa using h x hx
 rw[e,List.findIdx_append,hn];simp[List.findIdx_cons];omega
theorem sd(l:List Int)(n:Int):BR prog 66 [AA l,aI n] (aI (I5 l n)):=by
 refine zf true 0 func66 ntmps66 ?_;refine Cw ?_;refine LN 0 rfl (fun hlen=>?_);simp only[BE]at hlen;refine BF ?_;refine Al (BZ (ι:={j:Nat // j<=l.length∧∀x∈l.take j,x≠n}) (fun j=>⟨19,[(0,AA l),(1,aI n),(4,aI 0),(7,aI l.length),(8,aI j.1)],[]⟩) (fun j=>l.length-j.1) ⟨0,I,A6⟩ ?_ ?_)
 ·exact JU
 rintro⟨j,hj,Br⟩;refine C3 (fun h=>?_) (fun h=>?_)
 ·refine Az ?_;have AF:j<l.length:=Aa
  obtain⟨v,hv⟩:∃v,l[j]?=some v:=⟨l[j],Gu⟩
  refine PF ?_;refine QS hv ?_;apply AZ rfl<;>intro h
  ·have hk:n=v:=Aa
   refine D7 ?_;simp -dsimp only[simprocAttr,↓AG,zp,zr,results66];subst hk;have:=qcR hv Br;simp[I5,this,AF]
  refine H2 ?_;have hk:n≠v:=Aa
  refine Bw ?_;refine⟨⟨j+1,AF,fun w hw=>?_⟩,Ai,?_⟩
  ·rw[Fs,hv]at hw;simp only[pP,HY,Fq]at hw;rcases hw with hw|rfl
   ·exact Br w hw
   exact fun e=>hk e.symm
  refine Ba ?_ ?_
  ·exact BY
  rfl
 refine BO ?_;have Bh:j=l.length:=Ee
 subst Bh;refine D7 ?_;simp -dsimp only[simprocAttr,↓AG,zp,zr,results66];rw[Jk]at Br;have:l.findIdx (· == n)=l.length:=by
  rw[aa0];intro x hx;simpa using Br x hx
 simp[I5,this]
theorem qbe(t:Term)(n:Int)(ht:t.cases.length<=2 ^ 60):BR prog 131 [t.enc,aI n] (aI (K3 t n)):=by
 have Ph:=sd t.cases n;have hle:t.cases.findIdx (· == n)<=t.cases.length:=zz;refine zf true 0 func131 ntmps131 ?_;refine Yj ?_;apply AZ rfl<;>intro h
 ·have e:t.kind=2:=Aa
  refine BF ?_;apply AZ rfl<;>intro h
  ·have e0:n≠0:=Aa
   exact jj e0
  have e0:n=0:=Aa
  refine Az ?_;exact jj e0
 have e:t.kind≠2:=Aa
 refine Az ?_;by_cases hf:t.cases.findIdx (· == n)<t.cases.length
 ·have hI:I5 t.cases n=(t.cases.findIdx (· == n):Nat):=by simp[I5,hf]
  rw[hI]at Ph;generalize hq:t.cases.findIdx (· == n)=q at Ph;refine GX ?_;refine zi Ph ?_;refine Ak ?_;refine AJ (fun h=>?_) (fun h=>?_)
  ·exact jj hq
  simp at h
 have hI:I5 t.cases n=-1:=by simp[I5,hf]
 rw[hI]at Ph;have hq:t.cases.findIdx (· == n)=t.cases.length:=I
 refine GX ?_;refine zi Ph ?_;refine Ak ?_;refine AJ (fun h=>?_) (fun h=>?_)
 ·simp at h
 refine Az ?_;exact jj hq
def K6(t:Term):Int:=if t.kind=1 then 1 else if t.kind=2 then 2 else if t.kind=3 then(t.cases.length:Int)+1 else 0
def TC(t:Term):Bool:=decide (t.kind=0) ||(decide (t.kind=2) ||decide (t.kind=3))
def Hj(t:Term):Bool:=(decide (0<=t.kind)&&decide (t.kind<=4))&&(((decide ((t.to.length:Int)=K6 t)&&(TC t ||decide (t.arg=0)))&&(decide (t.kind=4) ||decide (t.n=0)))&&(decide (t.kind=3) ||decide ((t.cases.length:Int)=0)))
theorem qii(t:Term)(hk:t.kind=0)(B8:t.cases.length<=2 ^ 60):BR prog 110 [t.enc] (.v (.bool (Hj t))):=by
 have he:K6 t=0:=dc
 have ha:TC t=true:=dd
 unfold Hj;rw[he,ha];have h0:decide (t.kind=0)=true:=Ar hk;have h4:decide (t.kind=4)=false:=Ac I;have h3:decide (t.kind=3)=false:=Ac I;have CA:decide (0<=t.kind)=true:=Ar I;have GI:decide (t.kind<=4)=true:=Ar I;rw[CA,GI,h3,h4];refine aX ?_;refine Uq h0 ?_;refine Et ?_;cases hA:decide ((t.to.length:Int)=0)<;>cases hB:decide (t.arg=0)<;>cases hC:decide (t.n=0)<;>cases hD:decide ((t.cases.length:Int)=0)
 all_goals
  refine B9 ?_;exact di hA hB hC hD
theorem qij(t:Term)(hk:t.kind=1)(B8:t.cases.length<=2 ^ 60):BR prog 110 [t.enc] (.v (.bool (Hj t))):=by
 have he:K6 t=1:=dc
 have ha:TC t=false:=dd
 unfold Hj;rw[he,ha];have h0:decide (t.kind=0)=false:=Ac I;have h1:decide (t.kind=1)=true:=Ar hk;have h4:decide (t.kind=4)=false:=Ac I;have h3:decide (t.kind=3)=false:=Ac I;have CA:decide (0<=t.kind)=true:=Ar I;have GI:decide (t.kind<=4)=true:=Ar I;rw[CA,GI,h3,h4];refine aX ?_;refine Us h0 ?_;refine Uq h1 ?_;refine Et ?_;cases hA:decide ((t.to.length:Int)=1)<;>cases hB:decide (t.arg=0)<;>cases hC:decide (t.n=0)<;>cases hD:decide ((t.cases.length:Int)=0)
 all_goals
  refine B9 ?_;exact di hA hB hC hD
theorem qik(t:Term)(hk:t.kind=2)(B8:t.cases.length<=2 ^ 60):BR prog 110 [t.enc] (.v (.bool (Hj t))):=by
 have he:K6 t=2:=dc
 have ha:TC t=true:=dd
 unfold Hj;rw[he,ha];have h0:decide (t.kind=0)=false:=Ac I;have h1:decide (t.kind=1)=false:=Ac I;have h2:decide (t.kind=2)=true:=Ar hk;have h4:decide (t.kind=4)=false:=Ac I;have h3:decide (t.kind=3)=false:=Ac I;have CA:decide (0<=t.kind)=true:=Ar I;have GI:decide (t.kind<=4)=true:=Ar I;rw[CA,GI,h3,h4];refine aX ?_;refine YS h0 h1 ?_;refine Uq h2 ?_;refine Et ?_;cases hA:decide ((t.to.length:Int)=2)<;>cases hB:decide (t.arg=0)<;>cases hC:decide (t.n=0)<;>cases hD:decide ((t.cases.length:Int)=0)
 all_goals
  refine B9 ?_;exact di hA hB hC hD
theorem qil(t:Term)(hk:t.kind=3)(B8:t.cases.length<=2 ^ 60):BR prog 110 [t.enc] (.v (.bool (Hj t))):=by
 have he:K6 t=(t.cases.length:Int)+1:=dc
 have ha:TC t=true:=dd
 unfold Hj;rw[he,ha];have h0:decide (t.kind=0)=false:=Ac I;have h1:decide (t.kind=1)=false:=Ac I;have h2:decide (t.kind=2)=false:=Ac I;have h3:decide (t.kind=3)=true:=Ar hk;have h4:decide (t.kind=4)=false:=Ac I;have CA:decide (0<=t.kind)=true:=Ar I;have GI:decide (t.kind<=4)=true:=Ar I;rw[CA,GI,h3,h4];refine aX ?_;refine YS h0 h1 ?_;refine Us h2 ?_;refine Uq h3 ?_;refine HA ?_
 refine D1 ?_;cases hA:decide ((t.to.length:Int)=(t.cases.length:Int)+1)<;>cases hB:decide (t.arg=0)<;>cases hC:decide (t.n=0)<;>cases hD:decide ((t.cases.length:Int)=0)
 all_goals
  refine B9 ?_;exact di hA hB hC hD
theorem qim(t:Term)(hk:t.kind=4)(B8:t.cases.length<=2 ^ 60):BR prog 110 [t.enc] (.v (.bool (Hj t))):=by
 have he:K6 t=0:=dc
 have ha:TC t=false:=dd
 unfold Hj;rw[he,ha];have h0:decide (t.kind=0)=false:=Ac I;have h1:decide (t.kind=1)=false:=Ac I;have h2:decide (t.kind=2)=false:=Ac I;have h3:decide (t.kind=3)=false:=Ac I;have h4:decide (t.kind=4)=true:=Ar hk;have CA:decide (0<=t.kind)=true:=Ar I;have GI:decide (t.kind<=4)=true:=Ar I;rw[CA,GI,h3,h4];refine aX ?_;refine YS h0 h1 ?_;refine YS h2 h3 ?_;refine Uq h4 ?_;refine Et ?_;cases hA:decide ((t.to.length:Int)=0)<;>cases hB:decide (t.arg=0)<;>cases hC:decide (t.n=0)<;>cases hD:decide ((t.cases.length:Int)=0)
 all_goals
  refine B9 ?_;exact di hA hB hC hD
theorem qcP(t:Term)(hk:¬(0<=t.kind∧t.kind<=4)):BR prog 110 [t.enc] (.v (.bool (Hj t))):=by
 have hr:Hj t=false:=by
  unfold Hj;have:(decide (0<=t.kind)&&decide (t.kind<=4))=false:=by
   by_cases h0:0<=t.kind<;>by_cases h4:t.kind<=4<;>simp[h0,h4]<;>omega
  rw[this];rfl
 rw[hr];have h0:decide (t.kind=0)=false:=Ac I;have h1:decide (t.kind=1)=false:=Ac I;have h2:decide (t.kind=2)=false:=Ac I;have h3:decide (t.kind=3)=false:=Ac I;have h4:decide (t.kind=4)=false:=Ac I;refine aX ?_;refine YS h0 h1 ?_;refine YS h2 h3 ?_;refine Us h4 ?_;refine D7 ?_;simp -dsimp only[simprocAttr,↓AG,zp,zr,results110]
theorem qdk(t:Term)(B8:t.cases.length<=2 ^ 60):BR prog 110 [t.enc] (.v (.bool (Hj t))):=by
 by_cases hk:0<=t.kind∧t.kind<=4
 ·rcases(show t.kind=0∨t.kind=1∨t.kind=2∨t.kind=3∨t.kind=4 from I)with h|h|h|h|h
  ·exact qii t h B8
  ·exact qij t h B8
  ·exact qik t h B8
  ·exact qil t h B8
  exact qim t h B8
 exact qcP t hk
def Lf(l:List Int)(n:Int):Bool:=decide (l.findIdx (· == n)<l.length)
theorem adb(l:List Int)(n:Int):BR prog 39 [AA l,aI n] (.v (.bool (Lf l n))):=by
 have Ph:=sd l n;have hd:decide (0<=I5 l n)=Lf l n:=by
  unfold I5 Lf;by_cases h:l.findIdx (· == n)<l.length
  ·rw[A9 h];simp[h]
  rw[A4 h];simp[h]
 generalize I5 l n=r at *;refine zf true 0 func39 ntmps39 ?_;refine LZ ?_;refine .inl ⟨_,Ph,MK,B4 ?_⟩;refine Gi hd ?_;refine E9 ?_;simp -dsimp only[simprocAttr,↓AG,zp,zr,results39]
theorem qaS(AN:∀o∈O,o.upto O.length)(h0:O[2]?=some (.cells (AV u m)))(size fill:SV)(hs:SV.BC O.length size)(hf:SV.BC O.length fill)(h1:0<=m.left)(h2:m.left<=2 ^ 40)(FT:m.short=false)
  (AT:∀x,((m.E6 size fill).2.1).arr≠some x) :
  Aq prog 154 O [.mp 2 0,size.enc,fill.enc] (fun r O'=>r=.Ab [(m.E6 size fill).2.1.enc,aI (m.E6 size fill).2.2]∧O'=O.set 2 (.cells (AV u (m.E6 size fill).1))):=by
 have Fk:O.set 2 (.cells (AV u m))=O:=by
  obtain⟨AF,e⟩:=List.getElem?_eq_some_iff.1 h0;rw[<-e,aa8]
 by_cases hk:size.kind=0
 ·by_cases hn:size.n<0∨1024<size.n
  ·have hd:decide (size.kind=0)=true:=Ar hk;rcases(show size.n<0∨(¬size.n<0∧1024<size.n) from I)with F7|⟨F7,Ib⟩
   ·have Gk:decide (size.n<0)=true:=Ar F7;refine ju hd ?_;refine KL ?_;refine Ch Gk ?_;refine rE ?_;simp[Mach.E6,hk,hn,Fk]
   have Gk:decide (size.n<0)=false:=Ac F7;have G1:decide (1024<size.n)=true:=Ar Ib;refine ju hd ?_;refine KL ?_;refine Jm Gk G1 ?_;refine rE ?_;simp[Mach.E6,hk,hn,Fk]
  have hd:decide (size.kind=0)=true:=Ar hk;have Gk:decide (size.n<0)=false:=Ac I;have G1:decide (1024<size.n)=false:=Ac I;by_cases hp:m.left<size.n
  ·have D5:(m.Ae size.n).short=true:=by simp[Mach.Ae,hp]
   have TH:=Aq.frame (lf AN h0 size.n h1 h2 I) A6 ⟨AE h0,trivial,trivial⟩ AN;have Ol:=Kr h0 (.cells (AV u (m.Ae size.n)));have Dl:=Gr AN h0 (ds:=AV u (m.Ae size.n)) (fun h=>K1 h (ao m size.n));obtain⟨O1,Bn⟩:∃O1,O1=O.set 2 (.cells (AV u (m.Ae size.n))):=⟨_,rfl⟩
   have hlen:O.length=O1.length:=MJ
   have Df:(m.E6 size fill)=(m.Ae size.n,.zero,0):=by simp[Mach.E6,hk,hn,D5]
   rw[Df];simp only[<-Bn]at TH Ol Dl ⊢;have X5:∀X,(O1++X)[2]?=some (.cells (AV u (m.Ae size.n))):=fun X=>D8 Ol;unfold AV at X5;rw[D5]at X5;rw[hlen]at Dl;refine ju hd ?_;refine KL ?_;refine Jm Gk G1 ?_;refine ON ?_;refine BM ?_;refine .inr (.inl ⟨_,_,TH _,.inl (B4 (zj ?_))⟩);refine Rm X5 ?_;refine FF ?_;refine B9 ?_;refine dx ?_;refine E9 ?_;simp -dsimp only[simprocAttr,↓AG,zp,zr,results154,Vw,hlen];exact⟨Dl,RM⟩
  exfalso;have D5:(m.Ae size.n).short=false:=by simp[Mach.Ae,hp,FT]
  refine AT (m.next+8) ?_;simp[Mach.E6,hk,hn,D5,SV.arr]
 have hd:decide (size.kind=0)=false:=Ac hk;refine ju hd ?_;refine rE ?_;simp[Mach.E6,hk,Fk]
theorem ke{X:List A8}:(O++X).take (O.length+k)=O++X.take k:=by
 rw[YD,Cb I,Sz]
def QZ(v:SV)(n k:Nat):List A2:=List.replicate k v.enc++List.replicate (n-k) (.agg [aI 0,aI 0,.A3 4 [] .ex,.v (.pointer none)])
theorem wU(h:k<=n):(QZ v n k).length=n:=by
 simp[QZ];omega
theorem tj:∀x∈QZ v n k,x.cells.length=4:=fun x hx=>by
 simp only[QZ,HY,Zs]at hx;rcases hx with⟨_,rfl⟩|⟨_,rfl⟩
 ·exact v.Py
 rfl
theorem qes(v:SV)(n:Nat):AP (QZ v n 0)=(List.replicate n [aI 0,aI 0,.A3 4 [] .ex,.v (.pointer none)]).flatten:=by
 simp[QZ,AP,List.flatMap,A2.cells]
theorem qer(h:k<n):(QZ v n k).set k v.enc=QZ v n (k+1):=by
 obtain⟨j,hj⟩:∃j,n-k=j+1:=⟨n-k-1,I⟩
 unfold QZ;rw[hj,show n-(k+1)=j from I,OF _ _ A6,iU (n:=k)];simp[KG]
theorem qgK(v:SV)(n:Nat):QZ v n n=(List.replicate n v).map SV.enc:=by simp[QZ]
theorem qbn(AN:∀o∈O,o.upto O.length)(h0:O[2]?=some (.cells (AV u m)))(size fill:SV)(hs:SV.BC O.length size)(hf:SV.BC O.length fill)(h1:0<=m.left)(h2:m.left<=2 ^ 40)(FT:m.short=false)
  (hk:size.kind=0) (F7:0<=size.n) (Ib:size.n<=1024) (hp:size.n<=m.left) :
  Aq prog 154 O [.mp 2 0,size.enc,fill.enc] (fun r O'=>r=.Ab [.agg [aI 3,aI 0,.A3 4 [] .sh,.mp (O.length+4) 0],aI 0]∧O'=O.set 2 (.cells (AV u (m.Ae size.n))) ++
   [.gone,.gone,.cells [aI 3,aI 0,.A3 4 [] .ex,.mp (O.length+4) 0],.cells (AP ((List.replicate size.n.toNat fill).map SV.enc)),.cells [.ms (O.length+3) 0 size.n.toNat size.n.toNat]]):=by
 have hd:decide (size.kind=0)=true:=Ar hk;have Gk:decide (size.n<0)=false:=Ac I;have G1:decide (1024<size.n)=false:=Ac I;have D5:(m.Ae size.n).short=false:=by simp[Mach.Ae,FT,show ¬m.left<size.n from I]
 have TH:=Aq.frame (lf AN h0 size.n h1 h2 I) A6 ⟨AE h0,trivial,trivial⟩ AN;have Ol:=Kr h0 (.cells (AV u (m.Ae size.n)));have Dl:=Gr AN h0 (ds:=AV u (m.Ae size.n)) (fun h=>K1 h (ao m size.n));obtain⟨O1,Bn⟩:∃O1,O1=O.set 2 (.cells (AV u (m.Ae size.n))):=⟨_,rfl⟩
 have hlen:O.length=O1.length:=MJ
 simp only[<-Bn]at TH Ol Dl ⊢;have X5:∀X,(O1++X)[2]?=some (.cells (AV u (m.Ae size.n))):=fun X=>D8 Ol;unfold AV at X5;rw[D5]at X5;rw[hlen]at Dl;obtain⟨n,hn⟩:∃n:Nat,size.n=n:=⟨size.n.toNat,I⟩
 refine zf true (O.length+5) func154 ntmps154 ?_;refine Cw ?_;refine U2 4 0 ([aI size.kind,aI size.n,.A3 4 (size.list.map SV.enc) .sh,eP size.arr]) rfl rfl a7 ?_;refine BL ?_;refine U2 5 1 ([aI fill.kind,aI fill.n,.A3 4 (fill.list.map SV.enc) .sh,eP fill.arr]) rfl rfl a7 ?_;refine BL ?_;refine DR hd ?_;apply AZ rfl<;>intro h
 ·cases h
 refine Jm Gk G1 ?_;apply AZ rfl<;>intro h
 ·cases h
 refine H2 ?_;refine BM ?_;refine .inr (.inl ⟨_,_,TH _,.inl (B4 (zj ?_))⟩);refine Rm X5 ?_;apply AZ rfl<;>intro h
 ·cases h
 refine Az ?_;refine B9 ?_;simp -dsimp only[simprocAttr,↓AG,zp,hlen,hn]
 refine D1 ?_;refine Ej ?_;simp -dsimp only[simprocAttr,↓AG,zp,hlen,hn];refine Ak ?_;refine Al (BZ (ι:={j:Nat // j<=n}) (fun j=>⟨48,[(5,.ip none [aI fill.kind,aI fill.n,.A3 4 (fill.list.map SV.enc) .sh,eP fill.arr]),(6,.mp (O1.length+2) 0),(7,aI 0),(8,.mp (O1.length+4) 0),(38,aI n),(39,aI j.1)],O1++[.gone,.gone,.cells [aI 0,aI 0,.A3 4 [] .ex,.v (.pointer none)],.cells (AP (QZ fill n j.1)),.cells [.ms (O1.length+3) 0 n n]]⟩) (fun j=>n-j.1) ⟨0,I⟩ ?_ ?_)
 ·refine C6 ?_;rw[qes]
 rintro⟨j,hj⟩;refine C3 (fun h=>?_) (fun h=>?_)
 ·refine Az ?_;have AF:j<n:=Aa
  have CV:=Ja (tj (v:=fill) (n:=n) (k:=j));rw[wU hj]at CV;have Fk:=pA (tj (v:=fill) (n:=n) (k:=j)) (k:=j) (by rw[wU hj];exact AF) fill.Py;rw[qer AF,SV.D']at Fk;refine PF ?_;refine Dn ?_;refine Ri CV Fk ?_
  refine D1 ?_;refine k7 ?_ ?_
  ·exact BY
  rfl
 refine BO ?_;have Gl:j=n:=Ee
 subst Gl;refine D7 ?_;simp -dsimp only[simprocAttr,↓AG,zp,zr,results154,hlen];have hj2:size.n.toNat=j:=I
 have ED:∀v∈List.replicate j fill,SV.BC (O1.length+5) v:=fun v hv=>by
  exact ra
 rw[ke,hj2,qgK];refine⟨fun o ho=>?_,iw,rfl⟩;rcases List.mem_append.1 ho with ho|ho
 ·exact A8.IK I (Dl o ho)
 have hc:=SV.ZX ED;simp only[Ra,T4,CL,NA,Di]at ho;rcases ho with rfl|rfl|rfl|rfl|rfl
 ·trivial
 ·trivial
 ·exact MN
 ·exact hc
 exact MN
theorem Y0{X:List A8}{x y:A8}(h:O[k]?=some x):(O++X).set k y=O.set k y++X:=by
 rw[iT _ _ (AE h)]
theorem Y1{x:A8}(h:O[k]?=some x):O.set k x=O:=by
 obtain⟨AF,e⟩:=List.getElem?_eq_some_iff.1 h;rw[<-e,aa8]
theorem qb4(AN:∀o∈O,o.upto O.length)(h0:O[2]?=some (.cells (AV u m)))(He:O[3]?=some (.spare m.out.length))(i:Ins)(args:List SV)(hl:∀v∈args,SV.BC O.length v)
  (DL:i.op=15) (x:SV) (hx:args[0]?=some x) (ho:m.out.length<=1000) :
  Aq prog 137 O [.mp 2 0,i.enc,.A3 4 (args.map SV.enc) .sh] (fun r O'=>r=.Ab [(m.effect i args).2.1.enc,aI (m.effect i args).2.2]∧O'=(O.set 3 (.spare (m.effect i args).1.out.length)).set 2 (.cells (AV u (m.effect i args).1))):=by
 have JW:=Mt hx;have Ix:decide (i.op=15)=true:=Ar DL;have FI:(O.set 3 (.spare m.out.length)).set 2 (.cells (AV u m))=O:=by rw[Y1 He,Y1 h0]
 have NR:∀X,(O++X)[2]?=some (.cells (AV u m)):=fun X=>D8 h0;have Om:∀X,(O++X)[3]?=some (.spare m.out.length):=fun X=>D8 He;unfold AV at NR;by_cases hk:x.kind=0
 ·have hd:decide (x.kind=0)=true:=Ar hk;by_cases hf:m.out.length=1000
  ·have TV:decide ((m.out.length:Int)=1000)=true:=Ar I;have Df:m.effect i args=(m,.zero,6):=ab0
   rw[Df];refine r7 Ix Ix hx hd ?_;refine FE ?_;refine L7 NR TV ?_;exact acx FI
  have TV:decide ((m.out.length:Int)=1000)=false:=Ac I;have Df:m.effect i args=({ m with out:=m.out++[x.n] },.word 0,0):=ab0
  rw[Df];obtain⟨m',BX⟩:∃m',m' = { m with out:=m.out++[x.n] }:=⟨_,rfl⟩
  have Of:=EY (k:=2) (j:=3) (y:=.spare (m.out.length+1)) h0 I;have hp:[C8 u.fns,aI u.main,.os m.sid m.frames.length 1,aI m.left,.v (.bool m.short),.v (.bool m.over),.A3 1 (m.out.map aI++[aI x.n]) (.tok 3),aI m.fin,aI m.val]=AV u m':=by
   rw[BX];simp[AV]
  obtain⟨O2,Jp⟩:∃O2,O2=(O.set 3 (.spare (m.out.length+1))).set 2 (.cells (AV u m')):=⟨_,rfl⟩
  have hlen:O.length=O2.length:=jY
  have EC:∀o∈O2,o.upto O2.length:=by
   rw[<-hlen,Jp];exact Gr (DY AN trivial) Of (fun h=>K1 h (by rw[BX]))
  have e1:∀X,(O++X).set 3 (.spare (m.out.length+1))=O.set 3 (.spare (m.out.length+1))++X:=fun X=>Y0 He;have e2:∀X y,(O.set 3 (.spare (m.out.length+1))++X).set 2 y=(O.set 3 (.spare (m.out.length+1))).set 2 y++X:=fun X y=>Y0 Of;have e3:∀X,(O.set 3 (.spare (m.out.length+1))++X)[2]?=some (.cells (AV u m)):=fun X=>D8 Of;unfold AV at e3;have JY:m'.out.length=m.out.length+1:=by rw[BX];simp
  rw[<-BX];simp only[JY,<-Jp];refine r7 Ix Ix hx hd ?_;refine FE ?_;refine L7 NR TV ?_;refine FE ?_;refine B9 ?_;simp -dsimp only[simprocAttr,↓AG,zp,NR,hx,Om,e1,e2,e3,hp,<-Jp]
  refine Gv ?_;refine acV ?_;exact⟨EC,Ss⟩
 have hd:decide (x.kind=0)=false:=Ac hk;have Df:m.effect i args=(m,.zero,5):=by simp[Mach.effect,DL,JW,hk]
 rw[Df];refine r7 Ix Ix hx hd ?_;exact acx FI
theorem qbT(AN:∀o∈O,o.upto O.length)(h0:O[2]?=some (.cells (AV u m)))(i:Ins)(size fill:SV)(hs:SV.BC O.length size)(hf:SV.BC O.length fill)
  (DL:i.op=16) (h1:0<=m.left) (h2:m.left<=2 ^ 40) (FT:m.short=false) (AT:∀x,((m.E6 size fill).2.1).arr≠some x) :
  Aq prog 137 O [.mp 2 0,i.enc,.A3 4 [size.enc,fill.enc] .sh] (fun r O'=>r=.Ab [(m.E6 size fill).2.1.enc,aI (m.E6 size fill).2.2]∧O'=O.set 2 (.cells (AV u (m.E6 size fill).1))):=by
 have Ix:decide (i.op=15)=false:=Ac I;have MT:decide (i.op=16)=true:=Ar I;have FJ:=Aq.frame (qaS AN h0 size fill hs hf h1 h2 FT AT) A6 ⟨AE h0,hs.Cr,hf.Cr,trivial⟩ AN;have qmY:(m.E6 size fill).1.sid=m.sid:=by
  unfold Mach.E6
  repeat' split
  all_goals first|rfl|exact ao _ _
 have Dl:=Gr AN h0 (ds:=AV u (m.E6 size fill).1) (fun h=>K1 h qmY);have Gm:SV.BC O.length (m.E6 size fill).2.1:=by
  have:∀r:Mach×SV×Int,r=m.E6 size fill->r.2.1=SV.zero∨∃x,r.2.1.arr=some x:=fun r hr=>by
   subst hr;unfold Mach.E6
   repeat' split
   all_goals first|exact .inl rfl|exact .inr ⟨_,rfl⟩
  rcases this _ rfl with e|⟨x,e⟩
  ·rw[e];exact sb _
  exact B3 e (AT x)
 generalize m.E6 size fill=R at *;obtain⟨O1,Bn⟩:∃O1,O1=O.set 2 (.cells (AV u R.1)):=⟨_,rfl⟩
 have hlen:O.length=O1.length:=MJ
 simp only[<-Bn]at FJ Dl ⊢;rw[hlen]at Dl Gm;refine zf true O.length func137 ntmps137 ?_;refine dk ?_;refine Us Ix ?_;refine Uq MT ?_;refine BM ?_;refine .inr (.inl ⟨_,_,FJ _,.inl (B4 ?_)⟩);refine acq ?_;exact⟨Dl,V3 Gm⟩
theorem qe5(AN:∀o∈O,o.upto O.length)(h0:O[2]?=some (.cells (AV u m)))(i:Ins)(size fill:SV)(hs:SV.BC O.length size)(hf:SV.BC O.length fill)
  (DL:i.op=16) (h1:0<=m.left) (h2:m.left<=2 ^ 40) (FT:m.short=false) (hk:size.kind=0) (F7:0<=size.n) (Ib:size.n<=1024) (hp:size.n<=m.left) :
  Aq prog 137 O [.mp 2 0,i.enc,.A3 4 [size.enc,fill.enc] .sh] (fun r O'=>r=.Ab [.agg [aI 3,aI 0,.A3 4 [] .sh,.mp (O.length+6) 0],aI 0]∧O'=O.set 2 (.cells (AV u (m.Ae size.n))) ++
   [.gone,.cells [aI 3,aI 0,.A3 4 [] .sh,.mp (O.length+6) 0],.gone,.gone,.cells [aI 3,aI 0,.A3 4 [] .ex,.mp (O.length+6) 0],.cells (AP ((List.replicate size.n.toNat fill).map SV.enc)),.cells [.ms (O.length+5) 0 size.n.toNat size.n.toNat]]):=by
 have Ix:decide (i.op=15)=false:=Ac I;have MT:decide (i.op=16)=true:=Ar I;have VG:∀o∈O++[.gone,.cells [aI 0,aI 0,.A3 4 [] .ex,.v (.pointer none)]],o.upto (O++[A8.gone,.cells [aI 0,aI 0,.A3 4 [] .ex,.v (.pointer none)]]).length:=fun o ho=>by
  rcases List.mem_append.1 ho with ho|ho
  ·exact A8.IK A6 (AN o ho)
  simp only[CL,NA,Di]at ho;rcases ho with rfl|rfl
  ·trivial
  exact MN
 have hlX:(O++[A8.gone,.cells [aI 0,aI 0,.A3 4 [] .ex,.v (.pointer none)]]).length=O.length+2:=A6
 have FJ:=qbn VG (D8 h0) size fill (hs.mono A6) (hf.mono A6) h1 h2 FT hk F7 Ib hp;have Ol:=Kr h0 (.cells (AV u (m.Ae size.n)));have Dl:=Gr AN h0 (ds:=AV u (m.Ae size.n)) (fun h=>K1 h (ao m size.n));rw[Y0 h0,hlX]at FJ;obtain⟨O1,Bn⟩:∃O1,O1=O.set 2 (.cells (AV u (m.Ae size.n))):=⟨_,rfl⟩
 have hlen:O.length=O1.length:=MJ
 simp only[<-Bn]at FJ Dl ⊢;rw[hlen]at Dl;have ED:∀v∈List.replicate size.n.toNat fill,SV.BC (O1.length+7) v:=fun v hv=>by
  exact ra
 have hc:=SV.ZX ED;generalize CV:AP ((List.replicate size.n.toNat fill).map SV.enc)=row at *;refine zf true (O.length+7) func137 ntmps137 ?_;refine dk ?_;refine Us Ix ?_;refine Uq MT ?_;refine BM ?_;refine .inr (.inl ⟨_,_,FJ,.inl (B4 ?_)⟩);refine acq ?_;rw[ke];refine⟨fun o ho=>?_,iw,rfl⟩;rcases List.mem_append.1 ho with ho|ho
 ·exact A8.IK I (Dl o ho)
 simp only[Ra,T4,CL,NA,Di]at ho;rcases ho with rfl|rfl|rfl|rfl|rfl|rfl|rfl
 ·trivial
 ·exact MN
 ·trivial
 ·trivial
 ·exact MN
 ·exact hc
 exact MN
theorem qb3{u:Ad}(AN:∀o∈O,o.upto O.length)(i:Ins)(x y:SV)(hx:SV.BC O.length x)(hy:SV.BC O.length y)(Dv:2<O.length)
  (DL:i.op=18):Aq prog 137 O [.mp 2 0,i.enc,.A3 4 [x.enc,y.enc] .sh] (fun r O'=>r=.Ab [(m.effect i [x,y]).2.1.enc,aI (m.effect i [x,y]).2.2]∧O'=O):=by
 have hl:∀v∈[x,y],SV.BC O.length v:=fun v hv=>by
  simp only[CL,NA,Di]at hv;rcases hv with rfl|rfl
  ·exact hx
  exact hy
 have Ix:decide (i.op=15)=false:=Ac I;have MT:decide (i.op=16)=false:=Ac I;have QV:decide (i.op=18)=true:=Ar I;have Br:=fF AN [x,y] hl 0;have ha:BS [x,y] 0=x∧BS [x,y] 1=y:=⟨rfl,rfl⟩
 cases hk:J1 [x,y] 0 with
 | false =>
  simp only[hk,Bc,Ed]at Br;refine WR Ix MT QV ?_;refine aZ ?_;refine Ak ?_;refine jn ?_;refine⟨AN,RM,?_⟩;simp[Mach.effect,DL,hk]
 | true =>
  simp only[hk,Bc,Ed]at Br;by_cases hb:x.n<0∨y.n<=x.n
  ·have Hc:decide (x.n<0)=true∨(decide (x.n<0)=false∧decide (y.n<=x.n)=true):=by
    by_cases h1:x.n<0
    ·exact .inl (Ar h1)
    exact .inr ⟨Ac h1,Ar I⟩
   rcases Hc with Hc|⟨Hc,VI⟩
   ·refine WR Ix MT QV ?_;refine aZ ?_;refine ML ?_;refine WV Hc ?_;refine jn ?_;refine⟨AN,RM,?_⟩;simp[Mach.effect,DL,hk,ha,hb]
   refine WR Ix MT QV ?_;refine aZ ?_;refine ML ?_;refine Ej ?_;refine Ri Hc VI ?_;refine Gj ?_;refine jn ?_;refine⟨AN,RM,?_⟩;simp[Mach.effect,DL,hk,ha,hb]
  have Hc:decide (x.n<0)=false:=Ac I;have VI:decide (y.n<=x.n)=false:=Ac I;refine WR Ix MT QV ?_;refine aZ ?_;refine ML ?_;refine Ej ?_;refine Ri Hc VI ?_;refine Gj ?_;refine FE ?_;refine BM ?_;refine .inl ⟨_,RH 0,MK,B4 ?_⟩;refine dq ?_;simp -dsimp only[simprocAttr,↓AG,zp,zr,results137,ZM];refine⟨AN,Ss,?_⟩;simp[Mach.effect,DL,hk,ha,hb]
def qi0(m m':Mach)(a:Option Nat)(O O':List A8):Prop :=
 (O'=O∧m'=m)∨∃(EI AS k:Nat) (z:SV) (l:List SV),a=some EI∧O[EI]?=some (.cells [.ms AS 0 l.length l.length])∧O[AS]?=some (.cells (AP (l.map SV.enc)))∧k<l.length∧l=Mach.K8 m.heap a∧SV.BC O.length z ∧
  O'=O.set AS (.cells (AP ((l.set k z).map SV.enc)))∧m' = { m with heap:=Mach.QF m.heap a (l.set k z) }
theorem qcs(AN:∀o∈O,o.upto O.length)(i:Ins)(args:List SV)(hl:∀v∈args,SV.BC O.length v)(x:SV)(hx:args[0]?=some x)
  (KN:i.op≠15) (Js:i.op≠16) (Kj:i.op≠18) (h1:i.op≠17->∃y,args[1]?=some y) (h2:i.op≠17->i.op≠19->∃z,args[2]?=some z)
  (hu:∀v∈Mach.K8 m.heap x.arr,SV.BC O.length v) (ha:x.kind=3->∃EI AS,x.arr=some EI∧O[EI]?=some (.cells [.ms AS 0 (Mach.K8 m.heap x.arr).length (Mach.K8 m.heap x.arr).length])∧O[AS]?=some (.cells (AP ((Mach.K8 m.heap x.arr).map SV.enc)))) :
  ∃O',Aq prog 137 O [.mp 2 0,i.enc,.A3 4 (args.map SV.enc) .sh] (fun r O1=>r=.Ab [(m.effect i args).2.1.enc,aI (m.effect i args).2.2]∧O1=O')∧qi0 m (m.effect i args).1 x.arr O O':=by
 have JW:=Mt hx;have Ix:decide (i.op=15)=false:=Ac I;have MT:decide (i.op=16)=false:=Ac I;have QV:decide (i.op=18)=false:=Ac I;by_cases hk:x.kind=3
 ·have Vj:decide (x.kind=3)=true:=Ar hk;obtain⟨EI,AS,e1,e2,e3⟩:=ha hk;have heP:eP x.arr=.mp EI 0:=by rw[e1];rfl
  have hLu:=hu;generalize hL:Mach.K8 m.heap x.arr=L at *;have e2':∀X,(O++X)[EI]?=some (.cells [.ms AS 0 L.length L.length]):=fun X=>D8 e2;have e3':∀X,(O++X)[AS]?=some (.cells (AP (L.map SV.enc))):=fun X=>D8 e3;by_cases Tq:i.op=17
  ·have QU:decide (i.op=17)=true:=Ar Tq;have Df:m.effect i args=(m,.word L.length,0):=by simp[Mach.effect,Tq,JW,hk,hL]
   refine kD Df Ix MT QV ?_;refine L5 hx Vj QU ?_;refine eC hx heP e2' QU ?_;refine FF ?_;refine BM ?_;refine .inl ⟨_,RH L.length,MK,B4 ?_⟩;refine dq ?_;simp -dsimp only[simprocAttr,↓AG,zp,zr,results137,ZM];exact⟨AN,Ss⟩
  have QU:decide (i.op=17)=false:=Ac Tq;obtain⟨y,hy⟩:=h1 Tq;have hay:=Mt hy;by_cases Z7:y.kind=0
  ·have hyk:decide (y.kind=0)=true:=Ar Z7;by_cases hb:y.n<0∨(L.length:Int)<=y.n
   ·have Df:m.effect i args=(m,.zero,2):=by simp[Mach.effect,KN,Js,Kj,Tq,JW,hay,hk,Z7,hL,hb]
    rw[Df];refine⟨O,?_,.inl ⟨rfl,rfl⟩⟩;rcases(show y.n<0∨(¬y.n<0∧(L.length:Int)<=y.n) from I)with Xf|⟨Xf,NX⟩
    ·have Hc:decide (y.n<0)=true:=Ar Xf;refine WR Ix MT QV ?_;refine ON ?_;refine Ej ?_;simp -dsimp only[simprocAttr,↓AG,zp,hx,hy,Vj,QU,hyk];refine eC hx heP e2' QU ?_;refine FE ?_;refine Ch hy ?_;refine HZ Hc ?_;exact k8
    have Hc:decide (y.n<0)=false:=Ac Xf;have VI:decide ((L.length:Int)<=y.n)=true:=Ar NX;refine WR Ix MT QV ?_;refine ON ?_;refine Ej ?_;simp -dsimp only[simprocAttr,↓AG,zp,hx,hy,Vj,QU,hyk];refine eC hx heP e2' QU ?_;refine FE ?_;refine Ch hy ?_;refine L7 Hc VI ?_;exact k8
   have Hc:decide (y.n<0)=false:=Ac I;have VI:decide ((L.length:Int)<=y.n)=false:=Ac I;obtain⟨k,G3⟩:∃k:Nat,y.n=k:=⟨y.n.toNat,I⟩
   have Fg:k<L.length:=I
   have CV:=SV.qjH L;by_cases h19:i.op=19
   ·have oD:decide (i.op=19)=true:=Ar h19;obtain⟨z,hz⟩:∃z,L[k]?=some z:=⟨L[k],by simp[Fg]⟩
    have haz:=Mt hz;have DO:=SV.xB hz;have Th:SV.BC O.length z:=hLu z (AK hz);have Df:m.effect i args=(m,z,0):=by simp[Mach.effect,Tq,h19,JW,hay,hk,Z7,hL,hb,G3,haz,Fg]
    refine kD Df Ix MT QV ?_;refine Ej ?_;simp -dsimp only[simprocAttr,↓AG,zp,hx,hy,Vj,QU,hyk];refine eC hx heP e2' QU ?_;refine FE ?_;refine Ch hy ?_;refine L7 Hc VI ?_;refine FE ?_;refine HZ oD ?_;refine FF ?_;refine B9 ?_;refine Yd G3 e3' CV DO ?_
    refine D1 ?_;refine F3 ?_;simp -dsimp only[simprocAttr,↓AG,zp,zr,results137];exact⟨AN,V3 Th⟩
   have oD:decide (i.op=19)=false:=Ac h19;obtain⟨z,hz⟩:=h2 Tq h19;have haz:=Mt hz;have Fk:=SV.qie Fg z;rw[SV.D']at Fk;have Th:SV.BC O.length z:=hl z (AK hz);have Df:m.effect i args=({ m with heap:=Mach.QF m.heap x.arr (L.set k z) },.word 0,0):=by simp[Mach.effect,KN,Js,Kj,Tq,h19,JW,hay,hk,Z7,hL,hb,G3,haz,Fg]
   rw[Df];obtain⟨O1,Bn⟩:∃O1,O1=O.set AS (.cells (AP ((L.set k z).map SV.enc))):=⟨_,rfl⟩
   have hlen:O.length=O1.length:=MJ
   have Dl:∀o∈O1,o.upto O1.length:=by
    rw[<-hlen,Bn];refine DY AN (SV.ZX fun v hv=>?_);rcases KE hv with q|q
    ·exact hLu v q
    exact q ▸ Th
   have He:∀X y,(O++X).set AS y=O.set AS y++X:=fun X y=>Y0 e3;refine⟨O1,?_,.inr ⟨EI,AS,k,z,L,e1,e2,e3,Fg,hL.symm,Th,Bn,rfl⟩⟩;refine WR Ix MT QV ?_;refine ON ?_;refine Ej ?_;simp -dsimp only[simprocAttr,↓AG,zp,hx,hy,Vj,QU,hyk];refine eC hx heP e2' QU ?_;refine FE ?_;refine Ch hy ?_;refine L7 Hc VI ?_;refine FE ?_;refine HZ oD ?_;refine FE ?_;refine B9 ?_;simp -dsimp only[simprocAttr,↓AG,zp,G3,hz,e3',CV,SV.Py,Fk,He,<-Bn]
   refine D1 ?_;refine acV ?_;exact⟨Dl,Ss⟩
  have hyk:decide (y.kind=0)=false:=Ac Z7;have Df:m.effect i args=(m,.zero,5):=by simp[Mach.effect,KN,Js,Kj,Tq,JW,hay,hk,Z7]
  refine kD Df Ix MT QV ?_;refine Ej ?_;simp -dsimp only[simprocAttr,↓AG,zp,hx,hy,Vj,QU,hyk];refine Ak ?_;exact k8
 have Vj:decide (x.kind=3)=false:=Ac hk;have Df:m.effect i args=(m,.zero,5):=by simp[Mach.effect,KN,Js,Kj,JW,hk]
 refine kD Df Ix MT QV ?_;refine L7 hx Vj ?_;exact k8
theorem qfc{u:Ad}(AN:∀o∈O,o.upto O.length)(i:Ins)(args:List SV)(hl:∀v∈args,SV.BC O.length v)(DL:i.op=0):Aq prog 115 O [.mp 2 0,i.enc,.A3 4 (args.map SV.enc) .sh] (fun r O'=>r=.Ab [(m.exec i args).2.1.enc,aI (m.exec i args).2.2]∧O'=O):=by
 refine Uk (fun h=>?_) (fun h=>?_)
 ·refine BM ?_;refine .inl ⟨_,RH i.n,MK,B4 ?_⟩;refine dq ?_;simp -dsimp only[simprocAttr,↓AG,zp,zr,results115,ZM];refine⟨AN,Ss,?_⟩;simp[Mach.exec,DL]
 exact Ht h
theorem qcW{u:Ad}(AN:∀o∈O,o.upto O.length)(i:Ins)(args:List SV)(hl:∀v∈args,SV.BC O.length v)(DL:1<=i.op∧i.op<=7)(x y:SV)(hx:args[0]?=some x)(hy:args[1]?=some y)(hxw:x.kind=0->CR x.n)(hyw:y.kind=0->CR y.n):Aq prog 115 O [.mp 2 0,i.enc,.A3 4 (args.map SV.enc) .sh] (fun r O'=>r=.Ab [(m.exec i args).2.1.enc,aI (m.exec i args).2.2]∧O'=O):=by
 have JW:=Mt hx;have hay:=Mt hy;have Br:=fF AN args hl 0;have h0:i.op≠0:=I
 cases hk:J1 args 0 with
 | false =>
  rw[hk]at Br;refine Uk (fun h=>?_) (fun h=>?_)
  ·exact AI h
  refine abx ?_ ?_
  ·apply AZ rfl<;>intro h
   ·refine F1 ?_ ?_
    ·exact FX
    rfl
   refine AJ (fun h=>?_) (fun h=>?_)
   ·refine F1 ?_ ?_
    ·exact FX
    rfl
   refine AJ (fun h=>?_) (fun h=>?_)
   ·refine F1 ?_ ?_
    ·exact FX
    rfl
   refine AJ (fun h=>?_) (fun h=>?_)
   ·refine F1 ?_ ?_
    ·exact FX
    rfl
   refine AJ (fun h=>?_) (fun h=>?_)
   ·refine F1 ?_ ?_
    ·exact FX
    rfl
   refine AJ (fun h=>?_) (fun h=>?_)
   ·refine F1 ?_ ?_
    ·exact FX
    rfl
   refine HA ?_;refine PH ?_ ?_
   ·exact Sub.of_eq aaS
   rfl
  refine aZ ?_;refine Rn ?_;simp -dsimp only[simprocAttr,↓AG,zp,zr,results115,Vw];refine⟨AN,RM,?_⟩;simp[Mach.exec,DL,h0,hk]
 | true =>
  rw[hk]at Br;have hkx:x.kind=0:=by
   simp only[J1,OJ,Cp]at hk;exact hk x (AK hx)
  have hky:y.kind=0:=by
   simp only[J1,OJ,Cp]at hk;exact hk y (AK hy)
  have qla:=aez i.op x.n y.n (hxw hkx) (hyw hky);have hbu:=adZ O.length i.op x.n y.n;have Df:m.exec i args=(m,Jb i.op x.n y.n):=by simp[Mach.exec,DL,h0,hk,JW,hay]
  rw[Df];generalize Jb i.op x.n y.n=B at *;refine Uk (fun h=>?_) (fun h=>?_)
  ·exact AI h
  refine abx ?_ ?_
  ·apply AZ rfl<;>intro h
   ·refine F1 ?_ ?_
    ·exact FX
    rfl
   refine AJ (fun h=>?_) (fun h=>?_)
   ·refine F1 ?_ ?_
    ·exact FX
    rfl
   refine AJ (fun h=>?_) (fun h=>?_)
   ·refine F1 ?_ ?_
    ·exact FX
    rfl
   refine AJ (fun h=>?_) (fun h=>?_)
   ·refine F1 ?_ ?_
    ·exact FX
    rfl
   refine AJ (fun h=>?_) (fun h=>?_)
   ·refine F1 ?_ ?_
    ·exact FX
    rfl
   refine AJ (fun h=>?_) (fun h=>?_)
   ·refine F1 ?_ ?_
    ·exact FX
    rfl
   refine HA ?_;refine PH ?_ ?_
   ·exact Sub.of_eq aaS
   rfl
  refine aZ ?_;refine ML ?_;refine KJ hx hy ?_;refine zi qla ?_;refine Gj ?_;refine F3 ?_;refine jv ?_;exact⟨AN,V3 hbu⟩
theorem qfb{u:Ad}(AN:∀o∈O,o.upto O.length)(i:Ins)(args:List SV)(hl:∀v∈args,SV.BC O.length v)(DL:i.op=8):Aq prog 115 O [.mp 2 0,i.enc,.A3 4 (args.map SV.enc) .sh] (fun r O'=>r=.Ab [(m.exec i args).2.1.enc,aI (m.exec i args).2.2]∧O'=O):=by
 have hz:=(SV.BC.mk (k:=1) (m:=i.n) (a:=none) A6 hl).Cr;rw[SV.QB]at hz;refine Uk (fun h=>?_) (fun h=>?_)
 ·exact AI h
 refine BF ?_;apply AZ rfl<;>intro h
 ·exact AI h
 refine AJ (fun h=>?_) (fun h=>?_)
 ·exact AI h
 refine AJ (fun h=>?_) (fun h=>?_)
 ·exact AI h
 refine AJ (fun h=>?_) (fun h=>?_)
 ·exact AI h
 refine AJ (fun h=>?_) (fun h=>?_)
 ·exact AI h
 refine AJ (fun h=>?_) (fun h=>?_)
 ·exact AI h
 refine Et ?_;apply AZ rfl<;>intro h
 ·exact AI h
 refine AJ (fun h=>?_) (fun h=>?_)
 ·exact acL DL
 exact Ht h
theorem qe6{u:Ad}(AN:∀o∈O,o.upto O.length)(i:Ins)(args:List SV)(hl:∀v∈args,SV.BC O.length v)(DL:i.op=9):Aq prog 115 O [.mp 2 0,i.enc,.A3 4 (args.map SV.enc) .sh] (fun r O'=>r=.Ab [(m.exec i args).2.1.enc,aI (m.exec i args).2.2]∧O'=O):=by
 have hz:=(SV.BC.mk (k:=2) (m:=i.n) (a:=none) A6 hl).Cr;rw[SV.QB]at hz;refine Uk (fun h=>?_) (fun h=>?_)
 ·exact AI h
 refine BF ?_;apply AZ rfl<;>intro h
 ·exact AI h
 refine AJ (fun h=>?_) (fun h=>?_)
 ·exact AI h
 refine AJ (fun h=>?_) (fun h=>?_)
 ·exact AI h
 refine AJ (fun h=>?_) (fun h=>?_)
 ·exact AI h
 refine AJ (fun h=>?_) (fun h=>?_)
 ·exact AI h
 refine AJ (fun h=>?_) (fun h=>?_)
 ·exact AI h
 refine Et ?_;apply AZ rfl<;>intro h
 ·exact AI h
 refine AJ (fun h=>?_) (fun h=>?_)
 ·exact AI h
 refine AJ (fun h=>?_) (fun h=>?_)
 ·exact acL DL
 exact Ht h
theorem qfd{u:Ad}(AN:∀o∈O,o.upto O.length)(i:Ins)(args:List SV)(hl:∀v∈args,SV.BC O.length v)(DL:i.op=10∨i.op=11∨i.op=12∨i.op=21)(hC:Aq prog 135 O [i.enc,.A3 4 (args.map SV.enc) .sh] (fun r O'=>r=.Ab [(I' i args).1.enc,aI (I' i args).2]∧O'=O))(hR:SV.BC O.length (I' i args).1):Aq prog 115 O [.mp 2 0,i.enc,.A3 4 (args.map SV.enc) .sh] (fun r O'=>r=.Ab [(m.exec i args).2.1.enc,aI (m.exec i args).2.2]∧O'=O):=by
 have FJ:=Aq.frame hC rfl ⟨i.Cr _,⟨SV.AX hl,trivial⟩,trivial⟩ AN;have Df:m.exec i args=(m,I' i args):=by
  unfold Mach.exec;rw[A4 I,A4 I,A4 I,A4 I,A9 DL]
 rw[Df];generalize I' i args=B at *;refine Uk (fun h=>?_) (fun h=>?_)
 ·exact AI h
 refine BF ?_;apply AZ rfl<;>intro h
 ·exact AI h
 refine AJ (fun h=>?_) (fun h=>?_)
 ·exact AI h
 refine AJ (fun h=>?_) (fun h=>?_)
 ·exact AI h
 refine AJ (fun h=>?_) (fun h=>?_)
 ·exact AI h
 refine AJ (fun h=>?_) (fun h=>?_)
 ·exact AI h
 refine AJ (fun h=>?_) (fun h=>?_)
 ·exact AI h
 refine Et ?_;apply AZ rfl<;>intro h
 ·exact AI h
 refine AJ (fun h=>?_) (fun h=>?_)
 ·exact AI h
 refine AJ (fun h=>?_) (fun h=>?_)
 ·exact AI h
 refine BF ?_;refine Xy (⟨82,[(0,.mp 2 0),(2,.A3 4 (args.map SV.enc) .sh),(4,.ip none [aI i.to,aI i.op,aI i.n,AA i.args]),(6,.mp (O.length+1) 0),(7,aI 0),(9,aI i.op),(52,.v (.bool true))],O++[.gone,.cells [aI 0,aI 0,.A3 4 [] .ex,.v (.pointer none)]]⟩) ?_ ?_
 ·apply AZ rfl<;>intro h
  ·refine F1 ?_ ?_
   ·exact FX
   rfl
  refine AJ (fun h=>?_) (fun h=>?_)
  ·refine F1 ?_ ?_
   ·exact FX
   rfl
  refine AJ (fun h=>?_) (fun h=>?_)
  ·refine F1 ?_ ?_
   ·exact FX
   rfl
  refine HA ?_;refine PH ?_ ?_
  ·exact Sub.of_eq (by rw[Ar (show i.op=21 from iy)])
  rfl
 exact acT hR
theorem qfe{u:Ad}(AN:∀o∈O,o.upto O.length)(i:Ins)(args:List SV)(hl:∀v∈args,SV.BC O.length v)(DL:i.op=22∨i.op=23∨i.op=24)(hC:Aq prog 136 O [i.enc,.A3 4 (args.map SV.enc) .sh] (fun r O'=>r=.Ab [(IM i args).1.enc,aI (IM i args).2]∧O'=O))(hR:SV.BC O.length (IM i args).1):Aq prog 115 O [.mp 2 0,i.enc,.A3 4 (args.map SV.enc) .sh] (fun r O'=>r=.Ab [(m.exec i args).2.1.enc,aI (m.exec i args).2.2]∧O'=O):=by
 have FJ:=Aq.frame hC rfl ⟨i.Cr _,⟨SV.AX hl,trivial⟩,trivial⟩ AN;have Df:m.exec i args=(m,IM i args):=by
  unfold Mach.exec;rw[A4 I,A4 I,A4 I,A4 I,A4 I,A9 DL]
 rw[Df];generalize IM i args=B at *;refine Uk (fun h=>?_) (fun h=>?_)
 ·exact AI h
 refine BF ?_;apply AZ rfl<;>intro h
 ·exact AI h
 refine AJ (fun h=>?_) (fun h=>?_)
 ·exact AI h
 refine AJ (fun h=>?_) (fun h=>?_)
 ·exact AI h
 refine AJ (fun h=>?_) (fun h=>?_)
 ·exact AI h
 refine AJ (fun h=>?_) (fun h=>?_)
 ·exact AI h
 refine AJ (fun h=>?_) (fun h=>?_)
 ·exact AI h
 refine Et ?_;apply AZ rfl<;>intro h
 ·exact AI h
 refine AJ (fun h=>?_) (fun h=>?_)
 ·exact AI h
 refine AJ (fun h=>?_) (fun h=>?_)
 ·exact AI h
 refine BF ?_;apply AZ rfl<;>intro h
 ·exact AI h
 refine AJ (fun h=>?_) (fun h=>?_)
 ·exact AI h
 refine AJ (fun h=>?_) (fun h=>?_)
 ·exact AI h
 refine Et ?_;apply AZ rfl<;>intro h
 ·exact AI h
 refine BF ?_;refine Xy (⟨82,[(0,.mp 2 0),(2,.A3 4 (args.map SV.enc) .sh),(4,.ip none [aI i.to,aI i.op,aI i.n,AA i.args]),(6,.mp (O.length+1) 0),(7,aI 0),(9,aI i.op),(62,.v (.bool true))],O++[.gone,.cells [aI 0,aI 0,.A3 4 [] .ex,.v (.pointer none)]]⟩) ?_ ?_
 ·apply AZ rfl<;>intro h
  ·refine F1 ?_ ?_
   ·exact FX
   rfl
  refine AJ (fun h=>?_) (fun h=>?_)
  ·refine F1 ?_ ?_
   ·exact FX
   rfl
  refine HA ?_;refine PH ?_ ?_
  ·exact Sub.of_eq aaQ
  rfl
 exact acT hR
theorem qe7{u:Ad}(AN:∀o∈O,o.upto O.length)(i:Ins)(args:List SV)(hl:∀v∈args,SV.BC O.length v)(DL:i.op=100)(x:SV)(hx:args[0]?=some x):Aq prog 115 O [.mp 2 0,i.enc,.A3 4 (args.map SV.enc) .sh] (fun r O'=>r=.Ab [(m.exec i args).2.1.enc,aI (m.exec i args).2.2]∧O'=O):=by
 have JW:=Mt hx;have PT:=hl x (AK hx);refine Uk (fun h=>?_) (fun h=>?_)
 ·exact AI h
 refine BF ?_;apply AZ rfl<;>intro h
 ·exact AI h
 refine AJ (fun h=>?_) (fun h=>?_)
 ·exact AI h
 refine AJ (fun h=>?_) (fun h=>?_)
 ·exact AI h
 refine AJ (fun h=>?_) (fun h=>?_)
 ·exact AI h
 refine AJ (fun h=>?_) (fun h=>?_)
 ·exact AI h
 refine AJ (fun h=>?_) (fun h=>?_)
 ·exact AI h
 refine Et ?_;apply AZ rfl<;>intro h
 ·exact AI h
 refine AJ (fun h=>?_) (fun h=>?_)
 ·exact AI h
 refine AJ (fun h=>?_) (fun h=>?_)
 ·exact AI h
 refine BF ?_;apply AZ rfl<;>intro h
 ·exact AI h
 refine AJ (fun h=>?_) (fun h=>?_)
 ·exact AI h
 refine AJ (fun h=>?_) (fun h=>?_)
 ·exact AI h
 refine Et ?_;apply AZ rfl<;>intro h
 ·exact AI h
 refine BF ?_;apply AZ rfl<;>intro h
 ·exact AI h
 refine AJ (fun h=>?_) (fun h=>?_)
 ·exact AI h
 refine Et ?_;apply AZ rfl<;>intro h
 ·exact AI h
 refine AJ (fun h=>?_) (fun h=>?_)
 ·refine Ch hx ?_;refine F3 ?_;refine jv ?_;refine⟨AN,V3 PT,?_⟩;simp[Mach.exec,DL,JW]
 exact Ht h
theorem qbS(m:Mach)(i:Ins)(args:List SV)(h0:i.op≠0)(h1:¬(1<=i.op∧i.op<=7))(h8:i.op≠8)(h9:i.op≠9)(Jr:i.op≠10∧i.op≠11∧i.op≠12∧i.op≠21)(Me:i.op≠22∧i.op≠23∧i.op≠24)(DG:i.op≠100):m.exec i args=m.effect i args:=by
 unfold Mach.exec;rw[A4 h0,A4 h1,A4 h8,A4 h9,A4 I,A4 I,A4 DG]
theorem eR{O':List A8}(AN:∀o∈O,o.upto O.length)(i:Ins)(args:List SV)(hl:∀v∈args,SV.BC O.length v)(h0:i.op≠0)(h1:¬(1<=i.op∧i.op<=7))(h8:i.op≠8)(h9:i.op≠9)(Jr:i.op≠10∧i.op≠11∧i.op≠12∧i.op≠21)(Me:i.op≠22∧i.op≠23∧i.op≠24)(DG:i.op≠100)(Dv:2<O.length)(v:SV)(t:Int)(hv:SV.BC O.length v)
  (hC:Aq prog 137 O [.mp 2 0,i.enc,.A3 4 (args.map SV.enc) .sh] (fun r O1=>r=.Ab [v.enc,aI t]∧O1=O')) (hlen:O.length=O'.length) (P9:∀o∈O',o.upto O'.length) :
  Aq prog 115 O [.mp 2 0,i.enc,.A3 4 (args.map SV.enc) .sh] (fun r O1=>r=.Ab [v.enc,aI t]∧O1=O'):=by
 have FJ:=Aq.frame hC hlen.symm ⟨Dv,i.Cr _,⟨SV.AX hl,trivial⟩,trivial⟩ AN;rw[hlen]at hv;refine Uk (fun h=>?_) (fun h=>?_)
 ·exact AI h
 refine BF ?_;apply AZ rfl<;>intro h
 ·exact AI h
 refine AJ (fun h=>?_) (fun h=>?_)
 ·exact AI h
 refine AJ (fun h=>?_) (fun h=>?_)
 ·exact AI h
 refine AJ (fun h=>?_) (fun h=>?_)
 ·exact AI h
 refine AJ (fun h=>?_) (fun h=>?_)
 ·exact AI h
 refine AJ (fun h=>?_) (fun h=>?_)
 ·exact AI h
 refine Et ?_;apply AZ rfl<;>intro h
 ·exact AI h
 refine AJ (fun h=>?_) (fun h=>?_)
 ·exact AI h
 refine AJ (fun h=>?_) (fun h=>?_)
 ·exact AI h
 refine BF ?_;apply AZ rfl<;>intro h
 ·exact AI h
 refine AJ (fun h=>?_) (fun h=>?_)
 ·exact AI h
 refine AJ (fun h=>?_) (fun h=>?_)
 ·exact AI h
 refine Et ?_;apply AZ rfl<;>intro h
 ·exact AI h
 refine BF ?_;apply AZ rfl<;>intro h
 ·exact AI h
 refine AJ (fun h=>?_) (fun h=>?_)
 ·exact AI h
 refine Et ?_;apply AZ rfl<;>intro h
 ·exact AI h
 refine AJ (fun h=>?_) (fun h=>?_)
 ·exact AI h
 refine H2 ?_;refine BM ?_;refine .inr (.inl ⟨_,_,FJ _,.inl (B4 ?_)⟩);refine dx ?_;refine E9 ?_;simp -dsimp only[simprocAttr,↓AG,zp,zr,results115,hlen];exact⟨P9,V3 hv⟩
theorem qiJ(AN:∀o∈O,o.upto O.length)(NR:O[2]?=some (.cells (AV u m)))(i:Ins)(size fill:SV)(hs:SV.BC O.length size)(hf:SV.BC O.length fill)
  (DL:i.op=16) (Om:0<=m.left) (h2:m.left<=2 ^ 40) (FT:m.short=false) (hk:size.kind=0) (F7:0<=size.n) (Ib:size.n<=1024) (hp:size.n<=m.left) :
  Aq prog 115 O [.mp 2 0,i.enc,.A3 4 [size.enc,fill.enc] .sh] (fun r O'=>r=.Ab [.agg [aI 3,aI 0,.A3 4 [] .sh,.mp (O.length+8) 0],aI 0]∧O'=O.set 2 (.cells (AV u (m.Ae size.n))) ++
   [.gone,.cells [aI 3,aI 0,.A3 4 [] .sh,.mp (O.length+8) 0],.gone,.cells [aI 3,aI 0,.A3 4 [] .sh,.mp (O.length+8) 0],.gone,.gone,.cells [aI 3,aI 0,.A3 4 [] .ex,.mp (O.length+8) 0],.cells (AP ((List.replicate size.n.toNat fill).map SV.enc)),.cells [.ms (O.length+7) 0 size.n.toNat size.n.toNat]]):=by
 have VG:∀o∈O++[.gone,.cells [aI 0,aI 0,.A3 4 [] .ex,.v (.pointer none)]],o.upto (O++[A8.gone,.cells [aI 0,aI 0,.A3 4 [] .ex,.v (.pointer none)]]).length:=fun o ho=>by
  rcases List.mem_append.1 ho with ho|ho
  ·exact A8.IK A6 (AN o ho)
  simp only[CL,NA,Di]at ho;rcases ho with rfl|rfl
  ·trivial
  exact MN
 have hlX:(O++[A8.gone,.cells [aI 0,aI 0,.A3 4 [] .ex,.v (.pointer none)]]).length=O.length+2:=A6
 have FJ:=qe5 VG (D8 NR) i size fill (hs.mono A6) (hf.mono A6) DL Om h2 FT hk F7 Ib hp;have Dl:=Gr AN NR (ds:=AV u (m.Ae size.n)) (fun h=>K1 h (ao m size.n));rw[Y0 NR,hlX]at FJ;obtain⟨O1,Bn⟩:∃O1,O1=O.set 2 (.cells (AV u (m.Ae size.n))):=⟨_,rfl⟩
 have hlen:O.length=O1.length:=MJ
 simp only[<-Bn]at FJ Dl ⊢;rw[hlen]at Dl;have ED:∀v∈List.replicate size.n.toNat fill,SV.BC (O1.length+9) v:=fun v hv=>by
  exact ra
 have hc:=SV.ZX ED;have h0:i.op≠0:=I
 generalize CV:AP ((List.replicate size.n.toNat fill).map SV.enc)=row at *;refine zf true (O.length+9) func115 ntmps115 ?_;refine dk ?_;refine AJ (fun h=>?_) (fun h=>?_)
 ·exact AI h
 refine BF ?_;apply AZ rfl<;>intro h
 ·exact AI h
 refine AJ (fun h=>?_) (fun h=>?_)
 ·exact AI h
 refine AJ (fun h=>?_) (fun h=>?_)
 ·exact AI h
 refine AJ (fun h=>?_) (fun h=>?_)
 ·exact AI h
 refine AJ (fun h=>?_) (fun h=>?_)
 ·exact AI h
 refine AJ (fun h=>?_) (fun h=>?_)
 ·exact AI h
 refine Et ?_;apply AZ rfl<;>intro h
 ·exact AI h
 refine AJ (fun h=>?_) (fun h=>?_)
 ·exact AI h
 refine AJ (fun h=>?_) (fun h=>?_)
 ·exact AI h
 refine BF ?_;apply AZ rfl<;>intro h
 ·exact AI h
 refine AJ (fun h=>?_) (fun h=>?_)
 ·exact AI h
 refine AJ (fun h=>?_) (fun h=>?_)
 ·exact AI h
 refine Et ?_;apply AZ rfl<;>intro h
 ·exact AI h
 refine BF ?_;apply AZ rfl<;>intro h
 ·exact AI h
 refine AJ (fun h=>?_) (fun h=>?_)
 ·exact AI h
 refine Et ?_;apply AZ rfl<;>intro h
 ·exact AI h
 refine AJ (fun h=>?_) (fun h=>?_)
 ·exact AI h
 refine H2 ?_;refine BM ?_;refine .inr (.inl ⟨_,_,FJ,.inl (B4 ?_)⟩);refine dx ?_;refine E9 ?_;simp -dsimp only[simprocAttr,↓AG,zp,zr,results115,hlen];rw[ke];refine⟨fun o ho=>?_,iw,rfl⟩;rcases List.mem_append.1 ho with ho|ho
 ·exact A8.IK I (Dl o ho)
 simp only[Ra,T4,CL,NA,Di]at ho;rcases ho with rfl|rfl|rfl|rfl|rfl|rfl|rfl|rfl|rfl
 ·trivial
 ·exact MN
 ·trivial
 ·exact MN
 ·trivial
 ·trivial
 ·exact MN
 ·exact hc
 exact MN
theorem sQ:∀{es:List (Int×SV)} {ps:List Int} {l:List SV} {j:Nat} {p:Int} {a:SV},ps[j]?=some p->l[j]?=some a->C7 es (ps.take (j+1)) (l.take (j+1))=CQ (C7 es (ps.take j) (l.take j)) p a
 | es,q::ps,b::l,0,p,a,h1,h2=>by
  simp only[Dh,AM]at h1 h2;subst h1;subst h2;simp[C7]
 | es,q::ps,b::l,j+1,p,a,h1,h2=>by
  have ih:=sQ (es:=CQ es q b) (ps:=ps) (l:=l) (j:=j) JT KI;simp only[Ra,C7];exact ih
 | _,[],_,_,_,_,h1,_=>by simp at h1
 | _,_::_,[],_,_,_,_,h2=>by simp at h2
theorem qa7(es:List (Int×SV))(ps:List Int)(l:List SV):C7 es (ps.take 0) (l.take 0)=es:=by simp[C7]
theorem Zg:∀{es:List (Int×SV)} {ps:List Int} {l:List SV} {e:Int×SV},e∈C7 es ps l->e∈es∨e.2∈l
 | es,[],_,e,h=>.inl (by simpa[C7]using h)
 | es,_::_,[],e,h=>.inl (by simpa[C7]using h)
 | es,p::ps,a::l,e,h=>by
  simp only[C7]at h;rcases Zg h with h|h
  ·rcases Xr h with h|h
   ·exact .inl h
   exact .inr WN
  exact .inr WN
theorem UJ{k:Int}(h0:0<=k)(h1:k<u.fns.length):u.fns[k.toNat]?=some (AB u k):=by
 have AF:k.toNat<u.fns.length:=I
 simp[AB,AF]
variable {f:Func}
theorem K2{k:Int}(h0:0<=k)(h1:k<f.blocks.length):f.blocks[k.toNat]?=some (A7 f k):=by
 have AF:k.toNat<f.blocks.length:=I
 simp[A7,AF]
theorem V7(h:∀e∈es,SV.BC n e.2):My n (es.map CG):=by
 induction es with
 | nil=>trivial
 | cons e r ih=>exact⟨(h e A6).Cr,ih fun x hx=>h x QQ⟩
theorem qc3(AN:∀o∈O,o.upto O.length)(h0:O[2]?=some (.cells (AV u m)))(f:Fr)(hf:O[f.AW]?=some (.cells (BP f)))(hv:O[f.Ay]?=some (.map (.int .i64) (f.vals.map CG)))
  (hu:∀e∈f.vals,SV.BC O.length e.2) (n0f:2≠f.AW) (n0m:2≠f.Ay) (NO:f.AW≠f.Ay) (Cv:0<=f.fn∧f.fn<u.fns.length) (e:Edge) (he:fD (AB u f.fn) e) (f':Fr)
  (DH:f' = { f with blk:=e.block,pos:=0,vals:=C7 f.vals (A7 (AB u f.fn) e.block).params (BV f.vals e.args) }) :
  Aq prog 129 O [.mp 2 0,.mp f.AW 0,e.enc] (fun r O'=>r=.Ab []∧O'=(O.set f.AW (.cells (BP f'))).set f.Ay (.map (.int .i64) (f'.vals.map CG))):=by
 have LQ:=Xu AN hf hv hu e.args he.len;have hF:=UJ Cv.1 Cv.2;have hB:=K2 he.lo he.hi;have DK:=he.args;have CA:=he.lo;have qoC:=he.len;have Bt:=AE hf;have JY:=AE hv;have Dr:=AE h0;have htu:=sH hu e.args;have CI:(BV f.vals e.args).length=e.args.length:=by simp[BV]
 generalize hTk:BV f.vals e.args=T at *;generalize A7 (AB u f.fn) e.block=B at *;generalize AB u f.fn=F at *;have hTm:=SV.AX htu;have hc:[aI f.fn,aI e.block,aI 0,aI f.to,.mm f.Ay]=BP f':=by
  rw[DH];rfl
 obtain⟨O1,Bn⟩:∃O1,O1=O.set f.AW (.cells (BP f')):=⟨_,rfl⟩
 have hlen:O.length=O1.length:=MJ
 have hs:=Kr hf;have EJ:O1[2]?=some (.cells (AV u m)):=by rw[Bn];exact EY h0 n0f.symm
 have E8:O1[f.AW]?=some (.cells (BP f')):=by rw[Bn];exact hs _
 have KR:O1[f.Ay]?=some (.map (.int .i64) (f.vals.map CG)):=by rw[Bn];exact EY hv NO
 have Dl:∀o∈O1,o.upto O1.length:=by
  rw[<-hlen,Bn];refine Gr AN hf fun h=>?_;simp only[BP,AQ,A2.upto,FA,FW]at h ⊢;rw[DH];exact h
 rw[<-Bn];have hm2:∀x,(O1.set f.Ay x)[2]?=some (.cells (AV u m)):=fun x=>EY EJ n0m.symm;have LF:∀x,(O1.set f.Ay x)[f.AW]?=some (.cells (BP f')):=fun x=>EY E8 NO.symm;have hv2:∀x,(O1.set f.Ay x)[f.Ay]?=some x:=Kr KR;unfold AV at EJ hm2;have BK:=hf;unfold BP at BK;have hgf:BP f'=[aI f.fn,aI e.block,aI 0,aI f.to,.mm f.Ay]:=hc.symm;have ya:=E8;have yb:=LF;rw[hgf]at ya yb;have He:O1.set f.Ay (.map (.int .i64) (f.vals.map CG))=O1:=Y1 KR;have BA:∀x,(O1.set f.Ay x).take O1.length=O1.set f.Ay x:=fun x=>LI;refine zf true O.length func129 ntmps129 ?_;refine Cw ?_;refine G4 5 ([aI e.block,AA e.args]) [(0,.mp 2 0),(1,.mp f.AW 0),(5,.ip none [aI e.block,AA e.args])] rfl CX I Dc ?_ ?_ ?_
 ·exact AN
 ·simp[AQ,A2.upto,BU,Bt,Dr]
 refine BM ?_;refine .inr (.inr ⟨_,LQ,B4 (zj ?_)⟩);refine Ak ?_;refine B9 ?_;simp -dsimp only[simprocAttr,↓AG,zp,BK,hs,Hr,hc,<-Bn];refine Ak ?_;refine B9 ?_;refine Yd EJ ya hF hB ?_
 refine Gv ?_;refine Al (BZ (ι:={j:Nat // j<=B.params.length}) (fun j=>⟨54,[(0,.mp 2 0),(1,.mp f.AW 0),(5,.ip none [aI e.block,AA e.args]),(6,.A3 4 (T.map SV.enc) .sh),(37,AA B.params),(38,aI B.params.length),(39,aI j.1)],O1.set f.Ay (.map (.int .i64) ((C7 f.vals (B.params.take j.1) (T.take j.1)).map CG))⟩) (fun j=>B.params.length-j.1) ⟨0,I⟩ ?_ ?_)
 ·refine C6 ?_;rw[qa7,He]
 rintro⟨j,hj⟩;refine C3 (fun h=>?_) (fun h=>?_)
 ·refine Az ?_;have AF:j<B.params.length:=Aa
  obtain⟨p,hp⟩:∃p,B.params[j]?=some p:=⟨B.params[j],Gu⟩
  obtain⟨a,ha⟩:∃a,T[j]?=some a:=⟨T[j]' I,AY _⟩
  refine DR hp ?_;refine Dn ?_;simp -dsimp only[simprocAttr,↓AG,zp,yb,ha,hv2,eZ,<-sQ hp ha,Hr]
  refine Gv ?_;refine k7 ?_ ?_
  ·exact BY
  rfl
 refine BO ?_;have Gl:j=B.params.length:=Ee
 subst Gl;have Hv:T.take B.params.length=T:=Cb I
 skip
 simp -dsimp only[simprocAttr,↓AG,zp,zr,results129,hlen,Hv,Jk,BA,B2];refine⟨DY Dl (V7 fun x hx=>?_),trivial,Jl⟩;rw[<-hlen];rcases Zg hx with q|q
 ·exact hu x q
 exact htu _ q
def P5(l:List Int):Nat->Int
 | 0=>0
 | k+1 =>
  match l[l.length-(k+1)]? with
  | none=>0
  | some c=>if !decide (CR c)then 4 else if Lf (l.take (l.length-(k+1))) c then 7 else P5 l k
def Wi(f:Func):List Edge->Int
 | []=>0
 | e::r=>if !within e.block 1 ((f.blocks.length:Int)-1)then 4 else if e.args.length≠(A7 f e.block).params.length then 3 else Wi f r
def I4(f:Func)(t:Term):Int :=
 if !Hj t then 3
 else if 256<t.cases.length then 2
 else if t.kind=4∧within t.n 1 6=false then 4
 else if P5 t.cases t.cases.length≠0 then P5 t.cases t.cases.length
 else Wi f t.to
variable {j:Nat}
theorem qbW{c:Int}(h:l[j]?=some c):P5 l (l.length-j)=if !decide (CR c)then 4 else if Lf (l.take j) c then 7 else P5 l (l.length-(j+1)):=by
 have AF:=AE h;obtain⟨k,hk⟩:∃k,l.length-j=k+1:=⟨l.length-j-1,I⟩
 have hj:l.length-(k+1)=j:=I
 rw[hk];simp only[P5,hj,h];rw[show l.length-(j+1)=k from I]
theorem qbk{l:List Edge}{e:Edge}(h:l[j]?=some e):Wi f (l.drop j)=if !within e.block 1 ((f.blocks.length:Int)-1)then 4 else if e.args.length≠(A7 f e.block).params.length then 3 else Wi f (l.drop (j+1)):=by
 have AF:=AE h;rw[AY AF]at h;simp only[AM]at h;rw[Zp AF,h];rfl
theorem within_iff{n lo hi:Int}:within n lo hi=true↔lo<=n∧n<=hi:=by
 simp[within]
theorem vd(f:Func)(t:Term)(B8:t.cases.length<=2 ^ 60)(CN:f.blocks.length<=2 ^ 60):BR prog 80 [f.enc,t.enc] (aI (I4 f t)):=by
 have D5:=qdk t B8;have hw:=SW t.n 1 6;obtain⟨R,hR⟩:∃R,R=I4 f t:=⟨_,rfl⟩
 rw[<-hR];unfold I4 at hR;generalize Hj t=sh at *;have bZ:∀e:Edge,BR prog 30 [aI e.block,aI 1,aI ((f.blocks.length:Int)-1)] (.v (.bool (within e.block 1 ((f.blocks.length:Int)-1)))):=fun e=>SW _ _ _;have hkw:(t.kind=4∧within t.n 1 6=false)∨(¬(t.kind=4∧within t.n 1 6=false)∧((decide (t.kind=4)=false)∨(decide (t.kind=4)=true∧within t.n 1 6=true))):=by
  by_cases h4:t.kind=4
  ·cases Vt:within t.n 1 6
   ·exact .inl ⟨h4,rfl⟩
   exact .inr ⟨A6,.inr ⟨Ar h4,rfl⟩⟩
  exact .inr ⟨fun q=>h4 q.1,.inl (Ac h4)⟩
 refine zf true 0 func80 ntmps80 ?_;refine Cw ?_;refine Cz 2 0 (.ip none [aI f.name,AR f.blocks]) rfl Bd trivial rfl ?_ ?_;rotate_left;refine BL ?_
 ·refine Cz 3 1 (.ip none [aI t.kind,aI t.arg,aI t.n,AA t.cases,An t.to]) rfl Bd trivial rfl ?_ ?_;rotate_left;refine BL ?_
  ·by_cases fK:sh=false∨256<t.cases.length∨(t.kind=4∧within t.n 1 6=false)
   ·refine DW (Al ?_);refine BM ?_;refine zi D5 ?_;refine Ak ?_;cases sh with
    | false =>
     refine E3 ?_;refine WS ?_;simp[hR]
    | true =>
     refine KL ?_;by_cases hc:256<t.cases.length
     ·have hd:decide ((256:Int)<t.cases.length)=true:=Ar I;refine Uo hd ?_;refine WS ?_;simp[hR,hc]
     have hd:decide ((256:Int)<t.cases.length)=false:=Ac I;have hk:t.kind=4∧within t.n 1 6=false:=by
      rcases fK with q|q|q
      ·cases q
      ·exact B3 q hc
      exact q
     have Tk:decide (t.kind=4)=true:=Ar hk.1;rw[hk.2]at hw;refine Us hd ?_;refine NJ Tk ?_;refine zi hw ?_;refine Rn ?_;refine WS ?_;simp[hR,hc,hk]
   have qmW:sh=true:=by
    cases sh
    ·exact B3 (.inl rfl) fK
    rfl
   subst qmW;have hc:¬256<t.cases.length:=fun q=>fK (.inr (.inl q));have hk:¬(t.kind=4∧within t.n 1 6=false):=fun q=>fK (.inr (.inr q));have hd:decide ((256:Int)<t.cases.length)=false:=Ac I;rw[A4 A6,A4 hc,A4 hk]at hR;have qmz:=hkw.resolve_left hk;refine LO (⟨78,[(2,.ip none [aI f.name,AR f.blocks]),(3,.ip none [aI t.kind,aI t.arg,aI t.n,AA t.cases,An t.to]),(4,aI 0)],[.gone,.gone]⟩) ?_ ?_
   ·refine Al ?_;refine BM ?_;refine zi D5 ?_;refine Ak ?_;refine KL ?_;refine Us hd ?_;rcases qmz.2 with Tk|⟨Tk,Ha⟩
    ·refine Ch Tk ?_;refine PD ?_;rfl
    rw[Ha]at hw;refine NJ Tk ?_;refine zi hw ?_;refine Ak ?_;refine PD ?_;rfl
   refine BF ?_;refine Al (BZ (ι:={j:Nat // j<=t.cases.length∧P5 t.cases t.cases.length=P5 t.cases (t.cases.length-j)}) (fun j=>⟨78,[(2,.ip none [aI f.name,AR f.blocks]),(3,.ip none [aI t.kind,aI t.arg,aI t.n,AA t.cases,An t.to]),(4,aI 0),(29,AA t.cases),(30,aI t.cases.length),(31,aI j.1)],[.gone,.gone]⟩) (fun j=>t.cases.length-j.1) ⟨0,I,rfl⟩ ?_ ?_)
   ·exact JU
   rintro⟨j,hj,Bk⟩;refine C3 (fun h=>?_) (fun h=>?_)
   ·refine Az ?_;have AF:j<t.cases.length:=Aa
    obtain⟨c,SN⟩:∃c,t.cases[j]?=some c:=⟨t.cases[j],Gu⟩
    have BD:=qbW SN;rw[<-Bk]at BD;have qmx:=aei c;have PI:=adb (t.cases.take j) c;refine DR SN ?_;refine Al ?_;refine BM ?_;refine zi qmx ?_;refine Ak ?_;cases hw:decide (CR c)with
    | false =>
     rw[hw]at BD;refine E3 ?_;refine WS ?_;simp[hR,BD]
    | true =>
     rw[hw]at BD;refine KL ?_;refine B9 ?_;simp -dsimp only[simprocAttr,↓AG,zp,BH,I7,<-pZ]
     refine Ef ?_
     refine zi PI ?_;refine Ak ?_;cases hh:Lf (t.cases.take j) c with
     | true =>
      rw[hh]at BD;refine E3 ?_;refine WS ?_;simp[hR,BD]
     | false =>
      rw[hh]at BD;refine KL ?_;refine zb2 ?_;refine Bw ?_;refine⟨⟨j+1,AF,by rw[BD];simp⟩,Ai,?_⟩;refine Ba ?_ ?_
      ·exact BY
      rfl
   refine BO ?_;have Gl:j=t.cases.length:=Ee
   subst Gl;have hz:P5 t.cases t.cases.length=0:=by rw[Bk,FB];rfl
   rw[hz,A4 A6]at hR;refine BF ?_;refine LN 49 rfl (fun CI=>?_);simp only[BE]at CI;refine Al (BZ (ι:={j:Nat // j<=t.to.length∧R=Wi f (t.to.drop j)}) (fun j=>⟨78,[(2,.ip none [aI f.name,AR f.blocks]),(4,aI 0),(49,An t.to),(50,aI t.to.length),(51,aI j.1)],[.gone,.gone]⟩) (fun j=>t.to.length-j.1) ⟨0,I,hR⟩ ?_ ?_)
   ·exact JU
   rintro⟨j,hj,Bk⟩;refine C3 (fun h=>?_) (fun h=>?_)
   ·refine Az ?_;have AF:j<t.to.length:=Aa
    obtain⟨e,GV⟩:∃e,t.to[j]?=some e:=⟨t.to[j],Gu⟩
    have BD:=qbk (f:=f) GV;rw[<-Bk]at BD;have PS:=bZ e;refine DR GV ?_;refine Cz 8 2 (.ip none [aI e.block,AA e.args]) rfl Bd trivial rfl ?_ ?_;rotate_left;refine BL ?_
    ·refine Ei 2 [(2,.ip none [aI f.name,AR f.blocks]),(4,aI 0),(8,.ip none [aI e.block,AA e.args]),(49,An t.to),(50,aI t.to.length),(51,aI j)] A6 I [.gone,.gone] ?_ ?_ ?_ ?_ ?_
     ·rfl
     ·simp[A8.upto]
     ·exact Es
     ·simp[AQ,A2.upto,BU,Block.AX,Edge.AX]
     cases hw:within e.block 1 ((f.blocks.length:Int)-1)with
     | false =>
      rw[hw]at BD PS;refine rj ?_;refine Rn ?_;refine WS ?_;simp[BD]
     | true =>
      rw[hw]at BD PS;have hwi:=within_iff.1 hw;have hB:=K2 (f:=f) (k:=e.block) I I;generalize A7 f e.block=B at *;by_cases hl:e.args.length=B.params.length
      ·have DB:decide ((e.args.length:Int)=B.params.length)=true:=Ar I;refine rj ?_;refine Ak ?_;refine KL ?_;refine KJ hB DB ?_
       refine Gv ?_;refine KL ?_;refine zb2 ?_;refine Bw ?_;refine⟨⟨j+1,AF,by rw[BD];simp[hl]⟩,Ai,?_⟩;refine Ba ?_ ?_
       ·exact BY
       rfl
      have DB:decide ((e.args.length:Int)=B.params.length)=false:=Ac I;refine rj ?_;refine Ak ?_;refine KL ?_;refine KJ hB DB ?_
      refine Gv ?_;refine E3 ?_;refine WS ?_;simp[BD,hl]
    exact Be
   refine BO ?_;have Gl:j=t.to.length:=Ee
   subst Gl;rw[F']at Bk;refine D7 ?_;refine WS ?_;simp[Bk,Wi]
  exact Be
 exact Be
abbrev Defs:=List (Int×Int×Int)
def eD(p:Int×Int):A2:=.agg [aI p.1,aI p.2]
def EZ(e:Int×Int×Int):Value×A2:=(.int .i64 e.1,eD e.2)
def Hm:Defs->Int->Option (Int×Int)
 | [],_=>none
 | (k,p)::r,key=>if k=key then some p else Hm r key
theorem gm(es:Defs)(k:Int):HC (es.map EZ) (.int .i64 k)=(Hm es k).map eD:=by
 induction es with
 | nil=>rfl
 | cons p r ih =>
  obtain⟨a,v⟩:=p;simp only[Bc,EZ,HC,Hm,kh,Cp];split
  ·rfl
  exact ih
theorem qgg{es:Defs}{k:Int}(p:Int×Int)(h:Hm es k=none):Fa (es.map EZ) (.int .i64 k) (.agg [aI p.1,aI p.2])=(es++[(k,p)]).map EZ:=by
 induction es with
 | nil=>rfl
 | cons q r ih =>
  obtain⟨a,v⟩:=q;simp only[Hm]at h;split at h
  ·cases h
  rename_i AT;simp only[Bc,EZ,Fa,kh,Cp,A4 AT,JR];rw[<-ih h]
theorem U9(n:Nat)(es:Defs):My n (es.map EZ):=by
 induction es with
 | nil=>trivial
 | cons p r ih=>exact⟨⟨trivial,trivial,trivial⟩,ih⟩
def Ip(ds:Defs)(v:Int)(p:Int×Int):Int×Defs :=
 if !within v 0 4095 then(4,ds)else if(Hm ds v).isSome then(7,ds)else(0,ds++[(v,p)])
theorem qbi(AN:∀o∈O,o.upto O.length){c d:Nat}{f:Func}{ds:Defs}(hc:O[c]?=some (.cells [aI f.name,AR f.blocks,.mm d]))(hd:O[d]?=some (.map (.int .i64) (ds.map EZ)))(v:Int)(p:Int×Int) :
  Aq prog 86 O [.mp c 0,aI v,.agg [aI p.1,aI p.2]] (fun r O'=>r=aI (Ip ds v p).1∧O'=O.set d (.map (.int .i64) ((Ip ds v p).2.map EZ))):=by
 have hw:=SW v 0 4095;have B8:=AE hc;have FI:O.set d (.map (.int .i64) (ds.map EZ))=O:=Y1 hd;unfold Ip;cases hv:within v 0 4095 with
 | false =>
  rw[hv]at hw;refine rH ?_ ?_ ?_
  ·exact AN
  ·simp[A2.upto,AQ,B8]
  refine GX ?_;refine zi hw ?_;refine Rn ?_;exact acQ
 | true =>
  rw[hv]at hw;cases hl:Hm ds v with
  | some q =>
   have hq:eD q=.agg [aI q.1,aI q.2]:=rfl;refine rH ?_ ?_ ?_
   ·exact AN
   ·simp[A2.upto,AQ,B8]
   refine GX ?_;refine zi hw ?_;refine ML ?_;refine Ej ?_;simp -dsimp only[simprocAttr,↓AG,zp,hc,hd,gm,hl,hq,FV,Fp,pE];refine Ak ?_;refine Cc ?_;refine E3 ?_;exact acQ
  | none =>
   have El:=qgg p hl;have EC:=DY (k:=d) (x:=.map (.int .i64) ((ds++[(v,p)]).map EZ)) AN (U9 _ _);have BA:=LI (O:=O) (k:=d) (x:=.map (.int .i64) ((ds++[(v,p)]).map EZ));refine rH ?_ ?_ ?_
   ·exact AN
   ·simp[A2.upto,AQ,B8]
   refine GX ?_;refine zi hw ?_;refine ML ?_;refine Ej ?_;simp -dsimp only[simprocAttr,↓AG,zp,hc,hd,gm,hl,ik,Option.getD_none,pQ];refine Ak ?_;refine G4 7 ([aI 0,aI 0]) [(0,.mp c 0),(1,aI v),(5,.ip none [aI p.1,aI p.2]),(6,aI 0),(8,.v (.bool false))] rfl CX I Dc ?_ ?_ ?_
   ·exact AN
   ·simp[A2.upto,AQ,B8]
   refine Cc ?_;refine FE ?_;refine B9 ?_;refine QR hc hd El ?_;refine Gj ?_;refine D7 ?_;simp -dsimp only[simprocAttr,↓AG,zp,zr,results86,BA,B2];exact EC
def Je(k:Int):Defs->List Int->Int×Defs
 | ds,[]=>(0,ds)
 | ds,p::r=>if(Ip ds p (k,0)).1≠0 then Ip ds p (k,0)else Je k (Ip ds p (k,0)).2 r
def Ke(k:Int):Int->Defs->List Ins->Int×Defs
 | _,ds,[]=>(0,ds)
 | n,ds,i::r=>if(Ip ds i.to (k,n+1)).1≠0 then Ip ds i.to (k,n+1)else if MA i≠0 then(MA i,(Ip ds i.to (k,n+1)).2)else Ke k (n+1) (Ip ds i.to (k,n+1)).2 r
def KW(f:Func)(ds:Defs)(k:Int):Int×Defs :=
 if(Je k ds (A7 f k).params).1≠0 then Je k ds (A7 f k).params
 else if(Ke k 0 (Je k ds (A7 f k).params).2 (A7 f k).ins).1≠0 then Ke k 0 (Je k ds (A7 f k).params).2 (A7 f k).ins
 else(I4 f (A7 f k).term,(Ke k 0 (Je k ds (A7 f k).params).2 (A7 f k).ins).2)
theorem D9{α:Type}{l:List α}{x:α}(h:l[j]?=some x):l.drop j=x::l.drop (j+1):=by
 have AF:=AE h;rw[AY AF]at h;simp only[AM]at h;rw[Zp AF,h]
theorem qd6(AN:∀o∈O,o.upto O.length){c d:Nat}(hcd:c≠d){f:Func}{ds:Defs}(hc:O[c]?=some (.cells [aI f.name,AR f.blocks,.mm d]))(hd:O[d]?=some (.map (.int .i64) (ds.map EZ)))(k:Int)(Ln:0<=k)(Mk:k<f.blocks.length)
  (CN:f.blocks.length<=2 ^ 60) (B8:(A7 f k).term.cases.length<=2 ^ 60) :
  Aq prog 58 O [.mp c 0,aI k] (fun r O'=>r=aI (KW f ds k).1∧O'=O.set d (.map (.int .i64) ((KW f ds k).2.map EZ))):=by
 have hB:=K2 Ln Mk;have z8:=AE hc;obtain⟨R,hR⟩:∃R,R=KW f ds k:=⟨_,rfl⟩
 rw[<-hR];unfold KW at hR;have Ge:=vd f (A7 f k).term B8 CN;generalize A7 f k=B at *;have hcX:∀x,(O.set d x)[c]?=some (.cells [aI f.name,AR f.blocks,.mm d]):=fun x=>EY hc hcd.symm;have hdX:=Kr hd;have VG:∀(es:Defs),∀o∈O.set d (.map (.int .i64) (es.map EZ)),o.upto (O.set d (.map (.int .i64) (es.map EZ))).length:=fun es=>by
  rw[B2];exact DY AN (U9 _ _)
 have cF:∀(es:Defs) (v:Int) (p:Int×Int),Aq prog 86 (O.set d (.map (.int .i64) (es.map EZ))) [.mp c 0,aI v,.agg [aI p.1,aI p.2]] (fun r O'=>r=aI (Ip es v p).1∧O'=O.set d (.map (.int .i64) ((Ip es v p).2.map EZ))):=fun es v p=>by
  have h:=qbi (VG es) (hcX _) (hdX (.map (.int .i64) (es.map EZ))) v p;rw[Hr]at h;exact h
 have FI:O.set d (.map (.int .i64) (ds.map EZ))=O:=Y1 hd;have BA:∀es:Defs,(O.set d (.map (.int .i64) (es.map EZ))).take O.length=O.set d (.map (.int .i64) (es.map EZ)):=fun es=>LI;have Z4:∀es:Defs,∀o∈O.set d (.map (.int .i64) (es.map EZ)),o.upto O.length:=fun es=>DY AN (U9 _ _);refine zf true O.length func58 ntmps58 ?_;refine Cw ?_;refine L6 hc hB ?_;refine G4 5 ([AA B.params,B7 B.ins,aI B.term.kind,aI B.term.arg,aI B.term.n,AA B.term.cases,An B.term.to]) [(0,.mp c 0),(1,aI k),(4,aI 0),(5,.ip none [AA B.params,B7 B.ins,aI B.term.kind,aI B.term.arg,aI B.term.n,AA B.term.cases,An B.term.to])] rfl CX I Dc ?_ ?_ ?_
 ·exact AN
 ·simp[A2.upto,AQ,z8,BU,Edge.AX,Ins.AX]
 refine BF ?_;refine LN 22 rfl (fun IH=>?_);simp only[BE]at IH;refine Al (BZ (ι:={x:Nat×Defs // x.1<=B.params.length∧Je k ds B.params=Je k x.2 (B.params.drop x.1)}) (fun x=>⟨69,[(0,.mp c 0),(1,aI k),(4,aI 0),(5,.ip none [AA B.params,B7 B.ins,aI B.term.kind,aI B.term.arg,aI B.term.n,AA B.term.cases,An B.term.to]),(22,AA B.params),(23,aI B.params.length),(24,aI x.1.1)],O.set d (.map (.int .i64) (x.1.2.map EZ))⟩) (fun x=>B.params.length-x.1.1) ⟨(0,ds),A6,rfl⟩ ?_ ?_)
 ·refine C6 ?_;rw[FI]
 rintro⟨⟨j,es⟩,hj,Bk⟩;simp only at hj Bk;refine C3 (fun h=>?_) (fun h=>?_)
 ·refine Az ?_;have AF:j<B.params.length:=Aa
  obtain⟨p,hp⟩:∃p,B.params[j]?=some p:=⟨B.params[j],Gu⟩
  have BD:=Bk;rw[D9 hp]at BD;simp only[Je]at BD;have TV:=cF es p (k,0);generalize Ip es p (k,0)=X at *;refine DR hp ?_;refine BM ?_;refine rR ?_;by_cases hX:X.1=0
  ·have Qr:decide (X.1=0)=true:=Ar hX;rw[A4 qy]at BD;refine Yb Qr ?_;refine⟨⟨(j+1,X.2),D6,BD⟩,Ai,?_⟩;refine Ba ?_ ?_
   ·exact BY
   rfl
  have Qr:decide (X.1=0)=false:=Ac hX;rw[A9 hX]at BD;rw[BD,A9 hX]at hR;exact rJ Qr BA hR
 refine BO ?_;have Gl:j=B.params.length:=Ee
 subst Gl;rw[F']at Bk;simp only[Je]at Bk;rw[Bk,A4 A6]at hR;simp only at hR;refine BF ?_;refine LN 38 rfl (fun Fv=>?_);simp only[BE]at Fv;refine Al (BZ (ι:={x:Nat×Defs // x.1<=B.ins.length∧Ke k 0 es B.ins=Ke k x.1 x.2 (B.ins.drop x.1)}) (fun x=>⟨69,[(0,.mp c 0),(1,aI k),(4,aI 0),(5,.ip none [AA B.params,B7 B.ins,aI B.term.kind,aI B.term.arg,aI B.term.n,AA B.term.cases,An B.term.to]),(38,B7 B.ins),(39,aI B.ins.length),(40,aI x.1.1)],O.set d (.map (.int .i64) (x.1.2.map EZ))⟩) (fun x=>B.ins.length-x.1.1) ⟨(0,es),A6,rfl⟩ ?_ ?_)
 ·exact JU
 rintro⟨⟨j,es'⟩,hj,Bk⟩;simp only at hj Bk;refine C3 (fun h=>?_) (fun h=>?_)
 ·refine Az ?_;have AF:j<B.ins.length:=Aa
  obtain⟨i,hi⟩:∃i,B.ins[j]?=some i:=⟨B.ins[j],Gu⟩
  have BD:=Bk;rw[D9 hi]at BD;simp only[Ke]at BD;have TV:=cF es' i.to (k,(j:Int)+1);have nS:=uc i;generalize MA i=e at *;generalize Ip es' i.to (k,(j:Int)+1)=X at *;refine DR hi ?_;refine G4 10 ([aI i.to,aI i.op,aI i.n,AA i.args]) [(0,.mp c 0),(1,aI k),(4,aI 0),(5,.ip none [AA B.params,B7 B.ins,aI B.term.kind,aI B.term.arg,aI B.term.n,AA B.term.cases,An B.term.to]),(38,B7 B.ins),(39,aI B.ins.length),(40,aI j),(9,aI j),(10,.ip none [aI i.to,aI i.op,aI i.n,AA i.args])] Dc CX A6 Dc ?_ ?_ ?_
  ·exact VG es'
  ·simp[A2.upto,AQ,z8,BU,Edge.AX,Ins.AX]
  refine GX ?_
  refine Ef ?_
  refine rR ?_;by_cases hX:X.1=0
  ·have Qr:decide (X.1=0)=true:=Ar hX;rw[A4 qy]at BD;refine Ch Qr ?_;refine FE ?_;refine BM ?_;refine zi nS ?_;refine Ak ?_;by_cases he:e=0
   ·have Ca:decide (e=0)=true:=Ar he;rw[A4 (by simp[he])]at BD;refine Yb Ca ?_;refine⟨⟨(j+1,X.2),D6,BD⟩,Ai,?_⟩;refine Ba ?_ ?_
    ·exact BY
    rfl
   have Ca:decide (e=0)=false:=Ac he;rw[A9 he]at BD;rw[BD,A9 he]at hR;exact rJ Ca BA hR
  have Qr:decide (X.1=0)=false:=Ac hX;rw[A9 hX]at BD;rw[BD,A9 hX]at hR;exact rJ Qr BA hR
 refine BO ?_;have Gl:j=B.ins.length:=Ee
 subst Gl;rw[F']at Bk;simp only[Ke]at Bk;rw[Bk,A4 A6]at hR;simp only at hR;refine NJ hcX ?_;refine zi Ge ?_;refine Gj ?_;refine F3 ?_;simp -dsimp only[simprocAttr,↓AG,zp,zr,results58,BA,B2];rw[hR];exact⟨Z4 es',rfl,rfl⟩
theorem qjB:fB prog 142 .u64:=by
 obtain⟨⟨i,z,q1,q2,_⟩,_⟩:=hT 140 _ xH;exact qbM ⟨140,i,Tryz.underlying142,q1,q2,Tryz.underlying140,CW⟩
theorem qjw(N V:Bs):(decide ((N.a:Int)=V.a)&&decide ((N.b:Int)=V.b))=decide (N=V):=by
 obtain⟨n1,n2⟩:=N;obtain⟨v1,v2⟩:=V;simp only[Bs.mk.injEq,Int.natCast_inj];by_cases q1:n1=v1<;>by_cases q2:n2=v2<;>simp[q1,q2]
theorem uF(N V:Bs)(K:Fm):T9 prog .neq 142 N.enc V.enc K=K (.v (.bool (!decide (N=V)))) .pure:=by
 show((IntKind.u64=IntKind.u64∧IntKind.u64=IntKind.u64∧IntKind.u64=IntKind.u64∧fB prog 142 .u64)∧on (Sl .neq (decide ((N.a:Int)=V.a)&&decide ((N.b:Int)=V.b))) fun r=>K (.v (.bool r)) .pure)=_;rw[qjw];simp only[qjB,Sl,mZ,and_self,FA]
theorem ado{sz:Nat}:∀{xs:List A2} {k:Nat} {x:A2},(∀y∈xs,y.cells.length=sz)->xs[k]?=some x->((AP xs).drop (k*sz)).take sz=x.cells
 | q::r,0,x,Ag,h=>by
  simp only[Dh,AM]at h;subst h;have hq:=Ag q A6;simp only[AP,GF,MH,I7];rw[Zo I,Cb I]
 | q::r,k+1,x,Ag,h=>by
  have ih:=ado (xs:=r) (k:=k) (x:=x) (fun y hy=>Ag y jZ) Aa;have hq:=Ag q A6;have e1:(k+1)*sz-sz=k*sz:=YN
  have e3:sz<=(k+1)*sz:=YN
  simp only[AP,GF]at ih ⊢;rw[WJ,KD I,hq,e1,HF];exact ih
theorem fi(l:List Bs):∀y∈l.map Bs.enc,y.cells.length=2:=fun y hy=>by
 obtain⟨s,_,rfl⟩:=List.mem_map.1 hy;rfl
theorem fO(l:List Bs):(AP (l.map Bs.enc)).length=l.length*2:=by
 rw[Ja (fi l),BE]
theorem xZ{l:List Bs}{s:Bs}(h:l[k]?=some s):((AP (l.map Bs.enc)).drop (k*2)).take 2=[.v (.int .u64 s.a),.v (.int .u64 s.b)]:=ado (fi l) (x:=s.enc) WN
theorem mg{l:List Bs}(h:k<l.length)(s:Bs):As (AP (l.map Bs.enc)) (k*2) [.v (.int .u64 s.a),.v (.int .u64 s.b)]=AP ((l.set k s).map Bs.enc):=by
 have:=pA (fi l) (k:=k) Aa (y:=s.enc) rfl;rw[<-QM]at this;exact Cd
theorem Xn(n:Nat)(l:List Bs):AQ n (l.map Bs.enc):=by
 rw[CF];intro x hx;obtain⟨s,_,rfl⟩:=List.mem_map.1 hx;exact s.Cr n
theorem gh(n:Nat)(l:List Bs):AQ n (AP (l.map Bs.enc)):=by
 rw[CF];intro c hc;simp only[AP,L0,JQ]at hc;obtain⟨_,⟨p,_,rfl⟩,hc⟩:=hc;simp only[Bs.D',CL,NA,Di]at hc;rcases hc with rfl|rfl<;>trivial
theorem HJ(s:Bs):A2.agg [.v (.int .u64 s.a),.v (.int .u64 s.b)]=s.enc:=rfl
theorem ta:∀n,n<=128->(S8 n).fit
 | 0,_=>Bs.eU
 | n+1,h=>Bs.b8 (ta n I) I
theorem vl:∀n,n<=128->∀k,k<n->(S8 n).has k=true
 | n+1,h,k,hk=>by
  simp only[S8];rw[Bs.has_add _ _ _ I I];by_cases e:k=n
  ·simp[e]
  rw[vl n I k I];rfl
theorem mA(h0:f.blocks≠[])(h1:f.blocks.length<=128):JL f.blocks.length (JN f) where
 few:=h1
 len:=by simp[JN]
 fit:=fun s hs=>by
  rcases KE hs with q|q
  ·rw[(List.mem_replicate.1 q).2];exact ta _ h1
  rw[q];exact Bs.b8 Bs.eU I
 seen:=Bs.b8 Bs.eU I
 self:=fun k hk=>by
  unfold Ds.at_ JN;by_cases e:k=0
  ·subst e;rw[Bb Ue];decide
  rw[Ap (Ne.symm e)];simp only[YA,hk,L4,Fp];exact vl _ h1 k hk
theorem ql7{l:List Nat}{b:Nat}(h:∀x∈l,x<=b):l.sum<=l.length*b:=by
 induction l with
 | nil=>simp
 | cons a r ih =>
  have:=h a A6;have:=ih fun x hx=>h x QQ;simp only[KH,CE,RZ];omega
theorem uq{S:Ds}(h:JL n S):S.weight<=16512:=by
 have h1:(S.over.map Bs.size).sum<=(S.over.map Bs.size).length*128:=ql7 fun x hx=>by
  obtain⟨s,_,rfl⟩:=List.mem_map.1 hx;exact s.aes
 have h2:=h.few;have h3:=h.len;simp only[BE]at h1;have h4:S.over.length*128<=128*128:=OE _ I;simp only[Ds.weight];omega
theorem uS{S:Ds}(h:S.again=false)(n:Nat):HE f n S=S:=by
 cases n with
 | zero=>rfl
 | succ n=>simp[HE,h]
theorem qno(f:Func)(h0:f.blocks≠[])(h1:f.blocks.length<=128)(he:∀b∈f.blocks,∀e∈b.term.to,0<=e.block∧e.block.toNat<f.blocks.length) :
  BR prog 88 [f.enc] (.Ab [.A3 2 ((JM f).1.map Bs.enc) .sh,(JM f).2.enc]):=by
 have hS:=mA h0 h1;have Oe:=List.length_pos_iff.2 h0;have fw:∀(s:Bs) (k:Nat),s.fit->k<128->BR prog 119 [s.enc,aI k] (s.add k).enc:=fun s k hs hk=>qfX s hs k hk;obtain⟨R,hR⟩:∃R,R=HE f 20000 (JN f):=⟨_,rfl⟩
 have hM:JM f=(R.over,R.seen):=by rw[hR];rfl
 rw[hM];obtain⟨n,hn⟩:∃n,n=f.blocks.length:=⟨_,rfl⟩
 rw[<-hn]at hS Oe h1 he;have Wl:A2.agg [.v (.int .u64 0),.v (.int .u64 0)]=Bs.none.enc:=rfl;refine zf true 0 func88 ntmps88 ?_;refine MM ?_;refine IV ?_;refine Cz 1 0 (.ip none [aI f.name,AR f.blocks]) rfl Bd trivial rfl ?_ ?_;rotate_left;refine HH ?_
 ·refine IV ?_;refine Ej ?_;refine k9 hn ?_;refine Ak ?_;refine Al (BZ (ι:={j:Nat // j<=n}) (fun j=>⟨106,[(1,.ip none [aI f.name,AR f.blocks]),(3,.mp 1 0),(4,.mp 2 0),(17,aI n),(18,aI j.1)],[.gone,.cells [.v (.int .u64 0),.v (.int .u64 0)],.cells (S8 j.1).enc.cells]⟩) (fun j=>n-j.1) ⟨0,I⟩ ?_ ?_)
  ·refine YT ?_
   all_goals rfl
  rintro⟨j,hj⟩;have hwj:=fun h=>fw (S8 j) j (ta j I) h;refine IV ?_;apply Sd rfl<;>intro h
  ·refine Az ?_;have AF:j<n:=Aa
   refine DW (Al ?_);refine IV ?_;refine Dn ?_;refine HH ?_;refine .inl ⟨_,(hwj I),OM,B4 ?_⟩;refine NH ?_;refine Rk ?_;refine⟨⟨j+1,AF⟩,Ai,?_⟩;refine PE ?_ ?_
   all_goals first|rfl|exact Sub.refl _
  refine BO ?_;have Gl:j=n:=Ee
  subst Gl;refine B9 ?_;refine k9 hn ?_
  refine D1 ?_;refine Ej ?_;refine k9 hn ?_;refine Ak ?_;obtain⟨A,hA⟩:∃A,A=S8 j:=⟨_,rfl⟩
  rw[<-hA];refine Al (BZ (ι:={i:Nat // i<=j}) (fun i=>⟨106,[(1,.ip none [aI f.name,AR f.blocks]),(3,.mp 1 0),(4,.mp 2 0),(6,.ms 3 0 j j),(30,aI j),(31,aI i.1)],[.gone,.cells [.v (.int .u64 0),.v (.int .u64 0)],.cells A.enc.cells,.cells (AP ((List.replicate i.1 A++List.replicate (j-i.1) Bs.none).map Bs.enc))]⟩) (fun i=>j-i.1) ⟨0,I⟩ ?_ ?_)
  ·refine YT ?_;simp[AP,List.flatMap,Bs.D',Bs.none]
  rintro⟨i,hi⟩;have CV:(List.replicate i A++List.replicate (j-i) Bs.none).length=j:=Ai
  refine IV ?_;apply Sd rfl<;>intro h
  ·refine Az ?_;have AF:i<j:=Aa
   have Fk:=mg (l:=List.replicate i A++List.replicate (j-i) Bs.none) (k:=i) (by rw[CV];exact AF) A;have EH:(List.replicate i A++List.replicate (j-i) Bs.none).set i A=List.replicate (i+1) A++List.replicate (j-(i+1)) Bs.none:=by
    obtain⟨q,hq⟩:∃q,j-i=q+1:=⟨j-i-1,I⟩
    rw[hq,show j-(i+1)=q from I,OF _ _ A6,iU (n:=i)];simp[KG]
   rw[EH]at Fk;have hlen:=fO (List.replicate i A++List.replicate (j-i) Bs.none);rw[CV]at hlen;refine DW (Al ?_);refine IV ?_;refine Dn ?_;simp -dsimp only[simprocAttr,↓AG,zp,Bs.D',Bs.EK,Bs.E4,HJ,Fk,hlen]
   refine D1 ?_;refine Rk ?_;refine⟨⟨i+1,AF⟩,Ai,?_⟩;refine PE ?_ ?_
   all_goals first|rfl|exact Sub.refl _
  refine BO ?_;have F4:i=j:=Ee
  subst F4;have h00:=fw Bs.none 0 Bs.eU I;have hlen:=fO (List.replicate i A++List.replicate (i-i) Bs.none);rw[CV]at hlen;have Fk:=mg (l:=List.replicate i A++List.replicate (i-i) Bs.none) (k:=0) (by rw[CV];exact Oe) (Bs.none.add 0);have FT:(List.replicate i A++List.replicate (i-i) Bs.none).set 0 (Bs.none.add 0)=(JN f).over:=by
   simp[JN,<-hn,hA]
  rw[FT,MH]at Fk;have qlT:aI ((0:Nat):Int)=aI 0:=rfl;rw[qlT]at h00;refine B9 ?_;refine jk Wl ?_;refine .inl ⟨_,h00,OM,B4 ?_⟩;simp -dsimp only[simprocAttr,↓AG,zp,Bs.D',Bs.EK,Bs.E4,HJ,Fk,hlen];refine⟨I,I,?_⟩;refine Ak ?_;refine B9 ?_;refine jk Wl ?_;refine .inl ⟨_,h00,OM,B4 ?_⟩;refine NH ?_;refine Ej ?_;refine NH ?_;have hw0:=uq hS;refine Al (BZ (ι:={x:Ds×Nat // JL i x.1∧R=HE f x.2 x.1∧(x.1.again=true->x.1.weight<x.2)}) (fun x=>⟨106,[(1,.ip none [aI f.name,AR f.blocks]),(3,.mp 1 0),(6,.ms 3 0 i i),(8,.mp 4 0),(9,.v (.bool x.1.1.again))],[.gone,.cells [.v (.int .u64 0),.v (.int .u64 0)],.cells A.enc.cells,.cells (AP (x.1.1.over.map Bs.enc)),.cells x.1.1.seen.enc.cells]⟩) (fun x=>x.1.1.weight+if x.1.1.again then 1 else 0) ⟨(JN f,20000),hS,hR,fun _=>D6⟩ ?_ ?_)
  ·refine PE ?_ ?_
   all_goals first|rfl|exact Sub.refl _
  rintro⟨⟨S,q⟩,Ot,Tv,hwq⟩;simp only at Ot Tv hwq;refine Ej ?_;refine NH ?_;apply AZ rfl<;>intro h
  ·refine Az ?_;have Er:S.again=true:=h;have hwq:=hwq Er;obtain⟨q,rfl⟩:∃q',q=q'+1:=⟨q-1,I⟩
   have cE:R=HE f q (Jg 0 ⟨S.over,S.seen,false⟩ f.blocks):=by
    rw[Tv];simp[HE,Er]
   have Oq:JL i ⟨S.over,S.seen,false⟩:=⟨Ot.few,Ot.len,Ot.fit,Ot.seen,Ot.self⟩
   have hro:=eo f.blocks (k:=0) Oq he;obtain⟨S1,Tw⟩:∃S1,S1=Jg 0 ⟨S.over,S.seen,false⟩ f.blocks:=⟨_,rfl⟩
   rw[<-Tw]at cE hro;obtain⟨ro1,ro2,Vf⟩:=hro;have hwS:(⟨S.over,S.seen,false⟩:Ds).weight=S.weight:=rfl;rw[hwS]at ro2 Vf;refine Al ?_;refine IV ?_;refine B9 ?_;refine k9 hn ?_;refine Ak ?_;refine Al (BZ (ι:={y:Nat×Ds // y.1<=i∧JL i y.2∧S1=Jg y.1 y.2 (f.blocks.drop y.1)}) (fun y=>⟨106,[(1,.ip none [aI f.name,AR f.blocks]),(3,.mp 1 0),(6,.ms 3 0 i i),(8,.mp 4 0),(47,AR f.blocks),(48,aI i),(9,.v (.bool y.1.2.again)),(49,aI y.1.1)],[.gone,.cells [.v (.int .u64 0),.v (.int .u64 0)],.cells A.enc.cells,.cells (AP (y.1.2.over.map Bs.enc)),.cells y.1.2.seen.enc.cells]⟩) (fun y=>i-y.1.1) ⟨(0,⟨S.over,S.seen,false⟩),A6,Oq,Tw⟩ ?_ ?_)
   ·refine YT ?_
    all_goals rfl
   rintro⟨⟨k,T⟩,hk,Pa,Mg⟩;simp only at hk Pa Mg;refine IV ?_;apply Sd rfl<;>intro h
   ·refine Az ?_;have AF:k<i:=Aa
    obtain⟨b,hb⟩:∃b,f.blocks[k]?=some b:=⟨f.blocks[k]' I,AY _⟩
    have C5:=AK hb;rw[D9 hb]at Mg;simp only[Jg]at Mg;have hdb:=wy (k:=k) Pa (he b C5);have gR:=lF T.seen Pa.seen k I;refine Yf hb ?_;refine Cz 11 5 (.ip none [AA b.params,B7 b.ins,aI b.term.kind,aI b.term.arg,aI b.term.n,AA b.term.cases,An b.term.to]) rfl Bd trivial rfl ?_ ?_;rotate_left;refine HH ?_
    ·refine Ei 5 [(1,.ip none [aI f.name,AR f.blocks]),(3,.mp 1 0),(6,.ms 3 0 i i),(8,.mp 4 0),(47,AR f.blocks),(48,aI i),(9,.v (.bool T.again)),(10,aI k),(11,.ip none [AA b.params,B7 b.ins,aI b.term.kind,aI b.term.arg,aI b.term.n,AA b.term.cases,An b.term.to]),(49,aI k)] A6 I [.gone,.cells [.v (.int .u64 0),.v (.int .u64 0)],.cells A.enc.cells,.cells (AP (T.over.map Bs.enc)),.cells T.seen.enc.cells] ?_ ?_ ?_ ?_ ?_
     ·rfl
     ·exact WU
     ·exact Es
     ·exact WU
     cases Hu:T.seen.has k with
     | false =>
      rw[Hu]at gR;have hdk:OU k T b=T:=by simp[OU,Hu]
      rw[hdk]at Mg;refine Ej ?_;refine HH ?_;refine .inl ⟨_,gR,OM,B4 ?_⟩;refine NH ?_;refine FF ?_;refine BO ?_;refine Rk ?_;refine⟨⟨(k+1,T),D6,Pa,Mg⟩,Ai,?_⟩;refine PE ?_ ?_
      all_goals first|rfl|exact Sub.refl _
     | true =>
      rw[Hu]at gR;have hdk:OU k T b=b.term.to.foldl (Gd k) T:=by simp[OU,Hu]
      rw[hdk]at Mg hdb;refine Ej ?_;refine HH ?_;refine .inl ⟨_,gR,OM,B4 ?_⟩;refine NH ?_;apply AZ rfl<;>intro h
      ·cases h
      refine Az ?_;refine IV ?_;refine LN 60 rfl (fun CI=>?_);simp only[BE]at CI;obtain⟨T1,R5⟩:∃T1,T1=b.term.to.foldl (Gd k) T:=⟨_,rfl⟩
      rw[<-R5]at Mg hdb;refine Al (BZ (ι:={y:Nat×Ds // y.1<=b.term.to.length∧JL i y.2∧T1=(b.term.to.drop y.1).foldl (Gd k) y.2}) (fun y=>⟨106,[(1,.ip none [aI f.name,AR f.blocks]),(3,.mp 1 0),(6,.ms 3 0 i i),(8,.mp 4 0),(47,AR f.blocks),(48,aI i),(9,.v (.bool y.1.2.again)),(10,aI k),(49,aI k),(60,An b.term.to),(61,aI b.term.to.length),(62,aI y.1.1)],[.gone,.cells [.v (.int .u64 0),.v (.int .u64 0)],.cells A.enc.cells,.cells (AP (y.1.2.over.map Bs.enc)),.cells y.1.2.seen.enc.cells]⟩) (fun y=>b.term.to.length-y.1.1) ⟨(0,T),A6,Pa,R5⟩ ?_ ?_)
      ·refine YT ?_
       all_goals rfl
      rintro⟨⟨z,U⟩,hz,Ou,VT⟩;simp only at hz Ou VT;refine IV ?_;apply Sd rfl<;>intro h
      ·refine Az ?_;have gT:z<b.term.to.length:=Aa
       obtain⟨e,GV⟩:∃e,b.term.to[z]?=some e:=⟨b.term.to[z],by simp[gT]⟩
       obtain⟨SP,Gw⟩:=he b C5 e (AK GV);rw[D9 GV]at VT;simp only[HG]at VT;have Ca:=we (k:=k) Ou SP Gw;obtain⟨ej,hej⟩:∃ej:Nat,e.block=ej:=⟨e.block.toNat,I⟩
       have yY:e.block.toNat=ej:=I
       rw[yY]at Gw;have SU:U.over[ej]?=some (U.at_ ej):=by
        have:ej<U.over.length:=by rw[Ou.len];exact Gw
        simp[Ds.at_,this]
       have EU:U.over[k]?=some (U.at_ k):=by
        have:k<U.over.length:=by rw[Ou.len];exact AF
        simp[Ds.at_,this]
       have qlS:=qeH (U.at_ ej) (U.at_ k) (Ou.fN ej) (Ou.fN k);have SQ:=Bs.wD (t:=U.at_ k) (Ou.fN ej);have oR:=fw ((U.at_ ej).meet (U.at_ k)) ej SQ I;have Cv:=Bs.b8 SQ (k:=ej) I;have Wk:=lF U.seen Ou.seen ej I;have qk9:=fw U.seen ej Ou.seen I;have FM:=xZ SU;have hgk:=xZ EU;have Jy:=fO U.over;rw[Ou.len]at Jy;have hdE:Gd k U e=if((U.at_ ej).meet (U.at_ k)).add ej≠U.at_ ej∨U.seen.has ej=false then⟨U.over.set ej (((U.at_ ej).meet (U.at_ k)).add ej),U.seen.add ej,true⟩else U:=by
        simp only[Gd,yY]
       generalize hM1:(U.at_ ej).meet (U.at_ k)=M1 at *;generalize hN:M1.add ej=N at *;generalize hV:U.at_ ej=V at *;have Fk:=mg (l:=U.over) (k:=ej) (by rw[Ou.len];exact Gw) N;refine Yf GV ?_;refine Cz 13 5 (.ip none [aI e.block,AA e.args]) rfl Bd trivial rfl ?_ ?_;rotate_left;refine HH ?_
       ·refine Ei 5 [(1,.ip none [aI f.name,AR f.blocks]),(3,.mp 1 0),(6,.ms 3 0 i i),(8,.mp 4 0),(47,AR f.blocks),(48,aI i),(9,.v (.bool U.again)),(10,aI k),(13,.ip none [aI e.block,AA e.args]),(49,aI k),(60,An b.term.to),(61,aI b.term.to.length),(62,aI z)] A6 I [.gone,.cells [.v (.int .u64 0),.v (.int .u64 0)],.cells A.enc.cells,.cells (AP (U.over.map Bs.enc)),.cells U.seen.enc.cells] ?_ ?_ ?_ ?_ ?_
        ·rfl
        ·exact WU
        ·exact Es
        ·exact WU
        refine B9 ?_;simp -dsimp only[simprocAttr,↓AG,zp,Bs.D',Bs.EK,Bs.E4,HJ,hej,BH,FM,hgk,Jy];refine⟨I,I,I,I,?_⟩;refine .inl ⟨_,qlS,OM,B4 ?_⟩;refine HH ?_;refine .inl ⟨_,oR,OM,B4 ?_⟩;refine HH ?_;refine Gj ?_;have hbu:=gh 5 (U.over.set ej N);rw[QM]at hbu;by_cases hNV:N=V
        ·have hdN:decide (N=V)=true:=Ar hNV;cases Og:U.seen.has ej with
         | true =>
          rw[Og]at Wk;have bn:Gd k U e=U:=by rw[hdE,A4 (by simp[hNV,Og])]
          refine ad1 hej FM Jy hdN ?_;refine ON ?_;refine Ei 5 [(1,.ip none [aI f.name,AR f.blocks]),(3,.mp 1 0),(6,.ms 3 0 i i),(8,.mp 4 0),(47,AR f.blocks),(48,aI i),(9,.v (.bool U.again)),(10,aI k),(49,aI k),(60,An b.term.to),(61,aI b.term.to.length),(62,aI z)] A6 I [.gone,.cells [.v (.int .u64 0),.v (.int .u64 0)],.cells A.enc.cells,.cells (AP ((U.over).map Bs.enc)),.cells (U.seen).enc.cells] ?_ ?_ ?_ ?_ ?_
          ·rfl
          ·exact WU
          ·exact Es
          ·exact WU
          refine Rk ?_;refine⟨⟨(z+1,U),D6,Ou,by rw[VT,bn]⟩,Ai,?_⟩;refine PE ?_ ?_
          all_goals first|rfl|exact Sub.refl _
         | false =>
          rw[Og]at Wk;have bn:Gd k U e=⟨U.over.set ej N,U.seen.add ej,true⟩:=by rw[hdE,A9 (.inr Og)]
          refine ad1 hej FM Jy hdN ?_;refine ad9 hej Fk Jy ?_;refine dt Fk Jy ?_
          refine Gv ?_;refine Ei 5 [(1,.ip none [aI f.name,AR f.blocks]),(3,.mp 1 0),(6,.ms 3 0 i i),(8,.mp 4 0),(47,AR f.blocks),(48,aI i),(9,.v (.bool true)),(10,aI k),(49,aI k),(60,An b.term.to),(61,aI b.term.to.length),(62,aI z)] A6 I [.gone,.cells [.v (.int .u64 0),.v (.int .u64 0)],.cells A.enc.cells,.cells (AP ((U.over.set ej N).map Bs.enc)),.cells (U.seen.add ej).enc.cells] ?_ ?_ ?_ ?_ ?_
          ·rfl
          ·simp[A8.upto,AQ,A2.upto,BU,Block.AX,Edge.AX,Ins.AX,gh,Bs.D',hbu]
          ·exact Es
          ·exact WU
          refine acH ?_;refine PE ?_ ?_
          all_goals first|rfl|exact Sub.refl _
        have hdN:decide (N=V)=false:=Ac hNV;have bn:Gd k U e=⟨U.over.set ej N,U.seen.add ej,true⟩:=by rw[hdE,A9 (.inl hNV)]
        refine B9 ?_;simp -dsimp only[simprocAttr,↓AG,zp,Bs.D',Bs.EK,Bs.E4,HJ,hej,BH,FM,Jy,uF,hdN]
        refine Gv ?_;refine ad9 hej Fk Jy ?_;refine dt Fk Jy ?_
        refine Gv ?_;refine Ei 5 [(1,.ip none [aI f.name,AR f.blocks]),(3,.mp 1 0),(6,.ms 3 0 i i),(8,.mp 4 0),(47,AR f.blocks),(48,aI i),(9,.v (.bool true)),(10,aI k),(49,aI k),(60,An b.term.to),(61,aI b.term.to.length),(62,aI z)] A6 I [.gone,.cells [.v (.int .u64 0),.v (.int .u64 0)],.cells A.enc.cells,.cells (AP ((U.over.set ej N).map Bs.enc)),.cells (U.seen.add ej).enc.cells] ?_ ?_ ?_ ?_ ?_
        ·rfl
        ·simp[A8.upto,AQ,A2.upto,BU,Block.AX,Edge.AX,Ins.AX,gh,Bs.D',hbu]
        ·exact Es
        ·exact WU
        refine acH ?_;refine PE ?_ ?_
        all_goals first|rfl|exact Sub.refl _
       exact Be
      refine BO ?_;have CJ:z=b.term.to.length:=Ee
      subst CJ;rw[F']at VT;simp only[RY]at VT;refine Rk ?_;refine⟨⟨(k+1,U),D6,Ou,by rw[Mg,VT]⟩,Ai,?_⟩;refine PE ?_ ?_
      all_goals first|rfl|exact Sub.refl _
    exact Be
   refine BO ?_;have hki:k=i:=Ee
   subst hki;rw[hn,F']at Mg;simp only[Jg]at Mg;subst Mg;have X9:S1.again=true->S1.weight<q:=fun hh=>by
    rcases Vf hh with r|r
    ·cases r
    omega
   refine⟨⟨(S1,q),ro1,cE,X9⟩,?_,?_⟩
   ·simp only[Er,L4];cases He:S1.again
    ·exact KM
    rcases Vf He with r|r
    ·cases r
    exact KM
   refine YT ?_
   all_goals rfl
  refine BO ?_;have Er:S.again=false:=h;rw[uS Er]at Tv;subst Tv;have Ag:=Ot.len;refine Cz 6 3 (.A3 2 (R.over.map Bs.enc) .sh) rfl Bd trivial rfl ?_ ?_;rotate_left;refine HH ?_
  ·refine B9 ?_;refine HH ?_;refine Gj ?_;refine F3 ?_;simp -dsimp only[simprocAttr,↓AG,zp,Bs.D',Bs.EK,Bs.E4,HJ,zr,results88];exact⟨⟨Xn _ _,trivial⟩,Bs.Cr _ _,trivial⟩
  refine Eh.ms rfl (fi R.over) (by simp[Ag]) ?_;rw[I7,Cb (by rw[fO,Ag];exact B6 _),<-ZP];simp[HV,Function.comp_def,Bs.E4]
 exact Be
abbrev nP(f:Func)(ds:Defs)(over:List Bs)(seen:Bs)(k:Nat)(A:Nat):List A2:=[.ip none [.ip none [aI f.name,AR f.blocks,.im (.int .i64) (ds.map EZ)]],.ip none [aI (k:Int)],.mp A 0,.ip none [.A3 2 (over.map Bs.enc) .sh],.ip none [.v (.int .u64 seen.a),.v (.int .u64 seen.b)]]
def Ku(ds:Defs)(over:List Bs)(seen:Bs)(k:Nat)(at_:Int)(v:Int):Bool :=
 match Hm ds v with
 | none=>false
 | some p=>(decide (p.1=k)&&decide (p.2<=at_)) || ((!decide (p.1=k)&&(over[k]?.getD .none).has p.1.toNat) || !seen.has k)
def mj(n:Nat)(ds:Defs):Prop:=∀v p,Hm ds v=some p->0<=p.1∧p.1.toNat<n
theorem qe9(AN:∀o∈O,o.upto O.length){f:Func}{ds:Defs}{over:List Bs}{seen:Bs}{k A:Nat}{at_:Int}(hA:O[A]?=some (.cells [aI at_]))(hn:over.length<=128)(hk:k<over.length)(AO:∀s∈over,s.fit)(Mj:seen.fit)(H6:mj over.length ds)(v:Int) :
  Aq prog 89 O (aI v::nP f ds over seen k A) (fun r O'=>r=.v (.bool (Ku ds over seen k at_ v))∧O'=O):=by
 have Mf:=AE hA;have EU:over[k]?=some over[k]:=AY hk;have hfk:=AO _ (MG hk);obtain⟨s,hs⟩:∃s,s=over[k]:=⟨_,rfl⟩
 rw[<-hs]at EU hfk;have Wk:=lF seen Mj k I;unfold Ku;have hAX:∀X,(O++X)[A]?=some (.cells [aI at_]):=fun X=>D8 hA;have hdu:=U9 O.length ds;rw[EU];simp only[Fp];generalize Hu:seen.has k=sk at *;cases hl:Hm ds v with
 | none =>
  refine zf true O.length func89 ntmps89 ?_;refine MM ?_;refine IV ?_;refine B9 ?_;simp -dsimp only[simprocAttr,↓AG,zp,Bs.D',Bs.EK,Bs.E4,HJ,gm,hl,ik,Option.getD_none,pQ];refine Ak ?_;refine G4 8 ([aI 0,aI 0]) [(9,.v (.bool false))] rfl CX I Dc ?_ ?_ ?_
  ·exact AN
  ·simp[A2.upto]
  refine B9 ?_;refine HH ?_;refine Gj ?_;refine F3 ?_;simp -dsimp only[simprocAttr,↓AG,zp,Bs.D',Bs.EK,Bs.E4,HJ,zr,results89];exact AN
 | some p =>
  have hq:eD p=.agg [aI p.1,aI p.2]:=rfl;obtain⟨b0,b1⟩:=H6 v p hl;have FT:=lF s hfk p.1.toNat I
  rw[show((p.1.toNat:Nat):Int)=p.1 from I]at FT;simp only;generalize s.has p.1.toNat=sv at *;by_cases Nc:p.1=k
  ·have hd:decide (p.1=(k:Int))=true:=Ar Nc;by_cases XN:p.2<=at_
   ·have G1:decide (p.2<=at_)=true:=Ar XN;rw[hd,G1];refine jd hl hq ?_ ?_ ?_
    ·exact AN
    ·simp[A2.upto,AQ,Mf,Xn]
    refine B9 ?_;simp -dsimp only[simprocAttr,↓AG,zp,Bs.D',Bs.EK,Bs.E4,HJ,hA,EU,BH,hd,G1];exact jm
   have G1:decide (p.2<=at_)=false:=Ac XN;rw[hd,G1];refine jd hl hq ?_ ?_ ?_
   ·exact AN
   ·simp[A2.upto,AQ,Mf,Xn]
   refine B9 ?_;simp -dsimp only[simprocAttr,↓AG,zp,Bs.D',Bs.EK,Bs.E4,HJ,hA,EU,BH,hd,G1];refine .inl ⟨_,Wk,OM,B4 ?_⟩;simp -dsimp only[simprocAttr,↓AG,zp,Bs.D',Bs.EK,Bs.E4,HJ,hd,G1,hA,EU,BH];exact jm
  have hd:decide (p.1=(k:Int))=false:=Ac Nc;rw[hd];cases sv with
  | true =>
   refine jd hl hq ?_ ?_ ?_
   ·exact AN
   ·simp[A2.upto,AQ,Mf,Xn]
   refine B9 ?_;simp -dsimp only[simprocAttr,↓AG,zp,Bs.D',Bs.EK,Bs.E4,HJ,hA,EU,BH,hd];refine .inl ⟨_,FT,OM,B4 ?_⟩;simp -dsimp only[simprocAttr,↓AG,zp,Bs.D',Bs.EK,Bs.E4,HJ,hd,hA,EU,BH];exact jm
  | false =>
   refine jd hl hq ?_ ?_ ?_
   ·exact AN
   ·simp[A2.upto,AQ,Mf,Xn]
   refine B9 ?_;simp -dsimp only[simprocAttr,↓AG,zp,Bs.D',Bs.EK,Bs.E4,HJ,hA,EU,BH,hd];refine .inl ⟨_,FT,OM,B4 ?_⟩;simp -dsimp only[simprocAttr,↓AG,zp,Bs.D',Bs.EK,Bs.E4,HJ,hd,hA,EU,BH];refine .inl ⟨_,Wk,OM,B4 ?_⟩;simp -dsimp only[simprocAttr,↓AG,zp,Bs.D',Bs.EK,Bs.E4,HJ,hd,hA,EU,BH];exact jm
def Rq(t:Term)(p:Int->Bool):Bool:=((decide (t.kind=1) ||decide (t.kind=4)) ||p t.arg)&&t.to.all fun e=>e.args.all p
theorem tW{α:Type}{l:List α}{p:α->Bool}{x:α}(h:l[j]?=some x):(l.drop j).all p=(p x&&(l.drop (j+1)).all p):=by
 rw[D9 h];rfl
theorem qfU(AN:∀o∈O,o.upto O.length)(id:Nat)(I3:List A2)(IZ:AQ O.length I3)(p:Int->Bool)(hp:∀v,Aq prog id O (aI v::I3) (fun r O'=>r=.v (.bool (p v))∧O'=O))(t:Term) :
  Aq prog 91 O [t.enc,.fn (.func id) [] I3] (fun r O'=>r=.v (.bool (Rq t p))∧O'=O):=by
 obtain⟨R,hR⟩:∃R,R=Rq t p:=⟨_,rfl⟩
 rw[<-hR];unfold Rq at hR;have IG:A2.upto O.length (.fn (.func id) [] I3):=⟨trivial,IZ⟩
 have XN:=hp t.arg;refine zf true O.length func91 ntmps91 ?_;refine MM ?_;refine IV ?_;refine G4 2 ([aI t.kind,aI t.arg,aI t.n,AA t.cases,An t.to]) [(1,.fn (.func id) [] I3),(2,.ip none [aI t.kind,aI t.arg,aI t.n,AA t.cases,An t.to]),(4,.v (.bool false))] rfl CX I Dc ?_ ?_ ?_
 ·exact AN
 ·simp[A2.upto,AQ,BU,Edge.AX,IZ]
 cases hb:(decide (t.kind=1) ||decide (t.kind=4)) ||p t.arg with
 | false =>
  rw[hb]at hR;obtain⟨h1,h4,NX⟩:decide (t.kind=1)=false∧decide (t.kind=4)=false∧p t.arg=false:=by
   revert hb;cases decide (t.kind=1)<;>cases decide (t.kind=4)<;>cases p t.arg<;>simp
  rw[NX]at XN;refine Ej ?_;refine dt h1 h4 ?_;refine .inr (.inr ⟨_,XN,B4 ?_⟩);refine NH ?_;refine FF ?_;refine qz ?_;exact⟨AN,by rw[hR];rfl⟩
 | true =>
  rw[hb,PA]at hR;refine LO (⟨44,[(1,.fn (.func id) [] I3),(2,.ip none [aI t.kind,aI t.arg,aI t.n,AA t.cases,An t.to]),(4,.v (.bool false))],O⟩) ?_ ?_
  ·cases h1:decide (t.kind=1)with
   | true =>
    refine B9 ?_;refine jk h1 ?_;refine Ak ?_;exact rC
   | false =>
    cases h4:decide (t.kind=4)with
    | true =>
     refine B9 ?_;refine dt h1 h4 ?_;refine Ak ?_;exact rC
    | false =>
     have NX:p t.arg=true:=by
      rw[h1,h4]at hb;simpa using hb
     rw[NX]at XN;refine B9 ?_;refine dt h1 h4 ?_;refine .inr (.inr ⟨_,XN,B4 ?_⟩);refine NH ?_;exact rC
  skip
  refine Ej ?_;refine NH ?_;refine LN 25 rfl (fun CI=>?_);simp only[BE]at CI;refine Al (BZ (ι:={j:Nat // j<=t.to.length∧R=(t.to.drop j).all fun e=>e.args.all p}) (fun j=>⟨44,[(1,.fn (.func id) [] I3),(4,.v (.bool false)),(25,An t.to),(26,aI t.to.length),(27,aI j.1)],O⟩) (fun j=>t.to.length-j.1) ⟨0,I,hR⟩ ?_ ?_)
  ·exact eI
  rintro⟨j,hj,Bk⟩;refine IV ?_;apply Sd rfl<;>intro h
  ·refine Az ?_;have AF:j<t.to.length:=Aa
   obtain⟨e,GV⟩:∃e,t.to[j]?=some e:=⟨t.to[j],Gu⟩
   rw[tW GV]at Bk;refine Yf GV ?_;refine G4 6 ([aI e.block,AA e.args]) [(1,.fn (.func id) [] I3),(4,.v (.bool false)),(6,.ip none [aI e.block,AA e.args]),(25,An t.to),(26,aI t.to.length),(27,aI j)] rfl CX I Dc ?_ ?_ ?_
   ·exact AN
   ·simp[A2.upto,AQ,BU,Edge.AX,IZ]
   refine IV ?_;refine LN 32 rfl (fun DK=>?_);simp only[BE]at DK;refine Al (BZ (ι:={z:Nat // z<=e.args.length∧R=((e.args.drop z).all p&&(t.to.drop (j+1)).all fun e=>e.args.all p)}) (fun z=>⟨44,[(1,.fn (.func id) [] I3),(4,.v (.bool false)),(25,An t.to),(26,aI t.to.length),(27,aI j),(32,AA e.args),(33,aI e.args.length),(34,aI z.1)],O⟩) (fun z=>e.args.length-z.1) ⟨0,I,Bk⟩ ?_ ?_)
   ·exact eI
   rintro⟨z,hz,CJ⟩;refine IV ?_;apply Sd rfl<;>intro h
   ·refine Az ?_;have gT:z<e.args.length:=Aa
    obtain⟨v,hv⟩:∃v,e.args[z]?=some v:=⟨e.args[z],by simp[gT]⟩
    rw[tW hv]at CJ;have hpv:=hp v;refine Yf hv ?_;refine B9 ?_;refine HH ?_;refine .inr (.inr ⟨_,hpv,B4 ?_⟩);refine NH ?_;cases NX:p v with
    | true =>
     rw[NX,PA]at CJ;refine ON ?_;refine Rk ?_;refine⟨⟨z+1,gT,CJ⟩,Ai,?_⟩;refine PE ?_ ?_
     ·exact BY
     rfl
    | false =>
     rw[NX]at CJ;refine FF ?_;refine qz ?_;exact⟨AN,by rw[CJ];rfl⟩
   refine BO ?_;have Oz:z=e.args.length:=Ee
   subst Oz;rw[F']at CJ;refine Rk ?_;refine⟨⟨j+1,AF,by simpa using CJ⟩,Ai,?_⟩;refine PE ?_ ?_
   ·exact BY
   rfl
  refine BO ?_;have Gl:j=t.to.length:=Ee
  subst Gl;rw[F']at Bk;refine qz ?_;exact⟨AN,by rw[Bk];rfl⟩
def Sk(ds:Defs)(over:List Bs)(seen:Bs)(k:Nat):Nat->List Ins->Bool
 | _,[]=>true
 | n,i::r=>i.args.all (Ku ds over seen k n)&&Sk ds over seen k (n+1) r
def W8(ds:Defs)(over:List Bs)(seen:Bs)(k:Nat)(b:Block):Bool:=Sk ds over seen k 0 b.ins&&Rq b.term (Ku ds over seen k b.ins.length)
def Q7(ds:Defs)(over:List Bs)(seen:Bs):Nat->List Block->Bool
 | _,[]=>true
 | k,b::r=>W8 ds over seen k b&&Q7 ds over seen (k+1) r
def V1(f:Func)(ds:Defs):Int:=if Q7 ds (JM f).1 (JM f).2 0 f.blocks then 0 else 6
theorem qiF(f:Func)(h0:f.blocks≠[])(h1:f.blocks.length<=128)(he:∀b∈f.blocks,∀e∈b.term.to,0<=e.block∧e.block.toNat<f.blocks.length):(JM f).1.length=f.blocks.length∧(∀s∈(JM f).1,s.fit)∧(JM f).2.fit:=by
 have key:∀(n:Nat) (S:Ds),JL f.blocks.length S->JL f.blocks.length (HE f n S):=fun n=>by
  induction n with
  | zero=>exact fun S h=>h
  | succ n ih =>
   intro S h;simp only[HE];split
   ·exact ih _ (eo f.blocks (k:=0) (S:=⟨S.over,S.seen,false⟩) ⟨h.few,h.len,h.fit,h.seen,h.self⟩ he).1
   exact h
 have h:=key 20000 _ (mA h0 h1);exact⟨h.len,h.fit,h.seen⟩
theorem qfV(f:Func)(ds:Defs)(h0:f.blocks≠[])(h1:f.blocks.length<=128)(he:∀b∈f.blocks,∀e∈b.term.to,0<=e.block∧e.block.toNat<f.blocks.length)(H6:mj f.blocks.length ds) :
  BR prog 59 [.ip none [aI f.name,AR f.blocks,.im (.int .i64) (ds.map EZ)]] (aI (V1 f ds)):=by
 have yV:=qno f h0 h1 he;obtain⟨d1,d2,d3⟩:=qiF f h0 h1 he;obtain⟨R,hR⟩:∃R,R=V1 f ds:=⟨_,rfl⟩
 rw[<-hR];unfold V1 at hR;generalize JM f=D at *;obtain⟨over,seen⟩:=D;simp only at yV d1 d2 d3 hR;have cH:=U9 6 ds;have gO:=U9 3 ds;have qoo:=U9 0 ds;have Yu:∀(k:Nat) (at_:Int) (v:Int),k<f.blocks.length->Aq prog 89 [.gone,.gone,.gone,.gone,.gone,.cells [aI at_]] (aI v::nP f ds over seen k 5) (fun r O'=>r=.v (.bool (Ku ds over seen k at_ v))∧O'=[.gone,.gone,.gone,.gone,.gone,.cells [aI at_]]):=fun k at_ v hk=>by
  refine qe9 (O:=[.gone,.gone,.gone,.gone,.gone,.cells [aI at_]]) ?_ rfl I I d2 d3 (by rw[d1];exact H6) v;exact MN
 refine zf true 0 func59 ntmps59 ?_;refine MM ?_;refine IV ?_;refine Cz 1 0 (.ip none [.ip none [aI f.name,AR f.blocks,.im (.int .i64) (ds.map EZ)]]) rfl Bd trivial rfl ?_ ?_;rotate_left;refine HH ?_
 ·refine B9 ?_;refine HH ?_;refine .inl ⟨_,yV,OM,B4 ?_⟩;refine NH ?_;refine Cz 3 1 (.ip none [.A3 2 (over.map Bs.enc) .sh]) rfl Bd trivial rfl ?_ ?_;rotate_left;refine HH ?_
  ·refine Cz 4 2 (.ip none [.v (.int .u64 seen.a),.v (.int .u64 seen.b)]) rfl Bd trivial rfl ?_ ?_;rotate_left;refine HH ?_
   ·refine Ej ?_;refine NH ?_;refine Al (BZ (ι:={k:Nat // k<=f.blocks.length∧R=if Q7 ds over seen k (f.blocks.drop k)then 0 else 6}) (fun k=>⟨64,[(1,.ip none [.ip none [aI f.name,AR f.blocks,.im (.int .i64) (ds.map EZ)]]),(2,aI 0),(3,.ip none [.A3 2 (over.map Bs.enc) .sh]),(4,.ip none [.v (.int .u64 seen.a),.v (.int .u64 seen.b)]),(25,AR f.blocks),(26,aI f.blocks.length),(27,aI k.1)],[.gone,.gone,.gone]⟩) (fun k=>f.blocks.length-k.1) ⟨0,I,hR⟩ ?_ ?_)
    ·exact eI
    rintro⟨k,hk,Af⟩;refine IV ?_;apply Sd rfl<;>intro h
    ·refine Az ?_;have AF:k<f.blocks.length:=Aa
     obtain⟨b,hb⟩:∃b,f.blocks[k]?=some b:=⟨f.blocks[k],Gu⟩
     rw[D9 hb]at Af;simp only[Q7,W8]at Af;refine Yf hb ?_;refine Cz 5 3 (.ip none [aI k]) rfl Bd trivial rfl ?_ ?_;rotate_left;refine HH ?_
     ·refine Cz 6 4 (.ip none [AA b.params,B7 b.ins,aI b.term.kind,aI b.term.arg,aI b.term.n,AA b.term.cases,An b.term.to]) rfl Bd trivial rfl ?_ ?_;rotate_left;refine HH ?_
      ·refine IV ?_;refine IV ?_;refine Ej ?_;refine NH ?_;refine LN 34 rfl (fun Fv=>?_);simp only[BE]at Fv;refine Al (BZ (ι:={x:Nat×Int // x.1<=b.ins.length∧R=if(Sk ds over seen k x.1 (b.ins.drop x.1)&&Rq b.term (Ku ds over seen k b.ins.length))&&Q7 ds over seen (k+1) (f.blocks.drop (k+1))then 0 else 6}) (fun x=>⟨64,[(1,.ip none [.ip none [aI f.name,AR f.blocks,.im (.int .i64) (ds.map EZ)]]),(2,aI 0),(3,.ip none [.A3 2 (over.map Bs.enc) .sh]),(4,.ip none [.v (.int .u64 seen.a),.v (.int .u64 seen.b)]),(25,AR f.blocks),(26,aI f.blocks.length),(27,aI k),(6,.ip none [AA b.params,B7 b.ins,aI b.term.kind,aI b.term.arg,aI b.term.n,AA b.term.cases,An b.term.to]),(7,.mp 5 0),(8,.fn (.func 89) [] [.ip none [.ip none [aI f.name,AR f.blocks,.im (.int .i64) (ds.map EZ)]],.ip none [aI k],.mp 5 0,.ip none [.A3 2 (over.map Bs.enc) .sh],.ip none [.v (.int .u64 seen.a),.v (.int .u64 seen.b)]]),(34,B7 b.ins),(35,aI b.ins.length),(36,aI x.1.1)],[.gone,.gone,.gone,.gone,.gone,.cells [aI x.1.2]]⟩) (fun x=>b.ins.length-x.1.1) ⟨(0,0),A6,Af⟩ ?_ ?_)
       ·exact eI
       rintro⟨⟨j,z⟩,hj,Bk⟩;simp only at hj Bk;refine IV ?_;apply Sd rfl<;>intro h
       ·refine Az ?_;have Hb:j<b.ins.length:=Aa
        obtain⟨i,hi⟩:∃i,b.ins[j]?=some i:=⟨b.ins[j],aP⟩
        rw[D9 hi]at Bk;simp only[Sk]at Bk;refine Yf hi ?_;refine Cz 10 6 (.ip none [aI i.to,aI i.op,aI i.n,AA i.args]) rfl Bd trivial rfl ?_ ?_;rotate_left;refine HH ?_
        ·refine Ei 6 [(1,.ip none [.ip none [aI f.name,AR f.blocks,.im (.int .i64) (ds.map EZ)]]),(2,aI 0),(3,.ip none [.A3 2 (over.map Bs.enc) .sh]),(4,.ip none [.v (.int .u64 seen.a),.v (.int .u64 seen.b)]),(25,AR f.blocks),(26,aI f.blocks.length),(27,aI k),(6,.ip none [AA b.params,B7 b.ins,aI b.term.kind,aI b.term.arg,aI b.term.n,AA b.term.cases,An b.term.to]),(7,.mp 5 0),(8,.fn (.func 89) [] [.ip none [.ip none [aI f.name,AR f.blocks,.im (.int .i64) (ds.map EZ)]],.ip none [aI k],.mp 5 0,.ip none [.A3 2 (over.map Bs.enc) .sh],.ip none [.v (.int .u64 seen.a),.v (.int .u64 seen.b)]]),(34,B7 b.ins),(35,aI b.ins.length),(36,aI j),(9,aI j),(10,.ip none [aI i.to,aI i.op,aI i.n,AA i.args])] A6 I [.gone,.gone,.gone,.gone,.gone,.cells [aI z]] ?_ ?_ ?_ ?_ ?_
         ·rfl
         ·exact jq cH gO
         ·exact Es
         ·exact jq cH gO
         refine IV ?_;refine IV ?_;refine LN 43 rfl (fun DK=>?_);simp only[BE]at DK;refine Al (BZ (ι:={y:Nat // y<=i.args.length∧R=if(((i.args.drop y).all (Ku ds over seen k j)&&Sk ds over seen k (j+1) (b.ins.drop (j+1)))&&Rq b.term (Ku ds over seen k b.ins.length))&&Q7 ds over seen (k+1) (f.blocks.drop (k+1))then 0 else 6}) (fun y=>⟨64,[(1,.ip none [.ip none [aI f.name,AR f.blocks,.im (.int .i64) (ds.map EZ)]]),(2,aI 0),(3,.ip none [.A3 2 (over.map Bs.enc) .sh]),(4,.ip none [.v (.int .u64 seen.a),.v (.int .u64 seen.b)]),(25,AR f.blocks),(26,aI f.blocks.length),(27,aI k),(6,.ip none [AA b.params,B7 b.ins,aI b.term.kind,aI b.term.arg,aI b.term.n,AA b.term.cases,An b.term.to]),(7,.mp 5 0),(8,.fn (.func 89) [] [.ip none [.ip none [aI f.name,AR f.blocks,.im (.int .i64) (ds.map EZ)]],.ip none [aI k],.mp 5 0,.ip none [.A3 2 (over.map Bs.enc) .sh],.ip none [.v (.int .u64 seen.a),.v (.int .u64 seen.b)]]),(34,B7 b.ins),(35,aI b.ins.length),(36,aI j),(43,AA i.args),(44,aI i.args.length),(45,aI y.1)],[.gone,.gone,.gone,.gone,.gone,.cells [aI j]]⟩) (fun y=>i.args.length-y.1) ⟨0,I,Bk⟩ ?_ ?_)
         ·exact eI
         rintro⟨y,hy,hye⟩;refine IV ?_;apply Sd rfl<;>intro h
         ·refine Az ?_;have hly:y<i.args.length:=Aa
          obtain⟨v,hv⟩:∃v,i.args[y]?=some v:=⟨i.args[y],by simp[hly]⟩
          rw[tW hv]at hye;have XR:=Yu k j v AF;refine Yf hv ?_;refine B9 ?_;refine HH ?_;refine .inr (.inr ⟨_,XR,B4 ?_⟩);refine NH ?_;cases NX:Ku ds over seen k j v with
          | true =>
           rw[NX,PA]at hye;refine ON ?_;refine Rk ?_;refine⟨⟨y+1,hly,hye⟩,Ai,?_⟩;refine PE ?_ ?_
           ·exact BY
           rfl
          | false =>
           rw[NX]at hye;refine FF ?_;refine B9 ?_;refine rN ?_;rw[hye];simp
         refine BO ?_;have hyy:y=i.args.length:=Ee
         subst hyy;rw[F']at hye;refine Rk ?_;refine⟨⟨(j+1,j),Hb,by simpa using hye⟩,Ai,?_⟩;refine PE ?_ ?_
         ·exact BY
         rfl
        exact Be
       refine BO ?_;have Gl:j=b.ins.length:=Ee
       subst Gl;rw[F']at Bk;simp only[Sk,PA]at Bk;have hus:=qfU (O:=[.gone,.gone,.gone,.gone,.gone,.cells [aI b.ins.length]]) abE 89 (nP f ds over seen k 5) (by simp[A8.upto,AQ,A2.upto,BU,Block.AX,Xn,cH]) (Ku ds over seen k b.ins.length) (fun v=>Yu k b.ins.length v AF) b.term;refine IV ?_;refine B9 ?_;refine HH ?_;refine .inr (.inr ⟨_,hus,B4 ?_⟩);refine NH ?_;cases NX:Rq b.term (Ku ds over seen k b.ins.length)with
       | true =>
        rw[NX,PA]at Bk;refine ON ?_;refine Ei 3 [(1,.ip none [.ip none [aI f.name,AR f.blocks,.im (.int .i64) (ds.map EZ)]]),(2,aI 0),(3,.ip none [.A3 2 (over.map Bs.enc) .sh]),(4,.ip none [.v (.int .u64 seen.a),.v (.int .u64 seen.b)]),(25,AR f.blocks),(26,aI f.blocks.length),(27,aI k)] A6 I [.gone,.gone,.gone] ?_ ?_ ?_ ?_ ?_
        ·rfl
        ·exact jq cH gO
        ·exact Es
        ·exact jq cH gO
        refine Rk ?_;refine⟨⟨k+1,AF,Bk⟩,Ai,?_⟩;refine PE ?_ ?_
        ·exact BY
        rfl
       | false =>
        rw[NX]at Bk;refine FF ?_;refine B9 ?_;refine rN ?_;rw[Bk];simp
      exact Be
     exact Be
    refine BO ?_;have Bh:k=f.blocks.length:=Ee
    subst Bh;rw[F']at Af;refine B9 ?_;refine rN ?_;simp[Af,Q7]
   exact Be
  exact Be
 exact Be
theorem qdS(ds:Defs)(k v:Int)(p:Int×Int):Hm (ds++[(k,p)]) v=match Hm ds v with|some q=>some q|none=>if k=v then some p else none:=by
 induction ds with
 | nil=>rfl
 | cons e r ih =>
  obtain⟨a,q⟩:=e;simp only[JR,Hm];split
  ·rfl
  exact ih
structure N5(n:Nat)(ds:Defs):Prop where
 ok:mj n ds
 nodup:(ds.map (·.1)).Nodup
 range:∀e∈ds,0<=e.1∧e.1<=4095
variable {ds:Defs}
theorem qdR{v:Int}(h:Hm ds v=none):∀e∈ds,e.1≠v:=by
 induction ds with
 | nil=>simp
 | cons e r ih =>
  obtain⟨a,q⟩:=e;simp only[Hm]at h;split at h
  ·cases h
  rename_i AT;intro e he;rcases List.mem_cons.1 he with q|q
  ·subst q;exact AT
  exact ih h e q
theorem sG:∀(n:Nat) (l:List Nat),l.Nodup->(∀x∈l,x<n)->l.length<=n
 | 0,l,_,h=>by
  cases l with
  | nil=>simp
  | cons a r=>exact B3 (h a A6) I
 | n+1,l,hn,h=>by
  by_cases hm:n∈l
  ·have:=sG n (l.erase n) (hn.erase n) (fun x hx=>by
    have h1:=(List.Nodup.mem_erase_iff hn).1 hx;have h2:=h x h1.2;have h3:=h1.1;omega)
   rw[pF hm]at this;omega
  have:=sG n l hn (fun x hx=>by
   have h2:=h x hx;have:x≠n:=fun e=>hm (e ▸ hx);omega)
  omega
theorem N5.few(h:N5 n ds):ds.length<=4096:=by
 have h1:(ds.map fun e=>e.1.toNat).Nodup:=by
  have h0:=h.nodup;have hr:=h.range;clear h;induction ds with
  | nil=>simp
  | cons e r ih =>
   simp only[Bc,UX,JQ,not_exists,not_and]at h0 ⊢;refine⟨fun x hx q=>h0.1 x hx ?_,ih h0.2 (fun e he=>hr e (by simp[he]))⟩;have a:=hr e A6;have b:=hr x QQ;omega
 have:=sG 4096 _ h1 (fun x hx=>by
  obtain⟨e,he,rfl⟩:=List.mem_map.1 hx;have:=h.range e he;omega)
 exact NI
theorem A5(h:N5 n ds)(v:Int){p:Int×Int}(h0:0<=p.1)(h1:p.1.toNat<n):N5 n (Ip ds v p).2∧((Ip ds v p).1=0->(Ip ds v p).2.length=ds.length+1):=by
 unfold Ip;split
 ·exact⟨h,fun q=>by simp at q⟩
 rename_i hw;split
 ·exact⟨h,fun q=>by simp at q⟩
 rename_i hl;have J9:Hm ds v=none:=OL
 have JZ:0<=v∧v<=4095:=by simpa[within]using hw
 refine⟨⟨fun w q hq=>?_,?_,fun e he=>?_⟩,fun _=>A6⟩
 ·rw[qdS]at hq;cases hd:Hm ds w with
  | some q' =>
   rw[hd]at hq;simp only[AM]at hq;exact hq ▸ h.ok w q' hd
  | none =>
   rw[hd]at hq;simp only at hq;split at hq
   ·simp only[AM]at hq;exact hq ▸ ⟨h0,h1⟩
   cases hq
 ·rw[Dx,Bc,Ed,Rc];refine⟨h.nodup,A6,fun a ha b hb=>?_⟩;obtain⟨e,he,rfl⟩:=List.mem_map.1 ha;simp only[Fq]at hb;subst hb;exact qdR J9 e he
 rcases List.mem_append.1 he with q|q
 ·exact h.range e q
 simp only[Fq]at q;subst q;exact JZ
theorem tz{n:Nat}{k:Int}(h0:0<=k)(h1:k.toNat<n):∀(l:List Int) (ds:Defs),N5 n ds->N5 n (Je k ds l).2∧((Je k ds l).1=0->(Je k ds l).2.length=ds.length+l.length)
 | [],ds,h=>⟨h,fun _=>by simp[Je]⟩
 | p::r,ds,h=>by
  have hd:=A5 h p (p:=(k,0)) h0 h1;simp only[Je];split
  ·rename_i AT;exact⟨hd.1,fun q=>B3 q AT⟩
  rename_i he;have ih:=tz h0 h1 r _ hd.1;refine⟨ih.1,fun q=>?_⟩;rw[ih.2 q,hd.2 dW];exact kL
theorem xN{n:Nat}{k:Int}(h0:0<=k)(h1:k.toNat<n):∀(l:List Ins) (j:Int) (ds:Defs),N5 n ds->N5 n (Ke k j ds l).2∧((Ke k j ds l).1=0->(Ke k j ds l).2.length=ds.length+l.length∧∀i∈l,MA i=0)
 | [],j,ds,h=>⟨h,fun _=>by simp[Ke]⟩
 | i::r,j,ds,h=>by
  have hd:=A5 h i.to (p:=(k,j+1)) h0 h1;simp only[Ke];split
  ·rename_i AT;exact⟨hd.1,fun q=>B3 q AT⟩
  rename_i he;split
  ·rename_i hf;exact⟨hd.1,fun q=>B3 q hf⟩
  rename_i hf;have ih:=xN h0 h1 r (j+1) _ hd.1;refine⟨ih.1,fun q=>?_⟩;obtain⟨a,b⟩:=ih.2 q;refine⟨?_,fun x hx=>?_⟩
  ·rw[a,hd.2 dW];exact kL
  rcases List.mem_cons.1 hx with e|e
  ·subst e;simpa using hf
  exact b x e
structure gA(f:Func)(b:Block):Prop where
 Yv:∀i∈b.ins,MA i=0
 fin:I4 f b.term=0
 few:b.params.length+b.ins.length<=4096
theorem qeG{k:Int}(h:N5 f.blocks.length ds)(h0:0<=k)(h1:k.toNat<f.blocks.length):N5 f.blocks.length (KW f ds k).2∧((KW f ds k).1=0->gA f (A7 f k)):=by
 have hp:=tz h0 h1 (A7 f k).params ds h;have hi:=xN h0 h1 (A7 f k).ins 0 _ hp.1;unfold KW;split
 ·rename_i AT;exact⟨hp.1,fun q=>B3 q AT⟩
 rename_i Qn;split
 ·rename_i AT;exact⟨hi.1,fun q=>B3 q AT⟩
 rename_i hie;refine⟨hi.1,fun q=>?_⟩;have a:=hp.2 (by simpa using Qn);have b:=hi.2 (by simpa using hie);have c:=hi.1.few;exact⟨b.2,q,by rw[b.1,a]at c;omega⟩
theorem ZR{t:Term}(h:I4 f t=0):Hj t=true∧t.cases.length<=256∧(t.kind=4->1<=t.n∧t.n<=6)∧∀e∈t.to,(1<=e.block∧e.block<=(f.blocks.length:Int)-1)∧e.args.length=(A7 f e.block).params.length:=by
 unfold I4 at h;split at h
 ·simp at h
 rename_i hs;split at h
 ·simp at h
 rename_i hc;split at h
 ·simp at h
 rename_i hk;split at h
 ·rename_i AT;exact B3 h AT
 refine⟨a8,I,fun k4=>?_,?_⟩
 ·by_cases hw:within t.n 1 6=false
  ·exact B3 ⟨k4,hw⟩ hk
  simpa[within]using hw
 generalize t.to=l at h;induction l with
 | nil=>simp
 | cons e r ih =>
  simp only[Wi]at h;split at h
  ·simp at h
  rename_i h1;split at h
  ·simp at h
  rename_i h2;intro x hx;rcases List.mem_cons.1 hx with q|q
  ·subst q;exact⟨by simpa[within]using h1,KI⟩
  exact ih h x q
def KB:Int->List Block->Int
 | m,[]=>m
 | m,b::r=>KB (IntKind.i64.wrap (m+b.ins.length)) r
def I0(f:Func):Nat->Int->Defs->Int×Defs
 | 0,_,ds=>(0,ds)
 | n+1,k,ds=>if(KW f ds k).1≠0 then KW f ds k else I0 f n (k+1) (KW f ds k).2
def Cj(f:Func):Int :=
 if f.blocks.length=0 then 3
 else if 128<f.blocks.length∨1024<KB 0 f.blocks∨6<(A7 f 0).params.length then 2
 else if within f.name (-1) 1048575=false then 4
 else if(I0 f f.blocks.length 0 []).1≠0 then(I0 f f.blocks.length 0 []).1
 else V1 f (I0 f f.blocks.length 0 []).2
theorem iB{f:Func}:∀(n:Nat) (k:Int) (ds:Defs),N5 f.blocks.length ds->0<=k->k.toNat+n<=f.blocks.length->(I0 f n k ds).1=0->N5 f.blocks.length (I0 f n k ds).2∧∀j:Nat,j<n->gA f (A7 f (k+j))
 | 0,k,ds,h,_,_,_=>⟨h,fun j hj=>B3 hj I⟩
 | n+1,k,ds,h,h0,h1,he=>by
  have hb:=qeG (k:=k) h h0 I;simp only[I0]at he ⊢;split at he
  ·rename_i AT;exact B3 he AT
  rename_i AT;rw[A4 AT];have ih:=iB n (k+1) _ hb.1 I I he;refine⟨ih.1,fun j hj=>?_⟩;cases j with
  | zero=>simpa using hb.2 (by simpa using AT)
  | succ j =>
   have:=ih.2 j I
   rwa [show k+((j+1:Nat):Int)=k+1+(j:Int) from I]
theorem N5.nil(n:Nat):N5 n []:=⟨fun v p h=>NG,A6,A6⟩
theorem qf8{b:Block}(h:b∈f.blocks):∃j:Nat,j<f.blocks.length∧b=A7 f (j:Int):=by
 obtain⟨j,hj,rfl⟩:=List.getElem_of_mem h;exact⟨j,hj,by simp[A7,hj]⟩
theorem qa0(he:(I0 f f.blocks.length 0 []).1=0):∀b∈f.blocks,gA f b:=fun b hb=>by
 obtain⟨j,hj,rfl⟩:=qf8 hb;have:=(iB f.blocks.length 0 [] (.nil _) I A6 he).2 j hj;exact NI
theorem gi(f:Func)(AO:f.fit):BR prog 31 [f.enc] (aI (Cj f)):=by
 have hw:=SW f.name (-1) 1048575;have NK:f.blocks.length<=2 ^ 47:=AO.2.1;obtain⟨R,hR⟩:∃R,R=Cj f:=⟨_,rfl⟩
 rw[<-hR];unfold Cj at hR;refine zf true 0 func31 ntmps31 ?_;refine KK ?_ ?_
 ·refine Yh ?_;refine Al (BZ (ι:={x:Nat×Int // x.1<=f.blocks.length∧KB 0 f.blocks=KB x.2 (f.blocks.drop x.1)}) (fun x=>⟨69,[(1,.ip none [aI f.name,AR f.blocks]),(2,aI 0),(3,aI x.1.2),(10,AR f.blocks),(11,aI f.blocks.length),(12,aI x.1.1)],[.gone]⟩) (fun x=>f.blocks.length-x.1.1) ⟨(0,0),A6,rfl⟩ ?_ ?_)
  ·exact JU
  rintro⟨⟨k,m⟩,hk,Af⟩;simp only at hk Af;refine C3 (fun h=>?_) (fun h=>?_)
  ·refine Az ?_;have AF:k<f.blocks.length:=Aa
   obtain⟨b,hb⟩:∃b,f.blocks[k]?=some b:=⟨f.blocks[k],Gu⟩
   rw[D9 hb]at Af;simp only[KB]at Af;refine acW hb ?_ ?_
   ·refine ad4 ?_;refine Ei 1 [(1,.ip none [aI f.name,AR f.blocks]),(2,aI 0),(3,aI (IntKind.i64.wrap (m+b.ins.length))),(10,AR f.blocks),(11,aI f.blocks.length),(12,aI k)] A6 I [.gone] ?_ ?_ ?_ ?_ ?_
    ·rfl
    ·exact YV
    ·exact Es
    ·exact YV
    refine Bw ?_;refine⟨⟨(k+1,IntKind.i64.wrap (m+b.ins.length)),D6,Af⟩,Ai,?_⟩;refine Ba ?_ ?_
    ·exact BY
    rfl
   exact Be
  refine BO ?_;have Bh:k=f.blocks.length:=Ee
  subst Bh;rw[F']at Af;simp only[KB]at Af;rw[Af]at hR;refine DW (Al ?_);refine AJ (fun h=>?_) (fun h=>?_)
  ·have hl:f.blocks.length=0:=Aa
   rw[A9 hl]at hR;refine D7 ?_;exact js hR
  have hl:¬f.blocks.length=0:=Aa
  rw[A4 hl]at hR;have hB:f.blocks[0]?=some (A7 f 0):=K2 (f:=f) (k:=0) I I;generalize A7 f 0=B at *;refine LO (⟨69,[(1,.ip none [aI f.name,AR f.blocks]),(2,aI 0),(27,.v (.bool (decide ((128:Int)<f.blocks.length) ||decide ((1024:Int)<m) ||decide ((6:Int)<B.params.length))))],[.gone]⟩) ?_ ?_
  ·cases hA:decide ((128:Int)<f.blocks.length)<;>cases hBB:decide ((1024:Int)<m)<;>cases hC:decide ((6:Int)<B.params.length)
   all_goals
    refine RJ hT hm ?_;refine Yd hA hBB hC hB ?_;refine PH ?_ ?_
    ·exact Wa
    rfl
  by_cases TE:128<f.blocks.length∨1024<m∨6<B.params.length
  ·rw[A9 TE]at hR;have hd:(decide ((128:Int)<f.blocks.length) ||decide ((1024:Int)<m) ||decide ((6:Int)<B.params.length))=true:=by
    simp only[Hq,Cp];omega
   rw[hd];refine E3 ?_;exact js hR
  rw[A4 TE]at hR;have hd:(decide ((128:Int)<f.blocks.length) ||decide ((1024:Int)<m) ||decide ((6:Int)<B.params.length))=false:=by
   simp only[aaE,Kf];omega
  rw[hd];have qlH:f.blocks.length<=128:=I
  have AT:f.blocks≠[]:=fun e=>hl aK;cases hn:within f.name (-1) 1048575 with
  | false =>
   rw[A9 hn]at hR;rw[hn]at hw;refine KL ?_;refine BM ?_;refine .inl ⟨_,hw,pj,B4 ?_⟩;refine Ki ?_;refine E3 ?_;exact js hR
  | true =>
   rw[A4 (by simp[hn])]at hR;rw[hn]at hw;apply AZ rfl<;>intro h
   ·cases h
   refine BM ?_;refine .inl ⟨_,hw,pj,B4 ?_⟩;refine Ki ?_;apply AZ rfl<;>intro h
   ·cases h
   refine H2 ?_;refine Yh ?_;have Ry:∀(ds:Defs) (k:Nat),k<f.blocks.length->Aq prog 58 [.gone,.map (.int .i64) (ds.map EZ),.cells [aI f.name,AR f.blocks,.mm 1]] [.mp 2 0,aI k] (fun r O'=>r=aI (KW f ds k).1∧O'=[.gone,.map (.int .i64) ((KW f ds k).2.map EZ),.cells [aI f.name,AR f.blocks,.mm 1]]):=fun ds k hk=>by
    have B8:(A7 f k).term.cases.length<=2 ^ 60:=by
     have hb:=AK (K2 (f:=f) (k:=k) I I);have:=(AO.2.2 _ hb).2.2.2.2.2.2.2.2.1;omega
    exact qd6 (O:=[.gone,.map (.int .i64) (ds.map EZ),.cells [aI f.name,AR f.blocks,.mm 1]]) (c:=2) (d:=1) (by simp[A8.upto,AQ,A2.upto,Block.AX,U9]) I rfl rfl k I I I B8
   refine Al (BZ (ι:={x:Nat×Defs // x.1<=f.blocks.length∧I0 f f.blocks.length 0 []=I0 f (f.blocks.length-x.1) x.1 x.2}) (fun x=>⟨69,[(1,.ip none [aI f.name,AR f.blocks]),(2,aI 0),(6,.mp 2 0),(56,aI f.blocks.length),(57,aI x.1.1)],[.gone,.map (.int .i64) (x.1.2.map EZ),.cells [aI f.name,AR f.blocks,.mm 1]]⟩) (fun x=>f.blocks.length-x.1.1) ⟨(0,[]),A6,rfl⟩ ?_ ?_)
   ·exact JU
   rintro⟨⟨k,ds⟩,hk,Af⟩;simp only at hk Af;refine C3 (fun h=>?_) (fun h=>?_)
   ·refine Az ?_;have AF:k<f.blocks.length:=Aa
    rw[show f.blocks.length-k=f.blocks.length-(k+1)+1 from I]at Af;simp only[I0]at Af;have hb:=Ry ds k AF;generalize KW f ds k=X at *;refine PF ?_;refine BM ?_;refine .inr (.inl ⟨_,_,hb,.inl (B4 (zj ?_))⟩);refine Ak ?_;by_cases hX:X.1=0
    ·have Qr:decide (X.1=0)=true:=Ar hX;rw[A4 qy]at Af;refine Yb Qr ?_;refine⟨⟨(k+1,X.2),D6,Af⟩,Ai,?_⟩;refine Ba ?_ ?_
     ·exact BY
     rfl
    have Qr:decide (X.1=0)=false:=Ac hX;rw[A9 hX]at Af;rw[Af,A9 hX]at hR;refine Uo Qr ?_;exact js hR
   refine BO ?_;have Bh:k=f.blocks.length:=Ee
   subst Bh;rw[FB]at Af;simp only[I0]at Af;have Mi:(I0 f f.blocks.length 0 []).1=0:=by rw[Af]
   have Br:=qa0 Mi;have hdw:=(iB f.blocks.length 0 [] (.nil _) I A6 Mi).1;rw[Af]at hdw;rw[Af,A4 A6]at hR;have hus:=qfV f ds AT qlH (fun b hb e he=>by
    have:=(ZR (Br b hb).fin).2.2.2 e he;omega) hdw.ok
   simp only at hR;rw[<-hR]at hus;refine ZO 1 rfl Bd trivial [(2,aI 0),(6,.mp 2 0)] ?_ 2 I _ [aI f.name,AR f.blocks,.im (.int .i64) (ds.map EZ)] rfl rfl ?_ ?_ ?_
   ·intro s y hy;simp only[Go.Av.look]at hy;split at hy
    ·cases hy;rename_i e;subst e;exact⟨_,rfl,.refl _⟩
    split at hy
    ·cases hy;rename_i e;subst e;exact⟨_,rfl,.refl _⟩
    cases hy
   ·simp[A2.scalar]
   ·intro j c d hc hd
    match j,hc,hd with
    | 0,hc,hd =>
     cases hc;cases hd;exact Uu
    | 1,hc,hd =>
     cases hc;cases hd;exact Uu
    | 2,hc,hd =>
     cases hc;cases hd;exact .mm rfl
   show AU prog _ _ _ ⟨_,_,[.gone,.gone,.cells [aI f.name,AR f.blocks,.im (.int .i64) (ds.map EZ)]]⟩;refine Cz 6 2 (.ip none [aI f.name,AR f.blocks,.im (.int .i64) (ds.map EZ)]) rfl Bd trivial rfl ?_ ?_;rotate_left;refine BL ?_
   ·refine BM ?_;refine .inl ⟨_,hus,pj,B4 ?_⟩;refine BL ?_;refine E9 ?_;simp -dsimp only[simprocAttr,↓AG,zp,zr,results31]
   exact Be
 exact Be
def KX(u:Ad)(i:Ins):Int :=
 if i.op≠13∧i.op≠9 then 0
 else if(u.fns.length:Int)<=i.n then 4
 else if(i.op=13∧(A7 (AB u i.n) 0).params.length≠i.args.length)∨(i.op=9∧(A7 (AB u i.n) 0).params.length=0)then 3
 else 0
theorem qaL(u:Ad)(i:Ins)(hn:i.op=13∨i.op=9->0<=i.n)(AT:∀f∈u.fns,f.blocks≠[]):BR prog 32 [u.enc,i.enc] (aI (KX u i)):=by
 obtain⟨R,hR⟩:∃R,R=KX u i:=⟨_,rfl⟩
 rw[<-hR];unfold KX at hR;rcases(show(i.op≠13∧i.op≠9)∨i.op=13∨i.op=9 from I)with h|h|h
 ·rw[A9 h]at hR;have h1:decide (i.op=13)=false:=Ac h.1;have h2:decide (i.op=9)=false:=Ac h.2;refine zf true 0 func32 ntmps32 ?_;refine Cw ?_;refine L7 h1 h2 ?_;refine E3 ?_;exact aV hR
 all_goals
  have hn:=hn I;rw[A4 I]at hR;by_cases hl:(u.fns.length:Int)<=i.n
  ·rw[A9 hl]at hR;have h3:decide ((u.fns.length:Int)<=i.n)=true:=Ar hl;have h12:(decide (i.op=13)=true∧decide (i.op=9)=false)∨(decide (i.op=13)=false∧decide (i.op=9)=true):=by
    simp only[Cp,Kf];omega
   rcases h12 with⟨h1,h2⟩|⟨h1,h2⟩
   all_goals
    refine dr h1 h2 h3 ?_;refine E3 ?_;exact aV hR
  rw[A4 hl]at hR;have h3:decide ((u.fns.length:Int)<=i.n)=false:=Ac hl;have hF:=UJ (u:=u) (k:=i.n) hn I;have qmr:=AT _ (AK hF);have Bt:0<(AB u i.n).blocks.length:=by
   cases hb:(AB u i.n).blocks with
   | nil=>exact B3 hb qmr
   | cons=>simp
  have hB:(AB u i.n).blocks[0]?=some (A7 (AB u i.n) 0):=K2 (f:=AB u i.n) (k:=0) I I;generalize A7 (AB u i.n) 0=B at *;generalize AB u i.n=F at *;have h12:(decide (i.op=13)=true∧decide (i.op=9)=false)∨(decide (i.op=13)=false∧decide (i.op=9)=true):=by
   simp only[Cp,Kf];omega
  rcases h12 with⟨h1,h2⟩|⟨h1,h2⟩
  ·have g1:=T' h1;have g2:=G0 h2;by_cases hq':B.params.length=i.args.length
   ·rw[A4 I]at hR;have hq:decide ((B.params.length:Int)=i.args.length)=true:=Ar I;refine dr h1 h2 h3 ?_;refine FE ?_;refine L6 hF hB ?_;refine L5 h1 h2 hq ?_;refine ML ?_;refine D7 ?_;exact aV hR
   rw[A9 (.inl ⟨g1,hq'⟩)]at hR;have hq:decide ((B.params.length:Int)=i.args.length)=false:=Ac I;refine dr h1 h2 h3 ?_;refine FE ?_;refine L6 hF hB ?_;refine L5 h1 h2 hq ?_;refine Rn ?_;exact aV hR
  have g1:=G0 h1;have g2:=T' h2;by_cases hq':B.params.length=0
  ·rw[A9 (.inr ⟨g2,hq'⟩)]at hR;have hq:decide ((B.params.length:Int)=0)=true:=Ar I;refine dr h1 h2 h3 ?_;refine FE ?_;refine L6 hF hB ?_;refine L5 h1 h2 hq ?_;refine Rn ?_;exact aV hR
  rw[A4 I]at hR;have hq:decide ((B.params.length:Int)=0)=false:=Ac I;refine dr h1 h2 h3 ?_;refine FE ?_;refine L6 hF hB ?_;refine L5 h1 h2 hq ?_;refine ML ?_;refine D7 ?_;exact aV hR
theorem mN:∀(l:List Block) (m:Int),0<=m->m+2 ^ 48*(l.length:Int)<=2 ^ 60->(∀b∈l,b.ins.length<=2 ^ 47)->m<=KB m l∧∀b∈l,(b.ins.length:Int)<=KB m l
 | [],m,_,_,_=>⟨by simp[KB],A6⟩
 | b::r,m,h0,h1,h2=>by
  have hb:=h2 b A6;simp only[CE]at h1;have hw:IntKind.i64.wrap (m+b.ins.length)=m+b.ins.length:=Yk _ _ aaO pn;have ih:=mN r (m+b.ins.length) I I (fun x hx=>h2 x QQ);simp only[KB,hw];refine⟨I,fun x hx=>?_⟩;rcases List.mem_cons.1 hx with q|q
  ·subst q;omega
  exact ih.2 x q
structure Vd(f:Func):Prop where
 ne:f.blocks≠[]
 few:f.blocks.length<=128
 name:-1<=f.name∧f.name<=1048575
 args:(A7 f 0).params.length<=6
 ins:∀b∈f.blocks,b.ins.length<=1024
 blk:∀b∈f.blocks,gA f b
 NL:V1 f (I0 f f.blocks.length 0 []).2=0
theorem Mp(AO:f.fit)(h:Cj f=0):Vd f:=by
 unfold Cj at h;split at h
 ·simp at h
 rename_i h1;split at h
 ·simp at h
 rename_i h2;split at h
 ·simp at h
 rename_i h3;split at h
 ·rename_i h4;exact B3 h h4
 rename_i h4;have hw:=mN f.blocks 0 I I (fun b hb=>(AO.2.2 b hb).2.2.1);refine⟨fun e=>h1 aK,I,by simpa[within]using h3,I,fun b hb=>?_,qa0 (by simpa using h4),h⟩;have:=hw.2 b hb;omega
structure xt(i:Ins):Prop where
 op:0<=i.op∧i.op<=24
 len:i.args.length<=16
 c0:i.op=0->CR i.n∧i.args.length=0
 c2:(1<=i.op∧i.op<=7)∨i.op=16∨i.op=18∨i.op=19∨i.op=21∨i.op=23->i.args.length=2
 c1:i.op=10∨i.op=11∨i.op=12∨i.op=15∨i.op=17∨i.op=24->i.args.length=1
 c3:i.op=20->i.args.length=3
 con:i.op=8->0<=i.n∧i.n<=255
 call:i.op=9∨i.op=13->0<=i.n∧i.n<=255
 app:i.op=14->1<=i.args.length
 sel:i.op=11∨i.op=24->0<=i.n
 pack:i.op=22->(i.n=2∨i.n=4)∧(i.args.length:Int)=i.n
 vec:i.op=23->i.n=1∨i.n=2∨i.n=3
theorem ew{i:Ins}(h:MA i=0):xt i:=by
 unfold MA at h;split at h
 ·simp at h
 rename_i hA;split at h
 ·simp at h
 rename_i hBC;split at h
 ·rename_i hN;have hA':(E5 i).2=true∧(0<=(E5 i).1->(i.args.length:Int)=(E5 i).1)∧(i.op=14->¬(i.args.length:Int)=0):=by
   simp only[bW,Hq,OI,F0,Cp,Kf,not_or,not_and,ib,Decidable.not_not]at hA;exact⟨hA.1.1,hA.1.2,hA.2⟩
  obtain⟨a1,a2,a3⟩:=hA';have hB:(i.op=8∨i.op=9->i.args.length<=16)∧(i.op=13∨i.op=14->i.args.length<=6):=by
   simp only[Yr,bX,Hq,F0,Cp,not_or,not_and]at hBC;exact⟨fun q=>by have:=hBC.1 q;omega,fun q=>by have:=hBC.2 q;omega⟩
  obtain⟨b1,b2⟩:=hB;have DL:0<=i.op∧i.op<=24:=by
   unfold E5 at a1;split at a1
   ·omega
   split at a1
   ·omega
   split at a1
   ·omega
   split at a1
   ·omega
   split at a1
   ·omega
   split at a1
   ·omega
   simp at a1
  have o0:i.op=0->E5 i=(0,true):=fun q=>by unfold E5;rw[A9 q]
  have o2:(1<=i.op∧i.op<=7)∨i.op=16∨i.op=18∨i.op=19∨i.op=21∨i.op=23->E5 i=(2,true):=fun q=>by unfold E5;rw[A4 I,A9 q]
  have o3:i.op=20->E5 i=(3,true):=fun q=>by unfold E5;rw[A4 I,A4 I,A9 q]
  have o1:i.op=10∨i.op=11∨i.op=12∨i.op=15∨i.op=17∨i.op=24->E5 i=(1,true):=fun q=>by unfold E5;rw[A4 I,A4 I,A4 I,A9 q]
  have o22:i.op=22->E5 i=(i.n,decide (i.n=2∨i.n=4)):=fun q=>by unfold E5;rw[A4 I,A4 I,A4 I,A4 I,A4 I,A9 q]
  have l0:i.op=0->i.args.length=0:=fun q=>by rw[o0 q]at a2;have:=a2 EW;simp only at this;omega
  have l2:=fun q=>by have:=a2;rw[o2 q]at this;exact this EW
  have l3:=fun q=>by have:=a2;rw[o3 q]at this;exact this EW
  have l1:=fun q=>by have:=a2;rw[o1 q]at this;exact this EW
  have l22:i.op=22->(i.n=2∨i.n=4)∧(i.args.length:Int)=i.n:=fun q=>by
   rw[o22 q]at a1 a2;have:i.n=2∨i.n=4:=T' a1;exact⟨this,a2 D6⟩
  have n0:i.op=0->CR i.n:=fun q=>by unfold GM at hN;rw[A9 q]at hN;exact T' hN
  have n8:i.op=8->0<=i.n∧i.n<=255:=fun q=>by unfold GM at hN;rw[A4 I,A9 q]at hN;exact within_iff.1 hN
  have n11:i.op=11->0<=i.n∧i.n<=15:=fun q=>by unfold GM at hN;rw[A4 I,A4 I,A9 q]at hN;exact within_iff.1 hN
  have n9:i.op=9∨i.op=13->0<=i.n∧i.n<=255:=fun q=>by unfold GM at hN;rw[A4 I,A4 I,A4 I,A9 q]at hN;exact within_iff.1 hN
  have n23:i.op=23->i.n=1∨i.n=2∨i.n=3:=fun q=>by unfold GM at hN;rw[A4 I,A4 I,A4 I,A4 I,A9 q]at hN;exact T' hN
  have n24:i.op=24->0<=i.n∧i.n<=3:=fun q=>by unfold GM at hN;rw[A4 I,A4 I,A4 I,A4 I,A4 I,A9 q]at hN;exact within_iff.1 hN
  have L2:(1<=i.op∧i.op<=7)∨i.op=16∨i.op=18∨i.op=19∨i.op=21∨i.op=23->i.args.length=2:=fun q=>by have:=l2 q;omega
  have L1:i.op=10∨i.op=11∨i.op=12∨i.op=15∨i.op=17∨i.op=24->i.args.length=1:=fun q=>by have:=l1 q;omega
  have L3:i.op=20->i.args.length=3:=fun q=>by have:=l3 q;omega
  refine⟨DL,?_,fun q=>⟨n0 q,l0 q⟩,L2,L1,L3,n8,n9,fun q=>by have:=a3 q;omega,fun q=>?_,l22,n23⟩
  ·rcases(show i.op=0∨((1<=i.op∧i.op<=7)∨i.op=16∨i.op=18∨i.op=19∨i.op=21∨i.op=23)∨i.op=20∨(i.op=10∨i.op=11∨i.op=12∨i.op=15∨i.op=17∨i.op=24)∨(i.op=8∨i.op=9)∨(i.op=13∨i.op=14)∨i.op=22 from I)with q|q|q|q|q|q|q
   ·have:=l0 q;omega
   ·have:=L2 q;omega
   ·have:=L3 q;omega
   ·have:=L1 q;omega
   ·have:=b1 q;omega
   ·have:=b2 q;omega
   have:=l22 q;omega
  rcases q with q|q
  ·exact(n11 q).1
  exact(n24 q).1
 simp at h
structure yL(f:Func)(t:Term):Prop where
 kind:0<=t.kind∧t.kind<=4
 to:t.kind=0∨t.kind=4->t.to=[]
 jump:t.kind=1->t.to.length=1
 cond:t.kind=2->t.to.length=2
 switch:t.kind=3->t.to.length=t.cases.length+1
 cases:t.cases.length<=256
 VO:t.kind=4->1<=t.n∧t.n<=6
 n:t.kind≠4->t.n=0
 DN:∀e∈t.to,(1<=e.block∧e.block<=(f.blocks.length:Int)-1)∧e.args.length=(A7 f e.block).params.length
theorem LS{t:Term}(h:I4 f t=0):yL f t:=by
 obtain⟨h1,h2,h3,h4⟩:=ZR h;simp only[Hj,F0,Hq,Cp]at h1;obtain⟨hk,⟨⟨he,_⟩,hn⟩,hc⟩:=h1;refine⟨hk,fun q=>?_,fun q=>?_,fun q=>?_,fun q=>?_,h2,h3,fun q=>hn.resolve_left q,h4⟩
 ·have:K6 t=0:=by rcases q with q|q<;>simp[K6,q]
  rw[this]at he;exact rp
 ·have:K6 t=1:=by simp[K6,q]
  omega
 ·have:K6 t=2:=by simp[K6,q]
  omega
 have:K6 t=t.cases.length+1:=by simp[K6,q]
 omega
end Go.Proofs.YtjdnhamngpafmaaGreat
