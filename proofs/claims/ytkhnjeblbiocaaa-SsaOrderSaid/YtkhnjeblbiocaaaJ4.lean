/-
  Texts bound together by a program of mine: YtkhnjeblbiocaaaPn, YtkhnjeblbiocaaaT36, YtkhnjeblbiocaaaPs, YtkhnjeblbiocaaaPt, YtkhnjeblbiocaaaT18, YtkhnjeblbiocaaaT19, YtkhnjeblbiocaaaT20, YtkhnjeblbiocaaaT21, YtkhnjeblbiocaaaT22, YtkhnjeblbiocaaaPu, YtkhnjeblbiocaaaPv, YtkhnjeblbiocaaaPw, YtkhnjeblbiocaaaPx, YtkhnjeblbiocaaaT23, YtkhnjeblbiocaaaT37, YtkhnjeblbiocaaaT38.
-/
import Derived.Test.YtkhnjeblbiocaaaJ3
set_option linter.all false
set_option maxRecDepth 100000
set_option maxHeartbeats 4000000

namespace Go.Proofs.Ytkhnjeblbiocaaa
open Go.Av
theorem wsum_ge:∀(l:List Block) (m:Int),0≤m→m+2 ^ 48 * (l.length:Int)≤2 ^ 60→(∀b∈l,b.ins.length≤2 ^ 47)→m≤wsum m l∧∀b∈l,(b.ins.length:Int)≤wsum m l
 | [],m,_,_,_=>⟨by simp [wsum],by simp⟩
 | b::r,m,h0,h1,h2=>by
  have hb:=h2 b (by simp)
  simp only [List.length_cons] at h1
  have hw:IntKind.i64.wrap (m+b.ins.length)=m+b.ins.length:=wrap_in _ _ (by simp [IntKind.min,IntKind.bits,IntKind.signed];omega) (by simp [IntKind.max,IntKind.bits,IntKind.signed];omega)
  have ih:=wsum_ge r (m+b.ins.length) (by omega) (by omega) (fun x hx=>h2 x (by simp [hx]))
  simp only [wsum,hw]
  refine⟨by omega,fun x hx=>?_⟩
  rcases List.mem_cons.1 hx with q | q
  ·subst q
   omega
  exact ih.2 x q
structure FnW(f:Func):Prop where
 ne:f.blocks≠[]
 few:f.blocks.length≤128
 name:-1≤f.name∧f.name≤1048575
 args:(blkOf f 0).params.length≤6
 ins:∀b∈f.blocks,b.ins.length≤1024
 blk:∀b∈f.blocks,BlkW f b
 uses:usesM f (blocksM f f.blocks.length 0 []).2=0
theorem checkFunc_ok{f:Func}(hfit:f.fit)(h:checkFuncM f=0):FnW f:=by
 unfold checkFuncM at h
 split at h
 ·simp at h
 rename_i h1
 split at h
 ·simp at h
 rename_i h2
 split at h
 ·simp at h
 rename_i h3
 split at h
 ·rename_i h4
  exact absurd h h4
 rename_i h4
 have hw:=wsum_ge f.blocks 0 (by omega) (by omega) (fun b hb=>(hfit.2.2 b hb).2.2.1)
 refine⟨fun e=>h1 (by rw [e];rfl),by omega,by simpa [within] using h3,by omega,fun b hb=>?_,blocksM_all (by simpa using h4),h⟩
 have:=hw.2 b hb
 omega
structure FormW(i:Ins):Prop where
 op:0≤i.op∧i.op≤24
 len:i.args.length≤16
 c0:i.op=0→isW i.n∧i.args.length=0
 c2:(1≤i.op∧i.op≤7)∨i.op=16∨i.op=18∨i.op=19∨i.op=21∨i.op=23→i.args.length=2
 c1:i.op=10∨i.op=11∨i.op=12∨i.op=15∨i.op=17∨i.op=24→i.args.length=1
 c3:i.op=20→i.args.length=3
 con:i.op=8→0≤i.n∧i.n≤255
 call:i.op=9∨i.op=13→0≤i.n∧i.n≤255
 app:i.op=14→1≤i.args.length
 sel:i.op=11∨i.op=24→0≤i.n
 pack:i.op=22→(i.n=2∨i.n=4)∧(i.args.length:Int)=i.n
 vec:i.op=23→i.n=1∨i.n=2∨i.n=3
theorem form_ok{i:Ins}(h:formE i=0):FormW i:=by
 unfold formE at h
 split at h
 ·simp at h
 rename_i hA
 split at h
 ·simp at h
 rename_i hBC
 split at h
 ·rename_i hN
  have hA':(operandsM i).2=true∧(0≤(operandsM i).1→(i.args.length:Int)=(operandsM i).1)∧(i.op=14→¬(i.args.length:Int)=0):=by
   simp only [formA,Bool.or_eq_true,Bool.not_eq_true',Bool.and_eq_true,decide_eq_true_eq,decide_eq_false_iff_not,not_or,not_and,Bool.not_eq_false,Decidable.not_not] at hA
   exact⟨hA.1.1,hA.1.2,hA.2⟩
  obtain⟨a1,a2,a3⟩:=hA'
  have hB:(i.op=8∨i.op=9→i.args.length≤16)∧(i.op=13∨i.op=14→i.args.length≤6):=by
   simp only [formB,formC,Bool.or_eq_true,Bool.and_eq_true,decide_eq_true_eq,not_or,not_and] at hBC
   exact⟨fun q=>by have:=hBC.1 q;omega,fun q=>by have:=hBC.2 q;omega⟩
  obtain⟨b1,b2⟩:=hB
  have hop:0≤i.op∧i.op≤24:=by
   unfold operandsM at a1
   split at a1
   ·omega
   split at a1
   ·omega
   split at a1
   ·omega
   split at a1
   ·omega
   split at a1
   ·omega
   split at a1
   ·omega
   simp at a1
  have o0:i.op=0→operandsM i=(0,true):=fun q=>by unfold operandsM;rw [if_pos q]
  have o2:(1≤i.op∧i.op≤7)∨i.op=16∨i.op=18∨i.op=19∨i.op=21∨i.op=23→operandsM i=(2,true):=fun q=>by unfold operandsM;rw [if_neg (by omega),if_pos q]
  have o3:i.op=20→operandsM i=(3,true):=fun q=>by unfold operandsM;rw [if_neg (by omega),if_neg (by omega),if_pos q]
  have o1:i.op=10∨i.op=11∨i.op=12∨i.op=15∨i.op=17∨i.op=24→operandsM i=(1,true):=fun q=>by unfold operandsM;rw [if_neg (by omega),if_neg (by omega),if_neg (by omega),if_pos q]
  have o22:i.op=22→operandsM i=(i.n,decide (i.n=2∨i.n=4)):=fun q=>by unfold operandsM;rw [if_neg (by omega),if_neg (by omega),if_neg (by omega),if_neg (by omega),if_neg (by omega),if_pos q]
  have l0:i.op=0→i.args.length=0:=fun q=>by rw [o0 q] at a2;have:=a2 (by decide);simp only at this;omega
  have l2:=fun q=>by have:=a2;rw [o2 q] at this;exact this (by decide)
  have l3:=fun q=>by have:=a2;rw [o3 q] at this;exact this (by decide)
  have l1:=fun q=>by have:=a2;rw [o1 q] at this;exact this (by decide)
  have l22:i.op=22→(i.n=2∨i.n=4)∧(i.args.length:Int)=i.n:=fun q=>by
   rw [o22 q] at a1 a2
   have:i.n=2∨i.n=4:=of_decide_eq_true a1
   exact⟨this,a2 (by simp only;omega)⟩
  have n0:i.op=0→isW i.n:=fun q=>by unfold numberM at hN;rw [if_pos q] at hN;exact of_decide_eq_true hN
  have n8:i.op=8→0≤i.n∧i.n≤255:=fun q=>by unfold numberM at hN;rw [if_neg (by omega),if_pos q] at hN;exact within_iff.1 hN
  have n11:i.op=11→0≤i.n∧i.n≤15:=fun q=>by unfold numberM at hN;rw [if_neg (by omega),if_neg (by omega),if_pos q] at hN;exact within_iff.1 hN
  have n9:i.op=9∨i.op=13→0≤i.n∧i.n≤255:=fun q=>by unfold numberM at hN;rw [if_neg (by omega),if_neg (by omega),if_neg (by omega),if_pos q] at hN;exact within_iff.1 hN
  have n23:i.op=23→i.n=1∨i.n=2∨i.n=3:=fun q=>by unfold numberM at hN;rw [if_neg (by omega),if_neg (by omega),if_neg (by omega),if_neg (by omega),if_pos q] at hN;exact of_decide_eq_true hN
  have n24:i.op=24→0≤i.n∧i.n≤3:=fun q=>by unfold numberM at hN;rw [if_neg (by omega),if_neg (by omega),if_neg (by omega),if_neg (by omega),if_neg (by omega),if_pos q] at hN;exact within_iff.1 hN
  have L2:(1≤i.op∧i.op≤7)∨i.op=16∨i.op=18∨i.op=19∨i.op=21∨i.op=23→i.args.length=2:=fun q=>by have:=l2 q;omega
  have L1:i.op=10∨i.op=11∨i.op=12∨i.op=15∨i.op=17∨i.op=24→i.args.length=1:=fun q=>by have:=l1 q;omega
  have L3:i.op=20→i.args.length=3:=fun q=>by have:=l3 q;omega
  refine⟨hop,?_,fun q=>⟨n0 q,l0 q⟩,L2,L1,L3,n8,n9,fun q=>by have:=a3 q;omega,fun q=>?_,l22,n23⟩
  ·rcases (show i.op=0∨((1≤i.op∧i.op≤7)∨i.op=16∨i.op=18∨i.op=19∨i.op=21∨i.op=23)∨i.op=20∨(i.op=10∨i.op=11∨i.op=12∨i.op=15∨i.op=17∨i.op=24)∨(i.op=8∨i.op=9)∨(i.op=13∨i.op=14)∨i.op=22 by omega) with q | q | q | q | q | q | q
   ·have:=l0 q;omega
   ·have:=L2 q;omega
   ·have:=L3 q;omega
   ·have:=L1 q;omega
   ·have:=b1 q;omega
   ·have:=b2 q;omega
   have:=l22 q;omega
  rcases q with q | q
  ·exact(n11 q).1
  exact(n24 q).1
 simp at h
structure EndW(f:Func)(t:Term):Prop where
 kind:0≤t.kind∧t.kind≤4
 to:t.kind=0∨t.kind=4→t.to=[]
 jump:t.kind=1→t.to.length=1
 cond:t.kind=2→t.to.length=2
 switch:t.kind=3→t.to.length=t.cases.length+1
 cases:t.cases.length≤256
 trap:t.kind=4→1≤t.n∧t.n≤6
 n:t.kind≠4→t.n=0
 edges:∀e∈t.to,(1≤e.block∧e.block≤(f.blocks.length:Int) - 1)∧e.args.length=(blkOf f e.block).params.length
theorem end_ok{f:Func}{t:Term}(h:endE f t=0):EndW f t:=by
 obtain⟨h1,h2,h3,h4⟩:=edges_of_end h
 simp only [shapeM,Bool.and_eq_true,Bool.or_eq_true,decide_eq_true_eq] at h1
 obtain⟨hk,⟨⟨he,_⟩,hn⟩,hc⟩:=h1
 refine⟨hk,fun q=>?_,fun q=>?_,fun q=>?_,fun q=>?_,h2,h3,fun q=>hn.resolve_left q,h4⟩
 ·have:edgesM t=0:=by rcases q with q | q<;>simp [edgesM,q]
  rw [this] at he
  exact List.length_eq_zero_iff.1 (by omega)
 ·have:edgesM t=1:=by simp [edgesM,q]
  omega
 ·have:edgesM t=2:=by simp [edgesM,q]
  omega
 have:edgesM t=t.cases.length+1:=by simp [edgesM,q]
 omega
def orE(a b:Int):Int:=if a≠0 then a else b
theorem orE_zero{a b:Int}(h:a=0):orE a b=b:=by simp [orE,h]
theorem orE_ne{a b:Int}(h:¬a=0):orE a b=a:=by simp [orE,h]
theorem orE_assoc(a b c:Int):orE (orE a b) c=orE a (orE b c):=by
 by_cases h:a=0
 ·rw [orE_zero h,orE_zero h]
 rw [orE_ne h,orE_ne h,orE_ne h]
theorem orE_eq{a b:Int}(h:orE a b=0):a=0∧b=0:=by
 by_cases q:a=0
 ·exact⟨q,by rwa [orE_zero q] at h⟩
 rw [orE_ne q] at h
 exact absurd h q
def funcsE:List Func→Int
 | []=>0
 | f::r=>orE (checkFuncM f) (funcsE r)
def callsI(u:Unt):List Ins→Int
 | []=>0
 | i::r=>orE (callsE u i) (callsI u r)
def callsB(u:Unt):List Block→Int
 | []=>0
 | b::r=>orE (callsI u b.ins) (callsB u r)
def callsF(u:Unt):List Func→Int
 | []=>0
 | f::r=>orE (callsB u f.blocks) (callsF u r)
def checkM(u:Unt):Int :=
 if u.fns.length=0 then 3
 else if 256<u.fns.length then 2
 else if within u.main 0 ((u.fns.length:Int) - 1)=false then 4
 else orE (funcsE u.fns) (if 0<(blkOf (fnOf u u.main) 0).params.length then 3 else callsF u u.fns)
theorem funcsE_all:∀{l:List Func},funcsE l=0→∀f∈l,checkFuncM f=0
 | [],_,f,h=>by simp at h
 | g::r,h,f,hf=>by
  have:=orE_eq h
  rcases List.mem_cons.1 hf with q | q
  ·subst q
   exact this.1
  exact funcsE_all this.2 f q
theorem check_spec(u:Unt)(hfit:u.fit):PCall Try.prog 18 [u.enc] (aI (checkM u)):=by
 obtain⟨R,hR⟩:∃R,R=checkM u:=⟨_,rfl⟩
 rw [←hR]
 unfold checkM at hR
 have hw:=within_spec u.main 0 ((u.fns.length:Int) - 1)
 have hfew:u.fns.length≤2 ^ 47:=hfit.2.1
 refine zf true 0 Try.func18 Try.ntmps18 ?_
 dsimp only [Tmp,TypeId,slotsOf]
 refine zh1 (za0 ?_)
 refine awp_freeze1 1 0 (.ip none [eFuncs u.fns,aI u.main]) rfl (by simp [AObj.isSpare]) trivial rfl ?_ ?_
 rotate_left
 simp -dsimp only [simprocAttr,↓vpre,zp]
 ·refine awp_seq (awp_block ?_)
  by_cases h0:u.fns.length=0
  ·rw [if_pos h0] at hR
   have hd:decide ((u.fns.length:Int)=0)=true:=decide_eq_true (by omega)
   refine zg1 ?_
   simp -dsimp only [simprocAttr,↓vpre,zp,hd]
   refine za0 ?_
   refine zw0 rfl ?_
   refine zh1 (za0 ?_)
   refine awp_ret ?_
   simp -dsimp only [simprocAttr,↓vpre,zp,zr,Try.results18]
   rw [hR]
  rw [if_neg h0] at hR
  have hd:decide ((u.fns.length:Int)=0)=false:=decide_eq_false (by omega)
  refine zg1 ?_
  simp -dsimp only [simprocAttr,↓vpre,zp,hd]
  refine za0 ?_
  apply zk0 rfl<;>intro h
  ·cases h
  by_cases h1:256<u.fns.length
  ·rw [if_pos h1] at hR
   have hd:decide ((256:Int)<u.fns.length)=true:=decide_eq_true (by omega)
   refine zg1 ?_
   simp -dsimp only [simprocAttr,↓vpre,zp,hd]
   refine za0 ?_
   refine zw0 rfl ?_
   refine zh1 (za0 ?_)
   refine awp_ret ?_
   simp -dsimp only [simprocAttr,↓vpre,zp,zr,Try.results18]
   rw [hR]
  rw [if_neg h1] at hR
  have hd:decide ((256:Int)<u.fns.length)=false:=decide_eq_false (by omega)
  refine zg1 ?_
  simp -dsimp only [simprocAttr,↓vpre,zp,hd]
  refine za0 ?_
  apply zk0 rfl<;>intro h
  ·cases h
  cases hwb:within u.main 0 ((u.fns.length:Int) - 1) with
  | false =>
   rw [if_pos hwb] at hR
   rw [hwb] at hw
   refine zh1 ?_
   repeat(refine⟨by omega,?_⟩)
   refine zi hw ?_
   refine za0 ?_
   refine zw0 rfl ?_
   refine zh1 (za0 ?_)
   refine awp_ret ?_
   simp -dsimp only [simprocAttr,↓vpre,zp,zr,Try.results18]
   rw [hR]
  | true =>
   have hmain:=within_iff.1 hwb
   rw [if_neg (by simp [hwb])] at hR
   rw [hwb] at hw
   refine zh1 ?_
   repeat(refine⟨by omega,?_⟩)
   refine zi hw ?_
   refine za0 ?_
   apply zk0 rfl<;>intro h
   ·cases h
   refine zb1 ?_
   refine zh2 (za0 ?_)
   refine awp_block (awp_loop (ι:={k:Nat // k≤u.fns.length∧funcsE u.fns=funcsE (u.fns.drop k)}) (fun k=>⟨87,[(1,.ip none [eFuncs u.fns,aI u.main]),(2,aI 0),(33,eFuncs u.fns),(34,aI u.fns.length),(35,aI k.1)],[.gone]⟩) (fun k=>u.fns.length - k.1) ⟨0,by omega,rfl⟩ ?_ ?_)
   ·refine zq rfl ?_ ?_
    simp -dsimp only [simprocAttr,↓vpre,zp,zc]
    rfl
   rintro⟨k,hk,hke⟩
   refine zh1 (za0 ?_)
   apply zk1 rfl<;>intro h
   ·refine zb0 ?_
    have hlt:k<u.fns.length:=by simpa using h
    obtain⟨f,hf⟩:∃f,u.fns[k]?=some f:=⟨u.fns[k],by simp [hlt]⟩
    have hcf:=checkFunc_spec f (hfit.2.2 f (List.mem_of_getElem? hf))
    rw [drop_at hf] at hke
    simp only [funcsE] at hke
    obtain⟨e,he0⟩:∃e,e=checkFuncM f:=⟨_,rfl⟩
    rw [←he0] at hke hcf
    refine awp_seq (awp_block ?_)
    refine zg1 ?_
    simp -dsimp only [simprocAttr,↓vpre,zp,hf]
    refine za0 ?_
    refine awp_freeze1 4 1 (.ip none [aI f.name,eBlocks f.blocks]) rfl (by simp [AObj.isSpare]) trivial rfl ?_ ?_
    rotate_left
    simp -dsimp only [simprocAttr,↓vpre,zp]
    ·refine awp_trunc' 1 [(1,.ip none [eFuncs u.fns,aI u.main]),(2,aI 0),(33,eFuncs u.fns),(34,aI u.fns.length),(35,aI k),(4,.ip none [aI f.name,eBlocks f.blocks])] (by simp) (by omega) [.gone] ?_ ?_ ?_ ?_ ?_
     ·rfl
     ·simp [AObj.upto,uptoL,AVal.upto,aI_upto,Func.map_upto,Block.map_upto,Edge.map_upto,Ins.map_upto]
     ·simp [Says,St.get,putS,dropS,Go.Av.look,Sub.refl]
     ·simp [AObj.upto,uptoL,AVal.upto,aI_upto,Func.map_upto,Block.map_upto,Edge.map_upto,Ins.map_upto]
     refine zh1 ?_
     refine zi hcf ?_
     refine za0 ?_
     by_cases he:e=0
     ·have hde:decide (e=0)=true:=decide_eq_true he
      rw [orE_zero he] at hke
      refine zg1 ?_
      simp -dsimp only [simprocAttr,↓vpre,zp,hde]
      refine za0 ?_
      refine zu0 rfl ?_
      refine zb1 ?_
      refine zh0 ?_
      repeat(refine⟨by omega,?_⟩)
      refine zl0 ?_
      refine⟨⟨k+1,hlt,hke⟩,by simp;omega,?_⟩
      refine zq rfl ?_ ?_
      simp -dsimp only [simprocAttr,↓vpre,zp,zc]
      ·exact Sub.int (by simp)
      rfl
     have hde:decide (e=0)=false:=decide_eq_false he
     rw [orE_ne he] at hke
     rw [hke,orE_ne he] at hR
     refine zg1 ?_
     simp -dsimp only [simprocAttr,↓vpre,zp,hde]
     refine za0 ?_
     refine zw0 rfl ?_
     refine zh1 (za0 ?_)
     refine awp_ret ?_
     simp -dsimp only [simprocAttr,↓vpre,zp,zr,Try.results18]
     rw [hR]
    exact FSub.mp rfl rfl
   refine awp_exit ?_
   simp -dsimp only [vend,ne_eq,Nat.reduceEqDiff,reduceCtorEq]
   have hkk:k=u.fns.length:=by simp at h;omega
   subst hkk
   rw [List.drop_length] at hke
   have hfe:funcsE u.fns=0:=by rw [hke];rfl
   rw [orE_zero hfe] at hR
   have hall:∀f∈u.fns,FnW f:=fun f hf=>checkFunc_ok (hfit.2.2 f hf) (funcsE_all hfe f hf)
   have hM:=fnOf_at (u:=u) (k:=u.main) hmain.1 (by omega)
   have hMl:0<(fnOf u u.main).blocks.length:=by
    have:=(hall _ (List.mem_of_getElem? hM)).ne
    cases hb:(fnOf u u.main).blocks with
    | nil=>exact absurd hb this
    | cons=>simp
   have hB:(fnOf u u.main).blocks[0]?=some (blkOf (fnOf u u.main) 0):=blkOf_at (f:=fnOf u u.main) (k:=0) (by omega) (by omega)
   generalize blkOf (fnOf u u.main) 0=B at *
   generalize fnOf u u.main=F at *
   by_cases hp:0<B.params.length
   ·rw [if_pos hp] at hR
    have hdp:decide ((0:Int)<B.params.length)=true:=decide_eq_true (by omega)
    refine zg2 ?_
    simp -dsimp only [simprocAttr,↓vpre,zp,hM,hB,hdp]
    repeat(refine⟨by omega,?_⟩)
    refine za0 ?_
    refine zw0 rfl ?_
    refine zh1 (za0 ?_)
    refine awp_ret ?_
    simp -dsimp only [simprocAttr,↓vpre,zp,zr,Try.results18]
    rw [hR]
   rw [if_neg hp] at hR
   have hdp:decide ((0:Int)<B.params.length)=false:=decide_eq_false (by omega)
   refine zg2 ?_
   simp -dsimp only [simprocAttr,↓vpre,zp,hM,hB,hdp]
   repeat(refine⟨by omega,?_⟩)
   refine za0 ?_
   apply zk0 rfl<;>intro h
   ·cases h
   refine zb0 ?_
   refine zh2 (za0 ?_)
   refine awp_block (awp_loop (ι:={k:Nat // k≤u.fns.length∧R=callsF u (u.fns.drop k)}) (fun k=>⟨87,[(1,.ip none [eFuncs u.fns,aI u.main]),(2,aI 0),(58,eFuncs u.fns),(59,aI u.fns.length),(60,aI k.1)],[.gone]⟩) (fun k=>u.fns.length - k.1) ⟨0,by omega,hR⟩ ?_ ?_)
   ·refine zq rfl ?_ ?_
    simp -dsimp only [simprocAttr,↓vpre,zp,zc]
    rfl
   rintro⟨k,hk,hke⟩
   refine zh1 (za0 ?_)
   apply zk1 rfl<;>intro h
   ·refine zb0 ?_
    have hlt:k<u.fns.length:=by simpa using h
    obtain⟨f,hf⟩:∃f,u.fns[k]?=some f:=⟨u.fns[k],by simp [hlt]⟩
    have hfm:=List.mem_of_getElem? hf
    have hbl:=(hall f hfm).few
    rw [drop_at hf] at hke
    simp only [callsF] at hke
    refine awp_seq (awp_block ?_)
    refine zg1 ?_
    simp -dsimp only [simprocAttr,↓vpre,zp,hf]
    refine za0 ?_
    refine awp_freeze1 7 1 (.ip none [aI f.name,eBlocks f.blocks]) rfl (by simp [AObj.isSpare]) trivial rfl ?_ ?_
    rotate_left
    simp -dsimp only [simprocAttr,↓vpre,zp]
    ·refine awp_trunc' 1 [(1,.ip none [eFuncs u.fns,aI u.main]),(2,aI 0),(58,eFuncs u.fns),(59,aI u.fns.length),(60,aI k),(7,.ip none [aI f.name,eBlocks f.blocks])] (by simp) (by omega) [.gone] ?_ ?_ ?_ ?_ ?_
     ·rfl
     ·simp [AObj.upto,uptoL,AVal.upto,aI_upto,Func.map_upto,Block.map_upto,Edge.map_upto,Ins.map_upto]
     ·simp [Says,St.get,putS,dropS,Go.Av.look,Sub.refl]
     ·simp [AObj.upto,uptoL,AVal.upto,aI_upto,Func.map_upto,Block.map_upto,Edge.map_upto,Ins.map_upto]
     refine zh1 (za0 ?_)
     refine awp_block (awp_loop (ι:={j:Nat // j≤f.blocks.length∧R=orE (callsB u (f.blocks.drop j)) (callsF u (u.fns.drop (k+1)))}) (fun j=>⟨87,[(1,.ip none [eFuncs u.fns,aI u.main]),(2,aI 0),(58,eFuncs u.fns),(59,aI u.fns.length),(60,aI k),(65,eBlocks f.blocks),(66,aI f.blocks.length),(67,aI j.1)],[.gone]⟩) (fun j=>f.blocks.length - j.1) ⟨0,by omega,hke⟩ ?_ ?_)
     ·refine zq rfl ?_ ?_
      simp -dsimp only [simprocAttr,↓vpre,zp,zc]
      rfl
     rintro⟨j,hj,hje⟩
     refine zh1 (za0 ?_)
     apply zk1 rfl<;>intro h
     ·refine zb0 ?_
      have hlj:j<f.blocks.length:=by simpa using h
      obtain⟨b,hb⟩:∃b,f.blocks[j]?=some b:=⟨f.blocks[j],by simp [hlj]⟩
      have hbm:=List.mem_of_getElem? hb
      have hil:=(hall f hfm).ins b hbm
      rw [drop_at hb] at hje
      simp only [callsB] at hje
      rw [orE_assoc] at hje
      refine awp_seq (awp_block ?_)
      refine zg1 ?_
      simp -dsimp only [simprocAttr,↓vpre,zp,hb]
      refine za0 ?_
      refine awp_freeze1 9 1 (.ip none [eIs b.params,eInss b.ins,aI b.term.kind,aI b.term.arg,aI b.term.n,eIs b.term.cases,eEdges b.term.to]) rfl (by simp [AObj.isSpare]) trivial rfl ?_ ?_
      rotate_left
      simp -dsimp only [simprocAttr,↓vpre,zp]
      ·refine awp_trunc' 1 [(1,.ip none [eFuncs u.fns,aI u.main]),(2,aI 0),(58,eFuncs u.fns),(59,aI u.fns.length),(60,aI k),(65,eBlocks f.blocks),(66,aI f.blocks.length),(67,aI j),(9,.ip none [eIs b.params,eInss b.ins,aI b.term.kind,aI b.term.arg,aI b.term.n,eIs b.term.cases,eEdges b.term.to])] (by simp) (by omega) [.gone] ?_ ?_ ?_ ?_ ?_
       ·rfl
       ·simp [AObj.upto,uptoL,AVal.upto,aI_upto,Func.map_upto,Block.map_upto,Edge.map_upto,Ins.map_upto]
       ·simp [Says,St.get,putS,dropS,Go.Av.look,Sub.refl]
       ·simp [AObj.upto,uptoL,AVal.upto,aI_upto,Func.map_upto,Block.map_upto,Edge.map_upto,Ins.map_upto]
       refine zh1 (za0 ?_)
       refine awp_block (awp_loop (ι:={z:Nat // z≤b.ins.length∧R=orE (callsI u (b.ins.drop z)) (orE (callsB u (f.blocks.drop (j+1))) (callsF u (u.fns.drop (k+1))))}) (fun z=>⟨87,[(1,.ip none [eFuncs u.fns,aI u.main]),(2,aI 0),(58,eFuncs u.fns),(59,aI u.fns.length),(60,aI k),(65,eBlocks f.blocks),(66,aI f.blocks.length),(67,aI j),(72,eInss b.ins),(73,aI b.ins.length),(74,aI z.1)],[.gone]⟩) (fun z=>b.ins.length - z.1) ⟨0,by omega,hje⟩ ?_ ?_)
       ·refine zq rfl ?_ ?_
        simp -dsimp only [simprocAttr,↓vpre,zp,zc]
        rfl
       rintro⟨z,hz,hze⟩
       refine zh1 (za0 ?_)
       apply zk1 rfl<;>intro h
       ·refine zb0 ?_
        have hlz:z<b.ins.length:=by simpa using h
        obtain⟨i,hi⟩:∃i,b.ins[z]?=some i:=⟨b.ins[z],by simp [hlz]⟩
        rw [drop_at hi] at hze
        simp only [callsI] at hze
        rw [orE_assoc] at hze
        have hfw:=form_ok (((hall f hfm).blk b hbm).forms i (List.mem_of_getElem? hi))
        have hcs:=calls_spec u i (fun q=>(hfw.call (by omega)).1) (fun f hf=>(hall f hf).ne)
        obtain⟨e,he0⟩:∃e,e=callsE u i:=⟨_,rfl⟩
        rw [←he0] at hze hcs
        refine awp_seq (awp_block ?_)
        refine zg1 ?_
        simp -dsimp only [simprocAttr,↓vpre,zp,hi]
        refine za0 ?_
        refine awp_freeze1 11 1 (.ip none [aI i.to,aI i.op,aI i.n,eIs i.args]) rfl (by simp [AObj.isSpare]) trivial rfl ?_ ?_
        rotate_left
        simp -dsimp only [simprocAttr,↓vpre,zp]
        ·refine awp_trunc' 1 [(1,.ip none [eFuncs u.fns,aI u.main]),(2,aI 0),(58,eFuncs u.fns),(59,aI u.fns.length),(60,aI k),(65,eBlocks f.blocks),(66,aI f.blocks.length),(67,aI j),(72,eInss b.ins),(73,aI b.ins.length),(74,aI z),(11,.ip none [aI i.to,aI i.op,aI i.n,eIs i.args])] (by simp) (by omega) [.gone] ?_ ?_ ?_ ?_ ?_
         ·rfl
         ·simp [AObj.upto,uptoL,AVal.upto,aI_upto,Func.map_upto,Block.map_upto,Edge.map_upto,Ins.map_upto]
         ·simp [Says,St.get,putS,dropS,Go.Av.look,Sub.refl]
         ·simp [AObj.upto,uptoL,AVal.upto,aI_upto,Func.map_upto,Block.map_upto,Edge.map_upto,Ins.map_upto]
         refine zh1 ?_
         refine zi hcs ?_
         refine za0 ?_
         by_cases he:e=0
         ·have hde:decide (e=0)=true:=decide_eq_true he
          rw [orE_zero he] at hze
          refine zg1 ?_
          simp -dsimp only [simprocAttr,↓vpre,zp,hde]
          refine za0 ?_
          refine zu0 rfl ?_
          refine zb1 ?_
          refine zh0 ?_
          repeat(refine⟨by omega,?_⟩)
          refine zl0 ?_
          refine⟨⟨z+1,hlz,hze⟩,by simp;omega,?_⟩
          refine zq rfl ?_ ?_
          simp -dsimp only [simprocAttr,↓vpre,zp,zc]
          ·exact Sub.int (by simp)
          rfl
         have hde:decide (e=0)=false:=decide_eq_false he
         rw [orE_ne he] at hze
         refine zg1 ?_
         simp -dsimp only [simprocAttr,↓vpre,zp,hde]
         refine za0 ?_
         refine zw0 rfl ?_
         refine zh1 (za0 ?_)
         refine awp_ret ?_
         simp -dsimp only [simprocAttr,↓vpre,zp,zr,Try.results18]
         rw [hze]
        exact FSub.mp rfl rfl
       refine awp_exit ?_
       simp -dsimp only [vend,ne_eq,Nat.reduceEqDiff,reduceCtorEq]
       have hzz:z=b.ins.length:=by simp at h;omega
       subst hzz
       rw [List.drop_length] at hze
       rw [orE_zero (by rfl)] at hze
       refine zh0 ?_
       repeat(refine⟨by omega,?_⟩)
       refine zl0 ?_
       refine⟨⟨j+1,hlj,hze⟩,by simp;omega,?_⟩
       refine zq rfl ?_ ?_
       simp -dsimp only [simprocAttr,↓vpre,zp,zc]
       ·exact Sub.int (by simp)
       rfl
      exact FSub.mp rfl rfl
     refine awp_exit ?_
     simp -dsimp only [vend,ne_eq,Nat.reduceEqDiff,reduceCtorEq]
     have hjj:j=f.blocks.length:=by simp at h;omega
     subst hjj
     rw [List.drop_length] at hje
     rw [orE_zero (by rfl)] at hje
     refine zh0 ?_
     repeat(refine⟨by omega,?_⟩)
     refine zl0 ?_
     refine⟨⟨k+1,hlt,hje⟩,by simp;omega,?_⟩
     refine zq rfl ?_ ?_
     simp -dsimp only [simprocAttr,↓vpre,zp,zc]
     ·exact Sub.int (by simp)
     rfl
    exact FSub.mp rfl rfl
   refine awp_exit ?_
   simp -dsimp only [vend,ne_eq,Nat.reduceEqDiff,reduceCtorEq]
   have hkk:k=u.fns.length:=by simp at h;omega
   subst hkk
   rw [List.drop_length] at hke
   refine zh1 (za0 ?_)
   refine awp_ret ?_
   simp -dsimp only [simprocAttr,↓vpre,zp,zr,Try.results18]
   rw [hke]
   rfl
 exact FSub.mp rfl rfl
theorem VOK.mono{u:Unt}{m m':Mach}(h:∀a∈m.heap,∃b∈m'.heap,b.vid=a.vid){v:SV}(k:VOK u m v):VOK u m' v :=
 SV.Wf.mono (fun id ⟨a,ha,e⟩=>by
  obtain⟨b,hb,e'⟩:=h a ha
  exact⟨b,hb,e'.trans e⟩) k
theorem VOK.of_heap{u:Unt}{m m':Mach}(h:m'.heap=m.heap){v:SV}(k:VOK u m v):VOK u m' v :=
 k.mono fun a ha=>⟨a,by rw [h];exact ha,rfl⟩
theorem VOK.word{u:Unt}{m:Mach}{n:Int}(h:isW n):VOK u m (.word n):=SV.Wf.word h
theorem VOK.zero{u:Unt}{m:Mach}:VOK u m .zero:=SV.Wf.zero
theorem argS_ok{u:Unt}{m:Mach}{l:List SV}(h:∀v∈l,VOK u m v)(k:Nat):VOK u m (argS l k):=by
 unfold argS
 cases hk:l[k]? with
 | none=>exact VOK.zero
 | some v=>exact h v (List.mem_of_getElem? hk)
theorem getS_ok{u:Unt}{m:Mach}{es:List (Int×SV)}(h:∀e∈es,VOK u m e.2)(k:Int):VOK u m (getS es k):=by
 unfold getS
 cases hl:lookS es k with
 | none=>exact VOK.zero
 | some v =>
  obtain⟨e,h1,rfl⟩:=mem_lookS hl
  exact h e h1
theorem takeS_ok{u:Unt}{m:Mach}{es:List (Int×SV)}(h:∀e∈es,VOK u m e.2)(l:List Int):∀v∈takeS es l,VOK u m v:=fun v hv=>by
 obtain⟨k,_,rfl⟩:=List.mem_map.1 hv
 exact getS_ok h k
theorem takeS_len(es:List (Int×SV))(l:List Int):(takeS es l).length=l.length:=by simp [takeS]
theorem putS_ok{u:Unt}{m:Mach}{es:List (Int×SV)}(h:∀e∈es,VOK u m e.2){k:Int}{v:SV}(hv:VOK u m v):∀e∈putS' es k v,VOK u m e.2:=fun e he=>by
 rcases mem_putS' he with q | q
 ·exact h e q
 rw [q]
 exact hv
theorem bindS_ok{u:Unt}{m:Mach}{es:List (Int×SV)}(h:∀e∈es,VOK u m e.2){ps:List Int}{l:List SV}(hl:∀v∈l,VOK u m v):∀e∈bindS es ps l,VOK u m e.2:=fun e he=>by
 rcases mem_bindS he with q | q
 ·exact h e q
 exact hl _ q
theorem binaryM_word(op a b:Int)(hb:isW b):(∃n,isW n∧(binaryM op a b).1=.word n)∧0≤(binaryM op a b).2∧(binaryM op a b).2≤6:=by
 have w1:=wrapW_range (a+b)
 have w2:=wrapW_range (a - b)
 have w3:=wrapW_range (a * b)
 have w4:=wrapW_range (a.tdiv b)
 have w0:isW 0:=by unfold isW;omega
 have w01:isW 1:=by unfold isW;omega
 unfold binaryM
 repeat' split
 all_goals first
  | exact⟨⟨_,w1,rfl⟩,by simp⟩
  | exact⟨⟨_,w2,rfl⟩,by simp⟩
  | exact⟨⟨_,w3,rfl⟩,by simp⟩
  | exact⟨⟨_,w4,rfl⟩,by simp⟩
  | exact⟨⟨_,w0,rfl⟩,by simp⟩
  | exact⟨⟨_,w01,rfl⟩,by simp⟩
  | exact⟨⟨_,tmod_range hb (by assumption),rfl⟩,by simp⟩
theorem objectM_ok{u:Unt}{m:Mach}{i:Ins}{args:List SV}(h:∀v∈args,VOK u m v):VOK u m (objectM i args).1∧0≤(objectM i args).2∧(objectM i args).2≤6:=by
 have h0:=argS_ok h 0
 have hk:∀k,VOK u m (argS (argS args 0).list k):=argS_ok (SV.Wf.kids h0)
 have hl:=SV.Wf.len h0
 unfold objectM
 repeat' split
 all_goals first
  | exact⟨VOK.zero,by simp⟩
  | exact⟨hk _,by simp⟩
  | exact⟨VOK.word (SV.Wf.num h0 (by omega)),by simp⟩
  | exact⟨VOK.word (by unfold isW;omega),by simp⟩
theorem zipM_ok{u:Unt}{m:Mach}{op:Int}:∀(l r:List SV),(∀v∈r,isW v.n)→∀v∈zipM op l r,VOK u m v∧v.kind=0
 | [],_,_,v,h=>by simp [zipM] at h
 | _::_,[],_,v,h=>by simp [zipM] at h
 | a::l,b::r,hr,v,h=>by
  simp only [zipM,List.mem_cons] at h
  rcases h with rfl | h
  ·obtain⟨⟨n,h1,h2⟩,_⟩:=binaryM_word op a.n b.n (hr b (by simp))
   rw [h2]
   exact⟨VOK.word h1,rfl⟩
  exact zipM_ok l r (fun v hv=>hr v (by simp [hv])) v h
theorem vec_words{u:Unt}{m:Mach}{v:SV}(h:VOK u m v)(hk:v.kind=4):v.list.length≤1000∧∀x∈v.list,isW x.n :=
 ⟨SV.Wf.len h,fun x hx=>SV.Wf.num (SV.Wf.kids h x hx) (.inl (SV.Wf.vec h hk x hx))⟩
theorem vectorM_ok{u:Unt}{m:Mach}{i:Ins}{args:List SV}(h:∀v∈args,VOK u m v)(hl:i.op=22→args.length≤1000)(h2:i.op≠22→i.op≠24→∃x y,args=[x,y]) :
  VOK u m (vectorM i args).1∧0≤(vectorM i args).2∧(vectorM i args).2≤6:=by
 have h0:=argS_ok h 0
 have hk:∀k,VOK u m (argS (argS args 0).list k):=argS_ok (SV.Wf.kids h0)
 by_cases e22:i.op=22
 ·unfold vectorM
  rw [if_pos e22]
  split
  ·rename_i ha
   refine⟨.mk (by omega) (by omega) (by omega) (by omega) (fun _ v hv=>?_) (hl e22) (by simp) h,by simp⟩
   simp only [allK,List.all_eq_true,decide_eq_true_eq] at ha
   exact ha v hv
  exact⟨VOK.zero,by simp⟩
 by_cases e24:i.op=24
 ·unfold vectorM
  rw [if_neg e22,if_pos e24]
  split
  ·exact⟨VOK.zero,by simp⟩
  exact⟨hk _,by simp⟩
 obtain⟨x,y,e⟩:=h2 e22 e24
 subst e
 unfold vectorM
 rw [if_neg e22,if_neg e24]
 split
 ·exact⟨VOK.zero,by simp⟩
 rename_i hn
 have hall:allK [x,y] 4=true:=by
  cases hh:allK [x,y] 4
  ·exact absurd (.inl (by simp [hh])) hn
  rfl
 have hkk:x.kind=4∧y.kind=4:=by simpa [allK] using hall
 have hx:=vec_words (h x (by simp)) hkk.1
 have hy:=vec_words (h y (by simp)) hkk.2
 have hz:=fun v hv=>zipM_ok (u:=u) (m:=m) (op:=i.n) x.list y.list hy.2 v hv
 refine⟨.mk (by omega) (by omega) (by omega) (by omega) (fun _ v hv=>(hz v hv).2) ?_ (by simp) (fun v hv=>(hz v hv).1),by simp⟩
 show(zipM i.n x.list y.list).length≤1000
 rw [zipM_len]
 omega
structure ExecOK(u:Unt)(m:Mach)(r:Mach×SV×Int):Prop where
 frames:r.1.frames=m.frames
 keep:∀a∈m.heap,∃b∈r.1.heap,b.vid=a.vid
 val:VOK u r.1 r.2.1
 trap:0≤r.2.2∧r.2.2≤6
 arrs:∀a∈r.1.heap,a.l.length≤1024∧∀v∈a.l,VOK u r.1 v
 left:0≤r.1.left∧r.1.left≤m.left
 out:r.1.out.length≤1000
 words:∀n∈r.1.out,isW n
 fin:r.1.fin=m.fin∧r.1.val=m.val
 over:r.1.over=false→m.over=false∧r.1.short=false
theorem ExecOK.same{u:Unt}{m:Mach}(hm:MachOK u m){v:SV}{t:Int}(hv:VOK u m v)(ht:0≤t∧t≤6):ExecOK u m (m,v,t) where
 frames:=rfl
 keep:=fun a ha=>⟨a,ha,rfl⟩
 val:=hv
 trap:=ht
 arrs:=hm.arrs
 left:=⟨hm.left,Int.le_refl _⟩
 out:=hm.out
 words:=hm.words
 fin:=⟨rfl,rfl⟩
 over:=fun h=>⟨h,(hm.over h).2⟩
theorem setArr_vids:∀(l:List Arr) (id:Option Nat) (x:List SV),(∀a∈l,∃b∈Mach.setArr l id x,b.vid=a.vid)∧(∀b∈Mach.setArr l id x,∃a∈l,a.vid=b.vid∧a.bid=b.bid∧(b=a∨b.l=x))
 | [],_,_=>⟨by simp,by simp [Mach.setArr]⟩
 | a::r,id,x=>by
  obtain⟨h1,h2⟩:=setArr_vids r id x
  unfold Mach.setArr
  split
  ·exact⟨fun c hc=>by
    rcases List.mem_cons.1 hc with rfl | hc
    ·exact⟨⟨c.vid,c.bid,x⟩,List.mem_cons_self,rfl⟩
    ·exact⟨c,by simp [hc],rfl⟩,fun b hb=>by
    rcases List.mem_cons.1 hb with rfl | hb
    ·exact⟨a,by simp,rfl,rfl,.inr rfl⟩
    exact⟨b,by simp [hb],rfl,rfl,.inl rfl⟩⟩
  exact⟨fun c hc=>by
   rcases List.mem_cons.1 hc with rfl | hc
   ·exact⟨_,by simp,rfl⟩
   ·obtain⟨b,hb,e⟩:=h1 c hc
    exact⟨b,by simp [hb],e⟩,fun b hb=>by
   rcases List.mem_cons.1 hb with rfl | hb
   ·exact⟨b,by simp,rfl,rfl,.inl rfl⟩
   obtain⟨c,hc,e⟩:=h2 b hb
   exact⟨c,by simp [hc],e⟩⟩
theorem arrOf_mem:∀(l:List Arr) (id:Nat),(∃a∈l,a.vid=id)→∃a∈l,a.vid=id∧Mach.arrOf l (some id)=a.l
 | [],_,h=>by simp at h
 | a::r,id,h=>by
  unfold Mach.arrOf
  by_cases e:id=a.vid
  ·exact⟨a,by simp,e.symm,by simp [e]⟩
  obtain⟨b,hb,hv⟩:=h
  rcases List.mem_cons.1 hb with rfl | hb
  ·exact absurd hv.symm e
  obtain⟨c,hc,h1,h2⟩:=arrOf_mem r id ⟨b,hb,hv⟩
  exact⟨c,by simp [hc],h1,by simp [e,h2]⟩
theorem arr_ok{u:Unt}{m:Mach}(hm:MachOK u m){v:SV}(hv:VOK u m v)(hk:v.kind=3):∃a∈m.heap,v.arr=some a.vid∧Mach.arrOf m.heap v.arr=a.l:=by
 obtain⟨id,e⟩:=SV.Wf.array hv hk
 obtain⟨a,ha,h1,h2⟩:=arrOf_mem m.heap id (SV.Wf.ref hv id e)
 exact⟨a,ha,by rw [h1];exact e,by rw [e];exact h2⟩
theorem pay_fields(m:Mach)(n:Int):(m.pay n).frames=m.frames∧(m.pay n).heap=m.heap∧(m.pay n).out=m.out∧(m.pay n).fin=m.fin∧(m.pay n).val=m.val∧(m.pay n).sid=m.sid∧(m.pay n).next=m.next:=by
 unfold Mach.pay
 split<;>simp
theorem pay_left{m:Mach}{n:Int}(h:0≤m.left)(hn:0≤n):0≤(m.pay n).left∧(m.pay n).left≤m.left:=by
 unfold Mach.pay
 split<;>simp<;>omega
theorem allocate_ok{u:Unt}{m:Mach}(hm:MachOK u m){x y:SV}(hy:VOK u m y):ExecOK u m (m.allocate x y):=by
 obtain⟨p1,p2,p3,p4,p5,p6,p7⟩:=pay_fields m x.n
 unfold Mach.allocate
 split
 ·exact ExecOK.same hm VOK.zero (by omega)
 split
 ·exact ExecOK.same hm VOK.zero (by omega)
 rename_i hx hr
 have hr':0≤x.n∧x.n≤1024:=by omega
 obtain⟨q1,q2⟩:=pay_left hm.left hr'.1
 split
 ·rename_i hs
  exact⟨p1,fun a ha=>⟨a,by rw [p2];exact ha,rfl⟩,VOK.zero,by simp,fun a ha=>by
   have ha':a∈m.heap:=p2 ▸ ha
   exact⟨(hm.arrs a ha').1,fun v hv=>((hm.arrs a ha').2 v hv).of_heap p2⟩,⟨q1,q2⟩,by rw [p3];exact hm.out,by rw [p3];exact hm.words,⟨p4,p5⟩,fun h=>by
   exfalso
   unfold Mach.pay at hs h
   split at hs
   ·rename_i hlt
    rw [if_pos hlt] at h
    cases h
   rename_i hlt
   rw [if_neg hlt] at h
   have:=(hm.over h).2
   simp only at hs
   rw [this] at hs
   cases hs⟩
 rename_i hs
 refine⟨p1,fun a ha=>⟨a,by simp [ha],rfl⟩,?_,by simp,fun a ha=>?_,⟨q1,q2⟩,by simp only [p3];exact hm.out,by simp only [p3];exact hm.words,⟨p4,p5⟩,fun h=>⟨?_,by simpa using hs⟩⟩
 ·exact .mk (by omega) (by omega) (by omega) (fun _=>⟨_,rfl⟩) (by omega) (by simp) (fun id e=>by
   simp only [Option.some.injEq] at e
   exact⟨_,List.mem_append_right _ (List.mem_singleton.2 rfl),e⟩) (by simp)
 ·have hk:∀v,VOK u m v→VOK u ({ m.pay x.n with heap:=m.heap++[⟨m.next+8,m.next+7,List.replicate x.n.toNat y⟩],next:=m.next+9 }:Mach) v:=fun v hv=>hv.mono fun b hb=>⟨b,by simp [hb],rfl⟩
  simp only [List.mem_append,List.mem_singleton] at ha
  rcases ha with ha | rfl
  ·exact⟨(hm.arrs a ha).1,fun v hv=>hk v ((hm.arrs a ha).2 v hv)⟩
  refine⟨by simp;omega,fun v hv=>?_⟩
  rw [(List.mem_replicate.1 hv).2]
  exact hk y hy
 simp only at h
 unfold Mach.pay at h
 split at h
 ·cases h
 exact h
theorem effect_ok{u:Unt}{m:Mach}(hm:MachOK u m){i:Ins}{args:List SV}(h:∀v∈args,VOK u m v):ExecOK u m (m.effect i args):=by
 have w0:isW 0:=by unfold isW;omega
 have h0:=argS_ok h 0
 have h1:=argS_ok h 1
 have h2:=argS_ok h 2
 unfold Mach.effect
 split
 ·split
  ·exact ExecOK.same hm VOK.zero (by omega)
  split
  ·exact ExecOK.same hm VOK.zero (by omega)
  rename_i hk hl
  refine⟨rfl,fun a ha=>⟨a,ha,rfl⟩,VOK.word w0,by simp,fun a ha=>⟨(hm.arrs a ha).1,fun v hv=>((hm.arrs a ha).2 v hv).of_heap rfl⟩,⟨hm.left,Int.le_refl _⟩,?_,fun n hn=>?_,⟨rfl,rfl⟩,fun h=>⟨h,(hm.over h).2⟩⟩
  ·have:=hm.out
   simp
   omega
  simp only [List.mem_append,List.mem_singleton] at hn
  rcases hn with hn | rfl
  ·exact hm.words n hn
  exact SV.Wf.num h0 (.inl (by omega))
 split
 ·exact allocate_ok hm h1
 split
 ·split
  ·exact ExecOK.same hm VOK.zero (by omega)
  split
  ·exact ExecOK.same hm VOK.zero (by omega)
  exact ExecOK.same hm (VOK.word w0) (by omega)
 split
 ·exact ExecOK.same hm VOK.zero (by omega)
 rename_i hk
 obtain⟨a,ha,e1,e2⟩:=arr_ok hm h0 (by omega)
 rw [e2]
 have hal:=(hm.arrs a ha).1
 split
 ·exact ExecOK.same hm (VOK.word (by unfold isW;omega)) (by omega)
 split
 ·exact ExecOK.same hm VOK.zero (by omega)
 split
 ·exact ExecOK.same hm (argS_ok (hm.arrs a ha).2 _) (by omega)
 obtain⟨s1,s2⟩:=setArr_vids m.heap (argS args 0).arr (a.l.set (argS args 1).n.toNat (argS args 2))
 have hk2:∀v,VOK u m v→VOK u ({ m with heap:=Mach.setArr m.heap (argS args 0).arr (a.l.set (argS args 1).n.toNat (argS args 2)) }:Mach) v:=fun v hv=>hv.mono s1
 refine⟨rfl,s1,VOK.word w0,by simp,fun b hb=>?_,⟨hm.left,Int.le_refl _⟩,hm.out,hm.words,⟨rfl,rfl⟩,fun h=>⟨h,(hm.over h).2⟩⟩
 obtain⟨c,hc,_,_,e⟩:=s2 b hb
 rcases e with e | e
 ·rw [e]
  exact⟨(hm.arrs c hc).1,fun v hv=>hk2 v ((hm.arrs c hc).2 v hv)⟩
 rw [e]
 refine⟨by simpa using hal,fun v hv=>hk2 v ?_⟩
 rcases List.mem_or_eq_of_mem_set hv with q | q
 ·exact(hm.arrs a ha).2 v q
 rw [q]
 exact h2
theorem exec_ok{u:Unt}{m:Mach}(hm:MachOK u m){i:Ins}(hi:InsOK u i){args:List SV}(hl:args.length=i.args.length)(h:∀v∈args,VOK u m v):ExecOK u m (m.exec i args):=by
 have h0:=argS_ok h 0
 unfold Mach.exec
 split
 ·exact ExecOK.same hm (VOK.word (hi.c0 (by assumption))) (by omega)
 split
 ·split
  ·exact ExecOK.same hm VOK.zero (by omega)
  rename_i ho hk
  have hall:allK args 0=true:=by simpa using hk
  have hl2:=hi.c2 (.inl ho)
  have h1m:argS args 1∈args:=by
   unfold argS
   rw [List.getElem?_eq_getElem (by omega)]
   exact List.getElem_mem _
  simp only [allK,List.all_eq_true,decide_eq_true_eq] at hall
  obtain⟨⟨n,q1,q2⟩,q3⟩:=binaryM_word i.op (argS args 0).n (argS args 1).n (SV.Wf.num (h _ h1m) (.inl (hall _ h1m)))
  have:binaryM i.op (argS args 0).n (argS args 1).n=(.word n,(binaryM i.op (argS args 0).n (argS args 1).n).2):=by rw [←q2]
  rw [this]
  exact ExecOK.same hm (VOK.word q1) q3
 split
 ·rename_i ho
  exact ExecOK.same hm (.mk (by omega) (fun _=>(hi.con ho).1) (by omega) (by omega) (by omega) (by have:=(hi.con ho).2;omega) (by simp) h) (by omega)
 split
 ·rename_i ho
  obtain⟨c1,c2,c3⟩:=hi.clos ho
  exact ExecOK.same hm (.mk (by omega) (by omega) (fun _=>⟨c1,c2⟩) (by omega) (by omega) (by omega) (by simp) h) (by omega)
 split
 ·obtain⟨q1,q2⟩:=objectM_ok (i:=i) h
  exact ExecOK.same hm q1 q2
 split
 ·rename_i ho
  obtain⟨q1,q2⟩:=vectorM_ok (i:=i) h (fun e=>by have:=hi.pack e;omega) (fun e1 e2=>by
   have:=hi.c2 (by omega)
   match args,hl with
   | [x,y],_=>exact⟨x,y,rfl⟩
   | [],hl=>simp at hl;omega
   | [x],hl=>simp at hl;omega
   | x::y::z::r,hl=>simp at hl;omega)
  exact ExecOK.same hm q1 q2
 split
 ·exact ExecOK.same hm h0 (by omega)
 exact effect_ok hm h
theorem FrOK.mono{u:Unt}{m m':Mach}(h:∀a∈m.heap,∃b∈m'.heap,b.vid=a.vid){f:Fr}(k:FrOK u m f):FrOK u m' f :=
 ⟨k.fn,k.blk,k.pos,fun e he=>(k.vals e he).mono h⟩
theorem FrOK.of_heap{u:Unt}{m m':Mach}(h:m'.heap=m.heap){f:Fr}(k:FrOK u m f):FrOK u m' f:=k.mono fun a ha=>⟨a,by rw [h];exact ha,rfl⟩
theorem fnOf_mem{u:Unt}{k:Int}(h0:0≤k)(h1:k<u.fns.length):fnOf u k∈u.fns:=List.mem_of_getElem? (fnOf_at h0 h1)
theorem blkOf_mem{f:Func}{k:Int}(h0:0≤k)(h1:k<f.blocks.length):blkOf f k∈f.blocks:=List.mem_of_getElem? (blkOf_at h0 h1)
theorem blk0{u:Unt}(hu:UnitOK u){k:Int}(h0:0≤k)(h1:k<u.fns.length):(0:Int)≤0∧(0:Int)<(fnOf u k).blocks.length:=by
 have:=List.length_pos_iff.2 (hu.ne _ (fnOf_mem h0 h1)).1
 omega
theorem MachOK.stop{u:Unt}{m:Mach}(hm:MachOK u m){e n:Int}(he:0≤e∧e≤6)(hn:isW n)(hz:e≠0→n=0):MachOK u (m.stop e n) where
 frames:=fun f hf=>(hm.frames f hf).of_heap (by rfl)
 arrs:=fun a ha=>⟨(hm.arrs a ha).1,fun v hv=>((hm.arrs a ha).2 v hv).of_heap (by rfl)⟩
 left:=hm.left
 depth:=hm.depth
 out:=hm.out
 words:=hm.words
 fin:=he
 val:=hn
 done:=hz
 over:=fun h=>by cases h
theorem MachOK.setTop{u:Unt}{m:Mach}(hm:MachOK u m){f:Fr}(hne:m.frames≠[])(hf:FrOK u m f):MachOK u (m.setTop f) where
 frames:=fun g hg=>by
  rcases List.mem_cons.1 hg with rfl | hg
  ·exact hf.of_heap (by rfl)
  exact(hm.frames g (List.mem_of_mem_tail hg)).of_heap (by rfl)
 arrs:=fun a ha=>⟨(hm.arrs a ha).1,fun v hv=>((hm.arrs a ha).2 v hv).of_heap (by rfl)⟩
 left:=hm.left
 depth:=by
  have h1:=hm.depth
  have h2:=List.length_pos_iff.2 hne
  have h3:(m.setTop f).frames.length=m.frames.length:=by
   simp only [Mach.setTop,List.length_cons,List.length_tail]
   omega
  rw [h3]
  exact h1
 out:=hm.out
 words:=hm.words
 fin:=hm.fin
 val:=hm.val
 done:=hm.done
 over:=fun h=>⟨by simp [Mach.setTop],(hm.over h).2⟩
theorem MachOK.enter{u:Unt}{m:Mach}(hu:UnitOK u)(hm:MachOK u m)(hs:m.over=false→m.short=false)(hd:m.frames.length+m.left+1≤2 ^ 40){fn:Int}(hfn:0≤fn∧fn<u.fns.length){args:List SV}(ha:∀v∈args,VOK u m v)(to:Int) :
  MachOK u (m.enter u fn args to) where
 frames:=fun g hg=>by
  rcases List.mem_cons.1 hg with rfl | hg
  ·exact⟨hfn,blk0 hu hfn.1 hfn.2,Nat.zero_le _,bindS_ok (by simp) (fun v hv=>(ha v hv).of_heap (by rfl))⟩
  exact(hm.frames g hg).of_heap (by rfl)
 arrs:=fun a ha=>⟨(hm.arrs a ha).1,fun v hv=>((hm.arrs a ha).2 v hv).of_heap (by rfl)⟩
 left:=hm.left
 depth:=by
  simp only [Mach.enter,List.length_cons]
  omega
 out:=hm.out
 words:=hm.words
 fin:=hm.fin
 val:=hm.val
 done:=hm.done
 over:=fun h=>⟨by simp [Mach.enter],hs h⟩
theorem MachOK.follow{u:Unt}{m:Mach}(hm:MachOK u m)(hne:m.frames≠[]){f:Fr}(hf:FrOK u m f){e:Edge}(he:EdgeOK (fnOf u f.fn) e):MachOK u (m.follow u f e) :=
 hm.setTop hne ⟨hf.fn,⟨he.lo,he.hi⟩,Nat.zero_le _,bindS_ok hf.vals (takeS_ok hf.vals _)⟩
theorem MachOK.leave{u:Unt}{m:Mach}(hm:MachOK u m)(hne:m.frames≠[]){f:Fr}{v:SV}(hv:VOK u m v)(ho:m.over=false):MachOK u (m.leave f v):=by
 have hz:isW 0:=by unfold isW;omega
 unfold Mach.leave
 cases ht:m.frames.tail with
 | nil =>
  simp only
  have h0:MachOK u ({ m with frames:=[],over:=true }:Mach) :=
   ⟨by simp,fun a ha=>⟨(hm.arrs a ha).1,fun v hv=>((hm.arrs a ha).2 v hv).of_heap (by rfl)⟩,hm.left,by have:=hm.depth;simp;omega,hm.out,hm.words,hm.fin,hm.val,hm.done,fun h=>by cases h⟩
  refine h0.stop (e:=0) (by omega) ?_ (by simp)
  split
  ·exact SV.Wf.num hv (by assumption)
  exact hz
 | cons g r =>
  simp only
  have hg:g∈m.frames:=List.mem_of_mem_tail (by rw [ht];simp)
  have hr:∀x∈r,x∈m.frames:=fun x hx=>List.mem_of_mem_tail (by rw [ht];simp [hx])
  have hl:r.length+1≤m.frames.length:=by
   have h1:m.frames.tail.length=r.length+1:=by rw [ht];rfl
   simp at h1
   omega
  have hfg:=hm.frames g hg
  exact⟨fun x hx=>by
   rcases List.mem_cons.1 hx with rfl | hx
   ·exact⟨hfg.fn,hfg.blk,hfg.pos,fun e he=>(putS_ok hfg.vals hv e he).of_heap (by rfl)⟩
   exact(hm.frames x (hr x hx)).of_heap (by rfl),fun a ha=>⟨(hm.arrs a ha).1,fun v hv=>((hm.arrs a ha).2 v hv).of_heap (by rfl)⟩,hm.left,by have:=hm.depth;simp only [List.length_cons];omega,hm.out,hm.words,hm.fin,hm.val,hm.done,fun h=>⟨by simp,(hm.over h).2⟩⟩
theorem choice_at{f:Func}{t:Term}(ht:TermOK f t)(h0:t.kind≠0)(h1:t.kind≠1)(h4:t.kind≠4)(n:Int):∃e,t.to[choiceM t n]?=some e:=by
 have hk:=ht.kind
 have hlt:choiceM t n<t.to.length:=by
  unfold choiceM
  by_cases h2:t.kind=2
  ·rw [if_pos h2,ht.cond h2]
   split<;>omega
  rw [if_neg h2,ht.switch (by omega)]
  have:=List.findIdx_le_length (xs:=t.cases) (p:=(· == n))
  omega
 exact⟨_,List.getElem?_eq_getElem hlt⟩
theorem MachOK.finish{u:Unt}{m:Mach}(hm:MachOK u m)(ho:m.over=false){f:Fr}(hf:FrOK u m f){t:Term}(ht:TermOK (fnOf u f.fn) t):MachOK u (m.finish u f t):=by
 have hz:isW 0:=by unfold isW;omega
 have hne:=(hm.over ho).1
 unfold Mach.finish
 split
 ·exact hm.stop ht.n hz (fun _=>rfl)
 rename_i h4
 split
 ·rename_i h1
  have hl:=ht.jump h1
  have he:t.to[0]?=some (t.to[0]'(by omega)):=List.getElem?_eq_getElem _
  rw [he]
  exact hm.follow hne hf (ht.edges _ (List.getElem_mem _))
 rename_i h1
 split
 ·exact hm.leave hne (getS_ok hf.vals _) ho
 rename_i h0
 split
 ·exact hm.stop (by omega) hz (fun _=>rfl)
 obtain⟨e,he⟩:=choice_at ht h0 h1 h4 (getS f.vals t.arg).n
 rw [he]
 exact hm.follow hne hf (ht.edges _ (List.mem_of_getElem? he))
theorem MachOK.settle{u:Unt}{m:Mach}(hm:MachOK u m)(hne:m.frames≠[]){f:Fr}(hf:FrOK u m f){r:Mach×SV×Int}(hr:ExecOK u m r)(to:Int):MachOK u (Mach.settle f to r):=by
 have hz:isW 0:=by unfold isW;omega
 have h1:MachOK u r.1:=⟨fun g hg=>(hm.frames g (hr.frames ▸ hg)).mono hr.keep,hr.arrs,hr.left.1,by
  have:=hm.depth
  have:=hr.left.2
  rw [hr.frames]
  omega,hr.out,hr.words,by rw [hr.fin.1];exact hm.fin,by rw [hr.fin.2];exact hm.val,by rw [hr.fin.1,hr.fin.2];exact hm.done,fun h=>⟨by rw [hr.frames];exact hne,(hr.over h).2⟩⟩
 have hfr:FrOK u r.1 f:=hf.mono hr.keep
 have hne1:r.1.frames≠[]:=by rw [hr.frames];exact hne
 unfold Mach.settle
 split
 ·refine(h1.stop hr.trap hz (fun _=>rfl)).setTop hne1 ?_
  have hfr':FrOK u (r.1.stop r.2.2 0) f:=hfr.of_heap (by rfl)
  exact⟨hfr'.fn,hfr'.blk,hfr'.pos,putS_ok hfr'.vals (hr.val.of_heap (by rfl))⟩
 exact h1.setTop hne1 ⟨hfr.fn,hfr.blk,hfr.pos,putS_ok hfr.vals hr.val⟩
theorem MachOK.step{u:Unt}{m:Mach}(hu:UnitOK u)(hm:MachOK u m)(ho:m.over=false)(hd:m.frames.length+m.left+1≤2 ^ 40):MachOK u (m.step u):=by
 have hz:isW 0:=by unfold isW;omega
 obtain⟨hne,hsh⟩:=hm.over ho
 unfold Mach.step
 cases hfr:m.frames with
 | nil=>exact absurd hfr hne
 | cons f r =>
  have hf:=hm.frames f (by rw [hfr];simp)
  have hF:=fnOf_mem hf.fn.1 hf.fn.2
  have hB:=blkOf_mem hf.blk.1 hf.blk.2
  have hb:=hu.blocks _ hF _ hB
  simp only
  cases hi:(blkOf (fnOf u f.fn) f.blk).ins[f.pos]? with
  | none=>exact hm.finish ho hf hb.term
  | some i =>
   simp only
   have hio:=hb.ins i (List.mem_of_getElem? hi)
   have hlt:=lt_of_getElem? hi
   have hf1:FrOK u m { f with pos:=f.pos+1 }:=⟨hf.fn,hf.blk,hlt,hf.vals⟩
   have h1:=hm.setTop hne hf1
   have hf2:FrOK u (m.setTop { f with pos:=f.pos+1 }) { f with pos:=f.pos+1 }:=hf1.of_heap (by rfl)
   have hl1:(m.setTop { f with pos:=f.pos+1 }).frames.length=m.frames.length:=by
    simp [Mach.setTop,hfr]
   have ha:=takeS_ok hf2.vals i.args
   have hal:=takeS_len f.vals i.args
   unfold Mach.act
   split
   ·rename_i h13
    obtain⟨c1,c2,c3⟩:=hio.call h13
    exact h1.enter hu (fun _=>hsh) (by rw [hl1];exact hd) ⟨c1,c2⟩ ha _
   split
   ·split
    ·rename_i hk
     exact h1.enter hu (fun _=>hsh) (by rw [hl1];exact hd) (SV.Wf.fn (argS_ok ha 0) hk.1) ha _
    exact h1.stop (by omega) hz (fun _=>rfl)
   exact h1.settle (by simp [Mach.setTop]) hf2 (exec_ok h1 hio hal ha) _
theorem step_left(u:Unt)(m:Mach)(hm:MachOK u m)(hu:UnitOK u)(ho:m.over=false):(m.step u).left≤m.left:=by
 obtain⟨hne,hsh⟩:=hm.over ho
 have hleave:∀(m:Mach) f v,(m.leave f v).left=m.left:=fun m f v=>by
  unfold Mach.leave
  split<;>rfl
 unfold Mach.step
 cases hfr:m.frames with
 | nil=>exact absurd hfr hne
 | cons f r =>
  have hf:=hm.frames f (by rw [hfr];simp)
  have hb:=hu.blocks _ (fnOf_mem hf.fn.1 hf.fn.2) _ (blkOf_mem hf.blk.1 hf.blk.2)
  simp only
  cases hi:(blkOf (fnOf u f.fn) f.blk).ins[f.pos]? with
  | none =>
   simp only
   unfold Mach.finish
   repeat' split
   all_goals first
    | exact Int.le_refl _
    | exact Int.le_of_eq (hleave _ _ _)
  | some i =>
   simp only
   have hio:=hb.ins i (List.mem_of_getElem? hi)
   have hlt:=lt_of_getElem? hi
   have hf1:FrOK u m { f with pos:=f.pos+1 }:=⟨hf.fn,hf.blk,hlt,hf.vals⟩
   have h1:=hm.setTop hne hf1
   unfold Mach.act
   split
   ·exact Int.le_refl _
   split
   ·split<;>exact Int.le_refl _
   have hx:=exec_ok h1 hio (takeS_len f.vals i.args) (takeS_ok (fun e he=>(hf.vals e he).of_heap (by rfl)) i.args)
   have hl:=hx.left.2
   unfold Mach.settle
   split<;>exact hl
def pushCells(cs:List AVal)(n:Nat)(id:Nat):List AVal:=cs.take n++[.mp id 0]
theorem cells_os(a b c:Nat):(AVal.os a b c).cells=[.os a b c]:=rfl
theorem cellsAll_mp(a b:Nat):cellsAll [.mp a b]=[.mp a b]:=rfl
theorem enter_push{u:Unt}{m:Mach}{O:List AObj}(hup:∀o∈O,o.upto O.length)(h0:O[2]?=some (.cells (mcells u m))){cs:List AVal}(hst:O[m.sid]?=some (.cells cs))(hcs:m.frames.length≤cs.length)(hne:m.sid≠2)(hN:O.length=m.next)
  (hd:m.frames.length≤2 ^ 41) (fn:Int) (hfn:0≤fn∧fn<u.fns.length) (hb:(fnOf u fn).blocks≠[]) (args:List SV) (hl:∀v∈args,SV.Under O.length v) (hp:(blkOf (fnOf u fn) 0).params.length=args.length) (to:Int) :
  ECall Try.prog 59 O [.mp 2 0,aI fn,.lst 4 (args.map SV.enc) .sh,aI to] (fun r O'=>r=.tup []∧O'=((O.set m.sid .gone).set 2 (.cells (mcells u (m.enter u fn args to)))) ++
   [.map (.int .i64) ((bindS [] (blkOf (fnOf u fn) 0).params args).map ent),.cells [aI fn,aI 0,aI 0,aI to,.mm O.length],.cells (pushCells cs m.frames.length (O.length+1))]):=by
 have hF:=fnOf_at hfn.1 hfn.2
 have hB:=blkOf_at (f:=fnOf u fn) (k:=0) (by omega) (by
  have:=List.length_pos_iff.2 hb
  omega)
 generalize hBB:blkOf (fnOf u fn) 0=B at *
 generalize hFF:fnOf u fn=F at *
 have hB:F.blocks[0]?=some B:=hB
 have h0':∀X,(O++X)[2]?=some (.cells (mcells u m)):=fun X=>at_left h0
 unfold mcells at h0'
 have hml0:=lt_of_getElem? h0
 have hst':∀X,(O++X)[m.sid]?=some (.cells cs):=fun X=>at_left hst
 have hg0:(O.set m.sid .gone)[2]?=some (.cells (mcells u m)):=at_set_ne h0 hne
 have e1:∀X,(O++X).set m.sid .gone=O.set m.sid .gone++X:=fun X=>set_left hst
 have e2:∀X,(O.set m.sid .gone++X)[2]?=some (.cells (mcells u m)):=fun X=>at_left hg0
 have e3:∀X y,(O.set m.sid .gone++X).set 2 y=(O.set m.sid .gone).set 2 y++X:=fun X y=>set_left hg0
 unfold mcells at e2
 have hl1:m.frames.length * 1≤cs.length:=by omega
 have hlen1:((m.frames.length:Nat):Int)+1=((m.frames.length+1:Nat):Int):=by omega
 have hp':[eFuncs u.fns,aI u.main,.os (O.length+2) (m.frames.length+1) 1,aI m.left,.v (.bool m.short),.v (.bool m.over),.lst 1 (m.out.map aI) (.tok 3),aI m.fin,aI m.val]=mcells u (m.enter u fn args to):=by
  simp [mcells,Mach.enter,hN]
 have hup2:=uptoO_cells (n:=O.length+3) (ds:=mcells u (m.enter u fn args to)) (uptoO_set (k:=m.sid) (x:=.gone) (fun o ho=>AObj.upto_mono (by omega) (hup o ho)) trivial) hg0 (fun h=>by
  simp only [mcells,uptoL,AVal.upto,aI_upto,Func.map_upto,true_and,and_true,Mach.enter] at h ⊢
  omega)
 obtain⟨O2,hO2⟩:∃O2,O2=(O.set m.sid .gone).set 2 (.cells (mcells u (m.enter u fn args to))):=⟨_,rfl⟩
 have hlen:O.length=O2.length:=by rw [hO2];simp
 simp only [←hO2] at hup2 ⊢
 rw [hlen] at hup2
 refine zf true (O.length+3) Try.func59 Try.ntmps59 ?_
 dsimp only [Tmp,TypeId,slotsOf]
 refine zh1 (za0 ?_)
 refine zg2 ?_
 simp -dsimp only [simprocAttr,↓vpre,zp,h0',hF,hB]
 repeat(refine⟨by omega,?_⟩)
 refine za0 ?_
 refine awp_len 2 rfl (fun hal=>?_)
 simp only [List.length_map] at hal
 refine awp_block (awp_loop (ι:={j:Nat // j≤B.params.length}) (fun j=>⟨54,[(0,.mp 2 0),(2,.lst 4 (args.map SV.enc) .sh),(8,.mp (O.length+1) 0),(27,eIs B.params),(28,aI B.params.length),(29,aI j.1)],O++[.map (.int .i64) ((bindS [] (B.params.take j.1) (args.take j.1)).map ent),.cells [aI fn,aI 0,aI 0,aI to,.mm O.length]]⟩) (fun j=>B.params.length - j.1) ⟨0,by omega⟩ ?_ ?_)
 ·refine zq rfl ?_ ?_
  simp -dsimp only [simprocAttr,↓vpre,zp,zc]
  rw [bindS_zero]
  rfl
 rintro⟨j,hj⟩
 refine zh1 (za0 ?_)
 apply zk1 rfl<;>intro h
 ·refine zb0 ?_
  have hlt:j<B.params.length:=by simpa using h
  obtain⟨p,hp⟩:∃p,B.params[j]?=some p:=⟨B.params[j],by simp [hlt]⟩
  obtain⟨a,ha⟩:∃a,args[j]?=some a:=⟨args[j]'(by omega),List.getElem?_eq_getElem _⟩
  refine awp_seq (awp_block ?_)
  refine zg1 ?_
  simp -dsimp only [simprocAttr,↓vpre,zp,hp]
  refine za0 ?_
  refine zg0 ?_
  simp -dsimp only [simprocAttr,↓vpre,zp,ha,put_ent,←bindS_snoc hp ha]
  repeat(refine⟨by omega,?_⟩)
  refine⟨ob (by kernel_rfl),?_⟩
  refine za0 ?_
  refine zh0 ?_
  repeat(refine⟨by omega,?_⟩)
  refine zl0 ?_
  refine⟨⟨j+1,hlt⟩,by simp;omega,?_⟩
  refine zq rfl ?_ ?_
  simp -dsimp only [simprocAttr,↓vpre,zp,zc]
  ·exact Sub.int (by simp)
  rfl
 refine awp_exit ?_
 simp -dsimp only [vend,ne_eq,Nat.reduceEqDiff,reduceCtorEq]
 have hjj:j=B.params.length:=by simp at h;omega
 subst hjj
 have hTT:args.take B.params.length=args:=List.take_of_length_le (by omega)
 refine zs0 ?_
 simp -dsimp only [simprocAttr,↓vpre,zp,h0',hTT,List.take_length,hst',e1,e2,e3,hl1,List.length_set,cells_os,hp',←hO2]
 refine⟨by omega,by omega,trivial,?_⟩
 refine at_intro ?_
 simp -dsimp only [simprocAttr,↓vpre,zp,zr,Try.results59,take_newk,hlen,cellsAll_mp]
 refine⟨fun o ho=>?_,trivial,by simp [pushCells]⟩
 rcases List.mem_append.1 ho with ho | ho
 ·exact hup2 o ho
 have hcu:=hup _ (List.mem_of_getElem? hst)
 simp only [AObj.upto,uptoL_iff] at hcu
 simp only [List.mem_cons,List.mem_nil_iff,or_false] at ho
 rcases ho with rfl | rfl | rfl
 ·refine entE fun x hx=>?_
  rcases mem_bindS hx with q | q
  ·simp at q
  exact(hl _ q).mono (by omega)
 ·simp [AObj.upto,uptoL,AVal.upto]
 simp only [AObj.upto,uptoL_iff]
 intro x hx
 rcases List.mem_append.1 hx with q | q
 ·exact AVal.upto_mono (by omega) _ (hcu x (List.mem_of_mem_take q))
 simp only [List.mem_singleton] at q
 subst q
 simp [AVal.upto]
def mcells0(u:Unt)(fuel:Int):List AVal:=[eFuncs u.fns,aI u.main,.lst 1 [] .ex,aI fuel,.v (.bool false),.v (.bool false),.lst 1 [] (.tok 3),aI 0,aI 0]
theorem enter_first{u:Unt}{fuel:Int}(hmain:0≤u.main∧u.main<u.fns.length)(hb:(fnOf u u.main).blocks≠[])(hp:(blkOf (fnOf u u.main) 0).params=[])(sz:Nat)(ow:Own) :
  ECall Try.prog 59 [.gone,.cells [.lst 1 [] .ex,aI 0,aI 0],.cells (mcells0 u fuel),.spare 0] [.mp 2 0,aI u.main,.lst sz [] ow,aI 0] (fun r O'=>r=.tup []∧O'=[.gone,.cells [.lst 1 [] .ex,aI 0,aI 0],.cells (mcells u ((Mach.start fuel).enter u u.main [] 0)),.spare 0,.map (.int .i64) [],.cells [aI u.main,aI 0,aI 0,aI 0,.mm 4],.cells [.mp 5 0]]):=by
 have hF:=fnOf_at hmain.1 hmain.2
 have hB:=blkOf_at (f:=fnOf u u.main) (k:=0) (by omega) (by
  have:=List.length_pos_iff.2 hb
  omega)
 have hp':mcells u ((Mach.start fuel).enter u u.main [] 0)=[eFuncs u.fns,aI u.main,.os 6 1 1,aI fuel,.v (.bool false),.v (.bool false),.lst 1 [] (.tok 3),aI 0,aI 0]:=by
  simp [mcells,Mach.enter,Mach.start]
 rw [hp']
 unfold mcells0
 generalize hBB:blkOf (fnOf u u.main) 0=B at *
 generalize hFF:fnOf u u.main=F at *
 have hB:F.blocks[0]?=some B:=hB
 have hpl:B.params.length=0:=by rw [hp];rfl
 refine zf true 7 Try.func59 Try.ntmps59 ?_
 dsimp only [Tmp,TypeId,slotsOf]
 refine zh1 (za0 ?_)
 refine zg2 ?_
 simp -dsimp only [simprocAttr,↓vpre,zp,hF,hB]
 repeat(refine⟨by omega,?_⟩)
 refine za0 ?_
 refine awp_block (awp_loop (ι:=Unit) (fun _=>⟨54,[(0,.mp 2 0),(8,.mp 5 0),(27,eIs B.params),(28,aI 0),(29,aI 0)],[.gone,.cells [.lst 1 [] .ex,aI 0,aI 0],.cells [eFuncs u.fns,aI u.main,.lst 1 [] .ex,aI fuel,.v (.bool false),.v (.bool false),.lst 1 [] (.tok 3),aI 0,aI 0],.spare 0,.map (.int .i64) [],.cells [aI u.main,aI 0,aI 0,aI 0,.mm 4]]⟩) (fun _=>0) () ?_ ?_)
 ·refine zq rfl ?_ ?_
  simp -dsimp only [simprocAttr,↓vpre,zp,zc]
  ·exact Sub.int (by simp [hpl])
  rfl
 rintro⟨⟩
 refine zh1 (za0 ?_)
 apply zk1 rfl<;>intro h
 ·simp at h
 refine awp_exit ?_
 simp -dsimp only [vend,ne_eq,Nat.reduceEqDiff,reduceCtorEq]
 refine zs0 ?_
 simp -dsimp only [simprocAttr,↓vpre,zp,cells_os,cellsAll_mp]
 refine⟨trivial,?_⟩
 refine at_intro ?_
 simp -dsimp only [simprocAttr,↓vpre,zp,zr,Try.results59]
 refine⟨?_,trivial⟩
 simp [AObj.upto,uptoL,uptoE,AVal.upto,Func.map_upto]
theorem leave_last{u:Unt}{m:Mach}{O:List AObj}(hup:∀o∈O,o.upto O.length)(h0:O[2]?=some (.cells (mcells u m)))(f:Fr)(hfr:m.frames=[f])(hfl:f.fid<O.length)(v:SV)(hv:SV.Under O.length v) :
  ECall Try.prog 93 O [.mp 2 0,.mp f.fid 0,v.enc] (fun r O'=>r=.tup []∧O'=O.set 2 (.cells (mcells u (m.leave f v)))):=by
 have hvu:=hv.enc_upto
 rw [SV.enc_eq] at hvu
 have hml0:=lt_of_getElem? h0
 have hp1:[eFuncs u.fns,aI u.main,.os m.sid 0 1,aI m.left,.v (.bool m.short),.v (.bool m.over),.lst 1 (m.out.map aI) (.tok 3),aI m.fin,aI m.val]=mcells u { m with frames:=[] }:=rfl
 have hs0:=set_self h0
 have hm0:O[2]?=some (.cells [eFuncs u.fns,aI u.main,.os m.sid 1 1,aI m.left,.v (.bool m.short),.v (.bool m.over),.lst 1 (m.out.map aI) (.tok 3),aI m.fin,aI m.val]):=by
  rw [h0]
  unfold mcells
  rw [hfr]
  rfl
 obtain⟨O1,hO1⟩:∃O1,O1=O.set 2 (.cells (mcells u { m with frames:=[] })):=⟨_,rfl⟩
 have hlen:O.length=O1.length:=by rw [hO1];simp
 have h01:O1[2]?=some (.cells (mcells u { m with frames:=[] })):=by rw [hO1];exact hs0 _
 have hup1:∀o∈O1,o.upto O1.length:=by
  rw [←hlen,hO1]
  exact uptoO_cells hup h0 (fun h=>mcells_upto h rfl)
 have hstop:=fun e n=>stop_spec hup1 h01 e n
 have hfin:∀n:Int,O1.set 2 (.cells (mcells u (({ m with frames:=[] }:Mach).stop 0 n)))=O.set 2 (.cells (mcells u (({ m with frames:=[] }:Mach).stop 0 n))):=fun n=>by
  rw [hO1,List.set_set]
 have hup2:∀n:Int,∀o∈O.set 2 (.cells (mcells u (({ m with frames:=[] }:Mach).stop 0 n))),o.upto O.length:=fun n=>uptoO_cells hup h0 (fun h=>mcells_upto h rfl)
 have hm1:O1[2]?=some (.cells [eFuncs u.fns,aI u.main,.os m.sid 0 1,aI m.left,.v (.bool m.short),.v (.bool m.over),.lst 1 (m.out.map aI) (.tok 3),aI m.fin,aI m.val]):=h01
 have hres:m.leave f v=({ m with frames:=[] }:Mach).stop 0 (if v.kind=0∨v.kind=1 then v.n else 0):=by
  unfold Mach.leave
  rw [hfr]
  rfl
 rw [hres]
 have htk:∀x,(O.set 2 x).take O1.length=O.set 2 x:=fun x=>by rw [←hlen];exact take_set_len
 by_cases hk:v.kind=0∨v.kind=1
 ·rw [if_pos hk]
  rcases (show v.kind=0∨(v.kind≠0∧v.kind=1) by omega) with e | ⟨e,e1⟩
  ·have hd:decide (v.kind=0)=true:=decide_eq_true e
   refine zf true O.length Try.func93 Try.ntmps93 ?_
   dsimp only [Tmp,TypeId,slotsOf]
   refine zh1 (za0 ?_)
   refine awp_local 5 ([aI v.kind,aI v.n,.lst 4 (v.list.map SV.enc) .sh,eP v.arr]) [(0,.mp 2 0),(1,.mp f.fid 0),(5,.ip none [aI v.kind,aI v.n,.lst 4 (v.list.map SV.enc) .sh,eP v.arr])] rfl (by simp only [List.map_cons,List.map_nil,shareCell_v,shareCell_lst,shareCell_mm,shareCell_mp,shareCell_ip,shareCell_fn,shareCell_im,eP_shareCell]) (by omega) (by simp [putS,dropS,Go.Av.look]) ?_ ?_ ?_
   ·exact hup
   ·simp only [AVal.upto] at hvu
    simp [AVal.upto,hfl,hml0,hvu]
   refine zg1 ?_
   simp -dsimp only [simprocAttr,↓vpre,zp,hm0,cells_os,hp1,←hO1]
   refine⟨trivial,?_⟩
   refine⟨ob (by kernel_rfl),?_⟩
   refine za0 ?_
   refine zg2 ?_
   simp -dsimp only [simprocAttr,↓vpre,zp,hm1]
   refine za0 ?_
   refine zu0 rfl ?_
   refine zb0 ?_
   refine zh1 (za0 ?_)
   refine zg2 ?_
   simp -dsimp only [simprocAttr,↓vpre,zp,hd]
   refine za0 ?_
   refine zw0 rfl ?_
   refine zh0 (za0 ?_)
   refine zh0 ?_
   refine .inr (.inl ⟨_,_,hstop 0 v.n,.inl (later_intro ?_)⟩)
   simp -dsimp only [simprocAttr,↓vpre,zp,hlen,hfin]
   refine at_intro ?_
   simp -dsimp only [simprocAttr,↓vpre,zp,zr,Try.results93,hlen,List.take_length,List.length_set,htk]
   exact⟨by rw [←hlen];exact hup2 v.n,trivial⟩
  have hd:decide (v.kind=0)=false:=decide_eq_false e
  have hd1:decide (v.kind=1)=true:=decide_eq_true e1
  refine zf true O.length Try.func93 Try.ntmps93 ?_
  dsimp only [Tmp,TypeId,slotsOf]
  refine zh1 (za0 ?_)
  refine awp_local 5 ([aI v.kind,aI v.n,.lst 4 (v.list.map SV.enc) .sh,eP v.arr]) [(0,.mp 2 0),(1,.mp f.fid 0),(5,.ip none [aI v.kind,aI v.n,.lst 4 (v.list.map SV.enc) .sh,eP v.arr])] rfl (by simp only [List.map_cons,List.map_nil,shareCell_v,shareCell_lst,shareCell_mm,shareCell_mp,shareCell_ip,shareCell_fn,shareCell_im,eP_shareCell]) (by omega) (by simp [putS,dropS,Go.Av.look]) ?_ ?_ ?_
  ·exact hup
  ·simp only [AVal.upto] at hvu
   simp [AVal.upto,hfl,hml0,hvu]
  refine zg1 ?_
  simp -dsimp only [simprocAttr,↓vpre,zp,hm0,cells_os,hp1,←hO1]
  refine⟨trivial,?_⟩
  refine⟨ob (by kernel_rfl),?_⟩
  refine za0 ?_
  refine zg2 ?_
  simp -dsimp only [simprocAttr,↓vpre,zp,hm1]
  refine za0 ?_
  refine zu0 rfl ?_
  refine zb0 ?_
  refine zh1 (za0 ?_)
  refine zg2 ?_
  simp -dsimp only [simprocAttr,↓vpre,zp,hd,hd1]
  refine za0 ?_
  refine zw0 rfl ?_
  refine zh0 (za0 ?_)
  refine zh0 ?_
  refine .inr (.inl ⟨_,_,hstop 0 v.n,.inl (later_intro ?_)⟩)
  simp -dsimp only [simprocAttr,↓vpre,zp,hlen,hfin]
  refine at_intro ?_
  simp -dsimp only [simprocAttr,↓vpre,zp,zr,Try.results93,hlen,List.take_length,List.length_set,htk]
  exact⟨by rw [←hlen];exact hup2 v.n,trivial⟩
 rw [if_neg hk]
 have hd:decide (v.kind=0)=false:=decide_eq_false (by omega)
 have hd1:decide (v.kind=1)=false:=decide_eq_false (by omega)
 refine zf true O.length Try.func93 Try.ntmps93 ?_
 dsimp only [Tmp,TypeId,slotsOf]
 refine zh1 (za0 ?_)
 refine awp_local 5 ([aI v.kind,aI v.n,.lst 4 (v.list.map SV.enc) .sh,eP v.arr]) [(0,.mp 2 0),(1,.mp f.fid 0),(5,.ip none [aI v.kind,aI v.n,.lst 4 (v.list.map SV.enc) .sh,eP v.arr])] rfl (by simp only [List.map_cons,List.map_nil,shareCell_v,shareCell_lst,shareCell_mm,shareCell_mp,shareCell_ip,shareCell_fn,shareCell_im,eP_shareCell]) (by omega) (by simp [putS,dropS,Go.Av.look]) ?_ ?_ ?_
 ·exact hup
 ·simp only [AVal.upto] at hvu
  simp [AVal.upto,hfl,hml0,hvu]
 refine zg1 ?_
 simp -dsimp only [simprocAttr,↓vpre,zp,hm0,cells_os,hp1,←hO1]
 refine⟨trivial,?_⟩
 refine⟨ob (by kernel_rfl),?_⟩
 refine za0 ?_
 refine zg2 ?_
 simp -dsimp only [simprocAttr,↓vpre,zp,hm1]
 refine za0 ?_
 refine zu0 rfl ?_
 refine zb0 ?_
 refine zh1 (za0 ?_)
 refine zg2 ?_
 simp -dsimp only [simprocAttr,↓vpre,zp,hd,hd1]
 refine za0 ?_
 refine zu0 rfl ?_
 refine zb0 ?_
 refine zh0 ?_
 refine .inr (.inl ⟨_,_,hstop 0 0,.inl (later_intro ?_)⟩)
 simp -dsimp only [simprocAttr,↓vpre,zp,hlen,hfin]
 refine at_intro ?_
 simp -dsimp only [simprocAttr,↓vpre,zp,zr,Try.results93,hlen,List.take_length,List.length_set,htk]
 exact⟨by rw [←hlen];exact hup2 0,trivial⟩
theorem leave_more{u:Unt}{m:Mach}{O:List AObj}(hup:∀o∈O,o.upto O.length)(h0:O[2]?=some (.cells (mcells u m)))(f g:Fr)(r:List Fr)(hfr:m.frames=f::g::r)(hf:O[f.fid]?=some (.cells (fcells f)))
  (hg:O[g.fid]?=some (.cells (fcells g))) (hgm:O[g.mid]?=some (.map (.int .i64) (g.vals.map ent))) (hgu:∀e∈g.vals,SV.Under O.length e.2) {cs:List AVal} (hst:O[m.sid]?=some (.cells cs)) (hcs:cs[r.length]?=some (.mp g.fid 0))
  (hs0:m.sid≠2) (hrl:r.length≤2 ^ 40) (hf0:f.fid≠2) (hg0:g.fid≠2) (hm0:g.mid≠2) (v:SV) (hv:SV.Under O.length v) :
  ECall Try.prog 93 O [.mp 2 0,.mp f.fid 0,v.enc] (fun r O'=>r=.tup []∧O'=(O.set 2 (.cells (mcells u (m.leave f v)))).set g.mid (.map (.int .i64) ((putS' g.vals f.to v).map ent))):=by
 have hvu:=hv.enc_upto
 rw [SV.enc_eq] at hvu
 have hml0:=lt_of_getElem? h0
 have hfl:=lt_of_getElem? hf
 have hres:mcells u (m.leave f v)=[eFuncs u.fns,aI u.main,.os m.sid (r.length+1) 1,aI m.left,.v (.bool m.short),.v (.bool m.over),.lst 1 (m.out.map aI) (.tok 3),aI m.fin,aI m.val]:=by
  simp [Mach.leave,hfr,mcells]
 have hm:O[2]?=some (.cells [eFuncs u.fns,aI u.main,.os m.sid (r.length+1+1) 1,aI m.left,.v (.bool m.short),.v (.bool m.over),.lst 1 (m.out.map aI) (.tok 3),aI m.fin,aI m.val]):=by
  rw [h0]
  unfold mcells
  rw [hfr]
  rfl
 obtain⟨O1,hO1⟩:∃O1,O1=O.set 2 (.cells (mcells u (m.leave f v))):=⟨_,rfl⟩
 have hlen:O.length=O1.length:=by rw [hO1];simp
 have hs:=set_self h0
 have h01:O1[2]?=some (.cells (mcells u (m.leave f v))):=by rw [hO1];exact hs _
 have hst1:O1[m.sid]?=some (.cells cs):=by rw [hO1];exact at_set_ne hst hs0.symm
 have hf1:O1[f.fid]?=some (.cells (fcells f)):=by rw [hO1];exact at_set_ne hf hf0.symm
 have hg1:O1[g.fid]?=some (.cells (fcells g)):=by rw [hO1];exact at_set_ne hg hg0.symm
 have hgm1:O1[g.mid]?=some (.map (.int .i64) (g.vals.map ent)):=by rw [hO1];exact at_set_ne hgm hm0.symm
 have hup1:∀o∈O1,o.upto O1.length:=by
  rw [←hlen,hO1]
  refine uptoO_cells hup h0 (fun h=>mcells_upto h ?_)
  simp [Mach.leave,hfr]
 rw [←hO1]
 have hup2:∀o∈O1.set g.mid (.map (.int .i64) ((putS' g.vals f.to v).map ent)),o.upto O1.length:=by
  refine uptoO_set hup1 (entE fun x hx=>?_)
  rw [←hlen]
  rcases mem_putS' hx with q | q
  ·exact hgu x q
  rw [q]
  exact hv
 have htk:∀x,(O1.set g.mid x).take O1.length=O1.set g.mid x:=fun x=>take_set_len
 have hc1:[eFuncs u.fns,aI u.main,.os m.sid (r.length+1) 1,aI m.left,.v (.bool m.short),.v (.bool m.over),.lst 1 (m.out.map aI) (.tok 3),aI m.fin,aI m.val]=mcells u (m.leave f v):=hres.symm
 rw [hres] at h01
 unfold fcells at hf1 hg1
 have hr1:((r.length+1+1:Nat):Int) - 1=((r.length+1:Nat):Int):=by omega
 have hr2:((r.length+1:Nat):Int) - 1=(r.length:Nat):=by omega
 have hr3:decide ((0:Int)<((r.length+1:Nat):Int))=true:=decide_eq_true (by omega)
 refine zf true O.length Try.func93 Try.ntmps93 ?_
 dsimp only [Tmp,TypeId,slotsOf]
 refine zh1 (za0 ?_)
 refine awp_local 5 ([aI v.kind,aI v.n,.lst 4 (v.list.map SV.enc) .sh,eP v.arr]) [(0,.mp 2 0),(1,.mp f.fid 0),(5,.ip none [aI v.kind,aI v.n,.lst 4 (v.list.map SV.enc) .sh,eP v.arr])] rfl (by simp only [List.map_cons,List.map_nil,shareCell_v,shareCell_lst,shareCell_mm,shareCell_mp,shareCell_ip,shareCell_fn,shareCell_im,eP_shareCell]) (by omega) (by simp [putS,dropS,Go.Av.look]) ?_ ?_ ?_
 ·exact hup
 ·simp only [AVal.upto] at hvu
  simp [AVal.upto,hfl,hml0,hvu]
 refine zg1 ?_
 simp -dsimp only [simprocAttr,↓vpre,zp,hm,cells_os,hr1,Int.toNat_natCast,hc1,←hO1]
 repeat(refine⟨by omega,?_⟩)
 refine⟨trivial,?_⟩
 refine⟨ob (by kernel_rfl),?_⟩
 refine za0 ?_
 refine zg2 ?_
 simp -dsimp only [simprocAttr,↓vpre,zp,h01,hr3]
 refine za0 ?_
 refine zw0 rfl ?_
 refine zg1 ?_
 simp -dsimp only [simprocAttr,↓vpre,zp,h01,hst1,hr2,Nat.mul_one,hcs,hf1,hg1,hgm1,put_ent]
 repeat(refine⟨by omega,?_⟩)
 refine⟨ob (by kernel_rfl),?_⟩
 refine za0 ?_
 refine awp_ret ?_
 simp -dsimp only [simprocAttr,↓vpre,zp,zr,Try.results93,hlen,htk,List.length_set]
 exact⟨hup2,trivial⟩
theorem splice_full{cs xs:List AVal}{n:Nat}(h:xs.length=n)(hc:cs.length=n):splice cs 0 xs=xs:=by
 simp [splice]
 omega
theorem cells_shareCell{x:AVal}(h:x.flat):x.cells.map AVal.shareCell=x.share.cells:=by
 cases x<;>rfl
theorem rawS_shareCells(es:List (Int×SV))(k:Int):(rawS es k).cells.map AVal.shareCell=(getS es k).enc.cells:=by
 rw [cells_shareCell (rawS_flat es k),rawS_share]
theorem end_trap{u:Unt}{m:Mach}{O:List AObj}(hup:∀o∈O,o.upto O.length)(h0:O[2]?=some (.cells (mcells u m)))(f:Fr)(hf:O[f.fid]?=some (.cells (fcells f)))(hv:O[f.mid]?=some (.map (.int .i64) (f.vals.map ent)))
  (hu:∀e∈f.vals,SV.Under O.length e.2) (nfm:f.fid≠f.mid) (t:Term) (hk:t.kind=4):ECall Try.prog 72 O [.mp 2 0,.mp f.fid 0,t.enc] (fun r O'=>r=.tup []∧O'=O.set 2 (.cells (mcells u (m.stop t.n 0)))):=by
 have hfl:=lt_of_getElem? hf
 have hvl:=lt_of_getElem? hv
 have hml0:=lt_of_getElem? h0
 have hff:=hf
 unfold fcells at hff
 have hraw:(Option.map SV.enc (lookS f.vals t.arg)).getD (.agg [aI 0,aI 0,.lst 4 [] .ex,.v (.pointer none)])=rawS f.vals t.arg:=rfl
 have hspl:splice [AVal.v (.int .i64 0),.v (.int .i64 0),.lst 4 [] .ex,.v (.pointer none)] 0 (rawS f.vals t.arg).cells=(rawS f.vals t.arg).cells:=splice_full (rawS_len _ _) rfl
 have hsh:=rawS_shareCells f.vals t.arg
 have hVu:=(getS_under hu t.arg).enc_upto
 generalize getS f.vals t.arg=V at *
 rw [SV.enc_eq] at hVu
 rw [SV.enc_cells] at hsh
 have hstop:=stop_spec hup h0 t.n 0
 have hup2:=uptoO_cells hup h0 (ds:=mcells u (m.stop t.n 0)) (fun h=>mcells_upto h rfl)
 have htk:=take_set_len (O:=O) (k:=2) (x:=.cells (mcells u (m.stop t.n 0)))
 refine zf true O.length Try.func72 Try.ntmps72 ?_
 dsimp only [Tmp,TypeId,slotsOf]
 refine zh1 (za0 ?_)
 refine awp_local 5 ([aI t.kind,aI t.arg,aI t.n,eIs t.cases,eEdges t.to]) [(0,.mp 2 0),(1,.mp f.fid 0),(5,.ip none [aI t.kind,aI t.arg,aI t.n,eIs t.cases,eEdges t.to])] rfl (by rfl) (by omega) (by simp [putS,dropS,Go.Av.look]) ?_ ?_ ?_
 ·exact hup
 ·simp [AVal.upto,uptoL,hfl,hml0,aI_upto,Edge.map_upto]
 refine zg1 ?_
 simp -dsimp only [simprocAttr,↓vpre,zp,hff,hv,look_ent,hraw,rawS_flat,rawS_len,hspl]
 refine⟨orderB_ren [f.fid,f.mid] O.length [.pure,.pure,.pure,.rd 0,.pure,.pure,.rd 1,.wr 2 [],.wr 3 [2]] (by simp [nfm]) (by simp;omega) rfl rfl (by kernel_rfl),at_intro ?_⟩
 simp -dsimp only [vend,ne_eq,Nat.reduceEqDiff,reduceCtorEq]
 refine awp_local 6 [aI V.kind,aI V.n,.lst 4 (V.list.map SV.enc) .sh,eP V.arr] [(0,.mp 2 0),(1,.mp f.fid 0),(5,.ip none [aI t.kind,aI t.arg,aI t.n,eIs t.cases,eEdges t.to]),(6,.ip none [aI V.kind,aI V.n,.lst 4 (V.list.map SV.enc) .sh,eP V.arr])] rfl hsh (by omega) (by simp [putS,dropS,Go.Av.look]) hup ?_ ?_
 ·simp only [uptoL,AVal.upto,true_and,and_true] at hVu
  simp [AVal.upto,uptoL,hfl,hml0,aI_upto,Edge.map_upto,hVu]
 refine zh1 (za0 ?_)
 refine awp_block ?_
 refine zh1 (za0 ?_)
 apply zk0 rfl<;>intro h
 ·refine zh0 ?_
  refine .inr (.inl ⟨_,_,hstop,.inl (later_intro (zj ?_))⟩)
  (refine at_intro ?_;simp -dsimp only [vend,ne_eq,Nat.reduceEqDiff,reduceCtorEq])
  skip
  simp -dsimp only [simprocAttr,↓vpre,zp,zr,Try.results72,htk,List.length_set]
  exact⟨hup2,trivial⟩
 exact af h (by omega)
theorem end_jump{u:Unt}{m:Mach}{O:List AObj}(hup:∀o∈O,o.upto O.length)(h0:O[2]?=some (.cells (mcells u m)))(f:Fr)(hf:O[f.fid]?=some (.cells (fcells f)))(hv:O[f.mid]?=some (.map (.int .i64) (f.vals.map ent)))
  (hu:∀e∈f.vals,SV.Under O.length e.2) (nfm:f.fid≠f.mid) (t:Term) (hk:t.kind=1) (e:Edge) (he:t.to[0]?=some e) {O':List AObj} (hC:ECall Try.prog 92 O [.mp 2 0,.mp f.fid 0,e.enc] (fun r O1=>r=.tup []∧O1=O')) (hlen:O.length=O'.length) (hup':∀o∈O',o.upto O'.length):ECall Try.prog 72 O [.mp 2 0,.mp f.fid 0,t.enc] (fun r O1=>r=.tup []∧O1=O'):=by
 have hfl:=lt_of_getElem? hf
 have hvl:=lt_of_getElem? hv
 have hml0:=lt_of_getElem? h0
 have hff:=hf
 unfold fcells at hff
 have hraw:(Option.map SV.enc (lookS f.vals t.arg)).getD (.agg [aI 0,aI 0,.lst 4 [] .ex,.v (.pointer none)])=rawS f.vals t.arg:=rfl
 have hspl:splice [AVal.v (.int .i64 0),.v (.int .i64 0),.lst 4 [] .ex,.v (.pointer none)] 0 (rawS f.vals t.arg).cells=(rawS f.vals t.arg).cells:=splice_full (rawS_len _ _) rfl
 have hsh:=rawS_shareCells f.vals t.arg
 have hVu:=(getS_under hu t.arg).enc_upto
 generalize getS f.vals t.arg=V at *
 rw [SV.enc_eq] at hVu
 rw [SV.enc_cells] at hsh
 refine zf true O.length Try.func72 Try.ntmps72 ?_
 dsimp only [Tmp,TypeId,slotsOf]
 refine zh1 (za0 ?_)
 refine awp_local 5 ([aI t.kind,aI t.arg,aI t.n,eIs t.cases,eEdges t.to]) [(0,.mp 2 0),(1,.mp f.fid 0),(5,.ip none [aI t.kind,aI t.arg,aI t.n,eIs t.cases,eEdges t.to])] rfl (by rfl) (by omega) (by simp [putS,dropS,Go.Av.look]) ?_ ?_ ?_
 ·exact hup
 ·simp [AVal.upto,uptoL,hfl,hml0,aI_upto,Edge.map_upto]
 refine zg1 ?_
 simp -dsimp only [simprocAttr,↓vpre,zp,hff,hv,look_ent,hraw,rawS_flat,rawS_len,hspl]
 refine⟨orderB_ren [f.fid,f.mid] O.length [.pure,.pure,.pure,.rd 0,.pure,.pure,.rd 1,.wr 2 [],.wr 3 [2]] (by simp [nfm]) (by simp;omega) rfl rfl (by kernel_rfl),at_intro ?_⟩
 simp -dsimp only [vend,ne_eq,Nat.reduceEqDiff,reduceCtorEq]
 refine awp_local 6 [aI V.kind,aI V.n,.lst 4 (V.list.map SV.enc) .sh,eP V.arr] [(0,.mp 2 0),(1,.mp f.fid 0),(5,.ip none [aI t.kind,aI t.arg,aI t.n,eIs t.cases,eEdges t.to]),(6,.ip none [aI V.kind,aI V.n,.lst 4 (V.list.map SV.enc) .sh,eP V.arr])] rfl hsh (by omega) (by simp [putS,dropS,Go.Av.look]) hup ?_ ?_
 ·simp only [uptoL,AVal.upto,true_and,and_true] at hVu
  simp [AVal.upto,uptoL,hfl,hml0,aI_upto,Edge.map_upto,hVu]
 refine zh1 (za0 ?_)
 refine awp_block ?_
 refine zh1 (za0 ?_)
 apply zk0 rfl<;>intro h
 ·exact ab h (by omega)
 refine zh1 (za0 ?_)
 apply zk0 rfl<;>intro h
 ·refine zg0 ?_
  simp -dsimp only [simprocAttr,↓vpre,zp,he]
  refine .inr (.inl ⟨_,_,hC,.inl (later_intro (zj ?_))⟩)
  (refine at_intro ?_;simp -dsimp only [vend,ne_eq,Nat.reduceEqDiff,reduceCtorEq])
  skip
  simp -dsimp only [simprocAttr,↓vpre,zp,zr,Try.results72,hlen,List.take_length]
  exact⟨hup',trivial⟩
 exact af h (by omega)
theorem end_ret{u:Unt}{m:Mach}{O:List AObj}(hup:∀o∈O,o.upto O.length)(h0:O[2]?=some (.cells (mcells u m)))(f:Fr)(hf:O[f.fid]?=some (.cells (fcells f)))(hv:O[f.mid]?=some (.map (.int .i64) (f.vals.map ent)))
  (hu:∀e∈f.vals,SV.Under O.length e.2) (nfm:f.fid≠f.mid) (t:Term) (hk:t.kind=0) {O':List AObj} (hC:ECall Try.prog 93 O [.mp 2 0,.mp f.fid 0,(getS f.vals t.arg).enc] (fun r O1=>r=.tup []∧O1=O')) (hlen:O.length=O'.length) (hup':∀o∈O',o.upto O'.length):ECall Try.prog 72 O [.mp 2 0,.mp f.fid 0,t.enc] (fun r O1=>r=.tup []∧O1=O'):=by
 have hfl:=lt_of_getElem? hf
 have hvl:=lt_of_getElem? hv
 have hml0:=lt_of_getElem? h0
 have hff:=hf
 unfold fcells at hff
 have hraw:(Option.map SV.enc (lookS f.vals t.arg)).getD (.agg [aI 0,aI 0,.lst 4 [] .ex,.v (.pointer none)])=rawS f.vals t.arg:=rfl
 have hspl:splice [AVal.v (.int .i64 0),.v (.int .i64 0),.lst 4 [] .ex,.v (.pointer none)] 0 (rawS f.vals t.arg).cells=(rawS f.vals t.arg).cells:=splice_full (rawS_len _ _) rfl
 have hsh:=rawS_shareCells f.vals t.arg
 have hVu:=(getS_under hu t.arg).enc_upto
 generalize getS f.vals t.arg=V at *
 rw [SV.enc_eq] at hVu
 rw [SV.enc_cells] at hsh
 refine zf true O.length Try.func72 Try.ntmps72 ?_
 dsimp only [Tmp,TypeId,slotsOf]
 refine zh1 (za0 ?_)
 refine awp_local 5 ([aI t.kind,aI t.arg,aI t.n,eIs t.cases,eEdges t.to]) [(0,.mp 2 0),(1,.mp f.fid 0),(5,.ip none [aI t.kind,aI t.arg,aI t.n,eIs t.cases,eEdges t.to])] rfl (by rfl) (by omega) (by simp [putS,dropS,Go.Av.look]) ?_ ?_ ?_
 ·exact hup
 ·simp [AVal.upto,uptoL,hfl,hml0,aI_upto,Edge.map_upto]
 refine zg1 ?_
 simp -dsimp only [simprocAttr,↓vpre,zp,hff,hv,look_ent,hraw,rawS_flat,rawS_len,hspl]
 refine⟨orderB_ren [f.fid,f.mid] O.length [.pure,.pure,.pure,.rd 0,.pure,.pure,.rd 1,.wr 2 [],.wr 3 [2]] (by simp [nfm]) (by simp;omega) rfl rfl (by kernel_rfl),at_intro ?_⟩
 simp -dsimp only [vend,ne_eq,Nat.reduceEqDiff,reduceCtorEq]
 refine awp_local 6 [aI V.kind,aI V.n,.lst 4 (V.list.map SV.enc) .sh,eP V.arr] [(0,.mp 2 0),(1,.mp f.fid 0),(5,.ip none [aI t.kind,aI t.arg,aI t.n,eIs t.cases,eEdges t.to]),(6,.ip none [aI V.kind,aI V.n,.lst 4 (V.list.map SV.enc) .sh,eP V.arr])] rfl hsh (by omega) (by simp [putS,dropS,Go.Av.look]) hup ?_ ?_
 ·simp only [uptoL,AVal.upto,true_and,and_true] at hVu
  simp [AVal.upto,uptoL,hfl,hml0,aI_upto,Edge.map_upto,hVu]
 refine zh1 (za0 ?_)
 refine awp_block ?_
 refine zh1 (za0 ?_)
 apply zk0 rfl<;>intro h
 ·exact ab h (by omega)
 refine zh1 (za0 ?_)
 apply zk0 rfl<;>intro h
 ·exact ab h (by omega)
 refine zh1 (za0 ?_)
 apply zk0 rfl<;>intro h
 ·refine zh0 ?_
  refine .inr (.inl ⟨_,_,hC,.inl (later_intro (zj ?_))⟩)
  (refine at_intro ?_;simp -dsimp only [vend,ne_eq,Nat.reduceEqDiff,reduceCtorEq])
  skip
  simp -dsimp only [simprocAttr,↓vpre,zp,zr,Try.results72,hlen,List.take_length]
  exact⟨hup',trivial⟩
 exact af h (by omega)
theorem end_type{u:Unt}{m:Mach}{O:List AObj}(hup:∀o∈O,o.upto O.length)(h0:O[2]?=some (.cells (mcells u m)))(f:Fr)(hf:O[f.fid]?=some (.cells (fcells f)))(hv:O[f.mid]?=some (.map (.int .i64) (f.vals.map ent)))
  (hu:∀e∈f.vals,SV.Under O.length e.2) (nfm:f.fid≠f.mid) (t:Term) (hk:t.kind≠0∧t.kind≠1∧t.kind≠4) (hV:(getS f.vals t.arg).kind≠0):ECall Try.prog 72 O [.mp 2 0,.mp f.fid 0,t.enc] (fun r O'=>r=.tup []∧O'=O.set 2 (.cells (mcells u (m.stop 5 0)))):=by
 have hfl:=lt_of_getElem? hf
 have hvl:=lt_of_getElem? hv
 have hml0:=lt_of_getElem? h0
 have hff:=hf
 unfold fcells at hff
 have hraw:(Option.map SV.enc (lookS f.vals t.arg)).getD (.agg [aI 0,aI 0,.lst 4 [] .ex,.v (.pointer none)])=rawS f.vals t.arg:=rfl
 have hspl:splice [AVal.v (.int .i64 0),.v (.int .i64 0),.lst 4 [] .ex,.v (.pointer none)] 0 (rawS f.vals t.arg).cells=(rawS f.vals t.arg).cells:=splice_full (rawS_len _ _) rfl
 have hsh:=rawS_shareCells f.vals t.arg
 have hVu:=(getS_under hu t.arg).enc_upto
 generalize getS f.vals t.arg=V at *
 rw [SV.enc_eq] at hVu
 rw [SV.enc_cells] at hsh
 have hstop:=stop_spec hup h0 5 0
 have hup2:=uptoO_cells hup h0 (ds:=mcells u (m.stop 5 0)) (fun h=>mcells_upto h rfl)
 have htk:=take_set_len (O:=O) (k:=2) (x:=.cells (mcells u (m.stop 5 0)))
 have hd:decide (V.kind=0)=false:=decide_eq_false hV
 refine zf true O.length Try.func72 Try.ntmps72 ?_
 dsimp only [Tmp,TypeId,slotsOf]
 refine zh1 (za0 ?_)
 refine awp_local 5 ([aI t.kind,aI t.arg,aI t.n,eIs t.cases,eEdges t.to]) [(0,.mp 2 0),(1,.mp f.fid 0),(5,.ip none [aI t.kind,aI t.arg,aI t.n,eIs t.cases,eEdges t.to])] rfl (by rfl) (by omega) (by simp [putS,dropS,Go.Av.look]) ?_ ?_ ?_
 ·exact hup
 ·simp [AVal.upto,uptoL,hfl,hml0,aI_upto,Edge.map_upto]
 refine zg1 ?_
 simp -dsimp only [simprocAttr,↓vpre,zp,hff,hv,look_ent,hraw,rawS_flat,rawS_len,hspl]
 refine⟨orderB_ren [f.fid,f.mid] O.length [.pure,.pure,.pure,.rd 0,.pure,.pure,.rd 1,.wr 2 [],.wr 3 [2]] (by simp [nfm]) (by simp;omega) rfl rfl (by kernel_rfl),at_intro ?_⟩
 simp -dsimp only [vend,ne_eq,Nat.reduceEqDiff,reduceCtorEq]
 refine awp_local 6 [aI V.kind,aI V.n,.lst 4 (V.list.map SV.enc) .sh,eP V.arr] [(0,.mp 2 0),(1,.mp f.fid 0),(5,.ip none [aI t.kind,aI t.arg,aI t.n,eIs t.cases,eEdges t.to]),(6,.ip none [aI V.kind,aI V.n,.lst 4 (V.list.map SV.enc) .sh,eP V.arr])] rfl hsh (by omega) (by simp [putS,dropS,Go.Av.look]) hup ?_ ?_
 ·simp only [uptoL,AVal.upto,true_and,and_true] at hVu
  simp [AVal.upto,uptoL,hfl,hml0,aI_upto,Edge.map_upto,hVu]
 refine zh1 (za0 ?_)
 refine awp_block ?_
 refine zh1 (za0 ?_)
 apply zk0 rfl<;>intro h
 ·exact ab h (by omega)
 refine zh1 (za0 ?_)
 apply zk0 rfl<;>intro h
 ·exact ab h (by omega)
 refine zh1 (za0 ?_)
 apply zk0 rfl<;>intro h
 ·exact ab h (by omega)
 refine zg2 ?_
 simp -dsimp only [simprocAttr,↓vpre,zp,hd]
 refine za0 ?_
 refine zw0 rfl ?_
 refine zh1 ?_
 refine .inr (.inl ⟨_,_,hstop,.inl (later_intro (zj ?_))⟩)
 refine za0 ?_
 refine awp_ret ?_
 simp -dsimp only [simprocAttr,↓vpre,zp,zr,Try.results72,htk,List.length_set]
 exact⟨hup2,trivial⟩
theorem end_choice{u:Unt}{m:Mach}{O:List AObj}(hup:∀o∈O,o.upto O.length)(h0:O[2]?=some (.cells (mcells u m)))(f:Fr)(hf:O[f.fid]?=some (.cells (fcells f)))(hv:O[f.mid]?=some (.map (.int .i64) (f.vals.map ent)))
  (hu:∀e∈f.vals,SV.Under O.length e.2) (nfm:f.fid≠f.mid) (t:Term) (hk:t.kind≠0∧t.kind≠1∧t.kind≠4) (hV:(getS f.vals t.arg).kind=0) (hcl:t.cases.length≤2 ^ 60) (e:Edge) (he:t.to[choiceM t (getS f.vals t.arg).n]?=some e) {O':List AObj} (hC:ECall Try.prog 92 O [.mp 2 0,.mp f.fid 0,e.enc] (fun r O1=>r=.tup []∧O1=O')) (hlen:O.length=O'.length) (hup':∀o∈O',o.upto O'.length):ECall Try.prog 72 O [.mp 2 0,.mp f.fid 0,t.enc] (fun r O1=>r=.tup []∧O1=O'):=by
 have hfl:=lt_of_getElem? hf
 have hvl:=lt_of_getElem? hv
 have hml0:=lt_of_getElem? h0
 have hff:=hf
 unfold fcells at hff
 have hraw:(Option.map SV.enc (lookS f.vals t.arg)).getD (.agg [aI 0,aI 0,.lst 4 [] .ex,.v (.pointer none)])=rawS f.vals t.arg:=rfl
 have hspl:splice [AVal.v (.int .i64 0),.v (.int .i64 0),.lst 4 [] .ex,.v (.pointer none)] 0 (rawS f.vals t.arg).cells=(rawS f.vals t.arg).cells:=splice_full (rawS_len _ _) rfl
 have hsh:=rawS_shareCells f.vals t.arg
 have hVu:=(getS_under hu t.arg).enc_upto
 generalize getS f.vals t.arg=V at *
 rw [SV.enc_eq] at hVu
 rw [SV.enc_cells] at hsh
 have hch:=choice_spec t V.n hcl
 generalize choiceM t V.n=q at *
 have hd:decide (V.kind=0)=true:=decide_eq_true hV
 refine zf true O.length Try.func72 Try.ntmps72 ?_
 dsimp only [Tmp,TypeId,slotsOf]
 refine zh1 (za0 ?_)
 refine awp_local 5 ([aI t.kind,aI t.arg,aI t.n,eIs t.cases,eEdges t.to]) [(0,.mp 2 0),(1,.mp f.fid 0),(5,.ip none [aI t.kind,aI t.arg,aI t.n,eIs t.cases,eEdges t.to])] rfl (by rfl) (by omega) (by simp [putS,dropS,Go.Av.look]) ?_ ?_ ?_
 ·exact hup
 ·simp [AVal.upto,uptoL,hfl,hml0,aI_upto,Edge.map_upto]
 refine zg1 ?_
 simp -dsimp only [simprocAttr,↓vpre,zp,hff,hv,look_ent,hraw,rawS_flat,rawS_len,hspl]
 refine⟨orderB_ren [f.fid,f.mid] O.length [.pure,.pure,.pure,.rd 0,.pure,.pure,.rd 1,.wr 2 [],.wr 3 [2]] (by simp [nfm]) (by simp;omega) rfl rfl (by kernel_rfl),at_intro ?_⟩
 simp -dsimp only [vend,ne_eq,Nat.reduceEqDiff,reduceCtorEq]
 refine awp_local 6 [aI V.kind,aI V.n,.lst 4 (V.list.map SV.enc) .sh,eP V.arr] [(0,.mp 2 0),(1,.mp f.fid 0),(5,.ip none [aI t.kind,aI t.arg,aI t.n,eIs t.cases,eEdges t.to]),(6,.ip none [aI V.kind,aI V.n,.lst 4 (V.list.map SV.enc) .sh,eP V.arr])] rfl hsh (by omega) (by simp [putS,dropS,Go.Av.look]) hup ?_ ?_
 ·simp only [uptoL,AVal.upto,true_and,and_true] at hVu
  simp [AVal.upto,uptoL,hfl,hml0,aI_upto,Edge.map_upto,hVu]
 refine zh1 (za0 ?_)
 refine awp_block ?_
 refine zh1 (za0 ?_)
 apply zk0 rfl<;>intro h
 ·exact ab h (by omega)
 refine zh1 (za0 ?_)
 apply zk0 rfl<;>intro h
 ·exact ab h (by omega)
 refine zh1 (za0 ?_)
 apply zk0 rfl<;>intro h
 ·exact ab h (by omega)
 refine zg2 ?_
 simp -dsimp only [simprocAttr,↓vpre,zp,hd]
 refine za0 ?_
 refine zu0 rfl ?_
 refine zb0 ?_
 refine zh0 ?_
 refine .inl ⟨_,hch,by simp only [uptoL,AVal.upto,zt,zu,aI_upto],later_intro ?_⟩
 simp -dsimp only [simprocAttr,↓vpre,zp,he]
 refine .inr (.inl ⟨_,_,hC,.inl (later_intro (zj ?_))⟩)
 refine⟨ob (by kernel_rfl),?_⟩
 (refine at_intro ?_;simp -dsimp only [vend,ne_eq,Nat.reduceEqDiff,reduceCtorEq])
 skip
 simp -dsimp only [simprocAttr,↓vpre,zp,zr,Try.results72,hlen,List.take_length]
 exact⟨hup',trivial⟩
theorem cells7(B:Block):AVal.agg [eIs B.params,eInss B.ins,aI B.term.kind,aI B.term.arg,aI B.term.n,eIs B.term.cases,eEdges B.term.to]=B.enc:=rfl
theorem step_end{u:Unt}{m:Mach}{O:List AObj}(hup:∀o∈O,o.upto O.length)(h0:O[2]?=some (.cells (mcells u m)))(f:Fr)(r:List Fr)(hfr:m.frames=f::r)(hf:O[f.fid]?=some (.cells (fcells f)))(hn0:f.fid≠2)
  {cs:List AVal} (hst:O[m.sid]?=some (.cells cs)) (hcs:cs[r.length]?=some (.mp f.fid 0)) (hrl:r.length≤2 ^ 40) (F:Func) (hF:u.fns[f.fn.toNat]?=some F) (hfn:0≤f.fn) (B:Block) (hB:F.blocks[f.blk.toNat]?=some B) (hbl:0≤f.blk) (hpos:f.pos=B.ins.length) {O':List AObj} (hC:ECall Try.prog 72 O [.mp 2 0,.mp f.fid 0,B.term.enc] (fun r O1=>r=.tup []∧O1=O')) (hlen:O.length≤O'.length) (hup':∀o∈O',o.upto O'.length) :
  ECall Try.prog 61 O [.mp 2 0] (fun r O1=>r=.tup []∧O1=O'):=by
 have hfl:=lt_of_getElem? hf
 have hml0:=lt_of_getElem? h0
 have hff:=hf
 unfold fcells at hff
 have hm0:O[2]?=some (.cells [eFuncs u.fns,aI u.main,.os m.sid (r.length+1) 1,aI m.left,.v (.bool m.short),.v (.bool m.over),.lst 1 (m.out.map aI) (.tok 3),aI m.fin,aI m.val]):=by
  rw [h0]
  unfold mcells
  rw [hfr]
  rfl
 have hr1:((r.length+1:Nat):Int) - 1=(r.length:Nat):=by omega
 refine ecall_of hT true (O'.length) Try.func61 rfl (by kernel_rfl) (by simp [Try.ntmps61]) (by assumption) ?_
 show AWP Try.prog _ _ _ ⟨137,_,_⟩
 dsimp only [Tmp,TypeId,slotsOf]
 refine zg1 ?_
 simp -dsimp only [simprocAttr,↓vpre,zp,hm0,hr1,Nat.mul_one,hst,hcs]
 repeat(refine⟨by omega,?_⟩)
 refine⟨ob (by kernel_rfl),?_⟩
 refine za0 ?_
 refine zg1 ?_
 simp -dsimp only [simprocAttr,↓vpre,zp,hm0,hff,hF,hB,cells7]
 repeat(refine⟨by omega,?_⟩)
 refine⟨orderB_ren [2,f.fid] O.length [.pure,.pure,.pure,.pure,.rd 0,.pure,.pure,.pure,.rd 1,.pure,.pure,.pure,.pure,.pure,.pure,.rd 1,.pure,.pure,.wr 2 [],.wr 3 [2]] (by simp;omega) (by simp;omega) rfl rfl (by kernel_rfl),at_intro ?_⟩
 simp -dsimp only [vend,ne_eq,Nat.reduceEqDiff,reduceCtorEq]
 refine awp_local 3 ([eIs B.params,eInss B.ins,aI B.term.kind,aI B.term.arg,aI B.term.n,eIs B.term.cases,eEdges B.term.to]) [(0,.mp 2 0),(2,.mp f.fid 0),(3,.ip none [eIs B.params,eInss B.ins,aI B.term.kind,aI B.term.arg,aI B.term.n,eIs B.term.cases,eEdges B.term.to])] rfl (by rfl) (by omega) (by simp [putS,dropS,Go.Av.look]) ?_ ?_ ?_
 ·exact hup
 ·simp [AVal.upto,uptoL,hfl,hml0,aI_upto,Edge.map_upto,Ins.map_upto]
 refine zg2 ?_
 simp -dsimp only [simprocAttr,↓vpre,zp,hff]
 refine⟨ob (by kernel_rfl),?_⟩
 refine za0 ?_
 apply zk0 rfl<;>intro h
 ·refine zh1 ?_
  refine .inr (.inl ⟨_,_,hC,.inl (later_intro (zj ?_))⟩)
  refine za0 ?_
  refine awp_ret ?_
  simp -dsimp only [simprocAttr,↓vpre,zp,zr,Try.results61,List.take_length]
  exact⟨hup',trivial⟩
 exact af h (by omega)
theorem step_call{u:Unt}{m:Mach}{O:List AObj}(hup:∀o∈O,o.upto O.length)(h0:O[2]?=some (.cells (mcells u m)))(f:Fr)(r:List Fr)(hfr:m.frames=f::r)(hf:O[f.fid]?=some (.cells (fcells f)))(hn0:f.fid≠2)
  {cs:List AVal} (hst:O[m.sid]?=some (.cells cs)) (hcs:cs[r.length]?=some (.mp f.fid 0)) (hrl:r.length≤2 ^ 40) (F:Func) (hF:u.fns[f.fn.toNat]?=some F) (hfn:0≤f.fn) (B:Block) (hB:F.blocks[f.blk.toNat]?=some B) (hbl:0≤f.blk) (hv:O[f.mid]?=some (.map (.int .i64) (f.vals.map ent))) (nfm:f.fid≠f.mid) (hu:∀e∈f.vals,SV.Under O.length e.2) (i:Ins) (hi:B.ins[f.pos]?=some i) (hpl:f.pos≤2 ^ 41) (hal:i.args.length≤4096) (f':Fr) (hf':f' = { f with pos:=f.pos+1 }) (args:List SV) (hargs:args=takeS f.vals i.args) (O1:List AObj) (hO1:O1=O.set f.fid (.cells (fcells f'))) (hop:i.op=13) {O':List AObj} (hC:ECall Try.prog 59 O1 [.mp 2 0,aI i.n,.lst 4 (args.map SV.enc) .sh,aI i.to] (fun r O2=>r=.tup []∧O2=O')) (hlen:O.length≤O'.length) (hup':∀o∈O',o.upto O'.length) :
  ECall Try.prog 61 O [.mp 2 0] (fun r O1=>r=.tup []∧O1=O'):=by
 have hfl:=lt_of_getElem? hf
 have hml0:=lt_of_getElem? h0
 have hff:=hf
 unfold fcells at hff
 have hm0:O[2]?=some (.cells [eFuncs u.fns,aI u.main,.os m.sid (r.length+1) 1,aI m.left,.v (.bool m.short),.v (.bool m.over),.lst 1 (m.out.map aI) (.tok 3),aI m.fin,aI m.val]):=by
  rw [h0]
  unfold mcells
  rw [hfr]
  rfl
 have hr1:((r.length+1:Nat):Int) - 1=(r.length:Nat):=by omega
 have hilt:=lt_of_getElem? hi
 have hs:=set_self hf
 have hlen1:O.length=O1.length:=by rw [hO1];simp
 have hc1:[aI f.fn,aI f.blk,aI ((f.pos:Int)+1),aI f.to,.mm f.mid]=fcells f':=by
  rw [hf']
  simp [fcells]
 have hf1:O1[f'.fid]?=some (.cells (fcells f')):=by rw [hO1,hf'];exact hs _
 have hv1:O1[f'.mid]?=some (.map (.int .i64) (f'.vals.map ent)):=by rw [hO1,hf'];exact at_set_ne hv nfm
 have hup1:∀o∈O1,o.upto O1.length:=by
  rw [←hlen1,hO1]
  refine uptoO_cells hup hf fun h=>?_
  simp only [fcells,uptoL,AVal.upto,true_and,and_true] at h ⊢
  rw [hf']
  exact h
 have htake:=take_spec hup1 hf1 hv1 (by rw [hf',←hlen1];exact hu) i.args hal
 have hfid:f'.fid=f.fid:=by rw [hf']
 have hvals:f'.vals=f.vals:=by rw [hf']
 rw [hfid,hvals,←hargs] at htake
 rw [hfid] at hf1
 refine ecall_of hT true (O'.length) Try.func61 rfl (by kernel_rfl) (by simp [Try.ntmps61]) (by assumption) ?_
 show AWP Try.prog _ _ _ ⟨137,_,_⟩
 dsimp only [Tmp,TypeId,slotsOf]
 refine zg1 ?_
 simp -dsimp only [simprocAttr,↓vpre,zp,hm0,hr1,Nat.mul_one,hst,hcs]
 repeat(refine⟨by omega,?_⟩)
 refine⟨ob (by kernel_rfl),?_⟩
 refine za0 ?_
 refine zg1 ?_
 simp -dsimp only [simprocAttr,↓vpre,zp,hm0,hff,hF,hB,cells7]
 repeat(refine⟨by omega,?_⟩)
 refine⟨orderB_ren [2,f.fid] O.length [.pure,.pure,.pure,.pure,.rd 0,.pure,.pure,.pure,.rd 1,.pure,.pure,.pure,.pure,.pure,.pure,.rd 1,.pure,.pure,.wr 2 [],.wr 3 [2]] (by simp;omega) (by simp;omega) rfl rfl (by kernel_rfl),at_intro ?_⟩
 simp -dsimp only [vend,ne_eq,Nat.reduceEqDiff,reduceCtorEq]
 refine awp_local 3 ([eIs B.params,eInss B.ins,aI B.term.kind,aI B.term.arg,aI B.term.n,eIs B.term.cases,eEdges B.term.to]) [(0,.mp 2 0),(2,.mp f.fid 0),(3,.ip none [eIs B.params,eInss B.ins,aI B.term.kind,aI B.term.arg,aI B.term.n,eIs B.term.cases,eEdges B.term.to])] rfl (by rfl) (by omega) (by simp [putS,dropS,Go.Av.look]) ?_ ?_ ?_
 ·exact hup
 ·simp [AVal.upto,uptoL,hfl,hml0,aI_upto,Edge.map_upto,Ins.map_upto]
 refine zg2 ?_
 simp -dsimp only [simprocAttr,↓vpre,zp,hff]
 refine⟨ob (by kernel_rfl),?_⟩
 refine za0 ?_
 apply zk0 rfl<;>intro h
 ·exact ab h (by omega)
 refine zb0 ?_
 refine zg1 ?_
 simp -dsimp only [simprocAttr,↓vpre,zp,hff,hi,Int.toNat_natCast]
 repeat(refine⟨by omega,?_⟩)
 refine⟨orderB_ren [f.fid] O.length [.pure,.pure,.pure,.pure,.pure,.rd 0,.pure,.pure,.wr 1 [],.wr 2 [1]] (by simp) (by simp;omega) rfl rfl (by kernel_rfl),at_intro ?_⟩
 simp -dsimp only [vend,ne_eq,Nat.reduceEqDiff,reduceCtorEq]
 refine awp_local 4 ([aI i.to,aI i.op,aI i.n,eIs i.args]) [(0,.mp 2 0),(2,.mp f.fid 0),(4,.ip none [aI i.to,aI i.op,aI i.n,eIs i.args])] rfl (by rfl) (by omega) (by simp [putS,dropS,Go.Av.look]) ?_ ?_ ?_
 ·exact hup
 ·simp [AVal.upto,uptoL,hfl,hml0,aI_upto]
 refine zg1 ?_
 simp -dsimp only [simprocAttr,↓vpre,zp,hff,hs,hc1,←hO1]
 repeat(refine⟨by omega,?_⟩)
 refine za0 ?_
 refine zh1 ?_
 refine .inr (.inr ⟨_,htake,later_intro (zj ?_)⟩)
 refine za0 ?_
 refine zh1 (za0 ?_)
 refine awp_block ?_
 refine zh1 (za0 ?_)
 apply zk0 rfl<;>intro h
 ·refine zh0 ?_
  refine .inr (.inl ⟨_,_,hC,.inl (later_intro (zj ?_))⟩)
  (refine at_intro ?_;simp -dsimp only [vend,ne_eq,Nat.reduceEqDiff,reduceCtorEq])
  skip
  simp -dsimp only [simprocAttr,↓vpre,zp,zr,Try.results61,List.take_length]
  exact⟨hup',trivial⟩
 exact af h (by omega)
theorem step_app{u:Unt}{m:Mach}{O:List AObj}(hup:∀o∈O,o.upto O.length)(h0:O[2]?=some (.cells (mcells u m)))(f:Fr)(r:List Fr)(hfr:m.frames=f::r)(hf:O[f.fid]?=some (.cells (fcells f)))(hn0:f.fid≠2)
  {cs:List AVal} (hst:O[m.sid]?=some (.cells cs)) (hcs:cs[r.length]?=some (.mp f.fid 0)) (hrl:r.length≤2 ^ 40) (F:Func) (hF:u.fns[f.fn.toNat]?=some F) (hfn:0≤f.fn) (B:Block) (hB:F.blocks[f.blk.toNat]?=some B) (hbl:0≤f.blk) (hv:O[f.mid]?=some (.map (.int .i64) (f.vals.map ent))) (nfm:f.fid≠f.mid) (hu:∀e∈f.vals,SV.Under O.length e.2) (i:Ins) (hi:B.ins[f.pos]?=some i) (hpl:f.pos≤2 ^ 41) (hal:i.args.length≤4096) (f':Fr) (hf':f' = { f with pos:=f.pos+1 }) (args:List SV) (hargs:args=takeS f.vals i.args) (O1:List AObj) (hO1:O1=O.set f.fid (.cells (fcells f'))) (hop:i.op=14) (c:SV) (hcv:args[0]?=some c) (hk:c.kind=2) (hcn:0≤c.n) (G:Func) (hG:u.fns[c.n.toNat]?=some G) (D:Block) (hD:G.blocks[0]?=some D) (hpn:D.params.length=args.length) (huA:∀v∈args,SV.Under O1.length v) {O':List AObj} (hC:ECall Try.prog 59 O1 [.mp 2 0,aI c.n,.lst 4 (args.map SV.enc) .sh,aI i.to] (fun r O2=>r=.tup []∧O2=O')) (hlen:O.length≤O'.length) (hup':∀o∈O',o.upto O'.length) (hm1:O1[2]?=some (.cells (mcells u m))) :
  ECall Try.prog 61 O [.mp 2 0] (fun r O1=>r=.tup []∧O1=O'):=by
 have hfl:=lt_of_getElem? hf
 have hml0:=lt_of_getElem? h0
 have hff:=hf
 unfold fcells at hff
 have hm0:O[2]?=some (.cells [eFuncs u.fns,aI u.main,.os m.sid (r.length+1) 1,aI m.left,.v (.bool m.short),.v (.bool m.over),.lst 1 (m.out.map aI) (.tok 3),aI m.fin,aI m.val]):=by
  rw [h0]
  unfold mcells
  rw [hfr]
  rfl
 have hr1:((r.length+1:Nat):Int) - 1=(r.length:Nat):=by omega
 have hilt:=lt_of_getElem? hi
 have hs:=set_self hf
 have hlen1:O.length=O1.length:=by rw [hO1];simp
 have hc1:[aI f.fn,aI f.blk,aI ((f.pos:Int)+1),aI f.to,.mm f.mid]=fcells f':=by
  rw [hf']
  simp [fcells]
 have hf1:O1[f'.fid]?=some (.cells (fcells f')):=by rw [hO1,hf'];exact hs _
 have hv1:O1[f'.mid]?=some (.map (.int .i64) (f'.vals.map ent)):=by rw [hO1,hf'];exact at_set_ne hv nfm
 have hup1:∀o∈O1,o.upto O1.length:=by
  rw [←hlen1,hO1]
  refine uptoO_cells hup hf fun h=>?_
  simp only [fcells,uptoL,AVal.upto,true_and,and_true] at h ⊢
  rw [hf']
  exact h
 have htake:=take_spec hup1 hf1 hv1 (by rw [hf',←hlen1];exact hu) i.args hal
 have hfid:f'.fid=f.fid:=by rw [hf']
 have hvals:f'.vals=f.vals:=by rw [hf']
 rw [hfid,hvals,←hargs] at htake
 rw [hfid] at hf1
 unfold mcells at hm1
 have hd:decide (c.kind=2)=true:=decide_eq_true hk
 have hd2:decide ((D.params.length:Int)=args.length)=true:=decide_eq_true (by omega)
 refine ecall_of hT true (O'.length) Try.func61 rfl (by kernel_rfl) (by simp [Try.ntmps61]) (by assumption) ?_
 show AWP Try.prog _ _ _ ⟨137,_,_⟩
 dsimp only [Tmp,TypeId,slotsOf]
 refine zg1 ?_
 simp -dsimp only [simprocAttr,↓vpre,zp,hm0,hr1,Nat.mul_one,hst,hcs]
 repeat(refine⟨by omega,?_⟩)
 refine⟨ob (by kernel_rfl),?_⟩
 refine za0 ?_
 refine zg1 ?_
 simp -dsimp only [simprocAttr,↓vpre,zp,hm0,hff,hF,hB,cells7]
 repeat(refine⟨by omega,?_⟩)
 refine⟨orderB_ren [2,f.fid] O.length [.pure,.pure,.pure,.pure,.rd 0,.pure,.pure,.pure,.rd 1,.pure,.pure,.pure,.pure,.pure,.pure,.rd 1,.pure,.pure,.wr 2 [],.wr 3 [2]] (by simp;omega) (by simp;omega) rfl rfl (by kernel_rfl),at_intro ?_⟩
 simp -dsimp only [vend,ne_eq,Nat.reduceEqDiff,reduceCtorEq]
 refine awp_local 3 ([eIs B.params,eInss B.ins,aI B.term.kind,aI B.term.arg,aI B.term.n,eIs B.term.cases,eEdges B.term.to]) [(0,.mp 2 0),(2,.mp f.fid 0),(3,.ip none [eIs B.params,eInss B.ins,aI B.term.kind,aI B.term.arg,aI B.term.n,eIs B.term.cases,eEdges B.term.to])] rfl (by rfl) (by omega) (by simp [putS,dropS,Go.Av.look]) ?_ ?_ ?_
 ·exact hup
 ·simp [AVal.upto,uptoL,hfl,hml0,aI_upto,Edge.map_upto,Ins.map_upto]
 refine zg2 ?_
 simp -dsimp only [simprocAttr,↓vpre,zp,hff]
 refine⟨ob (by kernel_rfl),?_⟩
 refine za0 ?_
 apply zk0 rfl<;>intro h
 ·exact ab h (by omega)
 refine zb0 ?_
 refine zg1 ?_
 simp -dsimp only [simprocAttr,↓vpre,zp,hff,hi,Int.toNat_natCast]
 repeat(refine⟨by omega,?_⟩)
 refine⟨orderB_ren [f.fid] O.length [.pure,.pure,.pure,.pure,.pure,.rd 0,.pure,.pure,.wr 1 [],.wr 2 [1]] (by simp) (by simp;omega) rfl rfl (by kernel_rfl),at_intro ?_⟩
 simp -dsimp only [vend,ne_eq,Nat.reduceEqDiff,reduceCtorEq]
 refine awp_local 4 ([aI i.to,aI i.op,aI i.n,eIs i.args]) [(0,.mp 2 0),(2,.mp f.fid 0),(4,.ip none [aI i.to,aI i.op,aI i.n,eIs i.args])] rfl (by rfl) (by omega) (by simp [putS,dropS,Go.Av.look]) ?_ ?_ ?_
 ·exact hup
 ·simp [AVal.upto,uptoL,hfl,hml0,aI_upto]
 refine zg1 ?_
 simp -dsimp only [simprocAttr,↓vpre,zp,hff,hs,hc1,←hO1]
 repeat(refine⟨by omega,?_⟩)
 refine za0 ?_
 refine zh1 ?_
 refine .inr (.inr ⟨_,htake,later_intro (zj ?_)⟩)
 refine za0 ?_
 refine zh1 (za0 ?_)
 refine awp_block ?_
 refine zh1 (za0 ?_)
 apply zk0 rfl<;>intro h
 ·exact ab h (by omega)
 refine zh1 (za0 ?_)
 apply zk0 rfl<;>intro h
 ·refine zg1 ?_
  simp -dsimp only [simprocAttr,↓vpre,zp,hcv]
  refine za0 ?_
  refine awp_local 6 [aI c.kind,aI c.n,.lst 4 (c.list.map SV.enc) .sh,eP c.arr] [(0,.mp 2 0),(2,.mp f.fid 0),(4,.ip none [aI i.to,aI i.op,aI i.n,eIs i.args]),(5,.lst 4 (args.map SV.enc) .sh),(6,.ip none [aI c.kind,aI c.n,.lst 4 (c.list.map SV.enc) .sh,eP c.arr])] rfl (by simp only [List.map_cons,List.map_nil,shareCell_v,shareCell_lst,eP_shareCell]) (by omega) (by simp [putS,dropS,Go.Av.look]) hup1 ?_ ?_
  ·have hcu:=(huA c (List.mem_of_getElem? hcv)).enc_upto
   rw [SV.enc_eq] at hcu
   simp only [uptoL,AVal.upto,true_and,and_true] at hcu
   have hmu:=SV.map_upto huA
   simp [AVal.upto,uptoL,←hlen1,hfl,hml0,aI_upto,hcu,hmu]
   simp [hlen1,hcu,hmu]
  refine zg1 ?_
  simp -dsimp only [simprocAttr,↓vpre,zp,hd,hm1,hG,hD,hd2]
  repeat(refine⟨by omega,?_⟩)
  refine⟨ob (by kernel_rfl),?_⟩
  refine za0 ?_
  refine zw0 rfl ?_
  refine zh0 ?_
  refine .inr (.inl ⟨_,_,hC,.inl (later_intro (zj ?_))⟩)
  (refine at_intro ?_;simp -dsimp only [vend,ne_eq,Nat.reduceEqDiff,reduceCtorEq])
  skip
  simp -dsimp only [simprocAttr,↓vpre,zp,zr,Try.results61,List.take_length]
  exact⟨hup',trivial⟩
 exact af h (by omega)
theorem step_app_kind{u:Unt}{m:Mach}{O:List AObj}(hup:∀o∈O,o.upto O.length)(h0:O[2]?=some (.cells (mcells u m)))(f:Fr)(r:List Fr)(hfr:m.frames=f::r)(hf:O[f.fid]?=some (.cells (fcells f)))(hn0:f.fid≠2)
  {cs:List AVal} (hst:O[m.sid]?=some (.cells cs)) (hcs:cs[r.length]?=some (.mp f.fid 0)) (hrl:r.length≤2 ^ 40) (F:Func) (hF:u.fns[f.fn.toNat]?=some F) (hfn:0≤f.fn) (B:Block) (hB:F.blocks[f.blk.toNat]?=some B) (hbl:0≤f.blk) (hv:O[f.mid]?=some (.map (.int .i64) (f.vals.map ent))) (nfm:f.fid≠f.mid) (hu:∀e∈f.vals,SV.Under O.length e.2) (i:Ins) (hi:B.ins[f.pos]?=some i) (hpl:f.pos≤2 ^ 41) (hal:i.args.length≤4096) (f':Fr) (hf':f' = { f with pos:=f.pos+1 }) (args:List SV) (hargs:args=takeS f.vals i.args) (O1:List AObj) (hO1:O1=O.set f.fid (.cells (fcells f'))) (hop:i.op=14) (c:SV) (hcv:args[0]?=some c) (hk:c.kind≠2) (huA:∀v∈args,SV.Under O1.length v) (hm1:O1[2]?=some (.cells (mcells u m))) :
  ECall Try.prog 61 O [.mp 2 0] (fun r O2=>r=.tup []∧O2=O1.set 2 (.cells (mcells u (m.stop 5 0)))):=by
 have hfl:=lt_of_getElem? hf
 have hml0:=lt_of_getElem? h0
 have hff:=hf
 unfold fcells at hff
 have hm0:O[2]?=some (.cells [eFuncs u.fns,aI u.main,.os m.sid (r.length+1) 1,aI m.left,.v (.bool m.short),.v (.bool m.over),.lst 1 (m.out.map aI) (.tok 3),aI m.fin,aI m.val]):=by
  rw [h0]
  unfold mcells
  rw [hfr]
  rfl
 have hr1:((r.length+1:Nat):Int) - 1=(r.length:Nat):=by omega
 have hilt:=lt_of_getElem? hi
 have hs:=set_self hf
 have hlen1:O.length=O1.length:=by rw [hO1];simp
 have hc1:[aI f.fn,aI f.blk,aI ((f.pos:Int)+1),aI f.to,.mm f.mid]=fcells f':=by
  rw [hf']
  simp [fcells]
 have hf1:O1[f'.fid]?=some (.cells (fcells f')):=by rw [hO1,hf'];exact hs _
 have hv1:O1[f'.mid]?=some (.map (.int .i64) (f'.vals.map ent)):=by rw [hO1,hf'];exact at_set_ne hv nfm
 have hup1:∀o∈O1,o.upto O1.length:=by
  rw [←hlen1,hO1]
  refine uptoO_cells hup hf fun h=>?_
  simp only [fcells,uptoL,AVal.upto,true_and,and_true] at h ⊢
  rw [hf']
  exact h
 have htake:=take_spec hup1 hf1 hv1 (by rw [hf',←hlen1];exact hu) i.args hal
 have hfid:f'.fid=f.fid:=by rw [hf']
 have hvals:f'.vals=f.vals:=by rw [hf']
 rw [hfid,hvals,←hargs] at htake
 rw [hfid] at hf1
 have hkk:O.length≤O.length:=Nat.le_refl _
 have hstop:=stop_spec hup1 hm1 5 0
 have hup2:=uptoO_cells hup1 hm1 (ds:=mcells u (m.stop 5 0)) (fun h=>mcells_upto h rfl)
 have htk:=take_set_len (O:=O1) (k:=2) (x:=.cells (mcells u (m.stop 5 0)))
 unfold mcells at hm1
 have hd:decide (c.kind=2)=false:=decide_eq_false hk
 refine ecall_of hT true (O.length) Try.func61 rfl (by kernel_rfl) (by simp [Try.ntmps61]) (by assumption) ?_
 show AWP Try.prog _ _ _ ⟨137,_,_⟩
 dsimp only [Tmp,TypeId,slotsOf]
 refine zg1 ?_
 simp -dsimp only [simprocAttr,↓vpre,zp,hm0,hr1,Nat.mul_one,hst,hcs]
 repeat(refine⟨by omega,?_⟩)
 refine⟨ob (by kernel_rfl),?_⟩
 refine za0 ?_
 refine zg1 ?_
 simp -dsimp only [simprocAttr,↓vpre,zp,hm0,hff,hF,hB,cells7]
 repeat(refine⟨by omega,?_⟩)
 refine⟨orderB_ren [2,f.fid] O.length [.pure,.pure,.pure,.pure,.rd 0,.pure,.pure,.pure,.rd 1,.pure,.pure,.pure,.pure,.pure,.pure,.rd 1,.pure,.pure,.wr 2 [],.wr 3 [2]] (by simp;omega) (by simp;omega) rfl rfl (by kernel_rfl),at_intro ?_⟩
 simp -dsimp only [vend,ne_eq,Nat.reduceEqDiff,reduceCtorEq]
 refine awp_local 3 ([eIs B.params,eInss B.ins,aI B.term.kind,aI B.term.arg,aI B.term.n,eIs B.term.cases,eEdges B.term.to]) [(0,.mp 2 0),(2,.mp f.fid 0),(3,.ip none [eIs B.params,eInss B.ins,aI B.term.kind,aI B.term.arg,aI B.term.n,eIs B.term.cases,eEdges B.term.to])] rfl (by rfl) (by omega) (by simp [putS,dropS,Go.Av.look]) ?_ ?_ ?_
 ·exact hup
 ·simp [AVal.upto,uptoL,hfl,hml0,aI_upto,Edge.map_upto,Ins.map_upto]
 refine zg2 ?_
 simp -dsimp only [simprocAttr,↓vpre,zp,hff]
 refine⟨ob (by kernel_rfl),?_⟩
 refine za0 ?_
 apply zk0 rfl<;>intro h
 ·exact ab h (by omega)
 refine zb0 ?_
 refine zg1 ?_
 simp -dsimp only [simprocAttr,↓vpre,zp,hff,hi,Int.toNat_natCast]
 repeat(refine⟨by omega,?_⟩)
 refine⟨orderB_ren [f.fid] O.length [.pure,.pure,.pure,.pure,.pure,.rd 0,.pure,.pure,.wr 1 [],.wr 2 [1]] (by simp) (by simp;omega) rfl rfl (by kernel_rfl),at_intro ?_⟩
 simp -dsimp only [vend,ne_eq,Nat.reduceEqDiff,reduceCtorEq]
 refine awp_local 4 ([aI i.to,aI i.op,aI i.n,eIs i.args]) [(0,.mp 2 0),(2,.mp f.fid 0),(4,.ip none [aI i.to,aI i.op,aI i.n,eIs i.args])] rfl (by rfl) (by omega) (by simp [putS,dropS,Go.Av.look]) ?_ ?_ ?_
 ·exact hup
 ·simp [AVal.upto,uptoL,hfl,hml0,aI_upto]
 refine zg1 ?_
 simp -dsimp only [simprocAttr,↓vpre,zp,hff,hs,hc1,←hO1]
 repeat(refine⟨by omega,?_⟩)
 refine za0 ?_
 refine zh1 ?_
 refine .inr (.inr ⟨_,htake,later_intro (zj ?_)⟩)
 refine za0 ?_
 refine zh1 (za0 ?_)
 refine awp_block ?_
 refine zh1 (za0 ?_)
 apply zk0 rfl<;>intro h
 ·exact ab h (by omega)
 refine zh1 (za0 ?_)
 apply zk0 rfl<;>intro h
 ·refine zg1 ?_
  simp -dsimp only [simprocAttr,↓vpre,zp,hcv]
  refine za0 ?_
  refine awp_local 6 [aI c.kind,aI c.n,.lst 4 (c.list.map SV.enc) .sh,eP c.arr] [(0,.mp 2 0),(2,.mp f.fid 0),(4,.ip none [aI i.to,aI i.op,aI i.n,eIs i.args]),(5,.lst 4 (args.map SV.enc) .sh),(6,.ip none [aI c.kind,aI c.n,.lst 4 (c.list.map SV.enc) .sh,eP c.arr])] rfl (by simp only [List.map_cons,List.map_nil,shareCell_v,shareCell_lst,eP_shareCell]) (by omega) (by simp [putS,dropS,Go.Av.look]) hup1 ?_ ?_
  ·have hcu:=(huA c (List.mem_of_getElem? hcv)).enc_upto
   rw [SV.enc_eq] at hcu
   simp only [uptoL,AVal.upto,true_and,and_true] at hcu
   have hmu:=SV.map_upto huA
   simp [AVal.upto,uptoL,←hlen1,hfl,hml0,aI_upto,hcu,hmu]
   simp [hlen1,hcu,hmu]
  refine zg1 ?_
  simp -dsimp only [simprocAttr,↓vpre,zp,hd]
  repeat(refine⟨by omega,?_⟩)
  refine⟨ob (by kernel_rfl),?_⟩
  refine za0 ?_
  refine zu0 rfl ?_
  refine zh0 ?_
  refine .inr (.inl ⟨_,_,hstop,.inl (later_intro ?_)⟩)
  simp -dsimp only [simprocAttr,↓vpre,zp,hlen1]
  (refine at_intro ?_;simp -dsimp only [vend,ne_eq,Nat.reduceEqDiff,reduceCtorEq])
  skip
  simp -dsimp only [simprocAttr,↓vpre,zp,zr,Try.results61,htk,List.length_set,hlen1]
  exact⟨hup2,trivial⟩
 exact af h (by omega)
theorem step_app_len{u:Unt}{m:Mach}{O:List AObj}(hup:∀o∈O,o.upto O.length)(h0:O[2]?=some (.cells (mcells u m)))(f:Fr)(r:List Fr)(hfr:m.frames=f::r)(hf:O[f.fid]?=some (.cells (fcells f)))(hn0:f.fid≠2)
  {cs:List AVal} (hst:O[m.sid]?=some (.cells cs)) (hcs:cs[r.length]?=some (.mp f.fid 0)) (hrl:r.length≤2 ^ 40) (F:Func) (hF:u.fns[f.fn.toNat]?=some F) (hfn:0≤f.fn) (B:Block) (hB:F.blocks[f.blk.toNat]?=some B) (hbl:0≤f.blk) (hv:O[f.mid]?=some (.map (.int .i64) (f.vals.map ent))) (nfm:f.fid≠f.mid) (hu:∀e∈f.vals,SV.Under O.length e.2) (i:Ins) (hi:B.ins[f.pos]?=some i) (hpl:f.pos≤2 ^ 41) (hal:i.args.length≤4096) (f':Fr) (hf':f' = { f with pos:=f.pos+1 }) (args:List SV) (hargs:args=takeS f.vals i.args) (O1:List AObj) (hO1:O1=O.set f.fid (.cells (fcells f'))) (hop:i.op=14) (c:SV) (hcv:args[0]?=some c) (hk:c.kind=2) (hcn:0≤c.n) (G:Func) (hG:u.fns[c.n.toNat]?=some G) (D:Block) (hD:G.blocks[0]?=some D) (hpn:D.params.length≠args.length) (huA:∀v∈args,SV.Under O1.length v) (hm1:O1[2]?=some (.cells (mcells u m))) :
  ECall Try.prog 61 O [.mp 2 0] (fun r O2=>r=.tup []∧O2=O1.set 2 (.cells (mcells u (m.stop 5 0)))):=by
 have hfl:=lt_of_getElem? hf
 have hml0:=lt_of_getElem? h0
 have hff:=hf
 unfold fcells at hff
 have hm0:O[2]?=some (.cells [eFuncs u.fns,aI u.main,.os m.sid (r.length+1) 1,aI m.left,.v (.bool m.short),.v (.bool m.over),.lst 1 (m.out.map aI) (.tok 3),aI m.fin,aI m.val]):=by
  rw [h0]
  unfold mcells
  rw [hfr]
  rfl
 have hr1:((r.length+1:Nat):Int) - 1=(r.length:Nat):=by omega
 have hilt:=lt_of_getElem? hi
 have hs:=set_self hf
 have hlen1:O.length=O1.length:=by rw [hO1];simp
 have hc1:[aI f.fn,aI f.blk,aI ((f.pos:Int)+1),aI f.to,.mm f.mid]=fcells f':=by
  rw [hf']
  simp [fcells]
 have hf1:O1[f'.fid]?=some (.cells (fcells f')):=by rw [hO1,hf'];exact hs _
 have hv1:O1[f'.mid]?=some (.map (.int .i64) (f'.vals.map ent)):=by rw [hO1,hf'];exact at_set_ne hv nfm
 have hup1:∀o∈O1,o.upto O1.length:=by
  rw [←hlen1,hO1]
  refine uptoO_cells hup hf fun h=>?_
  simp only [fcells,uptoL,AVal.upto,true_and,and_true] at h ⊢
  rw [hf']
  exact h
 have htake:=take_spec hup1 hf1 hv1 (by rw [hf',←hlen1];exact hu) i.args hal
 have hfid:f'.fid=f.fid:=by rw [hf']
 have hvals:f'.vals=f.vals:=by rw [hf']
 rw [hfid,hvals,←hargs] at htake
 rw [hfid] at hf1
 have hkk:O.length≤O.length:=Nat.le_refl _
 have hstop:=stop_spec hup1 hm1 5 0
 have hup2:=uptoO_cells hup1 hm1 (ds:=mcells u (m.stop 5 0)) (fun h=>mcells_upto h rfl)
 have htk:=take_set_len (O:=O1) (k:=2) (x:=.cells (mcells u (m.stop 5 0)))
 unfold mcells at hm1
 have hd:decide (c.kind=2)=true:=decide_eq_true hk
 have hd2:decide ((D.params.length:Int)=args.length)=false:=decide_eq_false (by omega)
 refine ecall_of hT true (O.length) Try.func61 rfl (by kernel_rfl) (by simp [Try.ntmps61]) (by assumption) ?_
 show AWP Try.prog _ _ _ ⟨137,_,_⟩
 dsimp only [Tmp,TypeId,slotsOf]
 refine zg1 ?_
 simp -dsimp only [simprocAttr,↓vpre,zp,hm0,hr1,Nat.mul_one,hst,hcs]
 repeat(refine⟨by omega,?_⟩)
 refine⟨ob (by kernel_rfl),?_⟩
 refine za0 ?_
 refine zg1 ?_
 simp -dsimp only [simprocAttr,↓vpre,zp,hm0,hff,hF,hB,cells7]
 repeat(refine⟨by omega,?_⟩)
 refine⟨orderB_ren [2,f.fid] O.length [.pure,.pure,.pure,.pure,.rd 0,.pure,.pure,.pure,.rd 1,.pure,.pure,.pure,.pure,.pure,.pure,.rd 1,.pure,.pure,.wr 2 [],.wr 3 [2]] (by simp;omega) (by simp;omega) rfl rfl (by kernel_rfl),at_intro ?_⟩
 simp -dsimp only [vend,ne_eq,Nat.reduceEqDiff,reduceCtorEq]
 refine awp_local 3 ([eIs B.params,eInss B.ins,aI B.term.kind,aI B.term.arg,aI B.term.n,eIs B.term.cases,eEdges B.term.to]) [(0,.mp 2 0),(2,.mp f.fid 0),(3,.ip none [eIs B.params,eInss B.ins,aI B.term.kind,aI B.term.arg,aI B.term.n,eIs B.term.cases,eEdges B.term.to])] rfl (by rfl) (by omega) (by simp [putS,dropS,Go.Av.look]) ?_ ?_ ?_
 ·exact hup
 ·simp [AVal.upto,uptoL,hfl,hml0,aI_upto,Edge.map_upto,Ins.map_upto]
 refine zg2 ?_
 simp -dsimp only [simprocAttr,↓vpre,zp,hff]
 refine⟨ob (by kernel_rfl),?_⟩
 refine za0 ?_
 apply zk0 rfl<;>intro h
 ·exact ab h (by omega)
 refine zb0 ?_
 refine zg1 ?_
 simp -dsimp only [simprocAttr,↓vpre,zp,hff,hi,Int.toNat_natCast]
 repeat(refine⟨by omega,?_⟩)
 refine⟨orderB_ren [f.fid] O.length [.pure,.pure,.pure,.pure,.pure,.rd 0,.pure,.pure,.wr 1 [],.wr 2 [1]] (by simp) (by simp;omega) rfl rfl (by kernel_rfl),at_intro ?_⟩
 simp -dsimp only [vend,ne_eq,Nat.reduceEqDiff,reduceCtorEq]
 refine awp_local 4 ([aI i.to,aI i.op,aI i.n,eIs i.args]) [(0,.mp 2 0),(2,.mp f.fid 0),(4,.ip none [aI i.to,aI i.op,aI i.n,eIs i.args])] rfl (by rfl) (by omega) (by simp [putS,dropS,Go.Av.look]) ?_ ?_ ?_
 ·exact hup
 ·simp [AVal.upto,uptoL,hfl,hml0,aI_upto]
 refine zg1 ?_
 simp -dsimp only [simprocAttr,↓vpre,zp,hff,hs,hc1,←hO1]
 repeat(refine⟨by omega,?_⟩)
 refine za0 ?_
 refine zh1 ?_
 refine .inr (.inr ⟨_,htake,later_intro (zj ?_)⟩)
 refine za0 ?_
 refine zh1 (za0 ?_)
 refine awp_block ?_
 refine zh1 (za0 ?_)
 apply zk0 rfl<;>intro h
 ·exact ab h (by omega)
 refine zh1 (za0 ?_)
 apply zk0 rfl<;>intro h
 ·refine zg1 ?_
  simp -dsimp only [simprocAttr,↓vpre,zp,hcv]
  refine za0 ?_
  refine awp_local 6 [aI c.kind,aI c.n,.lst 4 (c.list.map SV.enc) .sh,eP c.arr] [(0,.mp 2 0),(2,.mp f.fid 0),(4,.ip none [aI i.to,aI i.op,aI i.n,eIs i.args]),(5,.lst 4 (args.map SV.enc) .sh),(6,.ip none [aI c.kind,aI c.n,.lst 4 (c.list.map SV.enc) .sh,eP c.arr])] rfl (by simp only [List.map_cons,List.map_nil,shareCell_v,shareCell_lst,eP_shareCell]) (by omega) (by simp [putS,dropS,Go.Av.look]) hup1 ?_ ?_
  ·have hcu:=(huA c (List.mem_of_getElem? hcv)).enc_upto
   rw [SV.enc_eq] at hcu
   simp only [uptoL,AVal.upto,true_and,and_true] at hcu
   have hmu:=SV.map_upto huA
   simp [AVal.upto,uptoL,←hlen1,hfl,hml0,aI_upto,hcu,hmu]
   simp [hlen1,hcu,hmu]
  refine zg1 ?_
  simp -dsimp only [simprocAttr,↓vpre,zp,hd,hm1,hG,hD,hd2]
  repeat(refine⟨by omega,?_⟩)
  refine⟨ob (by kernel_rfl),?_⟩
  refine za0 ?_
  refine zu0 rfl ?_
  refine zh0 ?_
  refine .inr (.inl ⟨_,_,hstop,.inl (later_intro ?_)⟩)
  simp -dsimp only [simprocAttr,↓vpre,zp,hlen1]
  (refine at_intro ?_;simp -dsimp only [vend,ne_eq,Nat.reduceEqDiff,reduceCtorEq])
  skip
  simp -dsimp only [simprocAttr,↓vpre,zp,zr,Try.results61,htk,List.length_set,hlen1]
  exact⟨hup2,trivial⟩
 exact af h (by omega)
theorem step_exec{u:Unt}{m:Mach}{O:List AObj}(hup:∀o∈O,o.upto O.length)(h0:O[2]?=some (.cells (mcells u m)))(f:Fr)(r:List Fr)(hfr:m.frames=f::r)(hf:O[f.fid]?=some (.cells (fcells f)))(hn0:f.fid≠2)
  {cs:List AVal} (hst:O[m.sid]?=some (.cells cs)) (hcs:cs[r.length]?=some (.mp f.fid 0)) (hrl:r.length≤2 ^ 40) (F:Func) (hF:u.fns[f.fn.toNat]?=some F) (hfn:0≤f.fn) (B:Block) (hB:F.blocks[f.blk.toNat]?=some B) (hbl:0≤f.blk) (hv:O[f.mid]?=some (.map (.int .i64) (f.vals.map ent))) (nfm:f.fid≠f.mid) (hu:∀e∈f.vals,SV.Under O.length e.2) (i:Ins) (hi:B.ins[f.pos]?=some i) (hpl:f.pos≤2 ^ 41) (hal:i.args.length≤4096) (f':Fr) (hf':f' = { f with pos:=f.pos+1 }) (args:List SV) (hargs:args=takeS f.vals i.args) (O1:List AObj) (hO1:O1=O.set f.fid (.cells (fcells f'))) (hop:i.op≠13∧i.op≠14) {O2:List AObj} (v:SV) (t:Int) (hC:ECall Try.prog 75 O1 [.mp 2 0,i.enc,.lst 4 (args.map SV.enc) .sh] (fun r O3=>r=.tup [v.enc,aI t]∧O3=O2)) (hlen:O.length≤O2.length) (hup2:∀o∈O2,o.upto O2.length) (hvu:SV.Under O2.length v) (m2:Mach) (h02:O2[2]?=some (.cells (mcells u m2)))
  (hf2:O2[f.fid]?=some (.cells (fcells f'))) (hv2:O2[f.mid]?=some (.map (.int .i64) (f.vals.map ent))) (hu2:∀e∈f.vals,SV.Under O2.length e.2) (nm0:f.mid≠2) (ht:t=0) :
  ECall Try.prog 61 O [.mp 2 0] (fun r O3=>r=.tup []∧O3=O2.set f.mid (.map (.int .i64) ((putS' f.vals i.to v).map ent))):=by
 have hfl:=lt_of_getElem? hf
 have hml0:=lt_of_getElem? h0
 have hff:=hf
 unfold fcells at hff
 have hm0:O[2]?=some (.cells [eFuncs u.fns,aI u.main,.os m.sid (r.length+1) 1,aI m.left,.v (.bool m.short),.v (.bool m.over),.lst 1 (m.out.map aI) (.tok 3),aI m.fin,aI m.val]):=by
  rw [h0]
  unfold mcells
  rw [hfr]
  rfl
 have hr1:((r.length+1:Nat):Int) - 1=(r.length:Nat):=by omega
 have hilt:=lt_of_getElem? hi
 have hs:=set_self hf
 have hlen1:O.length=O1.length:=by rw [hO1];simp
 have hc1:[aI f.fn,aI f.blk,aI ((f.pos:Int)+1),aI f.to,.mm f.mid]=fcells f':=by
  rw [hf']
  simp [fcells]
 have hf1:O1[f'.fid]?=some (.cells (fcells f')):=by rw [hO1,hf'];exact hs _
 have hv1:O1[f'.mid]?=some (.map (.int .i64) (f'.vals.map ent)):=by rw [hO1,hf'];exact at_set_ne hv nfm
 have hup1:∀o∈O1,o.upto O1.length:=by
  rw [←hlen1,hO1]
  refine uptoO_cells hup hf fun h=>?_
  simp only [fcells,uptoL,AVal.upto,true_and,and_true] at h ⊢
  rw [hf']
  exact h
 have htake:=take_spec hup1 hf1 hv1 (by rw [hf',←hlen1];exact hu) i.args hal
 have hfid:f'.fid=f.fid:=by rw [hf']
 have hvals:f'.vals=f.vals:=by rw [hf']
 rw [hfid,hvals,←hargs] at htake
 rw [hfid] at hf1
 have hfl2:=lt_of_getElem? hf2
 have hml2:=lt_of_getElem? h02
 have hvc:=hvu.enc_upto
 rw [SV.enc_eq] at hvc
 simp only [uptoL,AVal.upto,true_and,and_true] at hvc
 have hd:decide (t=0)=true:=decide_eq_true ht
 have hgf:fcells f'=[aI f.fn,aI f.blk,aI ((f.pos:Int)+1),aI f.to,.mm f.mid]:=hc1.symm
 have hmapu:uptoE O2.length ((putS' f.vals i.to v).map ent):=entE fun x hx=>by
  rcases mem_putS' hx with q | q
  ·exact hu2 x q
  rw [q]
  exact hvu
 rw [hgf] at hf2
 have hup3:=uptoO_set (k:=f.mid) (x:=.map (.int .i64) ((putS' f.vals i.to v).map ent)) hup2 hmapu
 have htk:=take_set_len (O:=O2) (k:=f.mid) (x:=.map (.int .i64) ((putS' f.vals i.to v).map ent))
 refine ecall_of hT true (O2.length) Try.func61 rfl (by kernel_rfl) (by simp [Try.ntmps61]) (by assumption) ?_
 show AWP Try.prog _ _ _ ⟨137,_,_⟩
 dsimp only [Tmp,TypeId,slotsOf]
 refine zg1 ?_
 simp -dsimp only [simprocAttr,↓vpre,zp,hm0,hr1,Nat.mul_one,hst,hcs]
 repeat(refine⟨by omega,?_⟩)
 refine⟨ob (by kernel_rfl),?_⟩
 refine za0 ?_
 refine zg1 ?_
 simp -dsimp only [simprocAttr,↓vpre,zp,hm0,hff,hF,hB,cells7]
 repeat(refine⟨by omega,?_⟩)
 refine⟨orderB_ren [2,f.fid] O.length [.pure,.pure,.pure,.pure,.rd 0,.pure,.pure,.pure,.rd 1,.pure,.pure,.pure,.pure,.pure,.pure,.rd 1,.pure,.pure,.wr 2 [],.wr 3 [2]] (by simp;omega) (by simp;omega) rfl rfl (by kernel_rfl),at_intro ?_⟩
 simp -dsimp only [vend,ne_eq,Nat.reduceEqDiff,reduceCtorEq]
 refine awp_local 3 ([eIs B.params,eInss B.ins,aI B.term.kind,aI B.term.arg,aI B.term.n,eIs B.term.cases,eEdges B.term.to]) [(0,.mp 2 0),(2,.mp f.fid 0),(3,.ip none [eIs B.params,eInss B.ins,aI B.term.kind,aI B.term.arg,aI B.term.n,eIs B.term.cases,eEdges B.term.to])] rfl (by rfl) (by omega) (by simp [putS,dropS,Go.Av.look]) ?_ ?_ ?_
 ·exact hup
 ·simp [AVal.upto,uptoL,hfl,hml0,aI_upto,Edge.map_upto,Ins.map_upto]
 refine zg2 ?_
 simp -dsimp only [simprocAttr,↓vpre,zp,hff]
 refine⟨ob (by kernel_rfl),?_⟩
 refine za0 ?_
 apply zk0 rfl<;>intro h
 ·exact ab h (by omega)
 refine zb0 ?_
 refine zg1 ?_
 simp -dsimp only [simprocAttr,↓vpre,zp,hff,hi,Int.toNat_natCast]
 repeat(refine⟨by omega,?_⟩)
 refine⟨orderB_ren [f.fid] O.length [.pure,.pure,.pure,.pure,.pure,.rd 0,.pure,.pure,.wr 1 [],.wr 2 [1]] (by simp) (by simp;omega) rfl rfl (by kernel_rfl),at_intro ?_⟩
 simp -dsimp only [vend,ne_eq,Nat.reduceEqDiff,reduceCtorEq]
 refine awp_local 4 ([aI i.to,aI i.op,aI i.n,eIs i.args]) [(0,.mp 2 0),(2,.mp f.fid 0),(4,.ip none [aI i.to,aI i.op,aI i.n,eIs i.args])] rfl (by rfl) (by omega) (by simp [putS,dropS,Go.Av.look]) ?_ ?_ ?_
 ·exact hup
 ·simp [AVal.upto,uptoL,hfl,hml0,aI_upto]
 refine zg1 ?_
 simp -dsimp only [simprocAttr,↓vpre,zp,hff,hs,hc1,←hO1]
 repeat(refine⟨by omega,?_⟩)
 refine za0 ?_
 refine zh1 ?_
 refine .inr (.inr ⟨_,htake,later_intro (zj ?_)⟩)
 refine za0 ?_
 refine zh1 (za0 ?_)
 refine awp_block ?_
 refine zh1 (za0 ?_)
 apply zk0 rfl<;>intro h
 ·exact ab h (by omega)
 refine zh1 (za0 ?_)
 apply zk0 rfl<;>intro h
 ·exact ab h (by omega)
 refine zh1 ?_
 refine .inr (.inl ⟨_,_,hC,.inl (later_intro (zj ?_))⟩)
 refine za0 ?_
 refine awp_local 7 [aI v.kind,aI v.n,.lst 4 (v.list.map SV.enc) .sh,eP v.arr] [(0,.mp 2 0),(2,.mp f.fid 0),(4,.ip none [aI i.to,aI i.op,aI i.n,eIs i.args]),(7,.ip none [aI v.kind,aI v.n,.lst 4 (v.list.map SV.enc) .sh,eP v.arr]),(8,aI t)] rfl (by simp only [List.map_cons,List.map_nil,shareCell_v,shareCell_lst,eP_shareCell]) (by omega) (by simp [putS,dropS,Go.Av.look]) hup2 ?_ ?_
 ·simp [AVal.upto,uptoL,hfl2,hml2,aI_upto,hvc]
 refine zg2 ?_
 simp -dsimp only [simprocAttr,↓vpre,zp,hd]
 refine za0 ?_
 refine zu0 rfl ?_
 refine zb0 ?_
 refine zg0 ?_
 simp -dsimp only [simprocAttr,↓vpre,zp,hf2,hv2,put_ent]
 refine⟨ob (by kernel_rfl),?_⟩
 (refine at_intro ?_;simp -dsimp only [vend,ne_eq,Nat.reduceEqDiff,reduceCtorEq])
 skip
 simp -dsimp only [simprocAttr,↓vpre,zp,zr,Try.results61,htk,List.length_set]
 exact⟨hup3,trivial⟩
theorem step_trap{u:Unt}{m:Mach}{O:List AObj}(hup:∀o∈O,o.upto O.length)(h0:O[2]?=some (.cells (mcells u m)))(f:Fr)(r:List Fr)(hfr:m.frames=f::r)(hf:O[f.fid]?=some (.cells (fcells f)))(hn0:f.fid≠2)
  {cs:List AVal} (hst:O[m.sid]?=some (.cells cs)) (hcs:cs[r.length]?=some (.mp f.fid 0)) (hrl:r.length≤2 ^ 40) (F:Func) (hF:u.fns[f.fn.toNat]?=some F) (hfn:0≤f.fn) (B:Block) (hB:F.blocks[f.blk.toNat]?=some B) (hbl:0≤f.blk) (hv:O[f.mid]?=some (.map (.int .i64) (f.vals.map ent))) (nfm:f.fid≠f.mid) (hu:∀e∈f.vals,SV.Under O.length e.2) (i:Ins) (hi:B.ins[f.pos]?=some i) (hpl:f.pos≤2 ^ 41) (hal:i.args.length≤4096) (f':Fr) (hf':f' = { f with pos:=f.pos+1 }) (args:List SV) (hargs:args=takeS f.vals i.args) (O1:List AObj) (hO1:O1=O.set f.fid (.cells (fcells f'))) (hop:i.op≠13∧i.op≠14) {O2:List AObj} (v:SV) (t:Int) (hC:ECall Try.prog 75 O1 [.mp 2 0,i.enc,.lst 4 (args.map SV.enc) .sh] (fun r O3=>r=.tup [v.enc,aI t]∧O3=O2)) (hlen:O.length≤O2.length) (hup2:∀o∈O2,o.upto O2.length) (hvu:SV.Under O2.length v) (m2:Mach) (h02:O2[2]?=some (.cells (mcells u m2)))
  (hf2:O2[f.fid]?=some (.cells (fcells f'))) (hv2:O2[f.mid]?=some (.map (.int .i64) (f.vals.map ent))) (hu2:∀e∈f.vals,SV.Under O2.length e.2) (nm0:f.mid≠2) (ht:t≠0) :
  ECall Try.prog 61 O [.mp 2 0] (fun r O3=>r=.tup []∧O3=(O2.set 2 (.cells (mcells u (m2.stop t 0)))).set f.mid (.map (.int .i64) ((putS' f.vals i.to v).map ent))):=by
 have hfl:=lt_of_getElem? hf
 have hml0:=lt_of_getElem? h0
 have hff:=hf
 unfold fcells at hff
 have hm0:O[2]?=some (.cells [eFuncs u.fns,aI u.main,.os m.sid (r.length+1) 1,aI m.left,.v (.bool m.short),.v (.bool m.over),.lst 1 (m.out.map aI) (.tok 3),aI m.fin,aI m.val]):=by
  rw [h0]
  unfold mcells
  rw [hfr]
  rfl
 have hr1:((r.length+1:Nat):Int) - 1=(r.length:Nat):=by omega
 have hilt:=lt_of_getElem? hi
 have hs:=set_self hf
 have hlen1:O.length=O1.length:=by rw [hO1];simp
 have hc1:[aI f.fn,aI f.blk,aI ((f.pos:Int)+1),aI f.to,.mm f.mid]=fcells f':=by
  rw [hf']
  simp [fcells]
 have hf1:O1[f'.fid]?=some (.cells (fcells f')):=by rw [hO1,hf'];exact hs _
 have hv1:O1[f'.mid]?=some (.map (.int .i64) (f'.vals.map ent)):=by rw [hO1,hf'];exact at_set_ne hv nfm
 have hup1:∀o∈O1,o.upto O1.length:=by
  rw [←hlen1,hO1]
  refine uptoO_cells hup hf fun h=>?_
  simp only [fcells,uptoL,AVal.upto,true_and,and_true] at h ⊢
  rw [hf']
  exact h
 have htake:=take_spec hup1 hf1 hv1 (by rw [hf',←hlen1];exact hu) i.args hal
 have hfid:f'.fid=f.fid:=by rw [hf']
 have hvals:f'.vals=f.vals:=by rw [hf']
 rw [hfid,hvals,←hargs] at htake
 rw [hfid] at hf1
 have hfl2:=lt_of_getElem? hf2
 have hml2:=lt_of_getElem? h02
 have hvc:=hvu.enc_upto
 rw [SV.enc_eq] at hvc
 simp only [uptoL,AVal.upto,true_and,and_true] at hvc
 have hd:decide (t=0)=false:=decide_eq_false ht
 have hgf:fcells f'=[aI f.fn,aI f.blk,aI ((f.pos:Int)+1),aI f.to,.mm f.mid]:=hc1.symm
 have hmapu:uptoE O2.length ((putS' f.vals i.to v).map ent):=entE fun x hx=>by
  rcases mem_putS' hx with q | q
  ·exact hu2 x q
  rw [q]
  exact hvu
 have hstop:=stop_spec hup2 h02 t 0
 obtain⟨O3,hO3⟩:∃O3,O3=O2.set 2 (.cells (mcells u (m2.stop t 0))):=⟨_,rfl⟩
 have hlen3:O2.length=O3.length:=by rw [hO3];simp
 rw [←hO3] at hstop ⊢
 have hf3:O3[f.fid]?=some (.cells (fcells f')):=by rw [hO3];exact at_set_ne hf2 hn0.symm
 have hv3:O3[f.mid]?=some (.map (.int .i64) (f.vals.map ent)):=by rw [hO3];exact at_set_ne hv2 nm0.symm
 rw [hgf] at hf3
 have hup3:∀o∈O3.set f.mid (.map (.int .i64) ((putS' f.vals i.to v).map ent)),o.upto O3.length:=by
  rw [←hlen3]
  refine uptoO_set ?_ hmapu
  rw [hO3]
  exact uptoO_cells hup2 h02 (fun h=>mcells_upto h rfl)
 have htk:=take_set_len (O:=O3) (k:=f.mid) (x:=.map (.int .i64) ((putS' f.vals i.to v).map ent))
 refine ecall_of hT true (O2.length) Try.func61 rfl (by kernel_rfl) (by simp [Try.ntmps61]) (by assumption) ?_
 show AWP Try.prog _ _ _ ⟨137,_,_⟩
 dsimp only [Tmp,TypeId,slotsOf]
 refine zg1 ?_
 simp -dsimp only [simprocAttr,↓vpre,zp,hm0,hr1,Nat.mul_one,hst,hcs]
 repeat(refine⟨by omega,?_⟩)
 refine⟨ob (by kernel_rfl),?_⟩
 refine za0 ?_
 refine zg1 ?_
 simp -dsimp only [simprocAttr,↓vpre,zp,hm0,hff,hF,hB,cells7]
 repeat(refine⟨by omega,?_⟩)
 refine⟨orderB_ren [2,f.fid] O.length [.pure,.pure,.pure,.pure,.rd 0,.pure,.pure,.pure,.rd 1,.pure,.pure,.pure,.pure,.pure,.pure,.rd 1,.pure,.pure,.wr 2 [],.wr 3 [2]] (by simp;omega) (by simp;omega) rfl rfl (by kernel_rfl),at_intro ?_⟩
 simp -dsimp only [vend,ne_eq,Nat.reduceEqDiff,reduceCtorEq]
 refine awp_local 3 ([eIs B.params,eInss B.ins,aI B.term.kind,aI B.term.arg,aI B.term.n,eIs B.term.cases,eEdges B.term.to]) [(0,.mp 2 0),(2,.mp f.fid 0),(3,.ip none [eIs B.params,eInss B.ins,aI B.term.kind,aI B.term.arg,aI B.term.n,eIs B.term.cases,eEdges B.term.to])] rfl (by rfl) (by omega) (by simp [putS,dropS,Go.Av.look]) ?_ ?_ ?_
 ·exact hup
 ·simp [AVal.upto,uptoL,hfl,hml0,aI_upto,Edge.map_upto,Ins.map_upto]
 refine zg2 ?_
 simp -dsimp only [simprocAttr,↓vpre,zp,hff]
 refine⟨ob (by kernel_rfl),?_⟩
 refine za0 ?_
 apply zk0 rfl<;>intro h
 ·exact ab h (by omega)
 refine zb0 ?_
 refine zg1 ?_
 simp -dsimp only [simprocAttr,↓vpre,zp,hff,hi,Int.toNat_natCast]
 repeat(refine⟨by omega,?_⟩)
 refine⟨orderB_ren [f.fid] O.length [.pure,.pure,.pure,.pure,.pure,.rd 0,.pure,.pure,.wr 1 [],.wr 2 [1]] (by simp) (by simp;omega) rfl rfl (by kernel_rfl),at_intro ?_⟩
 simp -dsimp only [vend,ne_eq,Nat.reduceEqDiff,reduceCtorEq]
 refine awp_local 4 ([aI i.to,aI i.op,aI i.n,eIs i.args]) [(0,.mp 2 0),(2,.mp f.fid 0),(4,.ip none [aI i.to,aI i.op,aI i.n,eIs i.args])] rfl (by rfl) (by omega) (by simp [putS,dropS,Go.Av.look]) ?_ ?_ ?_
 ·exact hup
 ·simp [AVal.upto,uptoL,hfl,hml0,aI_upto]
 refine zg1 ?_
 simp -dsimp only [simprocAttr,↓vpre,zp,hff,hs,hc1,←hO1]
 repeat(refine⟨by omega,?_⟩)
 refine za0 ?_
 refine zh1 ?_
 refine .inr (.inr ⟨_,htake,later_intro (zj ?_)⟩)
 refine za0 ?_
 refine zh1 (za0 ?_)
 refine awp_block ?_
 refine zh1 (za0 ?_)
 apply zk0 rfl<;>intro h
 ·exact ab h (by omega)
 refine zh1 (za0 ?_)
 apply zk0 rfl<;>intro h
 ·exact ab h (by omega)
 refine zh1 ?_
 refine .inr (.inl ⟨_,_,hC,.inl (later_intro (zj ?_))⟩)
 refine za0 ?_
 refine awp_local 7 [aI v.kind,aI v.n,.lst 4 (v.list.map SV.enc) .sh,eP v.arr] [(0,.mp 2 0),(2,.mp f.fid 0),(4,.ip none [aI i.to,aI i.op,aI i.n,eIs i.args]),(7,.ip none [aI v.kind,aI v.n,.lst 4 (v.list.map SV.enc) .sh,eP v.arr]),(8,aI t)] rfl (by simp only [List.map_cons,List.map_nil,shareCell_v,shareCell_lst,eP_shareCell]) (by omega) (by simp [putS,dropS,Go.Av.look]) hup2 ?_ ?_
 ·simp [AVal.upto,uptoL,hfl2,hml2,aI_upto,hvc]
 refine zg2 ?_
 simp -dsimp only [simprocAttr,↓vpre,zp,hd]
 refine za0 ?_
 refine zw0 rfl ?_
 refine zh0 ?_
 refine .inr (.inl ⟨_,_,hstop,.inl (later_intro (zj ?_))⟩)
 refine za0 ?_
 refine zg0 ?_
 simp -dsimp only [simprocAttr,↓vpre,zp,hf3,hv3,put_ent]
 refine⟨ob (by kernel_rfl),?_⟩
 (refine at_intro ?_;simp -dsimp only [vend,ne_eq,Nat.reduceEqDiff,reduceCtorEq])
 skip
 simp -dsimp only [simprocAttr,↓vpre,zp,zr,Try.results61,hlen3,htk,List.length_set]
 exact⟨hup3,trivial⟩
end Go.Proofs.Ytkhnjeblbiocaaa
namespace Go.Proofs.Ytkhnjeblbiocaaa
open Go.Av
def Holds(L:List (Nat×AObj))(O:List AObj):Prop:=∀p∈L,O[p.1]?=some p.2
def keysN(L:List (Nat×AObj)):List Nat:=L.map Prod.fst
theorem keysN_append(A B:List (Nat×AObj)):keysN (A++B)=keysN A++keysN B:=by simp [keysN]
theorem keysN_cons(p:Nat×AObj)(B:List (Nat×AObj)):keysN (p::B)=p.1::keysN B:=rfl
theorem mem_keysN{L:List (Nat×AObj)}{p:Nat×AObj}(h:p∈L):p.1∈keysN L:=List.mem_map.2 ⟨p,h,rfl⟩
theorem holds_set{A B:List (Nat×AObj)}{id:Nat}{y x:AObj}{O:List AObj}(h:Holds (A++(id,y)::B) O)(hn:(keysN (A++(id,y)::B)).Nodup):Holds (A++(id,x)::B) (O.set id x):=by
 rw [keysN_append,keysN_cons,List.nodup_append] at hn
 obtain⟨_,hB,hAB⟩:=hn
 rw [List.nodup_cons] at hB
 intro p hp
 rcases List.mem_append.1 hp with q | q
 ·have hne:id≠p.1:=fun e=>hAB p.1 (mem_keysN q) id List.mem_cons_self e.symm
  exact at_set_ne (h p (by simp [q])) hne
 rcases List.mem_cons.1 q with rfl | q
 ·exact at_set (h (id,y) (by simp))
 have hne:id≠p.1:=fun e=>hB.1 (by
  show id∈keysN B
  rw [e]
  exact mem_keysN q)
 exact at_set_ne (h p (by simp [q])) hne
theorem keysN_set(A B:List (Nat×AObj))(id:Nat)(y x:AObj):keysN (A++(id,y)::B)=keysN (A++(id,x)::B):=by simp [keysN]
theorem Holds.sub{L M:List (Nat×AObj)}{O:List AObj}(h:Holds L O)(hs:∀p∈M,p∈L):Holds M O:=fun p hp=>h p (hs p hp)
theorem Holds.lt{L:List (Nat×AObj)}{O:List AObj}(h:Holds L O):∀k∈keysN L,k<O.length:=fun k hk=>by
 obtain⟨p,hp,rfl⟩:=List.mem_map.1 hk
 exact lt_of_getElem? (h p hp)
def frs:List Fr→List (Nat×AObj)
 | []=>[]
 | f::r=>(f.fid,.cells (fcells f))::(f.mid,.map (.int .i64) (f.vals.map ent))::frs r
def ars:List Arr→List (Nat×AObj)
 | []=>[]
 | a::r=>(a.vid,.cells [.ms a.bid 0 a.l.length a.l.length])::(a.bid,.cells (cellsAll (a.l.map SV.enc)))::ars r
theorem ars_append(A B:List Arr):ars (A++B)=ars A++ars B:=by
 induction A with
 | nil=>rfl
 | cons a r ih=>simp [ars,ih]
def objsOf(u:Unt)(m:Mach)(rest:List AVal):List (Nat×AObj) :=
 (1,.cells [.lst 1 [] .ex,aI 0,aI 0])::(2,.cells (mcells u m))::(3,.spare m.out.length)::(m.sid,.cells (ptrs m.frames++rest))::(frs m.frames++ars m.heap)
structure Tl(u:Unt)(m:Mach)(rest:List AVal)(O:List AObj):Prop where
 len:O.length=m.next
 upto:∀o∈O,o.upto O.length
 holds:Holds (objsOf u m rest) O
 nodup:(keysN (objsOf u m rest)).Nodup
namespace Tl
variable {u:Unt} {m:Mach} {rest:List AVal} {O:List AObj}
theorem mach(h:Tl u m rest O):O[2]?=some (.cells (mcells u m)):=h.holds (2,_) (by simp [objsOf])
theorem outs(h:Tl u m rest O):O[3]?=some (.spare m.out.length):=h.holds (3,_) (by simp [objsOf])
theorem stack(h:Tl u m rest O):O[m.sid]?=some (.cells (ptrs m.frames++rest)):=h.holds (m.sid,_) (by simp [objsOf])
theorem frs_mem{l:List Fr}{f:Fr}(hf:f∈l):(f.fid,AObj.cells (fcells f))∈frs l∧(f.mid,AObj.map (.int .i64) (f.vals.map ent))∈frs l:=by
 induction l with
 | nil=>simp at hf
 | cons g r ih =>
  rcases List.mem_cons.1 hf with rfl | hf
  ·simp [frs]
  simp [frs,ih hf]
theorem ars_mem{l:List Arr}{a:Arr}(ha:a∈l):(a.vid,AObj.cells [.ms a.bid 0 a.l.length a.l.length])∈ars l∧(a.bid,AObj.cells (cellsAll (a.l.map SV.enc)))∈ars l:=by
 induction l with
 | nil=>simp at ha
 | cons g r ih =>
  rcases List.mem_cons.1 ha with rfl | ha
  ·simp [ars]
  simp [ars,ih ha]
theorem frame(h:Tl u m rest O){f:Fr}(hf:f∈m.frames):O[f.fid]?=some (.cells (fcells f))∧O[f.mid]?=some (.map (.int .i64) (f.vals.map ent)) :=
 ⟨h.holds (f.fid,_) (by simp [objsOf,frs_mem hf]),h.holds (f.mid,_) (by simp [objsOf,frs_mem hf])⟩
theorem arr(h:Tl u m rest O){a:Arr}(ha:a∈m.heap):O[a.vid]?=some (.cells [.ms a.bid 0 a.l.length a.l.length])∧O[a.bid]?=some (.cells (cellsAll (a.l.map SV.enc))) :=
 ⟨h.holds (a.vid,_) (by simp [objsOf,ars_mem ha]),h.holds (a.bid,_) (by simp [objsOf,ars_mem ha])⟩
theorem under(h:Tl u m rest O){v:SV}(hv:VOK u m v):SV.Under O.length v :=
 SV.Wf.under (fun id ⟨a,ha,e⟩=>by
  rw [←e]
  exact lt_of_getElem? (h.arr ha).1) hv
theorem setMach(h:Tl u m rest O)(m':Mach)(h1:m'.sid=m.sid)(h2:m'.frames=m.frames)(h3:m'.heap=m.heap)(h4:m'.out.length=m.out.length)(h5:m'.next=m.next):Tl u m' rest (O.set 2 (.cells (mcells u m'))):=by
 have e:objsOf u m' rest=[(1,.cells [.lst 1 [] .ex,aI 0,aI 0])]++(2,.cells (mcells u m'))::((3,.spare m.out.length)::(m.sid,.cells (ptrs m.frames++rest))::(frs m.frames++ars m.heap)):=by
  simp [objsOf,h1,h2,h3,h4]
 refine⟨by simp [h.len,h5],?_,?_,?_⟩
 ·rw [List.length_set]
  exact uptoO_cells h.upto h.mach (fun q=>mcells_upto q h1)
 ·rw [e]
  exact holds_set (A:=[_]) (y:=.cells (mcells u m)) h.holds h.nodup
 rw [e,←keysN_set _ _ _ (.cells (mcells u m))]
 exact h.nodup
theorem setOut(h:Tl u m rest O)(m':Mach)(h1:m'.sid=m.sid)(h2:m'.frames=m.frames)(h3:m'.heap=m.heap)(h5:m'.next=m.next):Tl u m' rest ((O.set 3 (.spare m'.out.length)).set 2 (.cells (mcells u m'))):=by
 have e:objsOf u m' rest=[(1,.cells [.lst 1 [] .ex,aI 0,aI 0])]++(2,.cells (mcells u m'))::((3,.spare m'.out.length)::(m.sid,.cells (ptrs m.frames++rest))::(frs m.frames++ars m.heap)):=by
  simp [objsOf,h1,h2,h3]
 have hs:=holds_set (A:=[(1,.cells [.lst 1 [] .ex,aI 0,aI 0]),(2,.cells (mcells u m))]) (x:=.spare m'.out.length) (y:=.spare m.out.length) h.holds h.nodup
 have hk:=keysN_set [(1,.cells [.lst 1 [] .ex,aI 0,aI 0]),(2,.cells (mcells u m))] ((m.sid,.cells (ptrs m.frames++rest))::(frs m.frames++ars m.heap)) 3 (.spare m.out.length) (.spare m'.out.length)
 have hn:(keysN ([(1,.cells [.lst 1 [] .ex,aI 0,aI 0]),(2,.cells (mcells u m))]++(3,.spare m'.out.length)::((m.sid,.cells (ptrs m.frames++rest))::(frs m.frames++ars m.heap)))).Nodup:=by
  rw [←hk]
  exact h.nodup
 refine⟨by simp [h.len,h5],?_,?_,?_⟩
 ·rw [List.length_set,List.length_set]
  exact uptoO_cells (uptoO_set h.upto trivial) (at_set_ne h.mach (by omega)) (fun q=>mcells_upto q h1)
 ·rw [e]
  exact holds_set (A:=[_]) (y:=.cells (mcells u m)) hs hn
 rw [e,←keysN_set _ _ _ (.cells (mcells u m))]
 exact hn
theorem setTop(h:Tl u m rest O){f f':Fr}{r:List Fr}(hfr:m.frames=f::r)(h1:f'.fid=f.fid)(h2:f'.mid=f.mid)(h3:f'.vals=f.vals):Tl u (m.setTop f') rest (O.set f.fid (.cells (fcells f'))):=by
 have hm:mcells u (m.setTop f')=mcells u m:=by simp [mcells,Mach.setTop,hfr]
 have hp:ptrs (f'::r)=ptrs (f::r):=by simp [ptrs,h1]
 have e:objsOf u (m.setTop f') rest=[(1,.cells [.lst 1 [] .ex,aI 0,aI 0]),(2,.cells (mcells u m)),(3,.spare m.out.length),(m.sid,.cells (ptrs m.frames++rest))]++(f.fid,.cells (fcells f'))::((f.mid,.map (.int .i64) (f.vals.map ent))::(frs r++ars m.heap)):=by
  unfold objsOf
  rw [hm]
  simp [Mach.setTop,hfr,frs,h1,h2,h3,hp]
 have e0:objsOf u m rest=[(1,.cells [.lst 1 [] .ex,aI 0,aI 0]),(2,.cells (mcells u m)),(3,.spare m.out.length),(m.sid,.cells (ptrs m.frames++rest))]++(f.fid,.cells (fcells f))::((f.mid,.map (.int .i64) (f.vals.map ent))::(frs r++ars m.heap)):=by
  simp [objsOf,hfr,frs]
 have hh:=h.holds
 have hn:=h.nodup
 rw [e0] at hh hn
 refine⟨by simp [h.len,Mach.setTop],?_,?_,?_⟩
 ·rw [List.length_set]
  refine uptoO_cells h.upto (h.frame (f:=f) (by rw [hfr];simp)).1 (fun q=>?_)
  simp only [fcells,uptoL,AVal.upto,true_and,and_true,h2] at q ⊢
  exact q
 ·rw [e]
  exact holds_set hh hn
 rw [e,←keysN_set _ _ _ (.cells (fcells f))]
 exact hn
theorem setVals(h:Tl u m rest O){f f':Fr}{r:List Fr}(hfr:m.frames=f::r)(h1:f' = { f with vals:=f'.vals })(hu:∀e∈f'.vals,SV.Under O.length e.2):Tl u (m.setTop f') rest (O.set f.mid (.map (.int .i64) (f'.vals.map ent))):=by
 have hm:mcells u (m.setTop f')=mcells u m:=by simp [mcells,Mach.setTop,hfr]
 have hfid:f'.fid=f.fid:=by rw [h1]
 have hmid:f'.mid=f.mid:=by rw [h1]
 have hfc:fcells f'=fcells f:=by rw [h1];rfl
 have hp:ptrs (f'::r)=ptrs (f::r):=by simp [ptrs,hfid]
 have e:objsOf u (m.setTop f') rest=[(1,.cells [.lst 1 [] .ex,aI 0,aI 0]),(2,.cells (mcells u m)),(3,.spare m.out.length),(m.sid,.cells (ptrs m.frames++rest)),(f.fid,.cells (fcells f))]++(f.mid,.map (.int .i64) (f'.vals.map ent))::(frs r++ars m.heap):=by
  unfold objsOf
  rw [hm]
  simp [Mach.setTop,hfr,frs,hfid,hmid,hfc,hp]
 have e0:objsOf u m rest=[(1,.cells [.lst 1 [] .ex,aI 0,aI 0]),(2,.cells (mcells u m)),(3,.spare m.out.length),(m.sid,.cells (ptrs m.frames++rest)),(f.fid,.cells (fcells f))]++(f.mid,.map (.int .i64) (f.vals.map ent))::(frs r++ars m.heap):=by
  simp [objsOf,hfr,frs]
 have hh:=h.holds
 have hn:=h.nodup
 rw [e0] at hh hn
 refine⟨by simp [h.len,Mach.setTop],?_,?_,?_⟩
 ·rw [List.length_set]
  exact uptoO_set h.upto (entE hu)
 ·rw [e]
  exact holds_set hh hn
 rw [e,←keysN_set _ _ _ (.map (.int .i64) (f.vals.map ent))]
 exact hn
theorem pop(h:Tl u m rest O){f g g':Fr}{r:List Fr}(hfr:m.frames=f::g::r)(h1:g' = { g with vals:=g'.vals })(hu:∀e∈g'.vals,SV.Under O.length e.2)(m':Mach)(hm':m' = { m with frames:=g'::r }) :
  Tl u m' (.mp f.fid 0::rest) ((O.set 2 (.cells (mcells u m'))).set g.mid (.map (.int .i64) (g'.vals.map ent))):=by
 have hfid:g'.fid=g.fid:=by rw [h1]
 have hmid:g'.mid=g.mid:=by rw [h1]
 have hfc:fcells g'=fcells g:=by rw [h1];rfl
 have hp:ptrs (f::g::r)++rest=ptrs (g'::r)++.mp f.fid 0::rest:=by simp [ptrs,hfid]
 have e0:objsOf u m rest=[(1,.cells [.lst 1 [] .ex,aI 0,aI 0])]++(2,.cells (mcells u m))::((3,.spare m.out.length)::(m.sid,.cells (ptrs (g'::r)++.mp f.fid 0::rest))::(f.fid,.cells (fcells f))::(f.mid,.map (.int .i64) (f.vals.map ent))::(g.fid,.cells (fcells g))::(g.mid,.map (.int .i64) (g.vals.map ent))::(frs r++ars m.heap)):=by
  simp [objsOf,hfr,frs,←hp]
 have e1:objsOf u m' (.mp f.fid 0::rest)=[(1,.cells [.lst 1 [] .ex,aI 0,aI 0]),(2,.cells (mcells u m')),(3,.spare m.out.length),(m.sid,.cells (ptrs (g'::r)++.mp f.fid 0::rest)),(g.fid,.cells (fcells g))]++(g.mid,.map (.int .i64) (g'.vals.map ent))::(frs r++ars m.heap):=by
  rw [hm']
  simp [objsOf,frs,hfid,hmid,hfc]
 have hh:=h.holds
 have hn:=h.nodup
 rw [e0] at hh hn
 have h2:=holds_set (x:=.cells (mcells u m')) hh hn
 have hsub:∀p∈[(1,AObj.cells [.lst 1 [] .ex,aI 0,aI 0]),(2,.cells (mcells u m')),(3,.spare m.out.length),(m.sid,.cells (ptrs (g'::r)++.mp f.fid 0::rest)),(g.fid,.cells (fcells g))]++(g.mid,.map (.int .i64) (g.vals.map ent))::(frs r++ars m.heap),p∈[(1,.cells [.lst 1 [] .ex,aI 0,aI 0])]++(2,.cells (mcells u m'))::((3,.spare m.out.length)::(m.sid,.cells (ptrs (g'::r)++.mp f.fid 0::rest))::(f.fid,.cells (fcells f))::(f.mid,.map (.int .i64) (f.vals.map ent))::(g.fid,.cells (fcells g))::(g.mid,.map (.int .i64) (g.vals.map ent))::(frs r++ars m.heap)):=by
  intro p hp
  simp only [List.cons_append,List.nil_append,List.mem_cons] at hp ⊢
  rcases hp with q | q | q | q | q | q | q
  all_goals simp [q]
 have hn3:(keysN ([(1,AObj.cells [.lst 1 [] .ex,aI 0,aI 0]),(2,.cells (mcells u m')),(3,.spare m.out.length),(m.sid,.cells (ptrs (g'::r)++.mp f.fid 0::rest)),(g.fid,.cells (fcells g))]++(g.mid,.map (.int .i64) (g.vals.map ent))::(frs r++ars m.heap))).Nodup:=by
  refine List.Nodup.sublist ?_ hn
  simp only [keysN,List.map_cons,List.map_append,List.map_nil,List.cons_append,List.nil_append]
  exact((((List.Sublist.refl _).cons _).cons _).cons₂ _ |>.cons₂ _ |>.cons₂ _ |>.cons₂ _)
 have hg:=h2.sub hsub
 refine⟨by rw [hm'];simp [h.len],?_,?_,?_⟩
 ·rw [List.length_set,List.length_set]
  refine uptoO_set (uptoO_cells h.upto h.mach (fun q=>mcells_upto q (by rw [hm']))) (entE hu)
 ·rw [e1]
  exact holds_set hg hn3
 rw [e1,←keysN_set _ _ _ (.map (.int .i64) (g.vals.map ent))]
 exact hn3
theorem last(h:Tl u m rest O){f:Fr}(hfr:m.frames=[f])(m':Mach)(h1:m'.sid=m.sid)(h2:m'.frames=[])(h3:m'.heap=m.heap)(h4:m'.out.length=m.out.length)(h5:m'.next=m.next):Tl u m' (.mp f.fid 0::rest) (O.set 2 (.cells (mcells u m'))):=by
 have e0:objsOf u m rest=[(1,.cells [.lst 1 [] .ex,aI 0,aI 0])]++(2,.cells (mcells u m))::((3,.spare m.out.length)::(m.sid,.cells (.mp f.fid 0::rest))::(f.fid,.cells (fcells f))::(f.mid,.map (.int .i64) (f.vals.map ent))::ars m.heap):=by
  simp [objsOf,hfr,frs,ptrs]
 have e1:objsOf u m' (.mp f.fid 0::rest)=[(1,.cells [.lst 1 [] .ex,aI 0,aI 0]),(2,.cells (mcells u m')),(3,.spare m.out.length),(m.sid,.cells (.mp f.fid 0::rest))]++ars m.heap:=by
  simp [objsOf,h1,h2,h3,h4,frs,ptrs]
 have hh:=h.holds
 have hn:=h.nodup
 rw [e0] at hh hn
 refine⟨by simp [h.len,h5],?_,?_,?_⟩
 ·rw [List.length_set]
  exact uptoO_cells h.upto h.mach (fun q=>mcells_upto q h1)
 ·rw [e1]
  refine(holds_set (x:=.cells (mcells u m')) hh hn).sub fun p hp=>?_
  simp only [List.cons_append,List.nil_append,List.mem_cons] at hp ⊢
  rcases hp with q | q | q | q | q
  all_goals simp [q]
 rw [e1]
 refine List.Nodup.sublist ?_ hn
 simp only [keysN,List.map_cons,List.map_append,List.map_nil,List.cons_append,List.nil_append]
 exact((((List.Sublist.refl _).cons _).cons _).cons₂ _ |>.cons₂ _ |>.cons₂ _ |>.cons₂ _)
end Tl
end Go.Proofs.Ytkhnjeblbiocaaa
namespace Go.Proofs.Ytkhnjeblbiocaaa
open Go.Av
namespace Tl
variable {u:Unt} {m:Mach} {rest:List AVal} {O:List AObj}
theorem keys(u:Unt)(m:Mach)(rest:List AVal):keysN (objsOf u m rest)=1::2::3::m.sid::keysN (frs m.frames++ars m.heap):=rfl
theorem others(h:Tl u m rest O):Holds (frs m.frames++ars m.heap) O∧(∀k∈keysN (frs m.frames++ars m.heap),k≠1∧k≠2∧k≠3∧k≠m.sid∧k<O.length)∧(keysN (frs m.frames++ars m.heap)).Nodup∧m.sid≠1∧m.sid≠2∧m.sid≠3∧m.sid<O.length∧3<O.length:=by
 have hn:=h.nodup
 have hlt:=h.holds.lt
 rw [keys] at hn hlt
 simp only [List.nodup_cons,List.mem_cons,not_or] at hn
 obtain⟨⟨a1,a2,a3,a4⟩,⟨b1,b2,b3⟩,⟨c1,c2⟩,d,e⟩:=hn
 refine⟨fun p hp=>h.holds p (by simp only [objsOf,List.mem_cons];exact .inr (.inr (.inr (.inr hp)))),fun k hk=>⟨?_,?_,?_,?_,hlt k (by simp [hk])⟩,e,fun q=>a3 q.symm,fun q=>b2 q.symm,fun q=>c1 q.symm,hlt _ (by simp),hlt 3 (by simp)⟩
 ·rintro rfl;exact a4 hk
 ·rintro rfl;exact b3 hk
 ·rintro rfl;exact c2 hk
 rintro rfl;exact d hk
theorem push(h:Tl u m rest O)(fn to:Int)(args:List SV)(m':Mach)(hm':m'=m.enter u fn args to)(hu:∀v∈args,SV.Under O.length v) :
  Tl u m' [] (((O.set m.sid .gone).set 2 (.cells (mcells u m'))) ++
   [.map (.int .i64) ((bindS [] (blkOf (fnOf u fn) 0).params args).map ent),.cells [aI fn,aI 0,aI 0,aI to,.mm O.length],.cells (pushCells (ptrs m.frames++rest) m.frames.length (O.length+1))]):=by
 obtain⟨ho,hk,hnd,s1,s2,s3,s4,s5⟩:=h.others
 have hN:=h.len
 have hpl:(ptrs m.frames).length=m.frames.length:=by simp [ptrs]
 obtain⟨O2,hO2⟩:∃O2,O2=(O.set m.sid .gone).set 2 (.cells (mcells u m')):=⟨_,rfl⟩
 have hl2:O2.length=O.length:=by rw [hO2];simp
 have hpc:pushCells (ptrs m.frames++rest) m.frames.length (O.length+1)=ptrs m'.frames++[]:=by
  rw [hm']
  unfold pushCells
  rw [List.take_append_of_le_length (by omega),List.take_of_length_le (by omega)]
  simp [ptrs,Mach.enter,hN]
 rw [hpc,←hO2]
 have e1:objsOf u m' []=(1,.cells [.lst 1 [] .ex,aI 0,aI 0])::(2,.cells (mcells u m'))::(3,.spare m.out.length)::(O.length+2,.cells (ptrs m'.frames++[]))::(O.length+1,.cells [aI fn,aI 0,aI 0,aI to,.mm O.length])::(O.length,.map (.int .i64) ((bindS [] (blkOf (fnOf u fn) 0).params args).map ent))::(frs m.frames++ars m.heap):=by
  rw [hm']
  simp [objsOf,Mach.enter,frs,hN,fcells]
 have hold:∀k o,O[k]?=some o→k≠m.sid→k≠2→∀X,(O2++X)[k]?=some o:=fun k o hk h1 h2 X=>by
  refine at_left ?_
  rw [hO2]
  exact at_set_ne (at_set_ne hk (Ne.symm h1)) (Ne.symm h2)
 refine⟨by rw [hm'];simp [hl2,Mach.enter,hN],?_,?_,?_⟩
 ·have hlen:(O2++[AObj.map (.int .i64) ((bindS [] (blkOf (fnOf u fn) 0).params args).map ent),.cells [aI fn,aI 0,aI 0,aI to,.mm O.length],.cells (ptrs m'.frames++[])]).length=O.length+3:=by simp [hl2]
  rw [hlen]
  intro o ho'
  rcases List.mem_append.1 ho' with q | q
  ·rw [hO2] at q
   refine uptoO_cells (n:=O.length+3) (ds:=mcells u m') (uptoO_set (k:=m.sid) (x:=.gone) (fun o ho=>AObj.upto_mono (by omega) (h.upto o ho)) trivial) (at_set_ne h.mach s2) (fun q=>?_) o q
   simp only [mcells,uptoL,AVal.upto,aI_upto,Func.map_upto,true_and,and_true,hm',Mach.enter] at q ⊢
   omega
  simp only [List.mem_cons,List.mem_nil_iff,or_false] at q
  rcases q with rfl | rfl | rfl
  ·refine entE fun x hx=>?_
   rcases mem_bindS hx with q | q
   ·simp at q
   exact(hu _ q).mono (by omega)
  ·simp [AObj.upto,uptoL,AVal.upto]
  simp only [AObj.upto,List.append_nil,uptoL_iff]
  intro x hx
  simp only [ptrs,List.mem_map,List.mem_reverse] at hx
  obtain⟨f,hf,rfl⟩:=hx
  rw [hm'] at hf
  simp only [Mach.enter,List.mem_cons] at hf
  rcases hf with rfl | hf
  ·simp [AVal.upto,hN]
  have:=lt_of_getElem? (h.frame hf).1
  simp only [AVal.upto]
  omega
 ·rw [e1]
  intro p hp
  simp only [List.mem_cons] at hp
  rcases hp with rfl | rfl | rfl | rfl | rfl | rfl | hp
  ·exact hold 1 _ (h.holds (1,_) (by simp [objsOf])) (fun e=>s1 e.symm) (by omega) _
  ·refine at_left ?_
   rw [hO2]
   exact at_set (at_set_ne h.mach s2)
  ·exact hold 3 _ h.outs (fun e=>s3 e.symm) (by omega) _
  ·show(O2++_)[O.length+2]?=_
   rw [←hl2,at_newk]
   rfl
  ·show(O2++_)[O.length+1]?=_
   rw [←hl2,at_newk]
   rfl
  ·show(O2++_)[O.length]?=_
   rw [←hl2,at_newz]
   rfl
  have:=hk p.1 (mem_keysN hp)
  exact hold p.1 _ (ho p hp) this.2.2.2.1 this.2.1 _
 rw [e1]
 simp only [keysN_cons,List.nodup_cons,List.mem_cons,not_or]
 refine⟨⟨by omega,by omega,by omega,by omega,by omega,fun q=>(hk 1 q).1 rfl⟩,⟨by omega,by omega,by omega,by omega,fun q=>(hk 2 q).2.1 rfl⟩,⟨by omega,by omega,by omega,fun q=>(hk 3 q).2.2.1 rfl⟩,⟨by omega,by omega,fun q=>?_⟩,⟨by omega,fun q=>?_⟩,fun q=>?_,hnd⟩
 ·have:=(hk _ q).2.2.2.2
  omega
 ·have:=(hk _ q).2.2.2.2
  omega
 have:=(hk _ q).2.2.2.2
 omega
theorem setArr_split:∀(l:List Arr) (a:Arr) (x:List SV),a∈l→(keysN (ars l)).Nodup→∃X Y,l=X++a::Y∧Mach.setArr l (some a.vid) x=X++⟨a.vid,a.bid,x⟩::Y
 | [],_,_,h,_=>by simp at h
 | b::r,a,x,h,hn=>by
  unfold Mach.setArr
  rcases List.mem_cons.1 h with rfl | h
  ·exact⟨[],r,rfl,by simp⟩
  have hne:some a.vid≠some b.vid:=fun e=>by
   simp only [Option.some.injEq] at e
   simp only [ars,keysN_cons,List.nodup_cons,List.mem_cons,not_or] at hn
   exact hn.1.2 (by
    rw [←e]
    exact mem_keysN (ars_mem h).1)
  rw [if_neg hne]
  simp only [ars,keysN_cons,List.nodup_cons] at hn
  obtain⟨X,Y,h1,h2⟩:=setArr_split r a x h hn.2.2
  exact⟨b::X,Y,by simp [h1],by simp [h2]⟩
theorem setHeap(h:Tl u m rest O){a:Arr}(ha:a∈m.heap)(l:List SV)(hl:l.length=a.l.length)(hu:∀v∈l,SV.Under O.length v)(m':Mach)(hm':m' = { m with heap:=Mach.setArr m.heap (some a.vid) l }):Tl u m' rest (O.set a.bid (.cells (cellsAll (l.map SV.enc)))):=by
 obtain⟨ho,hk,hnd,s1,s2,s3,s4,s5⟩:=h.others
 obtain⟨X,Y,e1,e2⟩:=setArr_split m.heap a l ha (by
  rw [keysN_append,List.nodup_append] at hnd
  exact hnd.2.1)
 have hmc:mcells u m'=mcells u m:=by rw [hm'];rfl
 have e0:objsOf u m rest=((1,.cells [.lst 1 [] .ex,aI 0,aI 0])::(2,.cells (mcells u m))::(3,.spare m.out.length)::(m.sid,.cells (ptrs m.frames++rest))::(frs m.frames++(ars X++[(a.vid,.cells [.ms a.bid 0 a.l.length a.l.length])])))++(a.bid,.cells (cellsAll (a.l.map SV.enc)))::ars Y:=by
  unfold objsOf
  rw [e1,ars_append]
  simp [ars]
 have e3:objsOf u m' rest=((1,.cells [.lst 1 [] .ex,aI 0,aI 0])::(2,.cells (mcells u m))::(3,.spare m.out.length)::(m.sid,.cells (ptrs m.frames++rest))::(frs m.frames++(ars X++[(a.vid,.cells [.ms a.bid 0 a.l.length a.l.length])])))++(a.bid,.cells (cellsAll (l.map SV.enc)))::ars Y:=by
  unfold objsOf
  rw [hmc,hm']
  simp only [e2,ars_append]
  simp [ars,hl]
 have hh:=h.holds
 have hn:=h.nodup
 rw [e0] at hh hn
 refine⟨by rw [hm'];simp [h.len],?_,?_,?_⟩
 ·rw [List.length_set]
  exact uptoO_set h.upto (SV.cells_upto hu)
 ·rw [e3]
  exact holds_set hh hn
 rw [e3,←keysN_set _ _ _ (.cells (cellsAll (a.l.map SV.enc)))]
 exact hn
theorem addHeap(h:Tl u m rest O)(l:List SV)(m':Mach)(J:List AObj)(hJ:J.length=7)(hJu:∀o∈J,o.upto (O.length+9))(hu:∀v∈l,SV.Under O.length v)(h1:m'.sid=m.sid)(h2:m'.frames=m.frames)(h3:m'.heap=m.heap++[⟨m.next+8,m.next+7,l⟩])(h4:m'.out=m.out)(h5:m'.next=m.next+9) :
  Tl u m' rest (O.set 2 (.cells (mcells u m'))++(J++[.cells (cellsAll (l.map SV.enc)),.cells [.ms (O.length+7) 0 l.length l.length]])):=by
 obtain⟨ho,hk,hnd,s1,s2,s3,s4,s5⟩:=h.others
 have hN:=h.len
 obtain⟨O2,hO2⟩:∃O2,O2=O.set 2 (.cells (mcells u m')):=⟨_,rfl⟩
 have hl2:O2.length=O.length:=by rw [hO2];simp
 rw [←hO2]
 have e1:objsOf u m' rest=(1,.cells [.lst 1 [] .ex,aI 0,aI 0])::(2,.cells (mcells u m'))::(3,.spare m.out.length)::(m.sid,.cells (ptrs m.frames++rest))::((frs m.frames++ars m.heap)++[(O.length+8,.cells [.ms (O.length+7) 0 l.length l.length]),(O.length+7,.cells (cellsAll (l.map SV.enc)))]):=by
  simp [objsOf,h1,h2,h3,h4,ars_append,ars,hN]
 have hold:∀k o,O[k]?=some o→k≠2→∀X,(O2++X)[k]?=some o:=fun k o hk h2 X=>by
  refine at_left ?_
  rw [hO2]
  exact at_set_ne hk (Ne.symm h2)
 refine⟨by simp [hl2,h5,hN,hJ],?_,?_,?_⟩
 ·have hlen:(O2++(J++[AObj.cells (cellsAll (l.map SV.enc)),.cells [.ms (O.length+7) 0 l.length l.length]])).length=O.length+9:=by simp [hl2,hJ]
  rw [hlen]
  intro o ho'
  rcases List.mem_append.1 ho' with q | q
  ·rw [hO2] at q
   exact uptoO_cells (fun o ho=>AObj.upto_mono (by omega) (h.upto o ho)) h.mach (fun q=>mcells_upto q h1) o q
  rcases List.mem_append.1 q with q | q
  ·exact hJu o q
  simp only [List.mem_cons,List.mem_nil_iff,or_false] at q
  rcases q with rfl | rfl
  ·exact SV.cells_upto fun v hv=>(hu v hv).mono (by omega)
  simp [AObj.upto,uptoL,AVal.upto]
 ·rw [e1]
  intro p hp
  simp only [List.mem_cons,List.mem_append,List.mem_nil_iff,or_false] at hp
  have hJ7:∀k,(J++[AObj.cells (cellsAll (l.map SV.enc)),.cells [.ms (O.length+7) 0 l.length l.length]])[7+k]?=[AObj.cells (cellsAll (l.map SV.enc)),.cells [.ms (O.length+7) 0 l.length l.length]][k]?:=fun k=>by
   rw [←hJ]
   exact at_newk
  rcases hp with rfl | rfl | rfl | rfl | hp | rfl | rfl
  ·exact hold 1 _ (h.holds (1,_) (by simp [objsOf])) (by omega) _
  ·refine at_left ?_
   rw [hO2]
   exact at_set h.mach
  ·exact hold 3 _ h.outs (by omega) _
  ·exact hold m.sid _ h.stack s2 _
  ·have:=hk p.1 (mem_keysN (List.mem_append.2 hp))
   exact hold p.1 _ (ho p (List.mem_append.2 hp)) this.2.1 _
  ·show(O2++_)[O.length+8]?=_
   have hx:O.length+8=O2.length+8:=by omega
   rw [hx,at_newk]
   exact hJ7 1
  show(O2++_)[O.length+7]?=_
  have hx:=at_newk (O:=O2) (k:=7) (X:=J++[AObj.cells (cellsAll (l.map SV.enc)),.cells [.ms (O.length+7) 0 l.length l.length]])
  rw [hl2] at hx
  rw [hx]
  exact hJ7 0
 rw [e1]
 simp only [keysN_cons,keysN_append,List.nodup_cons,List.mem_cons,not_or,List.mem_append]
 have hk':∀k,(k∈keysN (frs m.frames)∨k∈keysN (ars m.heap))→k≠1∧k≠2∧k≠3∧k≠m.sid∧k<O.length:=fun k q=>hk k (by rw [keysN_append];exact List.mem_append.2 q)
 refine⟨⟨by omega,by omega,by omega,⟨fun q=>(hk' 1 (.inl q)).1 rfl,fun q=>(hk' 1 (.inr q)).1 rfl⟩,by omega,by omega,by simp [keysN]⟩,⟨by omega,by omega,⟨fun q=>(hk' 2 (.inl q)).2.1 rfl,fun q=>(hk' 2 (.inr q)).2.1 rfl⟩,by omega,by omega,by simp [keysN]⟩,⟨by omega,⟨fun q=>(hk' 3 (.inl q)).2.2.1 rfl,fun q=>(hk' 3 (.inr q)).2.2.1 rfl⟩,by omega,by omega,by simp [keysN]⟩,⟨⟨fun q=>(hk' _ (.inl q)).2.2.2.1 rfl,fun q=>(hk' _ (.inr q)).2.2.2.1 rfl⟩,by omega,by omega,by simp [keysN]⟩,?_⟩
 rw [List.nodup_append]
 rw [keysN_append] at hnd
 refine⟨hnd,by simp [keysN],?_⟩
 intro x hx y hy e
 have:=(hk' x (List.mem_append.1 hx)).2.2.2.2
 simp only [keysN,List.map_nil,List.mem_cons,List.mem_nil_iff,or_false] at hy
 omega
end Tl
end Go.Proofs.Ytkhnjeblbiocaaa
namespace Go.Proofs.Ytkhnjeblbiocaaa
open Go.Av
theorem at_len{l:List SV}{n:Nat}(h:l.length=n){k:Nat}(hk:k<n):∃x,l[k]?=some x:=⟨l[k]'(by omega),List.getElem?_eq_getElem _⟩
theorem two_of{l:List SV}(h:l.length=2):∃x y,l=[x,y]:=by
 match l,h with
 | [x,y],_=>exact⟨x,y,rfl⟩
theorem arrM_under{O:List AObj}{u:Unt}{m:Mach}{rest:List AVal}(ht:Tl u m rest O)(hm:MachOK u m){v:SV}(hv:VOK u m v)(id:Option Nat)(h:id=v.arr):∀x∈Mach.arrOf m.heap id,SV.Under O.length x:=fun x hx=>by
 subst h
 cases hv0:v.arr with
 | none =>
  rw [hv0] at hx
  have:∀l:List Arr,Mach.arrOf l none=[]:=fun l=>by
   induction l with
   | nil=>rfl
   | cons a r ih=>simp [Mach.arrOf,ih]
  rw [this] at hx
  simp at hx
 | some id =>
  obtain⟨a,ha,h1,h2⟩:=arrOf_mem m.heap id (SV.Wf.ref hv id hv0)
  rw [hv0,h2] at hx
  exact ht.under ((hm.arrs a ha).2 x hx)
theorem exec_tells{u:Unt}{m:Mach}{rest:List AVal}{O:List AObj}(ht:Tl u m rest O)(hm:MachOK u m)(hsh:m.short=false){i:Ins}(hi:InsOK u i)(h13:i.op≠13)(h14:i.op≠14){args:List SV}(hal:args.length=i.args.length)(ha:∀v∈args,VOK u m v) :
  ∃O2,ECall Try.prog 75 O [.mp 2 0,i.enc,.lst 4 (args.map SV.enc) .sh] (fun r O3=>r=.tup [(m.exec i args).2.1.enc,aI (m.exec i args).2.2]∧O3=O2)∧Tl u (m.exec i args).1 rest O2∧O.length≤O2.length:=by
 have hup:=ht.upto
 have hl:∀v∈args,SV.Under O.length v:=fun v hv=>ht.under (ha v hv)
 have hword:∀v∈args,v.kind=0→isW v.n:=fun v hv hk=>SV.Wf.num (ha v hv) (.inl hk)
 have hd2:m.left≤2 ^ 40:=by have:=hm.depth;omega
 have hop:=hi.op
 have stay:∀{v:SV} {t:Int},m.exec i args=(m,v,t)→ECall Try.prog 75 O [.mp 2 0,i.enc,.lst 4 (args.map SV.enc) .sh] (fun r O3=>r=.tup [(m.exec i args).2.1.enc,aI (m.exec i args).2.2]∧O3=O) →
   ∃O2,ECall Try.prog 75 O [.mp 2 0,i.enc,.lst 4 (args.map SV.enc) .sh] (fun r O3=>r=.tup [(m.exec i args).2.1.enc,aI (m.exec i args).2.2]∧O3=O2)∧Tl u (m.exec i args).1 rest O2∧O.length≤O2.length:=fun e hC =>
  ⟨O,hC,by rw [e];exact ht,Nat.le_refl _⟩
 by_cases h0:i.op=0
 ·exact stay (v:=.word i.n) (t:=0) (by simp [Mach.exec,h0]) (exec_int (u:=u) hup i args hl h0)
 by_cases h1:1≤i.op∧i.op≤7
 ·have hl2:=hi.c2 (.inl h1)
  obtain⟨x,hx⟩:=at_len (hal.trans hl2) (k:=0) (by omega)
  obtain⟨y,hy⟩:=at_len (hal.trans hl2) (k:=1) (by omega)
  have hC:=exec_arith (u:=u) (m:=m) hup i args hl h1 x y hx hy (hword x (List.mem_of_getElem? hx)) (hword y (List.mem_of_getElem? hy))
  refine⟨O,hC,?_,Nat.le_refl _⟩
  have e:(m.exec i args).1=m:=by
   unfold Mach.exec
   rw [if_neg h0,if_pos h1]
   split<;>rfl
  rw [e]
  exact ht
 by_cases h8:i.op=8
 ·exact stay (v:=.mk 1 i.n args none) (t:=0) (by simp [Mach.exec,h8]) (exec_con (u:=u) hup i args hl h8)
 by_cases h9:i.op=9
 ·exact stay (v:=.mk 2 i.n args none) (t:=0) (by simp [Mach.exec,h9]) (exec_clos (u:=u) hup i args hl h9)
 by_cases h10:i.op=10∨i.op=11∨i.op=12∨i.op=21
 ·have hlen:0<args.length∧(i.op=21→args.length=2):=by
   rcases h10 with q | q | q | q
   ·have:=hi.c1 (by omega);omega
   ·have:=hi.c1 (by omega);omega
   ·have:=hi.c1 (by omega);omega
   have:=hi.c2 (by omega);omega
  obtain⟨x,hx⟩:=at_len rfl hlen.1
  obtain⟨q1,q2⟩:=objectM_ok (i:=i) ha
  have hC:=object_spec hup i args hl x hx (fun a b c=>at_len (hlen.2 (by omega)) (by omega)) (fun e=>hi.sel (.inl e))
  refine stay (v:=(objectM i args).1) (t:=(objectM i args).2) ?_ (exec_obj (u:=u) (m:=m) hup i args hl h10 hC (ht.under q1))
  unfold Mach.exec
  rw [if_neg h0,if_neg h1,if_neg h8,if_neg h9,if_pos h10]
 by_cases h22:i.op=22∨i.op=23∨i.op=24
 ·have h2:i.op≠22→i.op≠24→∃x y,args=[x,y]:=fun a b=>two_of (hal.trans (hi.c2 (by omega)))
  obtain⟨q1,q2⟩:=vectorM_ok (i:=i) ha (fun e=>by have:=hi.pack e;omega) h2
  have hC:=vector_spec hup i args hl (fun e=>at_len (hal.trans (hi.c1 (by omega))) (by omega)) h2 (fun e=>hi.sel (.inr e)) (fun v hv hk=>vec_words (ha v hv) hk)
  refine stay (v:=(vectorM i args).1) (t:=(vectorM i args).2) ?_ (exec_vec (u:=u) (m:=m) hup i args hl h22 hC (ht.under q1))
  unfold Mach.exec
  rw [if_neg h0,if_neg h1,if_neg h8,if_neg h9,if_neg h10,if_pos h22]
 by_cases h100:i.op=100
 ·obtain⟨x,hx⟩:=at_len (hal.trans (hi.c1 (by omega))) (k:=0) (by omega)
  refine stay (v:=argS args 0) (t:=0) (by simp [Mach.exec,h100]) (exec_copy (u:=u) (m:=m) hup i args hl h100 x hx)
 have hn10:i.op≠10∧i.op≠11∧i.op≠12∧i.op≠21:=by omega
 have hn22:i.op≠22∧i.op≠23∧i.op≠24:=by omega
 have hm0:2<O.length:=lt_of_getElem? ht.mach
 have heff:=exec_effect m i args h0 h1 h8 h9 hn10 hn22 h100
 have hok:=effect_ok hm (i:=i) ha
 by_cases h16:i.op=16
 ·obtain⟨x,y,e⟩:=two_of (hal.trans (hi.c2 (by omega)))
  subst e
  have hxu:=hl x (by simp)
  have hyu:=hl y (by simp)
  have he:m.exec i [x,y]=m.allocate x y:=by
   rw [heff]
   simp [Mach.effect,h16,argS]
  rw [he]
  by_cases hgo:x.kind=0∧0≤x.n∧x.n≤1024∧x.n≤m.left
  ·obtain⟨g1,g2,g3,g4⟩:=hgo
   have hps:(m.pay x.n).short=false:=by simp [Mach.pay,show ¬m.left<x.n by omega,hsh]
   have hres:m.allocate x y=({ m.pay x.n with heap:=m.heap++[⟨m.next+8,m.next+7,List.replicate x.n.toNat y⟩],next:=m.next+9 },.mk 3 0 [] (some (m.next+8)),0):=by
    unfold Mach.allocate
    rw [if_neg (by omega),if_neg (by omega),if_neg (by simp [hps])]
   have hC:=exec_go hup ht.mach i x y hxu hyu h16 hm.left hd2 hsh g1 g2 g3 g4
   rw [hres]
   obtain⟨p1,p2,p3,p4,p5,p6,p7⟩:=pay_fields m x.n
   have hmc:mcells u ({ m.pay x.n with heap:=m.heap++[⟨m.next+8,m.next+7,List.replicate x.n.toNat y⟩],next:=m.next+9 }:Mach)=mcells u (m.pay x.n):=rfl
   have htl:=ht.addHeap (List.replicate x.n.toNat y) ({ m.pay x.n with heap:=m.heap++[⟨m.next+8,m.next+7,List.replicate x.n.toNat y⟩],next:=m.next+9 }:Mach)
    [.gone,.cells [aI 3,aI 0,.lst 4 [] .sh,.mp (O.length+8) 0],.gone,.cells [aI 3,aI 0,.lst 4 [] .sh,.mp (O.length+8) 0],.gone,.gone,.cells [aI 3,aI 0,.lst 4 [] .ex,.mp (O.length+8) 0]] rfl (fun o ho=>by
     simp only [List.mem_cons,List.mem_nil_iff,or_false] at ho
     rcases ho with rfl | rfl | rfl | rfl | rfl | rfl | rfl
     all_goals simp [AObj.upto,uptoL,AVal.upto]) (fun v hv=>by
     rw [(List.mem_replicate.1 hv).2]
     exact hyu) p6 p1 rfl p3 rfl
   rw [hmc] at htl
   simp only [List.length_replicate] at htl
   have henc:(SV.mk 3 0 [] (some (m.next+8))).enc=.agg [aI 3,aI 0,.lst 4 [] .sh,.mp (O.length+8) 0]:=by
    rw [SV.enc_mk,ht.len]
    rfl
   refine⟨_,?_,htl,by simp⟩
   simp only [henc]
   exact hC
  have hsame:(m.allocate x y).2.1=.zero∧(m.allocate x y).1.sid=m.sid∧(m.allocate x y).1.frames=m.frames∧(m.allocate x y).1.heap=m.heap∧(m.allocate x y).1.out=m.out∧(m.allocate x y).1.next=m.next:=by
   obtain⟨p1,p2,p3,p4,p5,p6,p7⟩:=pay_fields m x.n
   unfold Mach.allocate
   split
   ·simp
   split
   ·simp
   split
   ·exact⟨rfl,p6,p1,p2,p3,p7⟩
   rename_i a1 a2 a3
   exfalso
   refine hgo ⟨by omega,by omega,by omega,?_⟩
   by_cases q:m.left<x.n
   ·exact absurd (show(m.pay x.n).short=true by simp [Mach.pay,q]) a3
   omega
  obtain⟨b0,b1,b2,b3,b4,b5⟩:=hsame
  have hC:=effect_stay hup ht.mach i x y hxu hyu h16 hm.left hd2 hsh (fun z=>by rw [b0];simp [SV.zero,SV.arr])
  have htl:=ht.setMach (m.allocate x y).1 b1 b2 b3 (by rw [b4]) b5
  exact⟨_,exec_eff hup i [x,y] hl h0 h1 h8 h9 hn10 hn22 h100 hm0 _ _ (by rw [b0];exact zero_under _) hC (by simp) htl.upto,htl,by simp⟩
 rw [heff]
 by_cases h15:i.op=15
 ·obtain⟨x,hx⟩:=at_len (hal.trans (hi.c1 (by omega))) (k:=0) (by omega)
  have hC:=effect_print hup ht.mach ht.outs i args hl h15 x hx hm.out
  have hsame:(m.effect i args).1.sid=m.sid∧(m.effect i args).1.frames=m.frames∧(m.effect i args).1.heap=m.heap∧(m.effect i args).1.next=m.next:=by
   unfold Mach.effect
   rw [if_pos h15]
   split
   ·simp
   split<;>simp
  obtain⟨b1,b2,b3,b4⟩:=hsame
  have htl:=ht.setOut (m.effect i args).1 b1 b2 b3 b4
  have hv:SV.Under O.length (m.effect i args).2.1:=ht.under (hok.val.of_heap (by rw [b3]))
  exact⟨_,exec_eff hup i args hl h0 h1 h8 h9 hn10 hn22 h100 hm0 _ _ hv hC (by simp) htl.upto,htl,by simp⟩
 by_cases h18:i.op=18
 ·obtain⟨x,y,e⟩:=two_of (hal.trans (hi.c2 (by omega)))
  subst e
  have hC:=effect_check (u:=u) (m:=m) hup i x y (hl x (by simp)) (hl y (by simp)) hm0 h18
  have hsame:(m.effect i [x,y]).1=m:=by
   unfold Mach.effect
   rw [if_neg (by omega),if_neg (by omega),if_pos h18]
   split
   ·rfl
   split<;>rfl
  have hv:SV.Under O.length (m.effect i [x,y]).2.1:=ht.under (hok.val.of_heap (by rw [hsame]))
  exact⟨O,exec_eff hup i [x,y] hl h0 h1 h8 h9 hn10 hn22 h100 hm0 _ _ hv hC rfl hup,by rw [hsame];exact ht,Nat.le_refl _⟩
 have hlen:0<args.length∧(i.op≠17→2≤args.length)∧(i.op≠17→i.op≠19→3≤args.length):=by
  rcases (show i.op=17∨i.op=19∨i.op=20 by omega) with q | q | q
  ·have:=hi.c1 (by omega);omega
  ·have:=hi.c2 (by omega);omega
  have:=hi.c3 (by omega);omega
 obtain⟨x,hx⟩:=at_len rfl hlen.1
 have hxm:=List.mem_of_getElem? hx
 obtain⟨O',hC,hst⟩:=effect_arr (m:=m) hup i args hl x hx h15 h16 h18 (fun a=>at_len rfl (hlen.2.1 a)) (fun a b=>at_len rfl (hlen.2.2 a b)) (arrM_under ht hm (ha x hxm) _ rfl) (fun hk=>by
  obtain⟨a,ha',e1,e2⟩:=arr_ok hm (ha x hxm) hk
  obtain⟨r1,r2⟩:=ht.arr ha'
  refine⟨a.vid,a.bid,e1,?_,?_⟩
  ·rw [e2];exact r1
  rw [e2];exact r2)
 rcases hst with⟨e1,e2⟩ | ⟨vid,bid,k,z,l,e1,e2,e3,e4,e5,e6,e7,e8⟩
 ·have hv:SV.Under O.length (m.effect i args).2.1:=ht.under (hok.val.of_heap (by rw [e2]))
  subst e1
  exact⟨O',exec_eff hup i args hl h0 h1 h8 h9 hn10 hn22 h100 hm0 _ _ hv hC rfl hup,by rw [e2];exact ht,Nat.le_refl _⟩
 obtain⟨a,ha',f1,f2⟩:=arrOf_mem m.heap vid (SV.Wf.ref (ha x hxm) vid e1)
 have hla:l=a.l:=by rw [e5,e1,f2]
 obtain⟨r1,r2⟩:=ht.arr ha'
 have hb:bid=a.bid:=by
  rw [f1,e2] at r1
  simp only [Option.some.injEq,AObj.cells.injEq,List.cons.injEq,AVal.ms.injEq] at r1
  exact r1.1.1
 have htl:=ht.setHeap ha' (l.set k z) (by rw [List.length_set,hla]) (fun v hv=>by
  rcases List.mem_or_eq_of_mem_set hv with q | q
  ·rw [hla] at q
   exact ht.under ((hm.arrs a ha').2 v q)
  rw [q]
  exact e6) (m.effect i args).1 (by rw [e8,e1,f1])
 rw [←hb,←e7] at htl
 have hlO:O.length=O'.length:=by rw [e7];simp
 have hv:SV.Under O.length (m.effect i args).2.1:=by
  have:=htl.under hok.val
  rw [←hlO] at this
  exact this
 exact⟨O',exec_eff hup i args hl h0 h1 h8 h9 hn10 hn22 h100 hm0 _ _ hv hC hlO htl.upto,htl,by omega⟩
theorem Tl.of_eq{u:Unt}{m m':Mach}{rest:List AVal}{O O':List AObj}(h:Tl u m rest O)(e:m'=m)(e':O'=O):Tl u m' rest O':=by
 subst e
 subst e'
 exact h
theorem stack_at{f:Fr}{r:List Fr}{rest:List AVal}:(ptrs (f::r)++rest)[r.length]?=some (.mp f.fid 0):=by
 have h:ptrs (f::r)=r.reverse.map (fun f=>AVal.mp f.fid 0)++[.mp f.fid 0]:=by simp [ptrs]
 rw [h,List.append_assoc]
 have hl:(r.reverse.map (fun f=>AVal.mp f.fid 0)).length=r.length:=by simp
 rw [List.getElem?_append_right (by omega),hl,Nat.sub_self]
 rfl
theorem stack_at2{f g:Fr}{r:List Fr}{rest:List AVal}:(ptrs (f::g::r)++rest)[r.length]?=some (.mp g.fid 0):=by
 have h:ptrs (f::g::r)++rest=ptrs (g::r)++(.mp f.fid 0::rest):=by simp [ptrs]
 rw [h]
 exact stack_at
theorem Tl.apart{u:Unt}{m:Mach}{rest:List AVal}{O:List AObj}(ht:Tl u m rest O){f:Fr}{r:List Fr}(hfr:m.frames=f::r):f.fid≠2∧f.mid≠2∧f.fid≠f.mid:=by
 obtain⟨_,hk,hnd,_⟩:=ht.others
 rw [hfr] at hk hnd
 refine⟨(hk f.fid ?_).2.1,(hk f.mid ?_).2.1,?_⟩
 ·rw [keysN_append]
  exact List.mem_append.2 (.inl (mem_keysN (Tl.frs_mem (f:=f) (by simp)).1))
 ·rw [keysN_append]
  exact List.mem_append.2 (.inl (mem_keysN (Tl.frs_mem (f:=f) (by simp)).2))
 simp only [frs,List.cons_append,keysN_cons,List.nodup_cons,List.mem_cons,not_or] at hnd
 exact hnd.1.1
theorem Tl.apart2{u:Unt}{m:Mach}{rest:List AVal}{O:List AObj}(ht:Tl u m rest O){g:Fr}(hg:g∈m.frames):g.fid≠2∧g.mid≠2:=by
 obtain⟨_,hk,hnd,_⟩:=ht.others
 refine⟨(hk g.fid ?_).2.1,(hk g.mid ?_).2.1⟩
 ·rw [keysN_append]
  exact List.mem_append.2 (.inl (mem_keysN (Tl.frs_mem hg).1))
 rw [keysN_append]
 exact List.mem_append.2 (.inl (mem_keysN (Tl.frs_mem hg).2))
theorem setTop_setTop(m:Mach)(f g:Fr):(m.setTop f).setTop g=m.setTop g:=rfl
theorem follow_tells{u:Unt}{m:Mach}{rest:List AVal}{O:List AObj}(ht:Tl u m rest O)(hm:MachOK u m){f:Fr}{r:List Fr}(hfr:m.frames=f::r){e:Edge}(he:EdgeOK (fnOf u f.fn) e) :
  ∃O',ECall Try.prog 92 O [.mp 2 0,.mp f.fid 0,e.enc] (fun r O1=>r=.tup []∧O1=O')∧Tl u (m.follow u f e) rest O'∧O.length=O'.length:=by
 have hff:=hm.frames f (by rw [hfr];simp)
 obtain⟨t1,t2⟩:=ht.frame (f:=f) (by rw [hfr];simp)
 obtain⟨n1,n2,n3⟩:=ht.apart hfr
 have hu:∀e∈f.vals,SV.Under O.length e.2:=fun e he=>ht.under (hff.vals e he)
 obtain⟨f',hf'⟩:∃f',f' = { f with blk:=e.block,pos:=0,vals:=bindS f.vals (blkOf (fnOf u f.fn) e.block).params (takeS f.vals e.args) }:=⟨_,rfl⟩
 have hC:=follow_spec ht.upto ht.mach f t1 t2 hu n1.symm n2.symm n3 hff.fn e he f' hf'
 have h1:=ht.setTop (f':={ f' with vals:=f.vals }) hfr (by rw [hf']) (by rw [hf']) rfl
 have hfc:fcells { f' with vals:=f.vals }=fcells f':=rfl
 rw [hfc] at h1
 have h2:=h1.setVals (f:={ f' with vals:=f.vals }) (f':=f') (r:=r) (by simp [Mach.setTop,hfr]) rfl (by
  rw [List.length_set,hf']
  intro x hx
  rcases mem_bindS hx with q | q
  ·exact hu x q
  exact takeS_under hu e.args _ q)
 rw [setTop_setTop] at h2
 have hmid:f'.mid=f.mid:=by rw [hf']
 have hres:m.follow u f e=m.setTop f':=by rw [hf'];rfl
 rw [hres]
 refine⟨_,hC,?_,by simp⟩
 exact h2.of_eq rfl (by rw [←hmid])
theorem finish_tells{u:Unt}{m:Mach}{rest:List AVal}{O:List AObj}(ht:Tl u m rest O)(hm:MachOK u m){f:Fr}{r:List Fr}(hfr:m.frames=f::r){t:Term}(hto:TermOK (fnOf u f.fn) t) :
  ∃O' rest',ECall Try.prog 72 O [.mp 2 0,.mp f.fid 0,t.enc] (fun r O1=>r=.tup []∧O1=O')∧Tl u (m.finish u f t) rest' O'∧O.length=O'.length:=by
 have hff:=hm.frames f (by rw [hfr];simp)
 obtain⟨t1,t2⟩:=ht.frame (f:=f) (by rw [hfr];simp)
 obtain⟨n1,n2,n3⟩:=ht.apart hfr
 obtain⟨_,_,_,s1,s2,s3,s4,s5⟩:=ht.others
 have hu:∀e∈f.vals,SV.Under O.length e.2:=fun e he=>ht.under (hff.vals e he)
 have hk:=hto.kind
 unfold Mach.finish
 by_cases h4:t.kind=4
 ·rw [if_pos h4]
  exact⟨_,rest,end_trap ht.upto ht.mach f t1 t2 hu n3 t h4,ht.setMach (m.stop t.n 0) rfl rfl rfl rfl rfl,by simp⟩
 rw [if_neg h4]
 by_cases h1:t.kind=1
 ·rw [if_pos h1]
  have hl:=hto.jump h1
  have he:t.to[0]?=some (t.to[0]'(by omega)):=List.getElem?_eq_getElem _
  obtain⟨O',q1,q2,q3⟩:=follow_tells ht hm hfr (hto.edges _ (List.mem_of_getElem? he))
  refine⟨O',rest,end_jump ht.upto ht.mach f t1 t2 hu n3 t h1 _ he q1 q3 q2.upto,?_,q3⟩
  rw [he]
  exact q2
 rw [if_neg h1]
 by_cases h0:t.kind=0
 ·rw [if_pos h0]
  have hv:=getS_ok hff.vals t.arg
  have hvu:=ht.under hv
  cases hr:r with
  | nil =>
   subst hr
   have hC:=leave_last ht.upto ht.mach f hfr (lt_of_getElem? t1) _ hvu
   have htl:=ht.last hfr (m.leave f (getS f.vals t.arg)) (by simp [Mach.leave,hfr,Mach.stop]) (by simp [Mach.leave,hfr,Mach.stop]) (by simp [Mach.leave,hfr,Mach.stop]) (by simp [Mach.leave,hfr,Mach.stop]) (by simp [Mach.leave,hfr,Mach.stop])
   exact⟨_,_,end_ret ht.upto ht.mach f t1 t2 hu n3 t h0 hC (by simp) htl.upto,htl,by simp⟩
  | cons g r' =>
   subst hr
   have hg:g∈m.frames:=by rw [hfr];simp
   obtain⟨g1,g2⟩:=ht.frame hg
   obtain⟨k1,k2⟩:=ht.apart2 hg
   have hgu:∀e∈g.vals,SV.Under O.length e.2:=fun e he=>ht.under ((hm.frames g hg).vals e he)
   have hdl:r'.length≤2 ^ 40:=by
    have h1:=hm.depth
    have h2:=hm.left
    rw [hfr] at h1
    simp only [List.length_cons] at h1
    omega
   have hst:=ht.stack
   rw [hfr] at hst
   have hC:=leave_more ht.upto ht.mach f g r' hfr t1 g1 g2 hgu hst stack_at2 s2 hdl n1 k1 k2 _ hvu
   have hres:m.leave f (getS f.vals t.arg) = { m with frames:={ g with vals:=putS' g.vals f.to (getS f.vals t.arg) }::r' }:=by
    unfold Mach.leave
    rw [hfr]
    rfl
   have htl:=ht.pop (g':={ g with vals:=putS' g.vals f.to (getS f.vals t.arg) }) hfr rfl (fun x hx=>by
    rcases mem_putS' hx with q | q
    ·exact hgu x q
    rw [q]
    exact hvu) _ hres
   exact⟨_,_,end_ret ht.upto ht.mach f t1 t2 hu n3 t h0 hC (by simp) htl.upto,htl,by simp⟩
 rw [if_neg h0]
 by_cases hV:(getS f.vals t.arg).kind=0
 ·rw [if_neg (by simp [hV])]
  obtain⟨e,he⟩:=choice_at hto h0 h1 h4 (getS f.vals t.arg).n
  obtain⟨O',q1,q2,q3⟩:=follow_tells ht hm hfr (hto.edges _ (List.mem_of_getElem? he))
  refine⟨O',rest,end_choice ht.upto ht.mach f t1 t2 hu n3 t ⟨h0,h1,h4⟩ hV (by have:=hto.cl;omega) e he q1 q3 q2.upto,?_,q3⟩
  rw [he]
  exact q2
 rw [if_pos hV]
 exact⟨_,rest,end_type ht.upto ht.mach f t1 t2 hu n3 t ⟨h0,h1,h4⟩ hV,ht.setMach (m.stop 5 0) rfl rfl rfl rfl rfl,by simp⟩
theorem step_tells{u:Unt}{m:Mach}{rest:List AVal}{O:List AObj}(hu:UnitOK u)(ht:Tl u m rest O)(hm:MachOK u m)(ho:m.over=false)(hd:m.frames.length+m.left+1≤2 ^ 40) :
  ∃O' rest',ECall Try.prog 61 O [.mp 2 0] (fun r O1=>r=.tup []∧O1=O')∧Tl u (m.step u) rest' O'∧O.length≤O'.length:=by
 obtain⟨hne,hsh⟩:=hm.over ho
 unfold Mach.step
 cases hfr:m.frames with
 | nil=>exact absurd hfr hne
 | cons f r =>
  have hff:=hm.frames f (by rw [hfr];simp)
  obtain⟨t1,t2⟩:=ht.frame (f:=f) (by rw [hfr];simp)
  obtain⟨n1,n2,n3⟩:=ht.apart hfr
  obtain⟨_,_,_,s1,s2,s3,s4,s5⟩:=ht.others
  have huv:∀e∈f.vals,SV.Under O.length e.2:=fun e he=>ht.under (hff.vals e he)
  have hst:=ht.stack
  rw [hfr] at hst
  have hdl:r.length≤2 ^ 40:=by
   have h2:=hm.left
   rw [hfr] at hd
   simp only [List.length_cons] at hd
   omega
  have hF:=fnOf_at hff.fn.1 hff.fn.2
  have hB:=blkOf_at hff.blk.1 hff.blk.2
  have hbok:=hu.blocks _ (fnOf_mem hff.fn.1 hff.fn.2) _ (blkOf_mem hff.blk.1 hff.blk.2)
  simp only
  cases hi:(blkOf (fnOf u f.fn) f.blk).ins[f.pos]? with
  | none =>
   have hpos:f.pos=(blkOf (fnOf u f.fn) f.blk).ins.length:=by
    have:=List.getElem?_eq_none_iff.1 hi
    have:=hff.pos
    omega
   obtain⟨O',rest',q1,q2,q3⟩:=finish_tells ht hm hfr hbok.term
   exact⟨O',rest',step_end ht.upto ht.mach f r hfr t1 n1 hst stack_at hdl _ hF hff.fn.1 _ hB hff.blk.1 hpos q1 (by omega) q2.upto,q2,by omega⟩
  | some i =>
   simp only
   have hio:=hbok.ins i (List.mem_of_getElem? hi)
   have hlt:=lt_of_getElem? hi
   have hbl:=hbok.len
   obtain⟨f',hf'⟩:∃f',f' = { f with pos:=f.pos+1 }:=⟨_,rfl⟩
   rw [←hf']
   have hv':f'.vals=f.vals:=by rw [hf']
   have hfid:f'.fid=f.fid:=by rw [hf']
   have hmid:f'.mid=f.mid:=by rw [hf']
   obtain⟨O1,hO1⟩:∃O1,O1=O.set f.fid (.cells (fcells f')):=⟨_,rfl⟩
   have h1:=ht.setTop (f':=f') hfr hfid hmid hv'
   rw [←hO1] at h1
   have hlen1:O.length=O1.length:=by rw [hO1];simp
   have hf1:FrOK u m f':=by
    rw [hf']
    exact⟨hff.fn,hff.blk,hlt,hff.vals⟩
   have hm1:MachOK u (m.setTop f'):=hm.setTop hne hf1
   have hfr1:(m.setTop f').frames=f'::r:=by simp [Mach.setTop,hfr]
   have hmc:mcells u (m.setTop f')=mcells u m:=by simp [mcells,Mach.setTop,hfr]
   have hmo1:O1[2]?=some (.cells (mcells u m)):=by rw [←hmc];exact h1.mach
   obtain⟨args,hargs⟩:∃args,args=takeS f.vals i.args:=⟨_,rfl⟩
   rw [←hargs]
   have hal:args.length=i.args.length:=by rw [hargs];exact takeS_len _ _
   have hav:∀v∈args,VOK u (m.setTop f') v:=by
    rw [hargs]
    exact fun v hv=>(takeS_ok hff.vals i.args v hv).of_heap (by rfl)
   have hau:∀v∈args,SV.Under O1.length v:=fun v hv=>h1.under (hav v hv)
   have hst1:=h1.stack
   have hdl1:(m.setTop f').frames.length≤2 ^ 41:=by
    rw [hfr1]
    simp only [List.length_cons]
    omega
   have hpush:∀fn:Int,0≤fn∧fn<u.fns.length→(blkOf (fnOf u fn) 0).params.length=args.length →
     ∃O',ECall Try.prog 59 O1 [.mp 2 0,aI fn,.lst 4 (args.map SV.enc) .sh,aI i.to] (fun r O2=>r=.tup []∧O2=O')∧Tl u ((m.setTop f').enter u fn args i.to) [] O'∧O.length≤O'.length:=fun fn hfn hp=>by
    have hC:=enter_push h1.upto h1.mach hst1 (by simp [ptrs]) s2 h1.len hdl1 fn hfn (hu.ne _ (fnOf_mem hfn.1 hfn.2)).1 args hau hp i.to
    have htl:=h1.push fn i.to args _ rfl hau
    exact⟨_,hC,htl,by simp;omega⟩
   unfold Mach.act
   by_cases h13:i.op=13
   ·rw [if_pos h13]
    obtain⟨c1,c2,c3⟩:=hio.call h13
    obtain⟨O',q1,q2,q3⟩:=hpush i.n ⟨c1,c2⟩ (by rw [hal];exact c3)
    exact⟨O',[],step_call ht.upto ht.mach f r hfr t1 n1 hst stack_at hdl _ hF hff.fn.1 _ hB hff.blk.1 t2 n3 huv i hi (by omega) hio.len f' hf' args hargs O1 hO1 h13 q1 q3 q2.upto,q2,q3⟩
   rw [if_neg h13]
   by_cases h14:i.op=14
   ·rw [if_pos h14]
    obtain⟨c,hc⟩:=at_len (hal.trans rfl) (k:=0) (by have:=hio.app h14;omega)
    have hac:=argS_of hc
    rw [hac]
    have hcv:=hav c (List.mem_of_getElem? hc)
    have htl:=h1.setMach ((m.setTop f').stop 5 0) rfl rfl rfl rfl rfl
    have hstop:mcells u ((m.setTop f').stop 5 0)=mcells u (m.stop 5 0):=by simp [mcells,Mach.setTop,Mach.stop,hfr]
    by_cases hk:c.kind=2
    ·obtain⟨k1,k2⟩:=SV.Wf.fn hcv hk
     have hG:=fnOf_at k1 k2
     have hD:(fnOf u c.n).blocks[0]?=some (blkOf (fnOf u c.n) 0):=by
      obtain⟨z1,z2⟩:=blk0 hu k1 k2
      exact blkOf_at z1 z2
     by_cases hp:(blkOf (fnOf u c.n) 0).params.length=args.length
     ·rw [if_pos ⟨hk,hp⟩]
      obtain⟨O',q1,q2,q3⟩:=hpush c.n ⟨k1,k2⟩ hp
      exact⟨O',[],step_app ht.upto ht.mach f r hfr t1 n1 hst stack_at hdl _ hF hff.fn.1 _ hB hff.blk.1 t2 n3 huv i hi (by omega) hio.len f' hf' args hargs O1 hO1 h14 c hc hk k1 _ hG _ hD hp hau q1 q3 q2.upto hmo1,q2,q3⟩
     rw [if_neg (fun q=>hp q.2)]
     refine⟨_,rest,step_app_len ht.upto ht.mach f r hfr t1 n1 hst stack_at hdl _ hF hff.fn.1 _ hB hff.blk.1 t2 n3 huv i hi (by omega) hio.len f' hf' args hargs O1 hO1 h14 c hc hk k1 _ hG _ hD hp hau hmo1,?_,by simp;omega⟩
     rw [←hstop]
     exact htl
    rw [if_neg (fun q=>hk q.1)]
    refine⟨_,rest,step_app_kind ht.upto ht.mach f r hfr t1 n1 hst stack_at hdl _ hF hff.fn.1 _ hB hff.blk.1 t2 n3 huv i hi (by omega) hio.len f' hf' args hargs O1 hO1 h14 c hc hk hau hmo1,?_,by simp;omega⟩
    rw [←hstop]
    exact htl
   rw [if_neg h14]
   have hshx:(m.setTop f').short=false:=hsh
   obtain⟨O2,q1,q2,q3⟩:=exec_tells h1 hm1 hshx hio h13 h14 hal hav
   have hok:=exec_ok hm1 hio hal hav
   generalize (m.setTop f').exec i args=R at *
   have hfr2:R.1.frames=f'::r:=by rw [hok.frames,hfr1]
   obtain⟨w1,w2⟩:=q2.frame (f:=f') (by rw [hfr2];simp)
   rw [hfid] at w1
   rw [hmid,hv'] at w2
   have hvu:=q2.under hok.val
   have hu2:∀e∈f.vals,SV.Under O2.length e.2:=fun e he=>(huv e he).mono (by omega)
   have huP:∀e∈putS' f.vals i.to R.2.1,SV.Under O2.length e.2:=fun x hx=>by
    rcases mem_putS' hx with q | q
    ·exact hu2 x q
    rw [q]
    exact hvu
   unfold Mach.settle
   rw [hv']
   by_cases ht0:R.2.2=0
   ·rw [if_neg (by simp [ht0])]
    have hC:=step_exec ht.upto ht.mach f r hfr t1 n1 hst stack_at hdl _ hF hff.fn.1 _ hB hff.blk.1 t2 n3 huv i hi (by omega) hio.len f' hf' args hargs O1 hO1 ⟨h13,h14⟩ R.2.1 R.2.2 q1 (by omega) q2.upto hvu R.1 q2.mach w1 w2 hu2 n2 ht0
    have htl:=q2.setVals (f':={ f' with vals:=putS' f.vals i.to R.2.1 }) hfr2 rfl huP
    exact⟨_,rest,hC,htl.of_eq rfl (by rw [hmid]),by simp;omega⟩
   rw [if_pos ht0]
   have hC:=step_trap ht.upto ht.mach f r hfr t1 n1 hst stack_at hdl _ hF hff.fn.1 _ hB hff.blk.1 t2 n3 huv i hi (by omega) hio.len f' hf' args hargs O1 hO1 ⟨h13,h14⟩ R.2.1 R.2.2 q1 (by omega) q2.upto hvu R.1 q2.mach w1 w2 hu2 n2 ht0
   have q4:=q2.setMach (R.1.stop R.2.2 0) rfl rfl rfl rfl rfl
   have htl:=q4.setVals (f':={ f' with vals:=putS' f.vals i.to R.2.1 }) hfr2 rfl (by
    rw [List.length_set]
    exact huP)
   exact⟨_,rest,hC,htl.of_eq rfl (by rw [hmid]),by simp;omega⟩
def Ans.enc(a:Ans):AVal:=.tup [.agg [.lst 1 (a.out.map aI) .sh,aI a.fin,aI a.val],aI a.n,aI a.e]
theorem ecall_nil3{f:FuncId}{O:List AObj}{a b d:AVal}{sz:Nat}{R:AVal→List AObj→Prop}(h:ECall Try.prog f O [a,b,.lst sz [] .sh,d] R):ECall Try.prog f O [a,b,.v (.slice none 0 0),d] R :=
 ⟨h.1,fun g vs hg ho ha=>h.2 g vs hg ho ⟨ha.1,fun i c u hc hu=>by
  match i,hc,hu with
  | 0,hc,hu=>exact ha.2 0 c u hc hu
  | 1,hc,hu=>exact ha.2 1 c u hc hu
  | 2,hc,hu =>
   simp only [List.getElem?_cons_succ,List.getElem?_cons_zero,Option.some.injEq] at hc
   subst hc
   have:=(ha.2 2 _ u rfl hu).v_inv.1
   subst this
   exact .nil (fun id e=>by cases e) (by simp)
  | 3,hc,hu=>exact ha.2 3 c u hc hu
  | i+4,hc,_=>simp at hc⟩⟩
theorem start_ok{u:Unt}(hu:UnitOK u){fuel:Int}(h0:0≤fuel)(h1:fuel≤1000000):MachOK u ((Mach.start fuel).enter u u.main [] 0):=by
 have hs:MachOK u { Mach.start fuel with over:=true } :=
  ⟨by simp [Mach.start],by simp [Mach.start],h0,by simp [Mach.start];omega,by simp [Mach.start],by simp [Mach.start],by simp [Mach.start],by simp [Mach.start,isW],by simp [Mach.start],by simp⟩
 have h:=hs.enter hu (by simp) (by simp [Mach.start];omega) hu.main (args:=[]) (by simp) 0
 exact⟨fun f hf=>(h.frames f hf).of_heap (by rfl),fun a ha=>by simp [Mach.start,Mach.enter] at ha,h.left,h.depth,h.out,h.words,h.fin,h.val,h.done,fun _=>⟨by simp [Mach.enter],rfl⟩⟩
theorem start_tells{u:Unt}(hu:UnitOK u){fuel:Int}(hp:(blkOf (fnOf u u.main) 0).params=[]):Tl u ((Mach.start fuel).enter u u.main [] 0) [] [.gone,.cells [.lst 1 [] .ex,aI 0,aI 0],.cells (mcells u ((Mach.start fuel).enter u u.main [] 0)),.spare 0,.map (.int .i64) [],.cells [aI u.main,aI 0,aI 0,aI 0,.mm 4],.cells [.mp 5 0]] where
 len:=rfl
 upto:=by simp [AObj.upto,uptoL,uptoE,AVal.upto,mcells,Func.map_upto,Mach.enter,Mach.start]
 holds:=by
  intro p hp'
  simp only [objsOf,Mach.enter,Mach.start,frs,ars,hp,bindS,List.append_nil,List.mem_cons,List.mem_nil_iff,or_false,List.mem_append] at hp'
  rcases hp' with rfl | rfl | rfl | rfl | rfl | rfl
  all_goals rfl
 nodup:=by
  simp [keysN,objsOf,Mach.enter,Mach.start,frs,ars]
theorem run_over{u:Unt}{m:Mach}(h:m.over=true)(k:Nat):Mach.run u k m=m:=by
 cases k with
 | zero=>rfl
 | succ k=>simp [Mach.run,h]
theorem perform_spec{u:Unt}(hu:UnitOK u){fuel:Int}(hf0:0≤fuel)(hf1:fuel≤1000000):PCall Try.prog 34 [u.enc,aI fuel] (performM u fuel).enc:=by
 have hp:=hu.none
 have hen:=ecall_nil3 (enter_first (fuel:=fuel) hu.main (hu.ne _ (fnOf_mem hu.main.1 hu.main.2)).1 hp 4 .sh)
 have hst:=start_tells hu (fuel:=fuel) hp
 have hsok:=start_ok hu hf0 hf1
 obtain⟨K,hK⟩:∃K,K=fuel.toNat+2:=⟨_,rfl⟩
 obtain⟨E,hE⟩:∃E,E=Mach.run u K ((Mach.start fuel).enter u u.main [] 0):=⟨_,rfl⟩
 have hres:performM u fuel=if E.short then ⟨[],0,0,0,13⟩ else ⟨E.out,E.fin,E.val,fuel - E.left,0⟩:=by
  rw [hE,hK]
  rfl
 rw [hres]
 have hleft:((Mach.start fuel).enter u u.main [] 0).left=fuel:=rfl
 unfold mcells0 at hen
 generalize hm0:(Mach.start fuel).enter u u.main [] 0=m0 at *
 refine zf true 0 Try.func34 Try.ntmps34 ?_
 dsimp only [Tmp,TypeId,slotsOf]
 refine zh1 (za0 ?_)
 refine awp_freeze1 2 0 (.ip none [eFuncs u.fns,aI u.main]) rfl (by simp [AObj.isSpare]) trivial rfl ?_ ?_
 rotate_left
 simp -dsimp only [simprocAttr,↓vpre,zp]
 ·refine zh1 (za0 ?_)
  refine awp_ownCell 2 6 rfl rfl ?_
  simp -dsimp only [simprocAttr,↓vpre,zp]
  refine zh1 ?_
  refine .inr (.inl ⟨_,_,hen,.inl (later_intro (zj ?_))⟩)
  refine za0 ?_
  refine awp_seq (awp_block (awp_loop (ι:={p:Mach×List AVal×List AObj // MachOK u p.1∧Tl u p.1 p.2.1 p.2.2∧p.1.left≤fuel∧∃k,p.1.left.toNat+2≤k∧Mach.run u k p.1=E}) (fun p=>⟨45,[(1,aI fuel),(4,.mp 1 0),(5,aI 0),(6,aI 0),(7,.mp 2 0)],p.1.2.2⟩) (fun p=>p.1.1.left.toNat) ⟨(m0,[],_),hsok,hst,by simp only [hleft];omega,K,by simp only [hleft];omega,hE.symm⟩ ?_ ?_))
  ·refine zq rfl ?_ ?_
   simp -dsimp only [simprocAttr,↓vpre,zp,zc]
   rfl
  rintro⟨⟨m,rest,O⟩,hm,ht,hlf,k,hk,hrun⟩
  simp only at hm ht hlf hk hrun
  have hmo:=ht.mach
  unfold mcells at hmo
  have hdep:=hm.depth
  have hl0:=hm.left
  have hr1:O[1]?=some (.cells [.lst 1 [] .ex,aI 0,aI 0]):=ht.holds (1,_) (by simp [objsOf])
  have hrs:=set_self hr1
  have hml:=lt_of_getElem? ht.mach
  have hpay:=pay_spec ht.upto ht.mach 1 hl0 (by omega) (by omega)
  cases hov:m.over with
  | true =>
   rw [run_over hov] at hrun
   subst hrun
   rw [hov] at hmo
   refine zg2 ?_
   simp -dsimp only [simprocAttr,↓vpre,zp,hmo]
   refine za0 ?_
   refine zu0 rfl ?_
   refine awp_exit ?_
   simp -dsimp only [vend,ne_eq,Nat.reduceEqDiff,reduceCtorEq]
   cases hsh:m.short with
   | true =>
    rw [hsh] at hmo
    refine zg2 ?_
    simp -dsimp only [simprocAttr,↓vpre,zp,hmo]
    refine za0 ?_
    refine zw0 rfl ?_
    refine zg1 ?_
    simp -dsimp only [simprocAttr,↓vpre,zp,hr1]
    refine za0 ?_
    refine awp_ret ?_
    simp -dsimp only [simprocAttr,↓vpre,zp,zr,Try.results34,hrs]
    exact⟨by simp [uptoL,AVal.upto],rfl⟩
   | false =>
    rw [hsh] at hmo
    refine zg2 ?_
    simp -dsimp only [simprocAttr,↓vpre,zp,hmo]
    refine za0 ?_
    refine zu0 rfl ?_
    refine zb0 ?_
    refine zg1 ?_
    simp -dsimp only [simprocAttr,↓vpre,zp,hmo,hr1]
    repeat(refine⟨by omega,?_⟩)
    refine⟨orderB_ren [1,2] O.length [.pure,.pure,.pure,.rd 1,.pure,.pure,.pure,.pure,.rd 1,.pure,.wr 2 [0],.pure,.pure] (by simp) (by simp;omega) rfl rfl (by kernel_rfl),at_intro ?_⟩
    simp -dsimp only [vend,ne_eq,Nat.reduceEqDiff,reduceCtorEq]
    refine awp_ret ?_
    simp -dsimp only [simprocAttr,↓vpre,zp,zr,Try.results34,hrs]
    exact⟨by simp [uptoL,AVal.upto,aI_upto],rfl⟩
  | false =>
   obtain⟨k,rfl⟩:∃j,k=j+1:=⟨k - 1,by omega⟩
   have hrun':(if (m.pay 1).short then m.pay 1 else Mach.run u k (Mach.step u (m.pay 1)))=E:=by
    rw [←hrun]
    simp [Mach.run,hov]
   have ht1:=ht.setMach (m.pay 1) (pay_fields m 1).2.2.2.2.2.1 (pay_fields m 1).1 (pay_fields m 1).2.1 (by rw [(pay_fields m 1).2.2.1]) (pay_fields m 1).2.2.2.2.2.2
   have hmo1:=ht1.mach
   have hr2:(O.set 2 (.cells (mcells u (m.pay 1))))[1]?=some (.cells [.lst 1 [] .ex,aI 0,aI 0]):=ht1.holds (1,_) (by simp [objsOf])
   have hrs2:=set_self hr2
   rw [hov] at hmo
   by_cases hp1:m.left<1
   ·have hps:(m.pay 1).short=true:=by simp [Mach.pay,hp1]
    rw [hps,if_pos rfl] at hrun'
    have hEs:E.short=true:=by
     rw [←hrun']
     exact hps
    obtain⟨O1,hO1⟩:∃O1,O1=O.set 2 (.cells (mcells u (m.pay 1))):=⟨_,rfl⟩
    rw [←hO1] at hpay hmo1 hr2
    simp only [←hO1] at hrs2
    unfold mcells at hmo1
    rw [hps] at hmo1
    refine zg2 ?_
    simp -dsimp only [simprocAttr,↓vpre,zp,hmo]
    refine za0 ?_
    refine zw0 rfl ?_
    refine zb0 ?_
    refine awp_block ?_
    refine zh1 ?_
    refine .inr (.inl ⟨_,_,hpay,.inl (later_intro (zj ?_))⟩)
    refine za0 ?_
    refine zg2 ?_
    simp -dsimp only [simprocAttr,↓vpre,zp,hmo1]
    refine za0 ?_
    refine zw0 rfl ?_
    refine zg1 ?_
    simp -dsimp only [simprocAttr,↓vpre,zp,hr2]
    refine za0 ?_
    refine awp_ret ?_
    simp -dsimp only [simprocAttr,↓vpre,zp,zr,Try.results34,hrs2,hEs]
    exact⟨by simp [uptoL,AVal.upto],rfl⟩
   have hm1e:m.pay 1 = { m with left:=m.left - 1 }:=by simp [Mach.pay,hp1]
   have hps:(m.pay 1).short=false:=by
    rw [hm1e]
    exact(hm.over hov).2
   have hov1:(m.pay 1).over=false:=by
    rw [hm1e]
    exact hov
   have hm1:MachOK u (m.pay 1):=by
    rw [hm1e]
    exact⟨fun f hf=>(hm.frames f hf).of_heap (by rfl),fun a ha=>⟨(hm.arrs a ha).1,fun v hv=>((hm.arrs a ha).2 v hv).of_heap (by rfl)⟩,by simp;omega,by simp;omega,hm.out,hm.words,hm.fin,hm.val,hm.done,fun h=>hm.over h⟩
   have hd1:(m.pay 1).frames.length+(m.pay 1).left+1≤2 ^ 40:=by
    rw [hm1e]
    simp
    omega
   obtain⟨O2,rest2,q1,q2,q3⟩:=step_tells hu ht1 hm1 hov1 hd1
   have hsk:=hm1.step hu hov1 hd1
   have hsl:(Mach.step u (m.pay 1)).left≤m.left - 1:=by
    have:=step_left u (m.pay 1) hm1 hu hov1
    rw [hm1e] at this ⊢
    exact this
   have hsl0:=hsk.left
   rw [hps,if_neg (by simp)] at hrun'
   obtain⟨O1,hO1⟩:∃O1,O1=O.set 2 (.cells (mcells u (m.pay 1))):=⟨_,rfl⟩
   rw [←hO1] at hpay hmo1 q1
   unfold mcells at hmo1
   rw [hps] at hmo1
   refine zg2 ?_
   simp -dsimp only [simprocAttr,↓vpre,zp,hmo]
   refine za0 ?_
   refine zw0 rfl ?_
   refine zb0 ?_
   refine awp_block ?_
   refine zh1 ?_
   refine .inr (.inl ⟨_,_,hpay,.inl (later_intro (zj ?_))⟩)
   refine za0 ?_
   refine zg2 ?_
   simp -dsimp only [simprocAttr,↓vpre,zp,hmo1]
   refine za0 ?_
   refine zu0 rfl ?_
   refine zb0 ?_
   refine zh0 ?_
   refine .inr (.inl ⟨_,_,q1,.inl (later_intro (zj ?_))⟩)
   refine zl1 ?_
   refine⟨⟨(Mach.step u (m.pay 1),rest2,O2),hsk,q2,by simp only;omega,k,by simp only;omega,hrun'⟩,by simp only;omega,?_⟩
   refine zq rfl ?_ ?_
   simp -dsimp only [simprocAttr,↓vpre,zp,zc]
   rfl
 exact FSub.mp rfl rfl
theorem callsI_all{u:Unt}:∀{l:List Ins},callsI u l=0→∀i∈l,callsE u i=0
 | [],_,f,h=>by simp at h
 | g::r,h,f,hf=>by
  have:=orE_eq h
  rcases List.mem_cons.1 hf with q | q
  ·subst q
   exact this.1
  exact callsI_all this.2 f q
theorem callsB_all{u:Unt}:∀{l:List Block},callsB u l=0→∀b∈l,∀i∈b.ins,callsE u i=0
 | [],_,f,h=>by simp at h
 | g::r,h,f,hf=>by
  have:=orE_eq h
  rcases List.mem_cons.1 hf with q | q
  ·subst q
   exact callsI_all this.1
  exact callsB_all this.2 f q
theorem callsF_all{u:Unt}:∀{l:List Func},callsF u l=0→∀f∈l,∀b∈f.blocks,∀i∈b.ins,callsE u i=0
 | [],_,f,h=>by simp at h
 | g::r,h,f,hf=>by
  have:=orE_eq h
  rcases List.mem_cons.1 hf with q | q
  ·subst q
   exact callsB_all this.1
  exact callsF_all this.2 f q
theorem calls_ok{u:Unt}{i:Ins}(h:callsE u i=0):(i.op=13∨i.op=9→i.n<u.fns.length)∧(i.op=13→(blkOf (fnOf u i.n) 0).params.length=i.args.length)∧(i.op=9→(blkOf (fnOf u i.n) 0).params.length≠0):=by
 unfold callsE at h
 split at h
 ·exact⟨by omega,by omega,by omega⟩
 split at h
 ·simp at h
 split at h
 ·simp at h
 exact⟨by omega,by omega,by omega⟩
structure UnitW(u:Unt):Prop where
 few:u.fns.length≤256
 main:0≤u.main∧u.main<u.fns.length
 none:(blkOf (fnOf u u.main) 0).params=[]
 fns:∀f∈u.fns,FnW f
 calls:∀f∈u.fns,∀b∈f.blocks,∀i∈b.ins,callsE u i=0
theorem check_ok{u:Unt}(hfit:u.fit)(h:checkM u=0):UnitW u:=by
 unfold checkM at h
 split at h
 ·simp at h
 split at h
 ·simp at h
 split at h
 ·simp at h
 rename_i h3
 have h4:=orE_eq h
 have h5:=h4.2
 split at h5
 ·simp at h5
 rename_i h6
 have hw:0≤u.main∧u.main≤(u.fns.length:Int) - 1:=by simpa [within] using h3
 refine⟨by omega,by omega,List.length_eq_zero_iff.1 (by omega),fun f hf=>checkFunc_ok (hfit.2.2 f hf) (funcsE_all h4.1 f hf),callsF_all h5⟩
theorem unit_ok{u:Unt}(hfit:u.fit)(h:checkM u=0):UnitOK u:=by
 have hw:=check_ok hfit h
 refine⟨hw.main,hw.few,hw.none,fun f hf=>⟨(hw.fns f hf).ne,by have:=(hw.fns f hf).few;omega⟩,fun f hf b hb=>?_⟩
 have hF:=hw.fns f hf
 have hB:=hF.blk b hb
 have hE:=end_ok hB.fin
 refine⟨fun i hi=>?_,⟨hE.kind,?_,hE.jump,hE.cond,hE.switch,fun e he=>?_,by have:=hE.cases;omega⟩,by have:=hF.ins b hb;omega⟩
 ·have hi':=form_ok (hB.forms i hi)
  have hc:=calls_ok (hw.calls f hf b hb i hi)
  have hif:=((hfit.2.2 f hf).2.2 b hb).2.2.2.1 i hi
  have hlen:=hi'.len
  refine⟨.inl hi'.op,by omega,⟨hif.1,hif.2.2.1⟩,fun q=>(hi'.c0 q).1,hi'.c2,fun q=>hi'.c1 (by have:=hi'.op;omega),hi'.c3,fun q=>⟨?_,hlen⟩,fun q=>?_,fun q=>?_,hi'.app,hi'.sel,fun _=>hlen,hi'.vec⟩
  ·have:=hi'.con q
   unfold isW
   omega
  ·have:=hi'.call (.inl q)
   have:=hc.1 (.inr q)
   exact⟨by omega,by omega,hlen⟩
  have:=hi'.call (.inr q)
  exact⟨by omega,hc.1 (.inl q),hc.2.1 q⟩
 ·by_cases h4:b.term.kind=4
  ·have:=hE.trap h4
   omega
  have:=hE.n h4
  omega
 have he':=hE.edges e he
 have hm:=blkOf_mem (f:=f) (k:=e.block) (by omega) (by omega)
 have:=(hF.blk _ hm).few
 exact⟨by omega,by omega,he'.2,by omega⟩
def runM(u:Unt)(fuel:Int):Ans :=
 if checkM u≠0 then ⟨[],0,0,0,checkM u⟩
 else if within fuel 1 1000000=false then ⟨[],0,0,0,4⟩
 else performM u fuel
theorem run_spec(u:Unt)(hfit:u.fit)(fuel:Int):PCall Try.prog 12 [u.enc,aI fuel] (runM u fuel).enc:=by
 have hck:=check_spec u hfit
 have hw:=within_spec fuel 1 1000000
 obtain⟨R,hR⟩:∃R,R=runM u fuel:=⟨_,rfl⟩
 rw [←hR]
 unfold runM at hR
 by_cases hc:checkM u=0
 ·rw [if_neg (by simp [hc])] at hR
  have hu:=unit_ok hfit hc
  rw [hc] at hck
  cases hwb:within fuel 1 1000000 with
  | false =>
   rw [if_pos hwb] at hR
   rw [hwb] at hw
   refine zf true 0 Try.func12 Try.ntmps12 ?_
   dsimp only [Tmp,TypeId,slotsOf]
   refine zh1 (za0 ?_)
   refine awp_freeze1 2 0 (.ip none [eFuncs u.fns,aI u.main]) rfl (by simp [AObj.isSpare]) trivial rfl ?_ ?_
   rotate_left
   simp -dsimp only [simprocAttr,↓vpre,zp]
   ·refine zh2 ?_
    refine zi hck ?_
    refine za0 ?_
    refine zh1 (za0 ?_)
    refine zu0 rfl ?_
    refine zb0 ?_
    refine zh2 ?_
    refine zi hw ?_
    refine za0 ?_
    refine zw0 rfl ?_
    refine zh1 (za0 ?_)
    refine awp_ret ?_
    simp -dsimp only [simprocAttr,↓vpre,zp,zr,Try.results12]
    rw [hR]
    exact⟨by simp [uptoL,AVal.upto],rfl⟩
   exact FSub.mp rfl rfl
  | true =>
   rw [if_neg (by simp [hwb])] at hR
   have hwr:=within_iff.1 hwb
   have hper:=perform_spec hu (fuel:=fuel) (by omega) hwr.2
   rw [←hR] at hper
   unfold Ans.enc at hper
   rw [hwb] at hw
   refine zf true 0 Try.func12 Try.ntmps12 ?_
   dsimp only [Tmp,TypeId,slotsOf]
   refine zh1 (za0 ?_)
   refine awp_freeze1 2 0 (.ip none [eFuncs u.fns,aI u.main]) rfl (by simp [AObj.isSpare]) trivial rfl ?_ ?_
   rotate_left
   simp -dsimp only [simprocAttr,↓vpre,zp]
   ·refine zh2 ?_
    refine zi hck ?_
    refine za0 ?_
    refine zh1 (za0 ?_)
    refine zu0 rfl ?_
    refine zb0 ?_
    refine zh2 ?_
    refine zi hw ?_
    refine za0 ?_
    refine zu0 rfl ?_
    refine zb0 ?_
    refine zh1 ?_
    refine zi hper ?_
    refine za0 ?_
    refine awp_ret ?_
    simp -dsimp only [simprocAttr,↓vpre,zp,zr,Try.results12]
    exact⟨by simp [uptoL,AVal.upto,aI_upto],rfl⟩
   exact FSub.mp rfl rfl
 rw [if_pos hc] at hR
 obtain⟨e,he⟩:∃e,e=checkM u:=⟨_,rfl⟩
 rw [←he] at hc hck hR
 have hde:decide (e=0)=false:=decide_eq_false hc
 refine zf true 0 Try.func12 Try.ntmps12 ?_
 dsimp only [Tmp,TypeId,slotsOf]
 refine zh1 (za0 ?_)
 refine awp_freeze1 2 0 (.ip none [eFuncs u.fns,aI u.main]) rfl (by simp [AObj.isSpare]) trivial rfl ?_ ?_
 rotate_left
 simp -dsimp only [simprocAttr,↓vpre,zp]
 ·refine zh2 ?_
  refine zi hck ?_
  refine za0 ?_
  refine zg1 ?_
  simp -dsimp only [simprocAttr,↓vpre,zp,hde]
  refine za0 ?_
  refine zw0 rfl ?_
  refine zh1 (za0 ?_)
  refine awp_ret ?_
  simp -dsimp only [simprocAttr,↓vpre,zp,zr,Try.results12]
  rw [hR]
  exact⟨by simp [uptoL,AVal.upto],rfl⟩
 exact FSub.mp rfl rfl
theorem sameInts_spec(l m:List Int):PCall Try.prog 36 [eIs l,eIs m] (.v (.bool (decide (l=m)))):=by
 by_cases hlen:l.length=m.length
 ·have hdl:decide ((l.length:Int)=m.length)=true:=decide_eq_true (by omega)
  obtain⟨R,hR⟩:∃R,R=decide (l=m):=⟨_,rfl⟩
  rw [←hR]
  refine zf true 0 Try.func36 Try.ntmps36 ?_
  dsimp only [Tmp,TypeId,slotsOf]
  refine zh1 (za0 ?_)
  refine awp_len 0 rfl (fun hll=>?_)
  simp only [List.length_map] at hll
  refine zg2 ?_
  simp -dsimp only [simprocAttr,↓vpre,zp,hdl]
  refine za0 ?_
  apply zk0 rfl<;>intro h
  ·cases h
  refine zb0 ?_
  refine zh2 (za0 ?_)
  refine awp_block (awp_loop (ι:={k:Nat // k≤l.length∧R=decide (l.drop k=m.drop k)}) (fun k=>⟨26,[(0,eIs l),(1,eIs m),(4,.v (.bool false)),(12,eIs l),(13,aI l.length),(14,aI k.1)],[]⟩) (fun k=>l.length - k.1) ⟨0,by omega,hR⟩ ?_ ?_)
  ·refine zq rfl ?_ ?_
   simp -dsimp only [simprocAttr,↓vpre,zp,zc]
   rfl
  rintro⟨k,hk,hke⟩
  refine zh1 (za0 ?_)
  apply zk1 rfl<;>intro h
  ·refine zb0 ?_
   have hlt:k<l.length:=by simpa using h
   obtain⟨a,ha⟩:∃a,l[k]?=some a:=⟨l[k],by simp [hlt]⟩
   obtain⟨b,hb⟩:∃b,m[k]?=some b:=⟨m[k]'(by omega),List.getElem?_eq_getElem _⟩
   rw [drop_at ha,drop_at hb] at hke
   simp only [List.cons.injEq,Bool.decide_and] at hke
   refine awp_seq (awp_block ?_)
   refine zg1 ?_
   simp -dsimp only [simprocAttr,↓vpre,zp,ha]
   refine za0 ?_
   by_cases hab:b=a
   ·have hdab:decide (b=a)=true:=decide_eq_true hab
    rw [decide_eq_true hab.symm,Bool.true_and] at hke
    refine zg1 ?_
    simp -dsimp only [simprocAttr,↓vpre,zp,hb,hdab]
    repeat(refine⟨by omega,?_⟩)
    refine za0 ?_
    refine zu0 rfl ?_
    refine zb1 ?_
    refine zh0 ?_
    repeat(refine⟨by omega,?_⟩)
    refine zl0 ?_
    refine⟨⟨k+1,hlt,hke⟩,by simp;omega,?_⟩
    refine zq rfl ?_ ?_
    simp -dsimp only [simprocAttr,↓vpre,zp,zc]
    ·exact Sub.int (by simp)
    rfl
   have hdab:decide (b=a)=false:=decide_eq_false hab
   rw [decide_eq_false (fun e=>hab e.symm),Bool.false_and] at hke
   refine zg1 ?_
   simp -dsimp only [simprocAttr,↓vpre,zp,hb,hdab]
   repeat(refine⟨by omega,?_⟩)
   refine za0 ?_
   refine zw0 rfl ?_
   refine zh1 (za0 ?_)
   refine awp_ret ?_
   simp -dsimp only [simprocAttr,↓vpre,zp,zr,Try.results36]
   rw [hke]
  refine awp_exit ?_
  simp -dsimp only [vend,ne_eq,Nat.reduceEqDiff,reduceCtorEq]
  have hkk:k=l.length:=by simp at h;omega
  subst hkk
  rw [List.drop_length,hlen,List.drop_length] at hke
  refine zh1 (za0 ?_)
  refine awp_ret ?_
  simp -dsimp only [simprocAttr,↓vpre,zp,zr,Try.results36]
  rw [hke]
  rfl
 have hdl:decide ((l.length:Int)=m.length)=false:=decide_eq_false (by omega)
 rw [decide_eq_false (fun e=>hlen (by rw [e]))]
 refine zf true 0 Try.func36 Try.ntmps36 ?_
 dsimp only [Tmp,TypeId,slotsOf]
 refine zh1 (za0 ?_)
 refine zg2 ?_
 simp -dsimp only [simprocAttr,↓vpre,zp,hdl]
 refine za0 ?_
 refine zw0 rfl ?_
 refine zh1 (za0 ?_)
 refine awp_ret ?_
 simp -dsimp only [simprocAttr,↓vpre,zp,zr,Try.results36]
abbrev eRes(out:List Int)(fin val:Int):AVal:=.agg [.lst 1 (out.map aI) .sh,aI fin,aI val]
theorem sameResult_spec(l m:List Int)(e f v w:Int):PCall Try.prog 16 [eRes l e v,eRes m f w] (.v (.bool ((decide (e=f)&&decide (v=w))&&decide (l=m)))):=by
 have hs:=sameInts_spec l m
 cases h1:decide (e=f)
 ·refine zf true 0 Try.func16 Try.ntmps16 ?_
  dsimp only [Tmp,TypeId,slotsOf]
  refine zh1 (za0 ?_)
  refine zg1 ?_
  simp -dsimp only [simprocAttr,↓vpre,zp,h1]
  refine za0 ?_
  refine awp_ret ?_
  simp -dsimp only [simprocAttr,↓vpre,zp,zr,Try.results16]
 cases h2:decide (v=w)
 ·refine zf true 0 Try.func16 Try.ntmps16 ?_
  dsimp only [Tmp,TypeId,slotsOf]
  refine zh1 (za0 ?_)
  refine zg1 ?_
  simp -dsimp only [simprocAttr,↓vpre,zp,h1,h2]
  refine za0 ?_
  refine awp_ret ?_
  simp -dsimp only [simprocAttr,↓vpre,zp,zr,Try.results16]
 refine zf true 0 Try.func16 Try.ntmps16 ?_
 dsimp only [Tmp,TypeId,slotsOf]
 refine zh1 (za0 ?_)
 refine zg1 ?_
 simp -dsimp only [simprocAttr,↓vpre,zp,h1,h2]
 refine .inl ⟨_,hs,by simp only [uptoL,AVal.upto,zt,zu,aI_upto],later_intro ?_⟩
 simp -dsimp only [simprocAttr,↓vpre,zp,h1,h2]
 refine za0 ?_
 refine awp_ret ?_
 simp -dsimp only [simprocAttr,↓vpre,zp,zr,Try.results16]
theorem mkIns_spec(to op n:Int)(l:List Int):PCall Try.prog 57 [aI to,aI op,aI n,eIs l] (.agg [aI to,aI op,aI n,eIs l]):=by
 refine zf true 0 Try.func57 Try.ntmps57 ?_
 dsimp only [Tmp,TypeId,slotsOf]
 refine zh1 (za0 ?_)
 refine zh1 (za0 ?_)
 refine awp_ret ?_
 simp -dsimp only [simprocAttr,↓vpre,zp,zr,Try.results57]
 simp [uptoL,AVal.upto,aI_upto]
theorem mkJump_spec(k:Int)(l:List Int):PCall Try.prog 58 [aI k,eIs l] (.agg [aI 1,aI 0,aI 0,eIs [],.lst 2 [.agg [aI k,eIs l]] .sh]):=by
 refine zf true 0 Try.func58 Try.ntmps58 ?_
 dsimp only [Tmp,TypeId,slotsOf]
 refine zh1 (za0 ?_)
 refine zh1 (za0 ?_)
 refine awp_ret ?_
 simp -dsimp only [simprocAttr,↓vpre,zp,zr,Try.results58]
 simp [uptoL,AVal.upto,aI_upto]
theorem mkIns_nil(to op n:Int):PCall Try.prog 57 [aI to,aI op,aI n,.v (.slice none 0 0)] (.agg [aI to,aI op,aI n,eIs []]):=by
 have h:=mkIns_spec to op n []
 exact⟨h.1,fun g vs hg ho ha=>h.2 g vs hg ho ⟨ha.1,fun i c u hc hu=>by
  match i,hc,hu with
  | 0,hc,hu=>exact ha.2 0 c u hc hu
  | 1,hc,hu=>exact ha.2 1 c u hc hu
  | 2,hc,hu=>exact ha.2 2 c u hc hu
  | 3,hc,hu =>
   simp only [List.getElem?_cons_succ,List.getElem?_cons_zero,Option.some.injEq] at hc
   subst hc
   have:=(ha.2 3 _ u rfl hu).v_inv.1
   subst this
   exact .nil (fun id e=>by cases e) (by simp)
  | i+4,hc,_=>simp at hc⟩⟩
def countU:Unt:=⟨[⟨-1,[
 ⟨[],[⟨0,0,0,[]⟩],⟨1,0,0,[],[⟨1,[0]⟩]⟩⟩,
 ⟨[1],[⟨2,0,3,[]⟩,⟨3,6,0,[1,2]⟩],⟨2,3,0,[],[⟨2,[]⟩,⟨3,[]⟩]⟩⟩,
 ⟨[],[⟨4,15,0,[1]⟩,⟨5,0,1,[]⟩,⟨6,1,0,[1,5]⟩],⟨1,0,0,[],[⟨1,[6]⟩]⟩⟩,
 ⟨[],[],⟨0,1,0,[],[]⟩⟩]⟩],0⟩
theorem count_run:runM countU 27=⟨[0,1,2],0,3,27,0⟩:=by kernel_rfl
theorem count_spec:PCall Try.prog 32 [] countU.enc:=by
 refine zf true 0 Try.func32 Try.ntmps32 ?_
 dsimp only [Tmp,TypeId,slotsOf]
 refine zh1 (za0 ?_)
 refine zh1 (za0 ?_)
 refine zh1 (za0 ?_)
 refine zh1 ?_
 refine zi ((mkIns_nil 0 0 0)) ?_
 refine zi ((mkJump_spec 1 [0])) ?_
 refine zi ((mkIns_nil 2 0 3)) ?_
 refine zi ((mkIns_spec 3 6 0 [1,2])) ?_
 refine zi ((mkIns_spec 4 15 0 [1])) ?_
 refine zi ((mkIns_nil 5 0 1)) ?_
 refine zi ((mkIns_spec 6 1 0 [1,5])) ?_
 refine zi ((mkJump_spec 1 [6])) ?_
 refine za0 ?_
 refine awp_ret ?_
 simp -dsimp only [simprocAttr,↓vpre,zp,zr,Try.results32]
 exact⟨by simp [uptoL,AVal.upto,aI_upto],rfl⟩
theorem countU_fit:countU.fit:=by
 simp [countU,Unt.fit,Func.fit,Block.fit,Ins.fit,Term.fit,Edge.fit,fitI,fitIs]
theorem works_spec:PCall Try.prog 11 [] (.v (.bool true)):=by
 have hrun:=run_spec countU countU_fit 27
 rw [count_run] at hrun
 have hsr:=sameResult_spec [0,1,2] [0,1,2] 0 0 3 3
 have hcnt:=count_spec
 unfold Ans.enc at hrun
 unfold eRes at hsr
 simp only [List.map_cons,List.map_nil,decide_true,Bool.and_self] at hrun hsr
 generalize countU=u at *
 refine zf true 0 Try.func11 Try.ntmps11 ?_
 dsimp only [Tmp,TypeId,slotsOf]
 refine zh1 (za0 ?_)
 refine zh1 ?_
 refine zi hcnt ?_
 refine zi hrun ?_
 refine za0 ?_
 refine zh1 ?_
 refine zi hsr ?_
 refine za0 ?_
 refine awp_ret ?_
 simp -dsimp only [simprocAttr,↓vpre,zp,zr,Try.results11]
end Go.Proofs.Ytkhnjeblbiocaaa
