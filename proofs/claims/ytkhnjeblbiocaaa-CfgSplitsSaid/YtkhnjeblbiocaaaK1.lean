/-
  Texts bound together by a program of mine: YtkhnjeblbiocaaaPy, YtkhnjeblbiocaaaPz, YtkhnjeblbiocaaaPwa, YtkhnjeblbiocaaaPf, YtkhnjeblbiocaaaT48, YtkhnjeblbiocaaaPc, YtkhnjeblbiocaaaPus, YtkhnjeblbiocaaaPum, YtkhnjeblbiocaaaT41, YtkhnjeblbiocaaaPj, YtkhnjeblbiocaaaT43, YtkhnjeblbiocaaaPg, YtkhnjeblbiocaaaPk, YtkhnjeblbiocaaaPun, YtkhnjeblbiocaaaPuo, YtkhnjeblbiocaaaT44, YtkhnjeblbiocaaaT45, YtkhnjeblbiocaaaT46, YtkhnjeblbiocaaaT54, YtkhnjeblbiocaaaPl, YtkhnjeblbiocaaaPdb, YtkhnjeblbiocaaaPdc, YtkhnjeblbiocaaaPdd, YtkhnjeblbiocaaaPua, YtkhnjeblbiocaaaPub, YtkhnjeblbiocaaaPuq, YtkhnjeblbiocaaaPut, YtkhnjeblbiocaaaPuu, YtkhnjeblbiocaaaPuv, YtkhnjeblbiocaaaPwb, YtkhnjeblbiocaaaPur, YtkhnjeblbiocaaaPux, YtkhnjeblbiocaaaPva, YtkhnjeblbiocaaaPvb, YtkhnjeblbiocaaaPvc, YtkhnjeblbiocaaaPwc, YtkhnjeblbiocaaaPuy, YtkhnjeblbiocaaaT121, YtkhnjeblbiocaaaT122, YtkhnjeblbiocaaaT123, YtkhnjeblbiocaaaT126, YtkhnjeblbiocaaaT130, YtkhnjeblbiocaaaT131, YtkhnjeblbiocaaaT132, YtkhnjeblbiocaaaT133.
-/
import Derived.Test.YtkhnjeblbiocaaaJ4
import Derived.Sort.Grow
set_option linter.all false
set_option maxRecDepth 100000
set_option maxHeartbeats 4000000

namespace Go.Proofs.Ytkhnjeblbiocaaa
open Go.Av
theorem pay_ok{u:Unt}{m:Mach}(hm:MachOK u m)(ho:m.over=false)(hp:¬m.left<1):MachOK u (m.pay 1)∧(m.pay 1).over=false∧(m.pay 1).short=false∧(m.pay 1).left=m.left - 1∧(m.pay 1).frames=m.frames:=by
 have h0:=hm.left
 have hd:=hm.depth
 have hm1e:m.pay 1 = { m with left:=m.left - 1 }:=by simp [Mach.pay,hp]
 rw [hm1e]
 exact⟨⟨fun f hf=>(hm.frames f hf).of_heap (by rfl),fun a ha=>⟨(hm.arrs a ha).1,fun v hv=>((hm.arrs a ha).2 v hv).of_heap (by rfl)⟩,by simp only;omega,by simp only;omega,hm.out,hm.words,hm.fin,hm.val,hm.done,fun h=>hm.over h⟩,ho,(hm.over ho).2,rfl,rfl⟩
theorem pay_short{m:Mach}(hp:m.left<1):m.pay 1 = { m with short:=true,over:=true }:=by simp [Mach.pay,hp]
theorem run_ok{u:Unt}(hu:UnitOK u):∀(k:Nat) (m:Mach),MachOK u m→m.left.toNat+2≤k→(Mach.run u k m).over=true∧(Mach.run u k m).left≤m.left∧(m.over=false→(Mach.run u k m).short=false→(Mach.run u k m).left≤m.left - 1)∧((Mach.run u k m).short=false→MachOK u (Mach.run u k m))
 | 0,m,hm,hk=>by omega
 | k+1,m,hm,hk=>by
  cases hov:m.over with
  | true=>simp [Mach.run,hov,hm]
  | false =>
   have hl:=hm.left
   have hd:=hm.depth
   simp only [Mach.run,hov,Bool.false_eq_true,if_false]
   by_cases hp:m.left<1
   ·rw [pay_short hp]
    simp
   obtain⟨q1,q2,q3,q4,q5⟩:=pay_ok hm hov hp
   rw [if_neg (by simp [q3])]
   have hd1:(m.pay 1).frames.length+(m.pay 1).left+1≤2 ^ 40:=by rw [q4,q5];omega
   have hs:=MachOK.step hu q1 q2 hd1
   have hsl:=step_left u (m.pay 1) q1 hu q2
   have hs0:=hs.left
   have ih:=run_ok hu k _ hs (by omega)
   refine⟨ih.1,by have:=ih.2.1;omega,fun _ _=>by have:=ih.2.1;omega,ih.2.2.2⟩
namespace Mach
def shift(m:Mach)(c:Int):Mach:={ m with left:=m.left+c }
theorem shift_pay(m:Mach)(c n:Int)(h:¬m.left<n)(h':¬m.left+c<n):(m.shift c).pay n=(m.pay n).shift c:=by
 have h1:m.pay n = { m with left:=m.left - n }:=by simp [pay,h]
 have h2:(m.shift c).pay n = { m.shift c with left:=(m.shift c).left - n }:=by simp [pay,shift,h']
 rw [h1,h2]
 simp only [shift]
 congr 1
 omega
theorem shift_allocate(m:Mach)(c:Int)(size fill:SV)(hs:(m.allocate size fill).1.short=false)(hl:0≤(m.allocate size fill).1.left+c):(m.shift c).allocate size fill=((m.allocate size fill).1.shift c,(m.allocate size fill).2):=by
 unfold allocate at hs hl ⊢
 by_cases h1:size.kind≠0
 ·rw [if_pos h1,if_pos h1]
 rw [if_neg h1] at hs hl
 rw [if_neg h1,if_neg h1]
 by_cases h2:size.n<0∨1024<size.n
 ·rw [if_pos h2,if_pos h2]
 rw [if_neg h2] at hs hl
 rw [if_neg h2,if_neg h2]
 by_cases h3:(m.pay size.n).short=true
 ·rw [if_pos h3] at hs
  simp only at hs
  rw [hs] at h3
  cases h3
 rw [if_neg h3] at hl
 have h4:¬m.left<size.n:=fun q=>h3 (by simp [pay,q])
 have h5:m.pay size.n = { m with left:=m.left - size.n }:=by simp [pay,h4]
 have h7:(m.pay size.n).left=m.left - size.n:=by rw [h5]
 simp only [h7] at hl
 rw [shift_pay m c size.n h4 (by omega)]
 have h6:¬((m.pay size.n).shift c).short=true:=h3
 rw [if_neg h6,if_neg h3]
 rfl
theorem shift_effect(m:Mach)(c:Int)(i:Ins)(args:List SV)(hs:(m.effect i args).1.short=false)(hl:0≤(m.effect i args).1.left+c):(m.shift c).effect i args=((m.effect i args).1.shift c,(m.effect i args).2):=by
 unfold effect at hs hl ⊢
 by_cases h15:i.op=15
 ·rw [if_pos h15,if_pos h15]
  show(if _ then _ else if m.out.length=1000 then _ else _)=_
  split
  ·rfl
  split<;>rfl
 rw [if_neg h15] at hs hl
 rw [if_neg h15,if_neg h15]
 by_cases h16:i.op=16
 ·rw [if_pos h16] at hs hl
  rw [if_pos h16,if_pos h16]
  exact shift_allocate m c _ _ hs hl
 rw [if_neg h16,if_neg h16]
 by_cases h18:i.op=18
 ·rw [if_pos h18,if_pos h18]
  split
  ·rfl
  split<;>rfl
 have hh:(m.shift c).heap=m.heap:=rfl
 rw [if_neg h18,if_neg h18,hh]
 by_cases k1:(argS args 0).kind≠3∨(i.op≠17∧(argS args 1).kind≠0)
 ·rw [if_pos k1,if_pos k1]
 rw [if_neg k1,if_neg k1]
 by_cases k2:i.op=17
 ·rw [if_pos k2,if_pos k2]
 rw [if_neg k2,if_neg k2]
 by_cases k3:(argS args 1).n<0∨((arrOf m.heap (argS args 0).arr).length:Int)≤(argS args 1).n
 ·rw [if_pos k3,if_pos k3]
 rw [if_neg k3,if_neg k3]
 by_cases k4:i.op=19
 ·rw [if_pos k4,if_pos k4]
 rw [if_neg k4,if_neg k4]
 rfl
theorem shift_exec(m:Mach)(c:Int)(i:Ins)(args:List SV)(hs:(m.exec i args).1.short=false)(hl:0≤(m.exec i args).1.left+c):(m.shift c).exec i args=((m.exec i args).1.shift c,(m.exec i args).2):=by
 unfold exec at hs hl ⊢
 by_cases h0:i.op=0
 ·rw [if_pos h0,if_pos h0]
 rw [if_neg h0] at hs hl
 rw [if_neg h0,if_neg h0]
 by_cases h1:1≤i.op∧i.op≤7
 ·rw [if_pos h1,if_pos h1]
  split<;>rfl
 rw [if_neg h1] at hs hl
 rw [if_neg h1,if_neg h1]
 by_cases h8:i.op=8
 ·rw [if_pos h8,if_pos h8]
 rw [if_neg h8] at hs hl
 rw [if_neg h8,if_neg h8]
 by_cases h9:i.op=9
 ·rw [if_pos h9,if_pos h9]
 rw [if_neg h9] at hs hl
 rw [if_neg h9,if_neg h9]
 by_cases h10:i.op=10∨i.op=11∨i.op=12∨i.op=21
 ·rw [if_pos h10,if_pos h10]
 rw [if_neg h10] at hs hl
 rw [if_neg h10,if_neg h10]
 by_cases h22:i.op=22∨i.op=23∨i.op=24
 ·rw [if_pos h22,if_pos h22]
 rw [if_neg h22] at hs hl
 rw [if_neg h22,if_neg h22]
 by_cases h100:i.op=100
 ·rw [if_pos h100,if_pos h100]
 rw [if_neg h100] at hs hl
 rw [if_neg h100,if_neg h100]
 exact shift_effect m c i args hs hl
theorem settle_short(f:Fr)(to:Int)(r:Mach×SV×Int):(settle f to r).short=r.1.short∧(settle f to r).left=r.1.left:=by
 unfold settle
 split<;>exact⟨rfl,rfl⟩
end Mach
theorem run_over'{u:Unt}{m:Mach}(h:m.over=true)(k:Nat):Mach.run u k m=m:=by
 cases k with
 | zero=>rfl
 | succ k=>simp [Mach.run,h]
end Go.Proofs.Ytkhnjeblbiocaaa
namespace Go.Proofs.Ytkhnjeblbiocaaa
open Go.Av
def trI(s:Int→Int)(i:Ins):Ins:=⟨s i.to,i.op,i.n,i.args.map s⟩
theorem getS_put(es:List (Int×SV))(k j:Int)(v:SV):getS (putS' es k v) j=if k=j then v else getS es j:=by
 unfold getS
 induction es with
 | nil =>
  simp only [putS',lookS]
  split<;>rfl
 | cons p r ih =>
  obtain⟨a,x⟩:=p
  simp only [putS']
  by_cases h:a=k
  ·rw [if_pos h]
   subst h
   simp only [lookS]
   split<;>rfl
  rw [if_neg h]
  simp only [lookS]
  by_cases h2:a=j
  ·rw [if_pos h2,if_pos h2,if_neg (fun q=>h (by rw [h2,q]))]
  rw [if_neg h2,if_neg h2]
  exact ih
def VR(D:Int→Prop)(s:Int→Int)(es es':List (Int×SV)):Prop:=∀k,D k→getS es' (s k)=getS es k
section
variable {D:Int→Prop} {s:Int→Int}
theorem VR.put(hi:∀j k,D j→D k→s j=s k→j=k){es es':List (Int×SV)}(h:VR D s es es'){k:Int}(hk:D k)(v:SV):VR D s (putS' es k v) (putS' es' (s k) v):=fun j hj=>by
 rw [getS_put,getS_put]
 by_cases e:k=j
 ·rw [if_pos e,if_pos (by rw [e])]
 rw [if_neg e,if_neg (fun q=>e (hi k j hk hj q)),h j hj]
theorem VR.bind(hi:∀j k,D j→D k→s j=s k→j=k):∀(ps:List Int) (l:List SV) {es es':List (Int×SV)},(∀p∈ps,D p)→VR D s es es'→VR D s (bindS es ps l) (bindS es' (ps.map s) l)
 | [],l,es,es',_,h=>by simpa [bindS] using h
 | p::ps,[],es,es',_,h=>by simpa [bindS] using h
 | p::ps,a::l,es,es',hp,h=>by
  simp only [bindS,List.map_cons]
  exact VR.bind hi ps l (fun q hq=>hp q (List.mem_cons_of_mem _ hq)) (h.put hi (hp p List.mem_cons_self) a)
theorem VR.take{es es':List (Int×SV)}(h:VR D s es es'){l:List Int}(hl:∀a∈l,D a):takeS es' (l.map s)=takeS es l:=by
 unfold takeS
 rw [List.map_map]
 exact List.map_congr_left fun a ha=>h a (hl a ha)
theorem VR.other{es es':List (Int×SV)}(h:VR D s es es'){j:Int}(hj:∀k,D k→s k≠j)(v:SV):VR D s es (putS' es' j v):=fun k hk=>by
 rw [getS_put,if_neg fun q=>hj k hk q.symm,h k hk]
end
structure EdgeTr(v:Unt)(s:Int→Int)(D L:Int→Prop)(β:Int→Int)(pre:Int→List Ins)(c:Int)(fn:Int)(e e':Edge):Prop where
 live:L e.block
 args:∀a∈e.args,D a
 way:(e'.block=β e.block∧e'.args=e.args.map s∧1+((pre e.block).length:Int)≤c) ∨
  ∃(C:Block) (e2:Edge),C=blkOf (fnOf v fn) e'.block∧C.ins=[]∧C.term.kind=1∧C.term.to=[e2]∧e2.block=β e.block∧2+((pre e.block).length:Int)≤c ∧
   ∀es,takeS (bindS es C.params (takeS es e'.args)) e2.args=takeS es (e.args.map s)∧∀k,D k→getS (bindS es C.params (takeS es e'.args)) (s k)=getS es (s k)
structure BlkTr(v:Unt)(s:Int→Int)(D L:Int→Prop)(β:Int→Int)(pre:Int→List Ins)(c:Int)(fn:Int)(b:Int)(B B':Block):Prop where
 params:B'.params=B.params.map s∧∀p∈B.params,D p
 ins:B'.ins=pre b++B.ins.map (trI s)
 vals:∀i∈B.ins,D i.to∧∀a∈i.args,D a
 hd:∀i∈pre b,i.op=0∧∀k,D k→s k≠i.to
 term:B'.term.kind=B.term.kind∧B'.term.n=B.term.n∧B'.term.cases=B.term.cases∧B'.term.to.length=B.term.to.length
 arg:B.term.kind≠1→B.term.kind≠4→B'.term.arg=s B.term.arg∧D B.term.arg
 edges:∀(k:Nat) e e',B.term.to[k]?=some e→B'.term.to[k]?=some e'→EdgeTr v s D L β pre c fn e e'
structure UntTr(u v:Unt)(s:Int→Int)(D L:Int→Int→Prop)(β:Int→Int→Int)(pre:Int→Int→List Ins)(c:Int):Prop where
 fns:v.fns.length=u.fns.length
 main:v.main=u.main
 inj:∀fn j k:Int,D fn j→D fn k→s j=s k→j=k
 zero:∀fn:Int,0≤fn→fn<u.fns.length→L fn 0∧β fn 0=0∧1+((pre fn 0).length:Int)≤c
 blks:∀fn b:Int,0≤fn→fn<u.fns.length→L fn b→BlkTr v s (D fn) (L fn) (β fn) (pre fn) c fn b (blkOf (fnOf u fn) b) (blkOf (fnOf v fn) (β fn b))
namespace Mach
def put(m:Mach)(fs:List Fr)(l:Int):Mach:={ m with frames:=fs,left:=l }
theorem frames_allocate(m:Mach)(fs:List Fr)(size fill:SV):({ m with frames:=fs }:Mach).allocate size fill=({ (m.allocate size fill).1 with frames:=fs },(m.allocate size fill).2):=by
 unfold allocate
 by_cases h1:size.kind≠0
 ·rw [if_pos h1,if_pos h1]
 rw [if_neg h1,if_neg h1]
 by_cases h2:size.n<0∨1024<size.n
 ·rw [if_pos h2,if_pos h2]
 rw [if_neg h2,if_neg h2]
 have e:({ m with frames:=fs }:Mach).pay size.n = { m.pay size.n with frames:=fs }:=by
  unfold pay
  by_cases h3:m.left<size.n
  ·rw [if_pos h3,if_pos h3]
  rw [if_neg h3,if_neg h3]
 rw [e]
 by_cases h4:(m.pay size.n).short=true
 ·rw [if_pos h4,if_pos h4]
 rw [if_neg h4,if_neg h4]
theorem frames_effect(m:Mach)(fs:List Fr)(i:Ins)(args:List SV):({ m with frames:=fs }:Mach).effect i args=({ (m.effect i args).1 with frames:=fs },(m.effect i args).2):=by
 unfold effect
 by_cases h15:i.op=15
 ·rw [if_pos h15,if_pos h15]
  show(if _ then _ else if m.out.length=1000 then _ else _)=_
  split
  ·rfl
  split<;>rfl
 rw [if_neg h15,if_neg h15]
 by_cases h16:i.op=16
 ·rw [if_pos h16,if_pos h16]
  exact frames_allocate m fs _ _
 rw [if_neg h16,if_neg h16]
 by_cases h18:i.op=18
 ·rw [if_pos h18,if_pos h18]
  split
  ·rfl
  split<;>rfl
 rw [if_neg h18,if_neg h18]
 by_cases k1:(argS args 0).kind≠3∨(i.op≠17∧(argS args 1).kind≠0)
 ·rw [if_pos k1,if_pos k1]
 rw [if_neg k1,if_neg k1]
 by_cases k2:i.op=17
 ·rw [if_pos k2,if_pos k2]
 rw [if_neg k2,if_neg k2]
 show(if (argS args 1).n<0∨((arrOf m.heap (argS args 0).arr).length:Int)≤(argS args 1).n then _ else _)=_
 by_cases k3:(argS args 1).n<0∨((arrOf m.heap (argS args 0).arr).length:Int)≤(argS args 1).n
 ·rw [if_pos k3,if_pos k3]
 rw [if_neg k3,if_neg k3]
 by_cases k4:i.op=19
 ·rw [if_pos k4,if_pos k4]
 rw [if_neg k4,if_neg k4]
theorem frames_exec(m:Mach)(fs:List Fr)(i:Ins)(args:List SV):({ m with frames:=fs }:Mach).exec i args=({ (m.exec i args).1 with frames:=fs },(m.exec i args).2):=by
 unfold exec
 by_cases h0:i.op=0
 ·rw [if_pos h0,if_pos h0]
 rw [if_neg h0,if_neg h0]
 by_cases h1:1≤i.op∧i.op≤7
 ·rw [if_pos h1,if_pos h1]
  split<;>rfl
 rw [if_neg h1,if_neg h1]
 by_cases h8:i.op=8
 ·rw [if_pos h8,if_pos h8]
 rw [if_neg h8,if_neg h8]
 by_cases h9:i.op=9
 ·rw [if_pos h9,if_pos h9]
 rw [if_neg h9,if_neg h9]
 by_cases h10:i.op=10∨i.op=11∨i.op=12∨i.op=21
 ·rw [if_pos h10,if_pos h10]
 rw [if_neg h10,if_neg h10]
 by_cases h22:i.op=22∨i.op=23∨i.op=24
 ·rw [if_pos h22,if_pos h22]
 rw [if_neg h22,if_neg h22]
 by_cases h100:i.op=100
 ·rw [if_pos h100,if_pos h100]
 rw [if_neg h100,if_neg h100]
 exact frames_effect m fs i args
theorem put_exec(m:Mach)(fs:List Fr)(l:Int)(i:Ins)(args:List SV)(hs:(m.exec i args).1.short=false)(h0:0≤(m.exec i args).1.left)(hl:m.left≤l) :
  (m.put fs l).exec i args=((m.exec i args).1.put fs (l - (m.left - (m.exec i args).1.left)),(m.exec i args).2):=by
 have e:m.put fs l = { m.shift (l - m.left) with frames:=fs }:=by
  unfold put shift
  simp only [Mach.mk.injEq,true_and,and_true]
  omega
 rw [e,frames_exec,shift_exec m _ i args hs (by omega)]
 unfold put shift
 simp only [Prod.mk.injEq,Mach.mk.injEq,true_and,and_true]
 omega
inductive Steps(u:Unt):Nat→Mach→Mach→Prop
 | refl (m:Mach):Steps u 0 m m
 | cons {n:Nat} {m m':Mach}:m.over=false→m.short=false→1≤m.left→Steps u n (step u { m with left:=m.left - 1 }) m'→Steps u (n+1) m m'
theorem pay_one{m:Mach}(h:1≤m.left):m.pay 1 = { m with left:=m.left - 1 }:=by
 unfold pay
 rw [if_neg (by omega)]
theorem Steps.trans{u:Unt}{a b:Nat}{m m' m'':Mach}(h:Steps u a m m')(k:Steps u b m' m''):Steps u (a+b) m m'':=by
 induction h with
 | refl m=>rw [Nat.zero_add];exact k
 | cons h1 h2 h3 _ ih =>
  rw [Nat.add_right_comm]
  exact .cons h1 h2 h3 (ih k)
theorem Steps.run{u:Unt}{n:Nat}{m m':Mach}(h:Steps u n m m')(k:Nat):Mach.run u (n+k) m=Mach.run u k m':=by
 induction h with
 | refl m=>rw [Nat.zero_add]
 | cons h1 h2 h3 _ ih =>
  rw [Nat.add_right_comm]
  simp only [Mach.run]
  rw [if_neg (by rw [h1];simp),pay_one h3,if_neg (by simp only;rw [h2];simp)]
  exact ih
theorem Steps.before{u:Unt}{n:Nat}{m m':Mach}(h:Steps u n m m'):∀k,k<n→(Mach.run u k m).over=false:=by
 induction h with
 | refl m=>intro k hk;omega
 | cons h1 h2 h3 _ ih =>
  intro k hk
  cases k with
  | zero=>exact h1
  | succ k =>
   simp only [Mach.run]
   rw [if_neg (by rw [h1];simp),pay_one h3,if_neg (by simp only;rw [h2];simp)]
   exact ih k (by omega)
end Mach
section
variable (u v:Unt) (s:Int→Int) (D L:Int→Int→Prop) (β:Int→Int→Int) (pre:Int→Int→List Ins)
structure FR(f f':Fr):Prop where
 ids:f'.fid=f.fid∧f'.mid=f.mid∧f'.fn=f.fn
 fn:0≤f.fn∧f.fn<u.fns.length
 live:L f.fn f.blk
 blk:f'.blk=β f.fn f.blk
 pos:f'.pos=(pre f.fn f.blk).length+f.pos
 vals:VR (D f.fn) s f.vals f'.vals
def ToR(f f':Fr):List Fr→Prop
 | []=>True
 | g::_=>f'.to=s f.to∧D g.fn f.to
def FsR:List Fr→List Fr→Prop
 | [],[]=>True
 | f::r,f'::r'=>FR u s D L β pre f f'∧ToR s D f f' r∧FsR r r'
 | _,_=>False
def Rel(c d:Int)(m m':Mach):Prop:=∃fs l,m'=m.put fs l∧FsR u s D L β pre m.frames fs∧c * m.left≤l∧l≤m.left+d
end
section
variable {u v:Unt} {s:Int→Int} {D L:Int→Int→Prop} {β:Int→Int→Int} {pre:Int→Int→List Ins} {c d:Int}
theorem FsR.cons{f:Fr}{r:List Fr}{fs:List Fr}(h:FsR u s D L β pre (f::r) fs):∃f' r',fs=f'::r'∧FR u s D L β pre f f'∧ToR s D f f' r∧FsR u s D L β pre r r':=by
 cases fs with
 | nil=>exact False.elim h
 | cons f' r'=>exact⟨f',r',rfl,h.1,h.2.1,h.2.2⟩
theorem ahead{fn b:Int}{B':Block}{rest:List Ins}(hb:blkOf (fnOf v fn) (β fn b)=B')(hi:B'.ins=pre fn b++rest)(hp:∀i∈pre fn b,i.op=0∧∀k,D fn k→s k≠i.to){m:Mach}(ho:m.over=false)(hs:m.short=false){f':Fr}{r':List Fr}(h1:f'.fn=fn)(h2:f'.blk=β fn b){es:List (Int×SV)} :
  ∀(n:Nat) (k:Nat) (vals':List (Int×SV)) (l:Int),k+n=(pre fn b).length→(n:Int)≤l→VR (D fn) s es vals' →
   ∃vals'',VR (D fn) s es vals''∧Mach.Steps v n (m.put ({ f' with pos:=k,vals:=vals' }::r') l) (m.put ({ f' with pos:=(pre fn b).length,vals:=vals'' }::r') (l - n))
 | 0,k,vals',l,hk,hl,hv=>⟨vals',hv,by
   have:l - ((0:Nat):Int)=l:=by omega
   rw [this,show k=(pre fn b).length by omega]
   exact .refl _⟩
 | n+1,k,vals',l,hk,hl,hv=>by
  obtain⟨i,hi2⟩:∃i,(pre fn b)[k]?=some i:=⟨(pre fn b)[k]'(by omega),List.getElem?_eq_getElem _⟩
  obtain⟨q1,q2⟩:=hp i (List.mem_of_getElem? hi2)
  obtain⟨vals'',e1,e2⟩:=ahead hb hi hp ho hs (f':=f') (r':=r') h1 h2 n (k+1) (putS' vals' i.to (.word i.n)) (l - 1) (by omega) (by omega) (hv.other q2 _)
  refine⟨vals'',e1,.cons ho hs (by show 1≤l;omega) ?_⟩
  have hst:Mach.step v { m.put ({ f' with pos:=k,vals:=vals' }::r') l with left:=l - 1 }=m.put ({ f' with pos:=k+1,vals:=putS' vals' i.to (.word i.n) }::r') (l - 1):=by
   unfold Mach.step Mach.put
   simp only
   rw [h1,h2,hb,hi,List.getElem?_append_left (lt_of_getElem? hi2),hi2]
   simp only
   unfold Mach.act
   rw [if_neg (by omega),if_neg (by omega)]
   unfold Mach.exec
   rw [if_pos q1]
   rfl
  rw [show l - ((n+1:Nat):Int)=l - 1 - n by omega]
  show Mach.Steps v n (Mach.step v { m.put ({ f' with pos:=k,vals:=vals' }::r') l with left:=l - 1 }) _
  rw [hst]
  exact e2
theorem mul_down{c x l a:Int}(hc:1≤c)(h:c * x≤l)(ha:0≤a):c * (x - a)≤l - a:=by
 have h1:c * (x - a)=c * x - c * a:=Int.mul_sub ..
 have h2:1 * a≤c * a:=Int.mul_le_mul_of_nonneg_right hc ha
 omega
def Goes(u v:Unt)(s:Int→Int)(D L:Int→Int→Prop)(β:Int→Int→Int)(pre:Int→Int→List Ins)(c d:Int)(m m':Mach):Prop:=∃n m'',Mach.Steps v n m' m''∧Rel u s D L β pre c d m m''
theorem Goes.now{m m':Mach}(h:Rel u s D L β pre c d m m'):Goes u v s D L β pre c d m m':=⟨0,m',.refl _,h⟩
theorem arrive(T:UntTr u v s D L β pre c){m:Mach}(ho:m.over=false)(hs:m.short=false){f f':Fr}{r r':List Fr}{l:Int}(hm:m.frames=f::r)
  (h1:f'.fid=f.fid∧f'.mid=f.mid∧f'.fn=f.fn) (h2:0≤f.fn∧f.fn<u.fns.length) (h3:L f.fn f.blk) (h4:f'.blk=β f.fn f.blk) (h5:f.pos=0) (h6:f'.pos=0) (hv:VR (D f.fn) s f.vals f'.vals)
  (ht:ToR s D f f' r) (hr:FsR u s D L β pre r r') (l0:0≤m.left) (l1:c * m.left+(pre f.fn f.blk).length≤l) (l2:l - (pre f.fn f.blk).length≤m.left+d) (hc:1≤c):Goes u v s D L β pre c d m (m.put (f'::r') l):=by
 have hB:=T.blks f.fn f.blk h2.1 h2.2 h3
 have hcl:0≤c * m.left:=Int.mul_nonneg (by omega) l0
 obtain⟨vals'',e1,e2⟩:=ahead (s:=s) (D:=D) (pre:=pre) (β:=β) (v:=v) rfl hB.ins hB.hd ho hs (f':=f') (r':=r') h1.2.2 h4 (es:=f.vals) (pre f.fn f.blk).length 0 f'.vals l (by omega) (by omega) hv
 have e:({ f' with pos:=0,vals:=f'.vals }:Fr)=f':=by
  rw [←h6]
 rw [e] at e2
 refine⟨_,_,e2,_,_,rfl,?_,by omega,by omega⟩
 rw [hm]
 exact⟨⟨h1,h2,h3,h4,by rw [h5];rfl,e1⟩,by cases r<;>exact ht,hr⟩
theorem follow_rel(T:UntTr u v s D L β pre c)(hc:1≤c){m:Mach}(ho:m.over=false)(hs:m.short=false){f f':Fr}{r r':List Fr}{y:Int}(hm:m.frames=f::r)(hF:FR u s D L β pre f f')(hT:ToR s D f f' r)(hR:FsR u s D L β pre r r')
  (l0:0≤m.left) (l1:c * m.left+(c - 1)≤y) (l2:y≤m.left+d) {e e':Edge} (he:EdgeTr v s (D f.fn) (L f.fn) (β f.fn) (pre f.fn) c f.fn e e'):Goes u v s D L β pre c d (m.follow u f e) ((m.put (f'::r') y).follow v f' e'):=by
 obtain⟨fid',mid',fn',blk',pos',to',vals'⟩:=f'
 obtain⟨⟨h1,h2,h3⟩,g2,g3,g4,g5,g6⟩:=hF
 simp only at h1 h2 h3 g4 g5 g6
 subst h1 h2 h3
 have hB:=T.blks f.fn e.block g2.1 g2.2 he.live
 have ht:takeS vals' (e.args.map s)=takeS f.vals e.args:=g6.take he.args
 have hfr:(m.follow u f e).frames = { f with blk:=e.block,pos:=0,vals:=bindS f.vals (blkOf (fnOf u f.fn) e.block).params (takeS f.vals e.args) }::r:=by
  show _::m.frames.tail=_
  rw [hm]
  rfl
 rcases he.way with⟨w1,w2,w3⟩ | ⟨C,e2,w1,w2,w3,w4,w5,w6,w7⟩
 ·have e0:(m.put (⟨f.fid,f.mid,f.fn,blk',pos',to',vals'⟩::r') y).follow v ⟨f.fid,f.mid,f.fn,blk',pos',to',vals'⟩ e'=(m.follow u f e).put (⟨f.fid,f.mid,f.fn,β f.fn e.block,0,to',bindS vals' ((blkOf (fnOf u f.fn) e.block).params.map s) (takeS f.vals e.args)⟩::r') y:=by
   unfold Mach.follow
   simp only
   rw [w1,w2,hB.params.1,ht]
   rfl
  rw [e0]
  exact arrive T (m:=m.follow u f e) ho hs hfr ⟨rfl,rfl,rfl⟩ g2 he.live rfl rfl rfl (VR.bind (T.inj f.fn) _ _ hB.params.2 g6) hT hR l0 (by
   show c * m.left+(pre f.fn e.block).length≤y
   omega) (by
   show y - (pre f.fn e.block).length≤m.left+d
   omega) hc
 obtain⟨x1,x2⟩:=w7 vals'
 have hcl:0≤c * m.left:=Int.mul_nonneg (by omega) l0
 have hv1:VR (D f.fn) s f.vals (bindS vals' C.params (takeS vals' e'.args)):=fun k hk=>by rw [x2 k hk,g6 k hk]
 generalize hes:bindS vals' C.params (takeS vals' e'.args)=es1 at *
 have e0:(m.put (⟨f.fid,f.mid,f.fn,blk',pos',to',vals'⟩::r') y).follow v ⟨f.fid,f.mid,f.fn,blk',pos',to',vals'⟩ e'=m.put (⟨f.fid,f.mid,f.fn,e'.block,0,to',es1⟩::r') y:=by
  unfold Mach.follow
  simp only
  rw [←w1,hes]
  rfl
 have e1:Mach.step v { m.put (⟨f.fid,f.mid,f.fn,e'.block,0,to',es1⟩::r') y with left:=y - 1 }=(m.follow u f e).put (⟨f.fid,f.mid,f.fn,β f.fn e.block,0,to',bindS es1 ((blkOf (fnOf u f.fn) e.block).params.map s) (takeS f.vals e.args)⟩::r') (y - 1):=by
  unfold Mach.step Mach.put
  simp only
  rw [←w1,w2]
  simp only [List.getElem?_nil]
  unfold Mach.finish
  rw [w3,if_neg (by decide),if_pos rfl,w4]
  simp only [List.getElem?_cons_zero,Option.getD_some]
  unfold Mach.follow
  simp only
  rw [x1,ht,w5,hB.params.1]
  rfl
 rw [e0]
 obtain⟨n,m'',s1,s2⟩:=arrive T (m:=m.follow u f e) (l:=y - 1) ho hs hfr (f':=⟨f.fid,f.mid,f.fn,β f.fn e.block,0,to',bindS es1 ((blkOf (fnOf u f.fn) e.block).params.map s) (takeS f.vals e.args)⟩) ⟨rfl,rfl,rfl⟩ g2 he.live rfl rfl rfl (VR.bind (T.inj f.fn) _ _ hB.params.2 hv1) hT hR l0 (by
  show c * m.left+(pre f.fn e.block).length≤y - 1
  omega) (by
  show y - 1 - (pre f.fn e.block).length≤m.left+d
  omega) hc
 refine⟨n+1,m'',.cons ho hs (by show 1≤y;omega) ?_,s2⟩
 show Mach.Steps v n (Mach.step v { m.put (⟨f.fid,f.mid,f.fn,e'.block,0,to',es1⟩::r') y with left:=y - 1 }) m''
 rw [e1]
 exact s1
theorem leave_rel(T:UntTr u v s D L β pre c){m:Mach}{f f':Fr}{r r':List Fr}{y:Int}(hm:m.frames=f::r)(hT:ToR s D f f' r)(hR:FsR u s D L β pre r r')(l1:c * m.left≤y)(l2:y≤m.left+d)(x:SV) :
  Goes u v s D L β pre c d (m.leave f x) ((m.put (f'::r') y).leave f' x):=by
 refine .now ?_
 unfold Mach.leave
 rw [hm]
 simp only [List.tail_cons,Mach.put]
 cases r with
 | nil =>
  cases r' with
  | nil=>exact⟨[],y,rfl,trivial,l1,l2⟩
  | cons g' r'=>exact False.elim hR
 | cons g r =>
  obtain⟨g',r2,rfl,hG,hT2,hR2⟩:=hR.cons
  obtain⟨t1,t2⟩:=hT
  simp only
  refine⟨{ g' with vals:=putS' g'.vals f'.to x }::r2,y,rfl,⟨⟨hG.ids,hG.fn,hG.live,hG.blk,hG.pos,?_⟩,by cases r<;>exact hT2,hR2⟩,l1,l2⟩
  show VR (D g.fn) s (putS' g.vals f.to x) (putS' g'.vals f'.to x)
  rw [t1]
  exact hG.vals.put (T.inj g.fn) t2 x
theorem enter_rel(T:UntTr u v s D L β pre c)(hc:1≤c){m:Mach}(ho:m.over=false)(hs:m.short=false){fs':List Fr}{y:Int}{g:Fr}{r:List Fr}(hm:m.frames=g::r)(hR:FsR u s D L β pre m.frames fs')(l0:0≤m.left)(l1:c * m.left+(c - 1)≤y)(l2:y≤m.left+d)
  {fn:Int} (hfn:0≤fn∧fn<u.fns.length) (args:List SV) {to to':Int} (ht:to'=s to∧D g.fn to):Goes u v s D L β pre c d (m.enter u fn args to) ((m.put fs' y).enter v fn args to'):=by
 obtain⟨z1,z2,z3⟩:=T.zero fn hfn.1 hfn.2
 have hB:=T.blks fn 0 hfn.1 hfn.2 z1
 rw [z2] at hB
 have e0:(m.put fs' y).enter v fn args to'=(m.enter u fn args to).put (⟨m.next+1,m.next,fn,0,0,to',bindS [] ((blkOf (fnOf u fn) 0).params.map s) args⟩::fs') y:=by
  unfold Mach.enter
  rw [hB.params.1]
  rfl
 rw [e0]
 refine arrive T (m:=m.enter u fn args to) ho hs (f:=⟨m.next+1,m.next,fn,0,0,to,bindS [] (blkOf (fnOf u fn) 0).params args⟩) (r:=m.frames) rfl ⟨rfl,rfl,rfl⟩ hfn z1 z2.symm rfl rfl (VR.bind (T.inj fn) _ _ hB.params.2 (fun _ _=>rfl)) ?_ hR l0 (by
  show c * m.left+(pre fn 0).length≤y
  omega) (by
  show y - (pre fn 0).length≤m.left+d
  omega) hc
 rw [hm]
 exact ht
theorem settle_put(E:Mach)(E2:SV×Int)(f f':Fr)(fs:List Fr)(to to' y:Int):Mach.settle f' to' (E.put fs y,E2)=(Mach.settle f to (E,E2)).put ({ f' with vals:=putS' f'.vals to' E2.1 }::fs.tail) y:=by
 unfold Mach.settle
 simp only
 split<;>rfl
theorem settle_frames(E:Mach)(E2:SV×Int)(f:Fr)(to:Int):(Mach.settle f to (E,E2)).frames = { f with vals:=putS' f.vals to E2.1 }::E.frames.tail∧(Mach.settle f to (E,E2)).left=E.left:=by
 unfold Mach.settle
 simp only
 split<;>exact⟨rfl,rfl⟩
theorem step_rel(T:UntTr u v s D L β pre c)(hu:UnitOK u)(hc:1≤c){m m':Mach}(hm:MachOK u m)(ho:m.over=false)(h1:1≤m.left)(hs:(Mach.step u { m with left:=m.left - 1 }).short=false)(hr:Rel u s D L β pre c d m m') :
  ∃n m'',Mach.Steps v (n+1) m' m''∧Rel u s D L β pre c d (Mach.step u { m with left:=m.left - 1 }) m'':=by
 obtain⟨fs,l,rfl,hfs,l1,l2⟩:=hr
 obtain⟨hne,hsh⟩:=hm.over ho
 have hcl:1 * m.left≤c * m.left:=Int.mul_le_mul_of_nonneg_right hc (by omega)
 have hcs:c * (m.left - 1)=c * m.left - c:=by rw [Int.mul_sub,Int.mul_one]
 suffices h:Goes u v s D L β pre c d (Mach.step u { m with left:=m.left - 1 }) (Mach.step v (({ m with left:=m.left - 1 }:Mach).put fs (l - 1))) by
  obtain⟨n,m'',q1,q2⟩:=h
  exact⟨n,m'',.cons ho hsh (by show 1≤l;omega) q1,q2⟩
 have hm1:MachOK u { m with left:=m.left - 1 }:=by
  have:=(pay_ok hm ho (by omega)).1
  rwa [Mach.pay_one h1] at this
 have e1:({ m with left:=m.left - 1 }:Mach).left=m.left - 1:=rfl
 have k1:c * ({ m with left:=m.left - 1 }:Mach).left+(c - 1)≤l - 1:=by rw [e1];omega
 have k2:l - 1≤({ m with left:=m.left - 1 }:Mach).left+d:=by rw [e1];omega
 have k0:0≤({ m with left:=m.left - 1 }:Mach).left:=by rw [e1];omega
 have ho1:({ m with left:=m.left - 1 }:Mach).over=false:=ho
 have hs1:({ m with left:=m.left - 1 }:Mach).short=false:=hsh
 have hfs1:FsR u s D L β pre ({ m with left:=m.left - 1 }:Mach).frames fs:=hfs
 have hne1:({ m with left:=m.left - 1 }:Mach).frames≠[]:=hne
 generalize ({ m with left:=m.left - 1 }:Mach)=M at *
 generalize l - 1=y at *
 clear hm hcl hcs l1 l2 hfs hne e1 hsh h1 ho
 cases hfr:M.frames with
 | nil=>exact absurd hfr hne1
 | cons f r =>
  rw [hfr] at hfs1
  obtain⟨f',r',rfl,hF,hT,hR⟩:=hfs1.cons
  have hfo:=hm1.frames f (by rw [hfr];simp)
  have hb:=hu.blocks _ (fnOf_mem hfo.fn.1 hfo.fn.2) _ (blkOf_mem hfo.blk.1 hfo.blk.2)
  have hB:=T.blks f.fn f.blk hF.fn.1 hF.fn.2 hF.live
  have hget:(blkOf (fnOf v f'.fn) f'.blk).ins[f'.pos]?=((blkOf (fnOf u f.fn) f.blk).ins[f.pos]?).map (trI s):=by
   rw [hF.ids.2.2,hF.blk,hB.ins,hF.pos,List.getElem?_append_right (by omega),Nat.add_sub_cancel_left,List.getElem?_map]
  have hput:(M.put (f'::r') y).frames=f'::r':=rfl
  have k3:c * M.left≤y:=by omega
  unfold Mach.step at hs ⊢
  rw [hfr] at hs ⊢
  rw [hput]
  simp only at hs ⊢
  rw [hget]
  cases hi:(blkOf (fnOf u f.fn) f.blk).ins[f.pos]? with
  | none =>
   simp only [Option.map_none]
   rw [hF.ids.2.2,hF.blk]
   generalize blkOf (fnOf v f.fn) (β f.fn f.blk)=B' at *
   generalize hBB:blkOf (fnOf u f.fn) f.blk=B at *
   obtain⟨t1,t2,t3,t4⟩:=hB.term
   unfold Mach.finish
   rw [t1,t2]
   by_cases q4:B.term.kind=4
   ·rw [if_pos q4,if_pos q4]
    exact .now ⟨f'::r',y,rfl,by show FsR u s D L β pre M.frames _;rw [hfr];exact⟨hF,hT,hR⟩,k3,k2⟩
   rw [if_neg q4,if_neg q4]
   by_cases q1:B.term.kind=1
   ·rw [if_pos q1,if_pos q1]
    have hl:=hb.term.jump q1
    obtain⟨e,he⟩:∃e,B.term.to[0]?=some e:=⟨B.term.to[0]'(by omega),List.getElem?_eq_getElem _⟩
    obtain⟨e',he'⟩:∃e',B'.term.to[0]?=some e':=⟨B'.term.to[0]'(by omega),List.getElem?_eq_getElem _⟩
    rw [he,he']
    exact follow_rel T hc ho1 hs1 hfr hF hT hR k0 k1 k2 (hB.edges 0 e e' he he')
   rw [if_neg q1,if_neg q1]
   obtain⟨a1,a2⟩:=hB.arg q1 q4
   have hga:getS f'.vals B'.term.arg=getS f.vals B.term.arg:=by rw [a1];exact hF.vals _ a2
   rw [hga]
   by_cases q0:B.term.kind=0
   ·rw [if_pos q0,if_pos q0]
    exact leave_rel T hfr hT hR k3 k2 _
   rw [if_neg q0,if_neg q0]
   by_cases qk:(getS f.vals B.term.arg).kind≠0
   ·rw [if_pos qk,if_pos qk]
    exact .now ⟨f'::r',y,rfl,by show FsR u s D L β pre M.frames _;rw [hfr];exact⟨hF,hT,hR⟩,k3,k2⟩
   rw [if_neg qk,if_neg qk]
   have hch:choiceM B'.term (getS f.vals B.term.arg).n=choiceM B.term (getS f.vals B.term.arg).n:=by
    unfold choiceM
    rw [t1,t3]
   rw [hch]
   obtain⟨e,he⟩:=choice_at hb.term q0 q1 q4 (getS f.vals B.term.arg).n
   have hlt:=lt_of_getElem? he
   obtain⟨e',he'⟩:∃e',B'.term.to[choiceM B.term (getS f.vals B.term.arg).n]?=some e':=⟨B'.term.to[choiceM B.term (getS f.vals B.term.arg).n]'(by omega),List.getElem?_eq_getElem _⟩
   rw [he,he']
   exact follow_rel T hc ho1 hs1 hfr hF hT hR k0 k1 k2 (hB.edges _ e e' he he')
  | some i =>
   rw [hi] at hs
   simp only [Option.map_some] at hs ⊢
   have him:=List.mem_of_getElem? hi
   have hio:=hb.ins i him
   have hlt:=lt_of_getElem? hi
   obtain⟨d1,d2⟩:=hB.vals i him
   have hargs:takeS f'.vals (trI s i).args=takeS f.vals i.args:=hF.vals.take d2
   rw [hargs]
   have hf1:FrOK u M { f with pos:=f.pos+1 }:=⟨hfo.fn,hfo.blk,hlt,hfo.vals⟩
   have hf2:FrOK u (M.setTop { f with pos:=f.pos+1 }) { f with pos:=f.pos+1 }:=hf1.of_heap (by rfl)
   have hM2:=hm1.setTop hne1 hf1
   have ha:=takeS_ok hf2.vals i.args
   have hal:=takeS_len f.vals i.args
   have hF1:FR u s D L β pre { f with pos:=f.pos+1 } { f' with pos:=f'.pos+1 }:=⟨hF.ids,hF.fn,hF.live,hF.blk,by show f'.pos+1=_+(f.pos+1);rw [hF.pos];rfl,hF.vals⟩
   have hfr2:(M.setTop { f with pos:=f.pos+1 }).frames = { f with pos:=f.pos+1 }::r:=by
    show _::M.frames.tail=_
    rw [hfr]
    rfl
   have e2:(M.put (f'::r') y).setTop { f' with pos:=f'.pos+1 }=(M.setTop { f with pos:=f.pos+1 }).put ({ f' with pos:=f'.pos+1 }::r') y:=rfl
   rw [e2]
   have hT2:ToR s D { f with pos:=f.pos+1 } { f' with pos:=f'.pos+1 } r:=by cases r<;>exact hT
   have hFs2:FsR u s D L β pre (M.setTop { f with pos:=f.pos+1 }).frames ({ f' with pos:=f'.pos+1 }::r'):=by
    rw [hfr2]
    exact⟨hF1,hT2,hR⟩
   have k0':0≤(M.setTop { f with pos:=f.pos+1 }).left:=k0
   have k1':c * (M.setTop { f with pos:=f.pos+1 }).left+(c - 1)≤y:=k1
   have k2':y≤(M.setTop { f with pos:=f.pos+1 }).left+d:=k2
   have ho2:(M.setTop { f with pos:=f.pos+1 }).over=false:=ho1
   have hs2:(M.setTop { f with pos:=f.pos+1 }).short=false:=hs1
   have hvk:(({ f with pos:=f.pos+1 }:Fr)).vals=f.vals:=rfl
   rw [hvk] at ha
   unfold Mach.act at hs ⊢
   have o1:(trI s i).op=i.op:=rfl
   have o2:(trI s i).n=i.n:=rfl
   have o3:(trI s i).to=s i.to:=rfl
   rw [o1,o2,o3]
   by_cases h13:i.op=13
   ·rw [if_pos h13,if_pos h13]
    obtain⟨c1,c2,c3⟩:=hio.call h13
    exact enter_rel T hc ho2 hs2 hfr2 hFs2 k0' k1' k2' ⟨c1,c2⟩ _ ⟨rfl,d1⟩
   rw [if_neg h13] at hs
   rw [if_neg h13,if_neg h13]
   by_cases h14:i.op=14
   ·rw [if_pos h14,if_pos h14]
    by_cases hk2:(argS (takeS f.vals i.args) 0).kind=2
    ·have hfn:=SV.Wf.fn (argS_ok ha 0) hk2
     obtain⟨z1,z2,z3⟩:=T.zero _ hfn.1 hfn.2
     have hP:=(T.blks _ 0 hfn.1 hfn.2 z1).params.1
     rw [z2] at hP
     rw [hP,List.length_map]
     by_cases hcn:(argS (takeS f.vals i.args) 0).kind=2∧(blkOf (fnOf u (argS (takeS f.vals i.args) 0).n) 0).params.length=(takeS f.vals i.args).length
     ·rw [if_pos hcn,if_pos hcn]
      exact enter_rel T hc ho2 hs2 hfr2 hFs2 k0' k1' k2' hfn _ ⟨rfl,d1⟩
     rw [if_neg hcn,if_neg hcn]
     exact .now ⟨_,y,rfl,hFs2,k3,k2⟩
    rw [if_neg (fun q=>hk2 q.1),if_neg (fun q=>hk2 q.1)]
    exact .now ⟨_,y,rfl,hFs2,k3,k2⟩
   rw [if_neg h14] at hs
   rw [if_neg h14,if_neg h14]
   have hx:=exec_ok hM2 hio hal ha
   have htr:((M.setTop { f with pos:=f.pos+1 }).put ({ f' with pos:=f'.pos+1 }::r') y).exec (trI s i) (takeS f.vals i.args)=((M.setTop { f with pos:=f.pos+1 }).put ({ f' with pos:=f'.pos+1 }::r') y).exec i (takeS f.vals i.args):=rfl
   have hss:=(Mach.settle_short { f with pos:=f.pos+1 } i.to ((M.setTop { f with pos:=f.pos+1 }).exec i (takeS f.vals i.args))).1
   rw [hss] at hs
   have hml:(M.setTop { f with pos:=f.pos+1 }).left≤y:=by
    have:1 * M.left≤c * M.left:=Int.mul_le_mul_of_nonneg_right hc k0
    show M.left≤y
    omega
   rw [htr,Mach.put_exec _ _ _ _ _ hs hx.left.1 hml]
   generalize (M.setTop { f with pos:=f.pos+1 }).exec i (takeS f.vals i.args)=X at *
   obtain⟨E,E2⟩:=X
   have hxf:E.frames = { f with pos:=f.pos+1 }::r:=by
    rw [←hfr2]
    exact hx.frames
   have hxl:E.left≤M.left:=hx.left.2
   obtain⟨w1,w2⟩:=settle_frames E E2 { f with pos:=f.pos+1 } i.to
   refine .now ⟨_,_,settle_put E E2 { f with pos:=f.pos+1 } _ _ i.to _ _,?_,?_,?_⟩
   ·rw [w1,hxf]
    refine⟨⟨hF1.ids,hF1.fn,hF1.live,hF1.blk,hF1.pos,hF1.vals.put (T.inj f.fn) d1 _⟩,by cases r<;>exact hT,hR⟩
   ·rw [w2]
    have:=mul_down hc k3 (a:=M.left - E.left) (by omega)
    rw [show M.left - (M.left - E.left)=E.left by omega] at this
    exact this
   rw [w2]
   show y - (M.left - E.left)≤E.left+d
   omega
theorem Rel.core{m m':Mach}(h:Rel u s D L β pre c d m m'):m'.over=m.over∧m'.short=m.short∧m'.out=m.out∧m'.fin=m.fin∧m'.val=m.val∧c * m.left≤m'.left∧m'.left≤m.left+d:=by
 obtain⟨fs,l,rfl,_,l1,l2⟩:=h
 exact⟨rfl,rfl,rfl,rfl,rfl,l1,l2⟩
theorem run_rel(T:UntTr u v s D L β pre c)(hu:UnitOK u)(hc:1≤c):∀(k:Nat) (m m':Mach),MachOK u m→Rel u s D L β pre c d m m'→(Mach.run u k m).short=false→∃n m'',Mach.Steps v n m' m''∧Rel u s D L β pre c d (Mach.run u k m) m''
 | 0,m,m',hm,hr,hs=>⟨0,m',.refl _,hr⟩
 | k+1,m,m',hm,hr,hs=>by
  cases ho:m.over with
  | true =>
   rw [run_over' ho] at hs ⊢
   exact⟨0,m',.refl _,hr⟩
  | false =>
   have hrun:Mach.run u (k+1) m=if (m.pay 1).short then m.pay 1 else Mach.run u k (Mach.step u (m.pay 1)):=by simp [Mach.run,ho]
   rw [hrun] at hs ⊢
   by_cases hp:m.left<1
   ·rw [pay_short hp] at hs
    simp at hs
   obtain⟨q1,q2,q3,q4,q5⟩:=pay_ok hm ho hp
   rw [if_neg (by simp [q3])] at hs ⊢
   have hd1:(m.pay 1).frames.length+(m.pay 1).left+1≤2 ^ 40:=by
    have:=hm.depth
    rw [q4,q5];omega
   have hst:=MachOK.step hu q1 q2 hd1
   have hss:(Mach.step u (m.pay 1)).short=false:=by
    cases hx:(Mach.step u (m.pay 1)).short with
    | false=>rfl
    | true =>
     have ho:(Mach.step u (m.pay 1)).over=true:=by
      cases hy:(Mach.step u (m.pay 1)).over with
      | true=>rfl
      | false=>rw [(hst.over hy).2] at hx;cases hx
     rw [run_over' ho,hx] at hs
     cases hs
   rw [Mach.pay_one (by omega)] at hst hss hs ⊢
   obtain⟨n,m1,s1,s2⟩:=step_rel T hu hc hm ho (by omega) hss hr
   obtain⟨n2,m2,s3,s4⟩:=run_rel T hu hc k _ m1 hst s2 hs
   exact⟨n+1+n2,m2,s1.trans s3,s4⟩
theorem perform_rel(T:UntTr u v s D L β pre c)(hu:UnitOK u)(hv:UnitOK v)(hc:1≤c){F G:Int}(hF:0≤F∧F≤1000000)(hG:G≤1000000)(hlo:c * F+(c - 1)≤G)(he:(performM u F).e=0) :
  (performM v G).e=0∧(performM v G).out=(performM u F).out∧(performM v G).fin=(performM u F).fin∧(performM v G).val=(performM u F).val∧(performM v G).n≤G - c * (F - (performM u F).n)∧(performM u F).n+(pre u.main 0).length≤(performM v G).n:=by
 have hcF:1 * F≤c * F:=Int.mul_le_mul_of_nonneg_right hc hF.1
 obtain⟨z1,z2,z3⟩:=T.zero u.main hu.main.1 hu.main.2
 have hB:=T.blks u.main 0 hu.main.1 hu.main.2 z1
 rw [z2] at hB
 have hsu:=start_ok hu (fuel:=F) hF.1 hF.2
 have hsv:=start_ok hv (fuel:=G) (by omega) hG
 have hstart:Goes u v s D L β pre c (G - F - (pre u.main 0).length) ((Mach.start F).enter u u.main [] 0) ((Mach.start G).enter v v.main [] 0):=by
  have e0:(Mach.start G).enter v v.main [] 0=((Mach.start F).enter u u.main [] 0).put [⟨5,4,u.main,0,0,0,bindS [] ((blkOf (fnOf u u.main) 0).params.map s) []⟩] G:=by
   rw [T.main]
   unfold Mach.enter
   rw [hB.params.1]
   rfl
  rw [e0]
  refine arrive T (m:=(Mach.start F).enter u u.main [] 0) rfl rfl (f:=⟨5,4,u.main,0,0,0,bindS [] (blkOf (fnOf u u.main) 0).params []⟩) (r:=[]) rfl ⟨rfl,rfl,rfl⟩ hu.main z1 z2.symm rfl rfl (VR.bind (T.inj u.main) _ _ hB.params.2 (fun _ _=>rfl)) trivial trivial hF.1 (by
   show c * F+(pre u.main 0).length≤G
   omega) (by
   show G - (pre u.main 0).length≤F+(G - F - (pre u.main 0).length)
   omega) hc
 obtain⟨n0,m0,s0,r0⟩:=hstart
 unfold performM at he ⊢
 simp only at he ⊢
 have hru:=run_ok hu (F.toNat+2) _ hsu (by simp [Mach.enter,Mach.start])
 have hrv:=run_ok hv (G.toNat+2) _ hsv (by simp [Mach.enter,Mach.start])
 have hsim:=fun h=>run_rel T hu hc (F.toNat+2) _ m0 hsu r0 h
 generalize Mach.run u (F.toNat+2) ((Mach.start F).enter u u.main [] 0)=E at *
 cases hs:E.short with
 | true =>
  rw [hs] at he
  simp at he
 | false =>
  obtain⟨n1,m1,s1,r1⟩:=hsim hs
  have S:=s0.trans s1
  obtain⟨b1,b2,b3,b4,b5,b6,b7⟩:=r1.core
  have hle:n0+n1≤G.toNat+2:=Classical.byContradiction fun q=>by
   have:=S.before (G.toNat+2) (by omega)
   rw [hrv.1] at this
   cases this
  have hend:Mach.run v (G.toNat+2) ((Mach.start G).enter v v.main [] 0)=m1:=by
   have:=S.run (G.toNat+2 - (n0+n1))
   rw [show n0+n1+(G.toNat+2 - (n0+n1))=G.toNat+2 by omega] at this
   rw [this]
   exact run_over' (by rw [b1];exact hru.1) _
  rw [hend,b2,hs]
  simp only [Bool.false_eq_true,if_false]
  refine⟨trivial,b3,b4,b5,?_,?_⟩
  ·rw [show F - (F - E.left)=E.left by omega]
   omega
  omega
end
end Go.Proofs.Ytkhnjeblbiocaaa
namespace Go.Av
theorem awp_ownAll{P:Program}{kb:Nat}{c:Code}{Q:AEx→St→Prop}{n:Nat}{slots:List (Nat×AVal)}{O:List AObj}(k m:Nat)(hk:k<O.length)
  (h:AWP P kb c Q ⟨n,slots,(O++List.replicate m (AObj.spare 0)).set k (.cells ((List.range m).map fun j=>.lst 1 [] (.tok (O.length+j))))⟩):AWP P kb c Q ⟨n,slots,O.set k (.cells (List.replicate m (.lst 1 [] .ex)))⟩:=by
 obtain⟨conv,hconv⟩:∃conv:Nat→List AVal,conv=fun q=>((List.range q).map fun j=>AVal.lst 1 [] (.tok (O.length+j)))++List.replicate (m - q) (.lst 1 [] .ex):=⟨_,rfl⟩
 have key:∀q,q≤m→AWP P kb c Q ⟨n,slots,(O++List.replicate q (AObj.spare 0)).set k (.cells (conv q))⟩→AWP P kb c Q ⟨n,slots,O.set k (.cells (List.replicate m (.lst 1 [] .ex)))⟩:=fun q=>by
  induction q with
  | zero =>
   intro _ h
   simpa [hconv] using h
  | succ q ih =>
   intro hq h
   refine ih (by omega) (awp_ownCell k q (sz:=1) (cs:=conv q) (xs:=[]) ?_ ?_ ?_)
   ·rw [List.getElem?_set_self (by simp;omega)]
   ·rw [hconv]
    simp only
    rw [List.getElem?_append_right (by simp)]
    simp only [List.length_map,List.length_range,Nat.sub_self]
    rw [show m - q=(m - (q+1))+1 by omega,List.replicate_succ]
    rfl
   have e1:(O++List.replicate q (AObj.spare 0)).set k (.cells (conv q))++[AObj.spare ([]:List AVal).length]=(O++List.replicate (q+1) (AObj.spare 0)).set k (.cells (conv q)):=by
    rw [List.set_append_left _ _ hk,List.set_append_left _ _ hk,List.append_assoc]
    congr 1
    rw [List.replicate_succ']
    rfl
   have e2:(conv q).set q (.lst 1 [] (.tok ((O++List.replicate q (AObj.spare 0)).set k (.cells (conv q))).length))=conv (q+1):=by
    rw [hconv]
    simp only [List.length_set,List.length_append,List.length_replicate]
    rw [List.set_append_right _ _ (by simp)]
    simp only [List.length_map,List.length_range,Nat.sub_self]
    rw [show m - q=(m - (q+1))+1 by omega,List.replicate_succ,List.set_cons_zero,List.range_succ,List.map_append,List.append_assoc]
    rfl
   rw [e1,e2,List.set_set]
   exact h
 refine key m (Nat.le_refl _) ?_
 simpa [hconv] using h
end Go.Av
namespace Go.Proofs.Ytkhnjeblbiocaaa
open Go.Av
def outC(b:Nat)(ls:List (List Int)):List AVal:=ls.mapIdx fun j l=>.lst 1 (l.map aI) (.tok (b+j))
theorem outC_get{b:Nat}{ls:List (List Int)}{j:Nat}{l:List Int}(h:ls[j]?=some l):(outC b ls)[j]?=some (.lst 1 (l.map aI) (.tok (b+j))):=by
 simp [outC,h]
theorem outC_set{b:Nat}{ls:List (List Int)}{j:Nat}(l:List Int):(outC b ls).set j (.lst 1 (l.map aI) (.tok (b+j)))=outC b (ls.set j l):=by
 apply List.ext_getElem?
 intro i
 simp only [outC,List.getElem?_set,List.getElem?_mapIdx,List.length_mapIdx]
 by_cases e:j=i
 ·subst e
  by_cases hl:j<ls.length
  ·simp [hl]
  simp [hl]
 simp [e]
theorem outC_len(b:Nat)(ls:List (List Int)):(outC b ls).length=ls.length:=by simp [outC]
theorem outC_nil(b n:Nat):outC b (List.replicate n [])=(List.range n).map fun j=>.lst 1 [] (.tok (b+j)):=by
 apply List.ext_getElem?
 intro i
 simp only [outC,List.getElem?_mapIdx,List.getElem?_map]
 by_cases h:i<n
 ·simp [h]
 simp [h]
theorem outC_share(b:Nat)(ls:List (List Int)):(outC b ls).map AVal.shareCell=cellsAll (ls.map eIs):=by
 have h1:cellsAll (ls.map eIs)=ls.map eIs:=by
  induction ls with
  | nil=>rfl
  | cons l r ih =>
   simp only [List.map_cons,cellsAll,List.flatMap_cons] at ih ⊢
   rw [ih]
   rfl
 rw [h1]
 apply List.ext_getElem?
 intro i
 simp only [outC,List.getElem?_map,List.getElem?_mapIdx]
 cases ls[i]? with
 | none=>rfl
 | some l =>
  simp only [Option.map_some,Option.some.injEq]
  rw [shareCell_lst]
theorem outC_upto{b n:Nat}{ls:List (List Int)}(h:b+ls.length≤n):uptoL n (outC b ls):=by
 rw [uptoL_iff]
 intro x hx
 obtain⟨j,hj⟩:=List.mem_iff_getElem?.1 hx
 simp only [outC,List.getElem?_mapIdx] at hj
 cases hl:ls[j]? with
 | none=>rw [hl] at hj;cases hj
 | some l =>
  rw [hl] at hj
  simp only [Option.map_some,Option.some.injEq] at hj
  subst hj
  have:=lt_of_getElem? hl
  exact⟨aI_upto _ _,show _<_ by omega⟩
theorem splice_one{cs:List AVal}{j:Nat}(x:AVal)(h:j<cs.length):splice cs j [x]=cs.set j x:=by
 apply List.ext_getElem?
 intro i
 rw [splice_get (by simp;omega),List.getElem?_set]
 simp only [List.length_cons,List.length_nil,Nat.zero_add]
 by_cases e:j=i
 ·subst e
  simp [h]
 rw [if_neg (by omega),if_neg e]
structure PO(ls:List (List Int))(O:List AObj):Prop where
 len:O.length=ls.length+2
 arr:O[1]?=some (.cells (outC 2 ls))
 sp:∀j l,ls[j]?=some l→O[2+j]?=some (.spare l.length)
 up:∀o∈O,o.upto O.length
theorem PO.push{ls:List (List Int)}{O:List AObj}(h:PO ls O){j:Nat}{l:List Int}(hj:ls[j]?=some l)(k:Int):PO (ls.set j (l++[k])) ((O.set (2+j) (.spare (l.length+1))).set 1 (.cells (outC 2 (ls.set j (l++[k]))))):=by
 have hlt:=lt_of_getElem? hj
 have hl:=h.len
 refine⟨by simp [hl],?_,fun i m hi=>?_,?_⟩
 ·rw [List.getElem?_set_self (by simp;omega)]
 ·rw [List.getElem?_set_ne (by omega)]
  by_cases e:j=i
  ·subst e
   rw [List.getElem?_set_self hlt] at hi
   simp only [Option.some.injEq] at hi
   subst hi
   rw [List.getElem?_set_self (by omega)]
   simp
  rw [List.getElem?_set_ne e] at hi
  rw [List.getElem?_set_ne (by omega)]
  exact h.sp i m hi
 have h1:∀o∈O.set (2+j) (.spare (l.length+1)),o.upto O.length:=uptoO_set h.up trivial
 have h2:=uptoO_set (k:=1) (x:=.cells (outC 2 (ls.set j (l++[k])))) h1 (by
  show uptoL _ _
  exact outC_upto (by simp [hl];omega))
 simpa using h2
def predE(k:Nat)(ls:List (List Int))(e:Edge):List (List Int):=ls.set e.block.toNat ((ls[e.block.toNat]?.getD [])++[(k:Int)])
def predB(k:Nat)(ls:List (List Int))(es:List Edge):List (List Int):=es.foldl (predE k) ls
def predL:Nat→List (List Int)→List Block→List (List Int)
 | _,ls,[]=>ls
 | k,ls,b::r=>predL (k+1) (predB k ls b.term.to) r
def predsM(f:Func):List (List Int):=predL 0 (List.replicate f.blocks.length []) f.blocks
theorem predE_len(k:Nat)(ls:List (List Int))(e:Edge):(predE k ls e).length=ls.length:=by simp [predE]
theorem predB_len(k:Nat):∀(es:List Edge) (ls:List (List Int)),(predB k ls es).length=ls.length
 | [],_=>rfl
 | e::r,ls=>by
  show(predB k (predE k ls e) r).length=_
  rw [predB_len k r,predE_len]
theorem predL_len:∀(l:List Block) (k:Nat) (ls:List (List Int)),(predL k ls l).length=ls.length
 | [],_,_=>rfl
 | b::r,k,ls=>by
  simp only [predL]
  rw [predL_len r,predB_len]
theorem to_few{f:Func}{t:Term}(hend:EndW f t):t.to.length≤257:=by
 rcases (show(t.kind=0∨t.kind=4)∨t.kind=1∨t.kind=2∨t.kind=3 by have:=hend.kind;omega) with q | q | q | q
 ·rw [hend.to q];simp
 ·rw [hend.jump q];omega
 ·rw [hend.cond q];omega
 rw [hend.switch q];have:=hend.cases;omega
theorem preds_len(f:Func):(predsM f).length=f.blocks.length:=by simp [predsM,predL_len]
theorem nils_flat(n:Nat):(List.replicate n [AVal.lst 1 [] .ex]).flatten=List.replicate n (.lst 1 [] .ex):=by
 induction n with
 | zero=>rfl
 | succ n ih=>rw [List.replicate_succ,List.flatten_cons,ih,List.replicate_succ];rfl
def blkVals(b:Block):List Int:=b.params++b.ins.map Ins.to
def valsF(f:Func):List Int:=f.blocks.flatMap blkVals
def ValsW(f:Func):Prop:=∀v∈valsF f,0≤v∧v≤4095
def parDefs(k:Int)(l:List Int):Defs:=l.map fun p=>(p,(k,0))
def insDefs(k:Int):Int→List Ins→Defs
 | _,[]=>[]
 | n,i::r=>(i.to,(k,n+1))::insDefs k (n+1) r
def blkDefs(k:Int)(b:Block):Defs:=parDefs k b.params++insDefs k 0 b.ins
def allDefs:Int→List Block→Defs
 | _,[]=>[]
 | k,b::r=>blkDefs k b++allDefs (k+1) r
theorem defineM_eq{ds:Defs}{v:Int}{p:Int×Int}(h:(defineM ds v p).1=0):(defineM ds v p).2=ds++[(v,p)]:=by
 unfold defineM at h ⊢
 split at h
 ·simp at h
 rename_i h1
 rw [if_neg h1]
 split at h
 ·simp at h
 rename_i h2
 rw [if_neg h2]
theorem paramsM_eq(k:Int):∀(l:List Int) (ds:Defs),(paramsM k ds l).1=0→(paramsM k ds l).2=ds++parDefs k l
 | [],ds,_=>by simp [paramsM,parDefs]
 | p::r,ds,h=>by
  simp only [paramsM] at h ⊢
  split at h
  ·rename_i hne
   exact absurd h hne
  rename_i he
  rw [if_neg he,paramsM_eq k r _ h,defineM_eq (by simpa using he)]
  simp [parDefs]
theorem insM_eq(k:Int):∀(l:List Ins) (n:Int) (ds:Defs),(insM k n ds l).1=0→(insM k n ds l).2=ds++insDefs k n l
 | [],n,ds,_=>by simp [insM,insDefs]
 | i::r,n,ds,h=>by
  simp only [insM] at h ⊢
  split at h
  ·rename_i hne
   exact absurd h hne
  rename_i he
  split at h
  ·rename_i hf
   exact absurd h hf
  rename_i hf
  rw [if_neg he,if_neg hf,insM_eq k r _ _ h,defineM_eq (by simpa using he)]
  simp [insDefs]
theorem blockM_eq{f:Func}{ds:Defs}{k:Int}(h:(blockM f ds k).1=0):(blockM f ds k).2=ds++blkDefs k (blkOf f k):=by
 unfold blockM at h ⊢
 split at h
 ·rename_i hne
  exact absurd h hne
 rename_i hp
 split at h
 ·rename_i hne
  exact absurd h hne
 rename_i hi
 rw [if_neg hp,if_neg hi]
 simp only
 rw [insM_eq k _ _ _ (by simpa using hi),paramsM_eq k _ _ (by simpa using hp),blkDefs,List.append_assoc]
theorem blocksM_eq{f:Func}:∀(n k:Nat) (ds:Defs),k+n=f.blocks.length→(blocksM f n k ds).1=0→(blocksM f n k ds).2=ds++allDefs k (f.blocks.drop k)
 | 0,k,ds,hk,_=>by
  rw [List.drop_of_length_le (by omega)]
  simp [blocksM,allDefs]
 | n+1,k,ds,hk,h=>by
  simp only [blocksM] at h ⊢
  split at h
  ·rename_i hne
   exact absurd h hne
  rename_i he
  rw [if_neg he]
  have hb:f.blocks[k]?=some f.blocks[k]:=List.getElem?_eq_getElem (by omega)
  have ih:=blocksM_eq n (k+1) (blockM f ds k).2 (by omega) h
  have e:((k+1:Nat):Int)=(k:Int)+1:=by omega
  rw [e] at ih
  rw [ih,blockM_eq (by simpa using he),drop_at hb,allDefs,List.append_assoc]
  congr 3
  simp [blkOf,hb]
def dsF(f:Func):Defs:=allDefs 0 f.blocks
theorem FnW.ds{f:Func}(hfit:f.fit)(h:checkFuncM f=0):(blocksM f f.blocks.length 0 []).2=dsF f∧DefsW f.blocks.length (dsF f):=by
 have he:(blocksM f f.blocks.length 0 []).1=0:=by
  unfold checkFuncM at h
  split at h
  ·simp at h
  split at h
  ·simp at h
  split at h
  ·simp at h
  split at h
  ·rename_i h4
   exact absurd h h4
  rename_i h4
  simpa using h4
 have e:=blocksM_eq f.blocks.length 0 [] (by omega) he
 rw [List.drop_zero,List.nil_append] at e
 have hw:=(blocksM_ok f.blocks.length 0 [] (.nil _) (by omega) (by simp) he).1
 have e':(blocksM f f.blocks.length 0 []).2=dsF f:=e
 rw [e'] at hw
 exact⟨e',hw⟩
theorem lookD_mem{ds:Defs}(hn:(ds.map (·.1)).Nodup){v:Int}{p:Int×Int}:lookD ds v=some p↔(v,p)∈ds:=by
 induction ds with
 | nil=>simp [lookD]
 | cons e r ih =>
  obtain⟨a,q⟩:=e
  simp only [List.map_cons,List.nodup_cons,List.mem_map,not_exists,not_and] at hn
  have ih:=ih hn.2
  simp only [lookD,List.mem_cons,Prod.mk.injEq]
  by_cases h:a=v
  ·subst h
   rw [if_pos rfl]
   constructor
   ·intro h
    simp only [Option.some.injEq] at h
    exact .inl ⟨rfl,h.symm⟩
   rintro(⟨_,h⟩ | h)
   ·rw [h]
   exact absurd rfl (hn.1 _ h)
  rw [if_neg h,ih]
  constructor
  ·exact .inr
  rintro(⟨h1,_⟩ | h1)
  ·exact absurd h1.symm h
  exact h1
theorem mem_insDefs{k:Int}{v:Int}{p:Int×Int}:∀(l:List Ins) (n:Int),(v,p)∈insDefs k n l↔∃(j:Nat) (i:Ins),l[j]?=some i∧i.to=v∧p=(k,n+j+1)
 | [],n=>by simp [insDefs]
 | i::r,n=>by
  simp only [insDefs,List.mem_cons,Prod.mk.injEq]
  rw [mem_insDefs r (n+1)]
  constructor
  ·rintro(⟨h1,h2⟩ | ⟨j,x,h1,h2,h3⟩)
   ·exact⟨0,i,rfl,h1.symm,by simpa using h2⟩
   exact⟨j+1,x,h1,h2,by rw [h3];congr 1;omega⟩
  rintro⟨j,x,h1,h2,h3⟩
  cases j with
  | zero =>
   simp only [List.getElem?_cons_zero,Option.some.injEq] at h1
   subst h1
   exact .inl ⟨h2.symm,by simpa using h3⟩
  | succ j=>exact .inr ⟨j,x,h1,h2,by rw [h3];congr 1;omega⟩
theorem mem_allDefs{v:Int}{p:Int×Int}:∀(l:List Block) (k:Int),(v,p)∈allDefs k l↔∃(j:Nat) (b:Block),l[j]?=some b∧(v,p)∈blkDefs (k+j) b
 | [],k=>by simp [allDefs]
 | b::r,k=>by
  rw [allDefs,List.mem_append,mem_allDefs r (k+1)]
  constructor
  ·rintro(h | ⟨j,x,h1,h2⟩)
   ·exact⟨0,b,rfl,by simpa using h⟩
   exact⟨j+1,x,h1,by rw [show k+((j+1:Nat):Int)=k+1+j by omega];exact h2⟩
  rintro⟨j,x,h1,h2⟩
  cases j with
  | zero =>
   simp only [List.getElem?_cons_zero,Option.some.injEq] at h1
   subst h1
   exact .inl (by simpa using h2)
  | succ j=>exact .inr ⟨j,x,h1,by rw [show k+((j+1:Nat):Int)=k+1+j by omega] at h2;exact h2⟩
def DefAt(f:Func)(v:Int)(p:Int×Int):Prop:=∃(k:Nat) (b:Block),f.blocks[k]?=some b∧p.1=k∧((p.2=0∧v∈b.params)∨∃(j:Nat) (i:Ins),b.ins[j]?=some i∧i.to=v∧p.2=j+1)
theorem mem_dsF{f:Func}{v:Int}{p:Int×Int}:(v,p)∈dsF f↔DefAt f v p:=by
 obtain⟨p1,p2⟩:=p
 rw [dsF,mem_allDefs]
 constructor
 ·rintro⟨k,b,h1,h2⟩
  rw [blkDefs,List.mem_append] at h2
  rcases h2 with h2 | h2
  ·simp only [parDefs,List.mem_map,Prod.mk.injEq] at h2
   obtain⟨x,h3,h4,h5,h6⟩:=h2
   subst h4
   exact⟨k,b,h1,by simp only;omega,.inl ⟨h6.symm,h3⟩⟩
  obtain⟨j,i,h3,h4,h5⟩:=(mem_insDefs _ _).1 h2
  simp only [Prod.mk.injEq] at h5
  exact⟨k,b,h1,by simp only;omega,.inr ⟨j,i,h3,h4,by simp only;omega⟩⟩
 rintro⟨k,b,h1,h2,h3⟩
 simp only at h2 h3
 subst h2
 refine⟨k,b,h1,?_⟩
 rw [blkDefs,List.mem_append]
 rcases h3 with⟨h3,h4⟩ | ⟨j,i,h3,h4,h5⟩
 ·subst h3
  exact .inl (by simpa [parDefs] using h4)
 exact .inr ((mem_insDefs _ _).2 ⟨j,i,h3,h4,by subst h5;simp⟩)
theorem insDefs_fst(k:Int):∀(l:List Ins) (n:Int),(insDefs k n l).map (·.1)=l.map Ins.to
 | [],_=>rfl
 | i::r,n=>by rw [insDefs,List.map_cons,insDefs_fst k r,List.map_cons]
theorem allDefs_fst:∀(l:List Block) (k:Int),(allDefs k l).map (·.1)=l.flatMap blkVals
 | [],_=>rfl
 | b::r,k=>by
  rw [allDefs,List.map_append,allDefs_fst r,List.flatMap_cons,blkDefs,List.map_append,insDefs_fst,blkVals,parDefs,List.map_map]
  congr 2
  exact List.map_id' _
theorem dsF_fst(f:Func):(dsF f).map (·.1)=valsF f:=allDefs_fst _ _
theorem domE_again{k:Nat}{S:Ds}{e:Edge}(h:(domE k S e).again=false):domE k S e=S∧((S.at_ e.block.toNat).meet (S.at_ k)).add e.block.toNat=S.at_ e.block.toNat∧S.seen.has e.block.toNat=true:=by
 unfold domE at h ⊢
 simp only at h ⊢
 split at h
 ·cases h
 rename_i hc
 rw [if_neg hc]
 simp only [ne_eq,not_or,Decidable.not_not,Bool.not_eq_false] at hc
 exact⟨rfl,hc⟩
theorem domF_again{k:Nat}:∀(l:List Edge) {S:Ds},(l.foldl (domE k) S).again=false→l.foldl (domE k) S=S∧∀e∈l,((S.at_ e.block.toNat).meet (S.at_ k)).add e.block.toNat=S.at_ e.block.toNat∧S.seen.has e.block.toNat=true
 | [],S,_=>⟨rfl,by simp⟩
 | e::r,S,h=>by
  rw [List.foldl_cons] at h
  have ih:=domF_again r h
  rw [ih.1] at h
  have h1:=domE_again h
  rw [List.foldl_cons,ih.1,h1.1]
  rw [h1.1] at ih
  refine⟨rfl,fun x hx=>?_⟩
  rcases List.mem_cons.1 hx with q | q
  ·subst q
   exact h1.2
  exact ih.2 x q
theorem domR_again:∀(l:List Block) (k:Nat) {S:Ds},(domR k S l).again=false→domR k S l=S∧∀(j:Nat) b,l[j]?=some b→S.seen.has (k+j)=true→∀e∈b.term.to,((S.at_ e.block.toNat).meet (S.at_ (k+j))).add e.block.toNat=S.at_ e.block.toNat∧S.seen.has e.block.toNat=true
 | [],k,S,_=>⟨rfl,fun j b h=>by simp at h⟩
 | b::r,k,S,h=>by
  rw [domR] at h
  have ih:=domR_again r (k+1) h
  rw [ih.1] at h
  have h1:domB k S b=S∧(S.seen.has k=true→∀e∈b.term.to,((S.at_ e.block.toNat).meet (S.at_ k)).add e.block.toNat=S.at_ e.block.toNat∧S.seen.has e.block.toNat=true):=by
   unfold domB at h ⊢
   split
   ·rename_i hs
    exact⟨rfl,fun q=>by rw [hs] at q;cases q⟩
   rename_i hs
   rw [if_neg hs] at h
   have:=domF_again _ h
   exact⟨this.1,fun _=>this.2⟩
  rw [domR,ih.1,h1.1]
  rw [h1.1] at ih
  refine⟨rfl,fun j x hj hs=>?_⟩
  cases j with
  | zero =>
   simp only [List.getElem?_cons_zero,Option.some.injEq] at hj
   subst hj
   exact h1.2 hs
  | succ j =>
   rw [show k+(j+1)=k+1+j by omega] at hs ⊢
   exact ih.2 j x hj hs
theorem domI_ends{f:Func}(he:∀b∈f.blocks,∀e∈b.term.to,0≤e.block∧e.block.toNat<f.blocks.length):∀(n:Nat) {S:Ds},DsOK f.blocks.length S→(S.again=true→S.weight<n)→(domI f n S).again=false
 | 0,S,_,h=>by
  cases hs:S.again with
  | false=>exact hs
  | true=>exact absurd (h hs) (by omega)
 | n+1,S,hS,h=>by
  simp only [domI]
  split
  ·rename_i ha
   have hw:=h ha
   have hr:=domR_ok f.blocks (k:=0) (S:=⟨S.over,S.seen,false⟩) ⟨hS.few,hS.len,hS.fit,hS.seen,hS.self⟩ he
   have hwS:(⟨S.over,S.seen,false⟩:Ds).weight=S.weight:=rfl
   refine domI_ends he n hr.1 fun q=>?_
   rcases hr.2.2 q with q | q
   ·cases q
   omega
  rename_i ha
  simpa using ha
structure Dz(S:Ds):Prop where
 zero:S.at_ 0=Bs.none.add 0
 seen:S.seen.has 0=true
theorem domE_z{n k:Nat}{S:Ds}(h:Dz S){e:Edge}(h1:1≤e.block)(h2:e.block.toNat<n)(h3:n≤128):Dz (domE k S e):=by
 unfold domE
 simp only
 split
 ·refine⟨?_,?_⟩
  ·have:=h.zero
   unfold Ds.at_ at this ⊢
   simp only
   rw [List.getElem?_set_ne (by omega)]
   exact this
  simp only
  rw [Bs.has_add _ _ _ (by omega) (by omega),h.seen]
  rfl
 exact h
theorem domF_z{n k:Nat}(h3:n≤128):∀(l:List Edge) {S:Ds},Dz S→(∀e∈l,1≤e.block∧e.block.toNat<n)→Dz (l.foldl (domE k) S)
 | [],_,h,_=>h
 | e::r,S,h,he=>domF_z h3 r (domE_z h (he e (by simp)).1 (he e (by simp)).2 h3) fun x hx=>he x (by simp [hx])
theorem domR_z{n:Nat}(h3:n≤128):∀(l:List Block) {k:Nat} {S:Ds},Dz S→(∀b∈l,∀e∈b.term.to,1≤e.block∧e.block.toNat<n)→Dz (domR k S l)
 | [],_,_,h,_=>h
 | b::r,k,S,h,he=>by
  refine domR_z h3 r (k:=k+1) ?_ fun x hx=>he x (by simp [hx])
  unfold domB
  split
  ·exact h
  exact domF_z h3 _ h (he b (by simp))
theorem domI_z{f:Func}(h3:f.blocks.length≤128)(he:∀b∈f.blocks,∀e∈b.term.to,1≤e.block∧e.block.toNat<f.blocks.length):∀(n:Nat) {S:Ds},Dz S→Dz (domI f n S)
 | 0,_,h=>h
 | n+1,S,h=>by
  simp only [domI]
  split
  ·exact domI_z h3 he n (domR_z h3 _ (S:=⟨S.over,S.seen,false⟩) ⟨h.zero,h.seen⟩ he)
  exact h
theorem domI_last{f:Func}:∀(n:Nat) {S:Ds},S.again=true→(domI f n S).again=false→∃T:Ds,domI f n S=domR 0 T f.blocks
 | 0,S,h1,h2=>by
  rw [domI,h1] at h2
  cases h2
 | n+1,S,h1,h2=>by
  simp only [domI,h1,if_true] at h2 ⊢
  cases hr:(domR 0 ⟨S.over,S.seen,false⟩ f.blocks).again with
  | false=>exact⟨_,domI_done hr n⟩
  | true=>exact domI_last n hr h2
def overF(f:Func)(k:Nat):Bs:=(domM f).1[k]?.getD .none
def seenF(f:Func)(k:Nat):Bool:=(domM f).2.has k
structure DomW(f:Func):Prop where
 seen:seenF f 0=true
 zero:∀j,j<128→((overF f 0).has j=true↔j=0)
 self:∀k,k<f.blocks.length→(overF f k).has k=true
 step:∀(k:Nat) b,f.blocks[k]?=some b→seenF f k=true→∀e∈b.term.to,seenF f e.block.toNat=true∧∀j,j<128→((overF f e.block.toNat).has j=true→j=e.block.toNat∨(overF f k).has j=true)
theorem domM_w{f:Func}(h0:f.blocks≠[])(h1:f.blocks.length≤128)(he:∀b∈f.blocks,∀e∈b.term.to,1≤e.block∧e.block<f.blocks.length):DomW f:=by
 have he':∀b∈f.blocks,∀e∈b.term.to,0≤e.block∧e.block.toNat<f.blocks.length:=fun b hb e hx=>by have:=he b hb e hx;omega
 have he1:∀b∈f.blocks,∀e∈b.term.to,1≤e.block∧e.block.toNat<f.blocks.length:=fun b hb e hx=>by have:=he b hb e hx;omega
 have hl:=List.length_pos_iff.2 h0
 have hS:=domS_ok h0 h1
 have hw0:=weight_le hS
 have hz0:Dz (domS f):=⟨by unfold Ds.at_ domS;simp only;rw [List.getElem?_set_self (by simpa using hl)];rfl,by show(Bs.none.add 0).has 0=true;decide⟩
 have hend:=domI_ends he' 20000 hS (fun _=>by omega)
 have hz:=domI_z h1 he1 20000 hz0
 obtain⟨T,hT⟩:=domI_last 20000 rfl hend
 have hok:DsOK f.blocks.length (domI f 20000 (domS f)):=by
  have key:∀(n:Nat) (S:Ds),DsOK f.blocks.length S→DsOK f.blocks.length (domI f n S):=fun n=>by
   induction n with
   | zero=>exact fun S h=>h
   | succ n ih =>
    intro S h
    simp only [domI]
    split
    ·exact ih _ (domR_ok f.blocks (k:=0) (S:=⟨S.over,S.seen,false⟩) ⟨h.few,h.len,h.fit,h.seen,h.self⟩ he').1
    exact h
  exact key _ _ hS
 have hTa:=domR_again f.blocks 0 (S:=T) (by rw [←hT];exact hend)
 have hfix:=hTa.2
 rw [show T=domI f 20000 (domS f) from hTa.1.symm.trans hT.symm] at hfix
 have hov:∀k,overF f k=(domI f 20000 (domS f)).at_ k:=fun k=>rfl
 have hse:∀k,seenF f k=(domI f 20000 (domS f)).seen.has k:=fun k=>rfl
 generalize domI f 20000 (domS f)=S at *
 refine⟨by rw [hse,hz.seen],fun j hj=>?_,fun k hk=>by rw [hov];exact hok.self k hk,fun k b hb hs e hx=>?_⟩
 ·rw [hov,hz.zero,Bs.has_add _ _ _ (by omega) hj]
  have:Bs.none.has j=false:=by unfold Bs.has Bs.none;simp
  simp [this]
 have hb1:=he1 b (List.mem_of_getElem? hb) e hx
 obtain⟨q1,q2⟩:=hfix k b hb (by rw [Nat.zero_add,←hse];exact hs) e hx
 rw [Nat.zero_add] at q1
 refine⟨by rw [hse];exact q2,fun j hj q=>?_⟩
 rw [hov,←q1,Bs.has_add _ _ _ (by omega) hj,Bs.has_meet] at q
 rw [hov]
 simp only [Bool.or_eq_true,Bool.and_eq_true,decide_eq_true_eq] at q
 rcases q with q | q
 ·exact .inr q.2
 exact .inl q
theorem lookD_some{ds:Defs}{v:Int}{p:Int×Int}(h:lookD ds v=some p):(v,p)∈ds:=by
 induction ds with
 | nil=>cases h
 | cons e r ih =>
  obtain⟨a,q⟩:=e
  simp only [lookD] at h
  split at h
  ·rename_i e
   simp only [Option.some.injEq] at h
   rw [e,h]
   simp
  exact List.mem_cons.2 (.inr (ih h))
def Fine(f:Func)(k:Nat)(n:Int)(v:Int):Prop:=∃p,DefAt f v p∧(seenF f k=true→(p.1=k∧p.2≤n)∨(p.1≠k∧(overF f k).has p.1.toNat=true))
theorem fine_of{f:Func}{k:Nat}{n v:Int}(h:fineM (dsF f) (domM f).1 (domM f).2 k n v=true):Fine f k n v:=by
 unfold fineM at h
 cases hl:lookD (dsF f) v with
 | none=>rw [hl] at h;cases h
 | some p =>
  rw [hl] at h
  refine⟨p,mem_dsF.1 (lookD_some hl),fun hs=>?_⟩
  have hs':(domM f).2.has k=true:=hs
  simp only [hs',Bool.not_true,Bool.or_false,Bool.or_eq_true,Bool.and_eq_true,decide_eq_true_eq,Bool.not_eq_true',decide_eq_false_iff_not] at h
  exact h
structure UsesW(f:Func):Prop where
 ins:∀(k:Nat) b,f.blocks[k]?=some b→∀(n:Nat) i,b.ins[n]?=some i→∀a∈i.args,Fine f k n a
 arg:∀(k:Nat) b,f.blocks[k]?=some b→b.term.kind≠1→b.term.kind≠4→Fine f k b.ins.length b.term.arg
 args:∀(k:Nat) b,f.blocks[k]?=some b→∀e∈b.term.to,∀a∈e.args,Fine f k b.ins.length a
theorem insUses_all{ds:Defs}{over:List Bs}{seen:Bs}{k:Nat}:∀(l:List Ins) (n:Nat),insUses ds over seen k n l=true→∀(j:Nat) i,l[j]?=some i→∀a∈i.args,fineM ds over seen k ((n+j:Nat):Int) a=true
 | [],_,_=>fun j i h=>by simp at h
 | x::r,n,h=>fun j i hj a ha=>by
  simp only [insUses,Bool.and_eq_true,List.all_eq_true] at h
  cases j with
  | zero =>
   simp only [List.getElem?_cons_zero,Option.some.injEq] at hj
   subst hj
   exact h.1 a ha
  | succ j =>
   rw [show n+(j+1)=n+1+j by omega]
   exact insUses_all r (n+1) h.2 j i hj a ha
theorem allUses_all{ds:Defs}{over:List Bs}{seen:Bs}:∀(l:List Block) (k:Nat),allUses ds over seen k l=true→∀(j:Nat) b,l[j]?=some b→blkUses ds over seen (k+j) b=true
 | [],_,_=>fun j i h=>by simp at h
 | x::r,k,h=>fun j b hj=>by
  simp only [allUses,Bool.and_eq_true] at h
  cases j with
  | zero =>
   simp only [List.getElem?_cons_zero,Option.some.injEq] at hj
   subst hj
   exact h.1
  | succ j =>
   rw [show k+(j+1)=k+1+j by omega]
   exact allUses_all r (k+1) h.2 j b hj
theorem uses_w{f:Func}(h:usesM f (dsF f)=0):UsesW f:=by
 have ha:allUses (dsF f) (domM f).1 (domM f).2 0 f.blocks=true:=by
  unfold usesM at h
  split at h
  ·assumption
  simp at h
 have hb:∀(k:Nat) b,f.blocks[k]?=some b→blkUses (dsF f) (domM f).1 (domM f).2 k b=true:=fun k b hk=>by
  have:=allUses_all f.blocks 0 ha k b hk
  rwa [Nat.zero_add] at this
 have hu:∀(k:Nat) b,f.blocks[k]?=some b→usedM b.term (fineM (dsF f) (domM f).1 (domM f).2 k b.ins.length)=true:=fun k b hk=>by
  have:=hb k b hk
  simp only [blkUses,Bool.and_eq_true] at this
  exact this.2
 refine⟨fun k b hk n i hn a ha=>?_,fun k b hk h1 h4=>?_,fun k b hk e he a ha=>?_⟩
 ·have:=hb k b hk
  simp only [blkUses,Bool.and_eq_true] at this
  have:=insUses_all b.ins 0 this.1 n i hn a ha
  rw [Nat.zero_add] at this
  exact fine_of this
 ·have:=hu k b hk
  simp only [usedM,Bool.and_eq_true,Bool.or_eq_true,decide_eq_true_eq,h1,h4,false_or] at this
  exact fine_of this.1
 have:=hu k b hk
 simp only [usedM,Bool.and_eq_true,List.all_eq_true] at this
 exact fine_of (this.2 e he a ha)
structure FnV(f:Func):Prop where
 fn:FnW f
 dom:DomW f
 uses:UsesW f
 vals:ValsW f
 nodup:(valsF f).Nodup
 edges:∀b∈f.blocks,∀e∈b.term.to,1≤e.block∧e.block<f.blocks.length
theorem checkFunc_v{f:Func}(hfit:f.fit)(h:checkFuncM f=0):FnV f:=by
 have hw:=checkFunc_ok hfit h
 obtain⟨hd,hdw⟩:=FnW.ds hfit h
 have he:∀b∈f.blocks,∀e∈b.term.to,1≤e.block∧e.block<f.blocks.length:=fun b hb e hx=>by
  have:=((end_ok (hw.blk b hb).fin).edges e hx).1
  omega
 refine⟨hw,domM_w hw.ne hw.few he,uses_w (by rw [←hd];exact hw.uses),fun v hv=>?_,?_,he⟩
 ·rw [←dsF_fst] at hv
  obtain⟨e,h1,rfl⟩:=List.mem_map.1 hv
  exact hdw.range e h1
 rw [←dsF_fst]
 exact hdw.nodup
theorem DefAt.uniq{f:Func}(hv:FnV f){v:Int}{p q:Int×Int}(h:DefAt f v p)(h':DefAt f v q):p=q:=by
 have hn:=hv.nodup
 rw [←dsF_fst] at hn
 have e1:=(lookD_mem hn).2 (mem_dsF.2 h)
 have e2:=(lookD_mem hn).2 (mem_dsF.2 h')
 rw [e1] at e2
 simpa using e2
theorem lookD_no{ds:Defs}{v:Int}(h:v ∉ ds.map (·.1)):lookD ds v=none:=by
 cases hl:lookD ds v with
 | none=>rfl
 | some p=>exact absurd (List.mem_map.2 ⟨_,lookD_some hl,rfl⟩) h
theorem defineM_zero{ds:Defs}{v:Int}{p:Int×Int}(hv:0≤v∧v≤4095)(h:v ∉ ds.map (·.1)):(defineM ds v p).1=0:=by
 unfold defineM
 rw [lookD_no h]
 simp [within,hv]
theorem paramsM_zero(k:Int):∀(l:List Int) (ds:Defs),(∀v∈l,0≤v∧v≤4095)→(ds.map (·.1)++l).Nodup→(paramsM k ds l).1=0
 | [],_,_,_=>rfl
 | p::r,ds,hv,hn=>by
  have hp:p ∉ ds.map (·.1):=fun q=>by
   rw [List.nodup_append] at hn
   exact hn.2.2 p q p List.mem_cons_self rfl
  have h0:=defineM_zero (p:=(k,0)) (hv p List.mem_cons_self) hp
  simp only [paramsM]
  rw [if_neg (by rw [h0];simp),defineM_eq h0]
  refine paramsM_zero k r _ (fun v h=>hv v (List.mem_cons_of_mem _ h)) ?_
  rw [List.map_append,List.append_assoc]
  exact hn
theorem insM_zero(k:Int):∀(l:List Ins) (n:Int) (ds:Defs),(∀i∈l,0≤i.to∧i.to≤4095∧formE i=0)→(ds.map (·.1)++l.map Ins.to).Nodup→(insM k n ds l).1=0
 | [],_,_,_,_=>rfl
 | i::r,n,ds,hv,hn=>by
  have hp:i.to ∉ ds.map (·.1):=fun q=>by
   rw [List.nodup_append] at hn
   exact hn.2.2 _ q _ List.mem_cons_self rfl
  have hi:=hv i List.mem_cons_self
  have h0:=defineM_zero (p:=(k,n+1)) ⟨hi.1,hi.2.1⟩ hp
  simp only [insM]
  rw [if_neg (by rw [h0];simp),if_neg (by rw [hi.2.2];simp),defineM_eq h0]
  refine insM_zero k r _ _ (fun j h=>hv j (List.mem_cons_of_mem _ h)) ?_
  rw [List.map_append,List.append_assoc]
  exact hn
theorem blockM_zero{f:Func}{ds:Defs}{k:Int}{b:Block}(hb:blkOf f k=b)(hp:∀v∈b.params,0≤v∧v≤4095)(hi:∀i∈b.ins,0≤i.to∧i.to≤4095∧formE i=0)(he:endE f b.term=0)(hn:(ds.map (·.1)++blkVals b).Nodup):(blockM f ds k).1=0:=by
 unfold blockM
 rw [hb]
 unfold blkVals at hn
 rw [←List.append_assoc] at hn
 have h1:=paramsM_zero k b.params ds hp (by
  rw [List.nodup_append] at hn
  exact hn.1)
 rw [if_neg (by rw [h1];simp),paramsM_eq k b.params ds h1]
 have h2:=insM_zero k b.ins 0 (ds++parDefs k b.params) hi (by
  rw [List.map_append]
  have:(parDefs k b.params).map (·.1)=b.params:=by
   unfold parDefs
   rw [List.map_map]
   exact List.map_id' _
  rw [this]
  exact hn)
 rw [if_neg (by rw [h2];simp)]
 exact he
theorem blkDefs_fst(k:Int)(b:Block):(blkDefs k b).map (·.1)=blkVals b:=by
 rw [blkDefs,List.map_append,insDefs_fst,blkVals,parDefs,List.map_map]
 congr 1
 exact List.map_id' _
theorem blocksM_zero{f:Func}(hp:∀b∈f.blocks,(∀v∈b.params,0≤v∧v≤4095)∧(∀i∈b.ins,0≤i.to∧i.to≤4095∧formE i=0)∧endE f b.term=0) :
  ∀(n k:Nat) (ds:Defs),k+n=f.blocks.length→(ds.map (·.1)++(f.blocks.drop k).flatMap blkVals).Nodup→(blocksM f n k ds).1=0
 | 0,_,_,_,_=>rfl
 | n+1,k,ds,hk,hn=>by
  have hb:f.blocks[k]?=some f.blocks[k]:=List.getElem?_eq_getElem (by omega)
  have hbo:blkOf f (k:Int)=f.blocks[k]:=by simp [blkOf,hb]
  rw [drop_at hb,List.flatMap_cons,←List.append_assoc] at hn
  obtain⟨p1,p2,p3⟩:=hp _ (List.mem_of_getElem? hb)
  have h0:=blockM_zero (ds:=ds) hbo p1 p2 p3 (by
   rw [List.nodup_append] at hn
   exact hn.1)
  simp only [blocksM]
  rw [if_neg (by rw [h0];simp),blockM_eq h0,hbo]
  have e:(k:Int)+1=((k+1:Nat):Int):=by omega
  rw [e]
  refine blocksM_zero hp n (k+1) _ (by omega) ?_
  rw [List.map_append,blkDefs_fst]
  exact hn
theorem insUses_intro{ds:Defs}{over:List Bs}{seen:Bs}{k:Nat}:∀(l:List Ins) (n:Nat),(∀(j:Nat) i,l[j]?=some i→∀a∈i.args,fineM ds over seen k ((n+j:Nat):Int) a=true)→insUses ds over seen k n l=true
 | [],_,_=>rfl
 | x::r,n,h=>by
  simp only [insUses,Bool.and_eq_true,List.all_eq_true]
  refine⟨fun a ha=>h 0 x rfl a ha,insUses_intro r (n+1) fun j i hj a ha=>?_⟩
  rw [show n+1+j=n+(j+1) by omega]
  exact h (j+1) i (by simpa using hj) a ha
theorem allUses_intro{ds:Defs}{over:List Bs}{seen:Bs}:∀(l:List Block) (k:Nat),(∀(j:Nat) b,l[j]?=some b→blkUses ds over seen (k+j) b=true)→allUses ds over seen k l=true
 | [],_,_=>rfl
 | x::r,k,h=>by
  simp only [allUses,Bool.and_eq_true]
  refine⟨h 0 x rfl,allUses_intro r (k+1) fun j b hj=>?_⟩
  rw [show k+1+j=k+(j+1) by omega]
  exact h (j+1) b (by simpa using hj)
theorem fine_intro{f:Func}(hn:(valsF f).Nodup){k:Nat}{n v:Int}(h:Fine f k n v):fineM (dsF f) (domM f).1 (domM f).2 k n v=true:=by
 obtain⟨p,h1,h2⟩:=h
 have hl:lookD (dsF f) v=some p:=(lookD_mem (by rw [dsF_fst];exact hn)).2 (mem_dsF.2 h1)
 unfold fineM
 rw [hl]
 simp only [Bool.or_eq_true,Bool.and_eq_true,decide_eq_true_eq,Bool.not_eq_true',decide_eq_false_iff_not]
 cases hs:seenF f k with
 | false=>exact .inr (.inr hs)
 | true =>
  rcases h2 hs with q | q
  ·exact .inl q
  exact .inr (.inl q)
theorem uses_intro{f:Func}(hn:(valsF f).Nodup)(h:UsesW f):usesM f (dsF f)=0:=by
 unfold usesM
 rw [if_pos]
 refine allUses_intro f.blocks 0 fun j b hj=>?_
 rw [Nat.zero_add]
 unfold blkUses usedM
 simp only [Bool.and_eq_true,Bool.or_eq_true,decide_eq_true_eq,List.all_eq_true]
 refine⟨insUses_intro b.ins 0 fun n i hi a ha=>?_,?_,fun e he a ha=>fine_intro hn (h.args j b hj e he a ha)⟩
 ·rw [Nat.zero_add]
  exact fine_intro hn (h.ins j b hj n i hi a ha)
 by_cases h1:b.term.kind=1
 ·exact .inl (.inl h1)
 by_cases h4:b.term.kind=4
 ·exact .inl (.inr h4)
 exact .inr (fine_intro hn (h.arg j b hj h1 h4))
def sumI(bs:List Block):Nat:=(bs.map fun b=>b.ins.length).sum
theorem wsum_eq:∀(bs:List Block) (m:Nat),(∀b∈bs,b.ins.length≤1024)→m+bs.length * 1024≤1000000→wsum m bs=((m+sumI bs:Nat):Int)
 | [],m,_,_=>by simp [wsum,sumI]
 | b::r,m,h,hm=>by
  have h1:=h b List.mem_cons_self
  rw [List.length_cons] at hm
  have hw:IntKind.i64.wrap ((m:Int)+(b.ins.length:Int))=((m+b.ins.length:Nat):Int):=by
   rw [wrap_in .i64 _ (by show(-9223372036854775808:Int)≤_;omega) (by show _≤(9223372036854775807:Int);omega)]
   omega
  simp only [wsum]
  rw [hw,wsum_eq r (m+b.ins.length) (fun x hx=>h x (List.mem_cons_of_mem _ hx)) (by omega)]
  unfold sumI
  rw [List.map_cons,List.sum_cons,Nat.add_assoc]
theorem check_intro{f:Func}(hne:f.blocks≠[])(hfew:f.blocks.length≤128)(hname:-1≤f.name∧f.name≤1048575)(hins:∀b∈f.blocks,b.ins.length≤1024)(hsum:sumI f.blocks≤1024)(hpar:(blkOf f 0).params.length≤6)
  (hv:∀v∈valsF f,0≤v∧v≤4095) (hn:(valsF f).Nodup) (hb:∀b∈f.blocks,(∀i∈b.ins,formE i=0)∧endE f b.term=0) (hu:UsesW f):checkFuncM f=0:=by
 have hbv:∀b∈f.blocks,(∀v∈b.params,0≤v∧v≤4095)∧(∀i∈b.ins,0≤i.to∧i.to≤4095∧formE i=0)∧endE f b.term=0:=fun b h=>by
  have hin:∀v∈blkVals b,0≤v∧v≤4095:=fun v q=>hv v (List.mem_flatMap.2 ⟨b,h,q⟩)
  refine⟨fun v q=>hin v (List.mem_append_left _ q),fun i q=>?_,(hb b h).2⟩
  have:=hin i.to (List.mem_append_right _ (List.mem_map.2 ⟨i,q,rfl⟩))
  exact⟨this.1,this.2,(hb b h).1 i q⟩
 have h0:=blocksM_zero hbv f.blocks.length 0 [] (by omega) (by
  rw [List.drop_zero]
  exact hn)
 have h1:=blocksM_eq f.blocks.length 0 [] (by omega) h0
 rw [List.drop_zero,List.nil_append] at h1
 have hw:=wsum_eq f.blocks 0 hins (by omega)
 rw [Nat.zero_add] at hw
 have hl:=List.length_pos_iff.2 hne
 unfold checkFuncM
 have hww:wsum 0 f.blocks=((sumI f.blocks:Nat):Int):=hw
 rw [if_neg (by omega),if_neg (by rw [hww];omega),if_neg (by simp [within,hname]),if_neg (by
  have h0':(blocksM f f.blocks.length 0 []).1=0:=h0
  rw [h0']
  simp)]
 have h1':(blocksM f f.blocks.length 0 []).2=dsF f:=h1
 rw [h1']
 exact uses_intro hn hu
theorem sum_few{f:Func}(hfit:f.fit)(h:checkFuncM f=0):sumI f.blocks≤1024:=by
 have hw:=checkFunc_ok hfit h
 have he:=wsum_eq f.blocks 0 hw.ins (by have:=hw.few;omega)
 unfold checkFuncM at h
 split at h
 ·simp at h
 split at h
 ·simp at h
 rename_i h2
 rw [Nat.zero_add] at he
 have he':wsum 0 f.blocks=((sumI f.blocks:Nat):Int):=he
 rw [he'] at h2
 omega
theorem dmax_E{n k:Nat}{D:Nat→Nat→Prop}{R:Nat→Prop}{S:Ds}(hn:n≤128)(hl:S.over.length=n)(h1:∀i j,j<n→D i j→i<n∧(S.at_ j).has i=true)(h2:∀j,j<128→S.seen.has j=true→R j)(hk:k<n){e:Edge}(he:0≤e.block∧e.block.toNat<n)(hR:R k→R e.block.toNat)
  (hD:R k→∀i,D i e.block.toNat→i=e.block.toNat∨D i k) (hs:R k):(∀i j,j<n→D i j→i<n∧((domE k S e).at_ j).has i=true)∧(∀j,j<128→(domE k S e).seen.has j=true→R j)∧(domE k S e).over.length=n:=by
 unfold domE
 simp only
 split
 ·refine⟨fun i j hj hij=>?_,fun j hj hsj=>?_,by simp only;rw [List.length_set,hl]⟩
  ·refine⟨(h1 i j hj hij).1,?_⟩
   have hi:=(h1 i j hj hij).1
   unfold Ds.at_
   simp only
   rw [List.getElem?_set]
   split
   ·rename_i q
    rw [if_pos (by rw [hl];exact he.2),Option.getD_some,Bs.has_add _ _ _ (by omega) (by omega),Bs.has_meet]
    simp only [Bool.or_eq_true,Bool.and_eq_true,decide_eq_true_eq]
    rw [←q] at hij
    rcases hD hs i hij with r | r
    ·exact .inr r
    exact .inl ⟨(h1 i _ he.2 hij).2,(h1 i k hk r).2⟩
   exact(h1 i j hj hij).2
  simp only at hsj
  rw [Bs.has_add _ _ _ (by omega) hj] at hsj
  simp only [Bool.or_eq_true,decide_eq_true_eq] at hsj
  rcases hsj with q | q
  ·exact h2 j hj q
  rw [q]
  exact hR hs
 exact⟨h1,h2,hl⟩
structure DmX(n:Nat)(D:Nat→Nat→Prop)(R:Nat→Prop)(S:Ds):Prop where
 len:S.over.length=n
 dom:∀i j,j<n→D i j→i<n∧(S.at_ j).has i=true
 seen:∀j,j<128→S.seen.has j=true→R j
structure DmC(f:Func)(D:Nat→Nat→Prop)(R:Nat→Prop):Prop where
 few:f.blocks.length≤128
 edges:∀b∈f.blocks,∀e∈b.term.to,0≤e.block∧e.block.toNat<f.blocks.length
 next:∀(k:Nat) b,f.blocks[k]?=some b→R k→∀e∈b.term.to,R e.block.toNat∧∀i,D i e.block.toNat→i=e.block.toNat∨D i k
theorem dmx_F{f:Func}{D:Nat→Nat→Prop}{R:Nat→Prop}(hc:DmC f D R){k:Nat}{b:Block}(hb:f.blocks[k]?=some b)(hR:R k):∀(l:List Edge) {S:Ds},(∀e∈l,e∈b.term.to)→DmX f.blocks.length D R S→DmX f.blocks.length D R (l.foldl (domE k) S)
 | [],_,_,h=>h
 | e::r,S,hl,h=>by
  have hn:=hc.next k b hb hR e (hl e List.mem_cons_self)
  obtain⟨a1,a2,a3⟩:=dmax_E hc.few h.len h.dom h.seen (lt_of_getElem? hb) (hc.edges b (List.mem_of_getElem? hb) e (hl e List.mem_cons_self)) (fun _=>hn.1) (fun _=>hn.2) hR
  rw [List.foldl_cons]
  exact dmx_F hc hb hR r (fun x hx=>hl x (List.mem_cons_of_mem _ hx)) ⟨a3,a1,a2⟩
theorem dmx_R{f:Func}{D:Nat→Nat→Prop}{R:Nat→Prop}(hc:DmC f D R):∀(l:List Block) (k:Nat) {S:Ds},l=f.blocks.drop k→DmX f.blocks.length D R S→DmX f.blocks.length D R (domR k S l)
 | [],_,_,_,h=>h
 | b::r,k,S,hl,h=>by
  have hb:f.blocks[k]?=some b:=by
   have:=congrArg (fun l=>l[0]?) hl
   simpa using this.symm
  have hr:r=f.blocks.drop (k+1):=by
   rw [drop_at hb] at hl
   simpa using hl
  rw [domR]
  refine dmx_R hc r (k+1) hr ?_
  unfold domB
  split
  ·exact h
  rename_i hs
  have hk:=lt_of_getElem? hb
  exact dmx_F hc hb (h.seen k (by have:=hc.few;omega) (by simpa using hs)) _ (fun e he=>he) h
theorem dmx_I{f:Func}{D:Nat→Nat→Prop}{R:Nat→Prop}(hc:DmC f D R):∀(n:Nat) {S:Ds},DmX f.blocks.length D R S→DmX f.blocks.length D R (domI f n S)
 | 0,_,h=>h
 | n+1,S,h=>by
  simp only [domI]
  split
  ·exact dmx_I hc n (dmx_R hc f.blocks 0 (S:=⟨S.over,S.seen,false⟩) (by rw [List.drop_zero]) ⟨h.len,h.dom,h.seen⟩)
  exact h
theorem allB_in:∀(n j:Nat),n≤128→j<n→(allB n).has j=true
 | 0,_,_,h=>absurd h (Nat.not_lt_zero _)
 | n+1,j,hn,hj=>by
  rw [allB,Bs.has_add _ _ _ (by omega) (by omega)]
  by_cases e:j=n
  ·simp [e]
  rw [allB_in n j (by omega) (by omega)]
  rfl
theorem dom_max{f:Func}{D:Nat→Nat→Prop}{R:Nat→Prop}(hne:f.blocks≠[])(hc:DmC f D R)(h0:R 0)(hz:∀i,D i 0→i=0)(hlt:∀i j,D i j→i<f.blocks.length){i j:Nat}(hj:j<f.blocks.length)(h:D i j):(overF f j).has i=true:=by
 have hl:=List.length_pos_iff.2 hne
 have hs:DmX f.blocks.length D R (domS f):=by
  refine⟨by simp [domS],fun i j hj hij=>⟨hlt i j hij,?_⟩,fun j hj hsj=>?_⟩
  ·unfold Ds.at_ domS
   simp only
   rw [List.getElem?_set]
   split
   ·rename_i e
    subst e
    rw [if_pos (by simpa using hl),Option.getD_some,hz i hij]
    decide
   rw [List.getElem?_replicate,if_pos hj,Option.getD_some]
   exact allB_in _ _ hc.few (hlt i j hij)
  have:(Bs.none.add 0).has j=true:=hsj
  rw [Bs.has_add _ _ _ (by omega) hj] at this
  have hn:Bs.none.has j=false:=by unfold Bs.has Bs.none;simp
  rw [hn] at this
  simp only [Bool.false_or,decide_eq_true_eq] at this
  rw [this]
  exact h0
 exact((dmx_I hc 20000 hs).dom i j hj h).2
end Go.Proofs.Ytkhnjeblbiocaaa
namespace Go.Av
def CertE(P:Program)(o:Oper)(σ0:St)(R:AVal→List AObj→Prop):Prop :=
 ∀(base:G) (σ:St) (a:Act) (g:G),Rel base σ a g→σ.n=σ0.n→(∀x∈o.op.operands,∀y,σ0.ev x=some y→σ.ev x=some y)→σ.objs=σ0.objs →
  ∀(K:Act→World→Prop) (Q:Exit→Act→World→Prop),(∀r u g',R r g'.objs→Rel base ⟨σ.n,putO o.dst r σ.slots,g'.objs⟩ (a.put o.dst u) g'→K (a.put o.dst u) g'.w)→o.wp P a g.w K Q
theorem cert_ecallE{P:Program}{o:Oper}{σ:St}{x:Operand}{args:Array Operand}{ats:Array TypeId}{f:FuncId}{fs cs ars:List AVal}{R:AVal→List AObj→Prop}
  (ho:o.op=.call ⟨.value x,args,ats⟩) (hd:∀d,o.dst=some d→d<σ.n) (hx:σ.ev x=some (.fn (.func f) fs cs)) (ha:σ.evs args.toList=some ars)
  (hcall:ECall P f σ.objs (fs++ars++cs) R):CertE P o σ R:=by
 intro base τ a g hrel hn hag hm K Q hK
 have hxe:σ.ev x=some (.fn (.func f) fs cs):=hx
 have h1:=hrel.eval (hag x (by simp [ho,Op.operands,Call.operands]) _ hx)
 obtain⟨us,vs,e1,l1,l2,r1,r2⟩:=h1.fn_inv
 have h2:=evs_rel (σ:=σ) (a:=a) (g:=g) (xs:=args.toList) (fun z hz y hy=>hrel.eval (hag z (by
  rw [ho]
  simp only [Op.operands,Call.operands,Array.mem_append]
  exact .inr (Array.mem_toList_iff.1 hz)) y hy)) ha
 have h2':RVs g ars (args.map a.eval):=by
  have e:args.map a.eval=(args.toList.map a.eval).toArray:=Array.ext' (by rw [Array.toList_map])
  rw [e]
  exact h2
 have hall:=(RVs.append_arr (RVs.append_arr ⟨l1,r1⟩ h2') ⟨l2,r2⟩)
 have hrun:=run_callv (P:=P) (w:=g.w) ho e1 hcall.1
 unfold Oper.wp
 rw [hrun,Oper.upon_enter]
 refine(hcall.2 g _ hrel.good (hrel.objs.trans hm) hall).mono ?_
 rintro e w' ⟨g',v,r',q1,q2,q3,q4,q5,q6⟩
 subst q1
 subst q2
 refine hK r' v g' q6 ?_
 cases hdst:o.dst with
 | none=>exact hrel.step q3 q4
 | some d=>exact hrel.put q3 q4 (d:=d) (by rw [hn];exact hd d hdst) q5
theorem wpOps_chain_app{P:Program}{ops:Array Oper}{base:G}{ρ:St}{Q:Exit→Act→World→Prop}{rest:List Nat}(hQ:∀a g,Rel base ρ a g→wpOps P ops Q rest a g.w) :
  ∀(l:List (Nat×Kind)) (σ:St) (a:Act) (g:G),Chain P ops l σ ρ→Rel base σ a g→wpOps P ops Q (l.map (·.1)++rest) a g.w
 | [],σ,a,g,hch,hrel=>hQ a g (Same.rel hch hrel)
 | (i,k)::r,σ,a,g,hch,hrel=>by
  obtain⟨σ',⟨o,ho,hstep⟩,hrest⟩:=hch
  simp only [List.map_cons,List.cons_append,wpOps,ho]
  rcases hstep with⟨hw,r',m,hcert,hk,hσ⟩ | ⟨hw,_,hσ⟩
  ·rw [if_pos (wantedA_spec hrel hw)]
   refine .inl (hcert.2 base σ a g hrel rfl (fun x _ y hy=>hy) (Mode.agree_of (.inr rfl)) _ _ fun u g' hrel'=>?_)
   subst hσ
   exact wpOps_chain_app hQ r _ _ _ hrest hrel'
  rw [if_neg (by rw [wantedA_spec hrel hw];simp)]
  subst hσ
  refine wpOps_chain_app hQ r _ _ g hrest ?_
  cases hdst:o.dst with
  | none=>exact hrel
  | some d=>exact hrel.skip d
theorem idx_map(ks:List Kind)(s:Nat):(((ks.zipIdx 0).map fun p=>(p.2,p.1)).map fun p=>(s+p.1,p.2)).map (·.1)=(List.range ks.length).map (s + ·):=by
 apply List.ext_getElem?
 intro i
 simp only [List.getElem?_map,List.getElem?_zipIdx]
 by_cases h:i<ks.length
 ·simp [h]
 rw [List.getElem?_eq_none (by omega),List.getElem?_eq_none (by simp;omega)]
 rfl
theorem range_mid{n k:Nat}(h:k<n):List.range n=(List.range k).map (0 + ·)++(k::(List.range (n - (k+1))).map (k+1 + ·)):=by
 apply List.ext_getElem?
 intro i
 by_cases h1:i<k
 ·rw [List.getElem?_append_left (by simpa using h1)]
  simp [h1,show i<n by omega]
 rw [List.getElem?_append_right (by simp;omega)]
 simp only [List.length_map,List.length_range]
 by_cases h2:i=k
 ·subst h2
  simp [h]
 rw [show i - k=(i - k - 1)+1 by omega,List.getElem?_cons_succ,List.getElem?_map]
 by_cases h3:i<n
 ·rw [List.getElem?_range h3,List.getElem?_range (by omega),Option.map_some]
  congr 1
  omega
 rw [List.getElem?_eq_none (by simp;omega),List.getElem?_eq_none (by simp;omega)]
 rfl
theorem awp_call_ex{P:Program}{kb:Nat}{tab:Tab}(md:Md)(hT:TabOK P tab){id:Nat}{l l1 l2:List Oper}{o:Oper}{Q:AEx→St→Prop}{σ:St}(k:Nat)(h1:l.take k=l1)(h2:l[k]?=some o)(h3:l.drop (k+1)=l2)(hg:∀o∈l,o.guard=none)
  (h:vcOps P tab md l1 0 [] σ [] fun τ _=>∃R,CertE P o τ R∧∀r O',R r O'→vcOps P tab md l2 0 [] ⟨τ.n,putO o.dst r τ.slots,O'⟩ [] fun ρ _=>At ρ (Q .norm)):AWP P kb (.region id l.toArray false) Q σ:=by
 have hlt:=lt_of_getElem? h2
 obtain⟨τ,ks1,c1,n1,R,hc,h⟩:=vcOps_sound (all:=l1.toArray) hT l1 0 [] σ [] (fun j=>by simp) (fun j t hj=>by simp [slotAt] at hj) h
 intro base a g hb hr
 have hgo:o.guard=none:=hg o (List.mem_of_getElem? h2)
 have l1n:l1.length=k:=by rw [←h1,List.length_take];omega
 have l2n:l2.length=l.length - (k+1):=by rw [←h3,List.length_drop]
 have d1:=chain_shift (all:=l.toArray) (k:=0) (fun i o' hi=>by
  have hi':l1[i]?=some o':=by simpa using hi
  have:=lt_of_getElem? hi'
  rw [←h1,List.getElem?_take] at hi'
  split at hi'
  ·simpa using hi'
  cases hi') (by simpa using hg) c1
 refine wp_region ?_
 rw [show l.toArray.size=l.length from List.size_toArray,range_mid hlt]
 have e1:=idx_map ks1 0
 rw [n1,l1n] at e1
 rw [←e1]
 refine wpOps_chain_app (ρ:=τ) (fun a g hr=>?_) _ _ _ _ d1 hr
 have ho:l.toArray[k]?=some o:=by simpa using h2
 simp only [wpOps,ho]
 have hw:wantedA l.toArray o τ=some true:=by simp [wantedA,hgo]
 rw [if_pos (wantedA_spec hr hw)]
 refine .inl (hc base τ a g hr rfl (fun x _ y hy=>hy) rfl _ _ fun r u g' hR hrel'=>?_)
 obtain⟨ρ,ks2,c2,n2,hQ⟩:=vcOps_sound (all:=l2.toArray) hT l2 0 [] _ [] (fun j=>by simp) (fun j t hj=>by simp [slotAt] at hj) (h r g'.objs hR)
 have d2:=chain_shift (all:=l.toArray) (k:=k+1) (fun i o' hi=>by
  have hi':l2[i]?=some o':=by simpa using hi
  rw [←h3,List.getElem?_drop] at hi'
  simpa using hi') (by simpa using hg) c2
 have e2:=idx_map ks2 (k+1)
 rw [n2,l2n] at e2
 rw [←e2]
 have:=wpOps_chain_app (rest:=[]) (Q:=Post base Q) (P:=P) (ops:=l.toArray) (base:=base) (ρ:=ρ) (fun a g hr=>⟨g,ρ,rfl,hr,hQ⟩) _ _ _ _ d2 hrel'
 rw [List.append_nil] at this
 exact this
def RetAll(tab:Tab)(rv:List ResultVar)(R:AVal→List AObj→Prop):AEx→St→Prop
 | .exit _,_=>False
 | _,σ=>on (retVals tab σ rv) fun rs=>R (mkRet rs) σ.objs
theorem ecall_all{P:Program}{tab:Tab}(hT:TabOK P tab){f:FuncId}{fn:Func}{c:Code}{O:List AObj}{args:List AVal}{R:AVal→List AObj→Prop}(hf:P.funcs[f]?=some fn)(hb:fn.body=some c)
  (hname : (fn.name == "runtime.NumGoroutine") = false) (hn : args.length ≤ fn.ntmps) (h : AWP P O.length c (RetAll tab fn.results.toList R) ⟨fn.ntmps, slotsOf 0 args, O⟩) : ECall P f O args R := by
 refine⟨⟨fn,hf,hname,by simp [hb]⟩,fun g vs hg ho ha=>?_⟩
 refine calls_of_wp hf hb ?_
 have hrel:Rel g ⟨fn.ntmps,slotsOf 0 args,O⟩ { tmps:=vs++Array.replicate (fn.ntmps - vs.size) undef,defers:=[] } g:={
  le:=Le.refl g
  good:=hg
  objs:=ho
  size:=by
   have:=ha.1
   simp only [Array.size_append,Array.size_replicate]
   omega
  defers:=rfl
  slot:=fun s x hx=>by
   obtain⟨_,h1⟩:=look_slotsOf args 0 s x hx
   simp only [Nat.sub_zero] at h1
   have hlt:=lt_of_getElem? h1
   have hlt':s<vs.size:=by rw [ha.1];exact hlt
   refine⟨vs[s],?_,ha.2 s x _ h1 (by simp [hlt'])⟩
   simp only
   rw [Array.getElem?_append,if_pos hlt']
   simp [hlt'] }
 refine wp_mono (h g _ g (by rw [ho];exact Nat.le_refl _) hrel) fun e a w hp=>?_
 have key:∀g' σ',g'.w=w→Rel g σ' a g'→(on (retVals tab σ' fn.results.toList) fun rs=>R (Av.mkRet rs) σ'.objs) →
   a.defers=[]∧∃v,(results fn a.tmps).run P w=.ok v w∧∃g' v' r,Ending.returned v=.returned v'∧g'.w=w∧Le g g'∧Good g'∧RV g' r v'∧R r g'.objs:=by
  intro g' σ' hw hr hq
  subst hw
  obtain⟨rs,hrs,h4⟩:=on_elim hq
  obtain⟨us,q1,q2⟩:=retVals_spec hT hr hrs
  have hO:g'.objs=σ'.objs:=hr.objs
  refine⟨hr.defers,(if h:us.toArray.size=1 then us.toArray[0] else .tuple us.toArray),?_,g',_,_,rfl,rfl,hr.le,hr.good,RV.mkRet q2,by rw [hO];exact h4⟩
  have hm:fn.results.mapM (retSem a)=Functor.map List.toArray (fn.results.toList.mapM (retSem a)):=Array.mapM_eq_mapM_toList
  have hres:results fn a.tmps=(do
   let vs ←fn.results.mapM (retSem a)
   pure (if h:vs.size=1 then vs[0] else .tuple vs)):=rfl
  rw [hres,hm]
  simp only [Sem.run_bind,Sem.run_map,q1,Result.andThen_ok,Sem.run_pure]
 cases e with
 | normal =>
  obtain⟨g',σ',h1,h2,h3⟩:=hp
  exact key g' σ' h1 h2 h3
 | ret =>
  obtain⟨g',σ',h1,h2,h3⟩:=hp
  exact key g' σ' h1 h2 h3
 | exit id =>
  obtain⟨g',σ',h1,h2,h3⟩:=hp
  exact h3.elim
 | goto l=>exact hp.elim
 | panic c=>exact hp.elim
 | outgrown=>exact hp.elim
theorem awp_nil2{P:Program}{kb:Nat}{c:Code}{Q:AEx→St→Prop}{n:Nat}{slots:List (Nat×AVal)}{O:List AObj}(s:Nat){sz:Nat}{xs:List AVal}{o:Own}(hs:look slots s=some (.lst sz xs o))
  (h1:xs=[]→AWP P kb c Q ⟨n,putS s (.v (.slice none 0 0)) slots,O⟩) (h2:AWP P kb c Q ⟨n,putS s (.lst sz xs .nn) slots,O⟩):AWP P kb c Q ⟨n,slots,O⟩:=by
 intro base a g hb hr
 obtain⟨u,e1,e2⟩:=hr.slot s _ hs
 have key:∀y,RV g y u→Rel base ⟨n,putS s y slots,O⟩ a g:=fun y hy =>
  {le:=hr.le,good:=hr.good,objs:=hr.objs,size:=hr.size,defers:=hr.defers,slot:=fun k x hx=>by
    simp only [St.get,look_putS] at hx
    split at hx
    ·rename_i e
     subst e
     simp only [Option.some.injEq] at hx
     subst hx
     exact⟨u,e1,hy⟩
    exact hr.slot k x hx }
 cases e2 with
 | nil ho hn=>exact h1 rfl base a g hb (key _ (.v trivial))
 | lst hsz hsc hcap hmax hs f hm hr ho=>exact h2 base a g hb (key _ (.lst hsz hsc hcap hmax hs f hm hr trivial))
theorem awp_retell2{P:Program}{kb:Nat}{c:Code}{Q:AEx→St→Prop}{n:Nat}{slots:List (Nat×AVal)}{O:List AObj}(k:Nat){cs:List AVal}(ds:List AVal)(hok:O[k]?=some (.cells cs))(hl:ds.length=cs.length)(hsc:∀d∈ds,d.scalar)
  (hs:∀(j:Nat) (c d:AVal),cs[j]?=some c→ds[j]?=some d→Sub O c d) (h:AWP P kb c Q ⟨n,slots,O.set k (.cells ds)⟩):AWP P kb c Q ⟨n,slots,O⟩ :=
 AWP.weaken h fun base a g hb hr=>by
  have hO:g.objs=O:=hr.objs
  have hok':g.objs[k]?=some (.cells cs):=by rw [hO];exact hok
  obtain⟨l,arr,t,e1,e2,e3,e4,e5,e6⟩:=hr.good.cells k cs hok'
  have ht:Turns g k (.cells cs) (some l) (.cells ds) g.w:={
   obj:=hok'
   os:=rfl
   tape:=rfl
   output:=rfl
   size:=Nat.le_refl _
   block:=fun _ _ _=>rfl
   cell:=fun b off x hx _=>hx
   place:=fun l1 h1 _=>by
    simp only [Option.some.injEq] at h1
    subst h1
    exact .inr ⟨l,e1,trivial,rfl,Nat.le_refl _⟩
   spare:=fun m h=>by cases h
   plain:=fun _=>⟨by simp [AObj.isSpare],e1⟩
   gone:=by simp }
  have hle:=Le.turn hr.good ht
  have hgood:=Good.turn hr.good ht ⟨l,arr,t,rfl,e2,e3,by omega,fun j d u hd hu=>by
   have hlt:=lt_of_getElem? hd
   have hc:cs[j]?=some cs[j]:=List.getElem?_eq_getElem (by omega)
   exact(hs j _ d hc hd g u hO (e5 j _ u hc hu)).mono hle,hsc,e6.2⟩ (fun l1 h1 _=>by
    simp only [Option.some.injEq] at h1
    subst h1
    exact lt_of_getElem?' e3)
  refine⟨g.turn k (some l) (.cells ds) g.w,rfl,{ le:=hr.le.trans hle,good:=hgood,objs:=by simp [G.turn,hO],size:=hr.size,defers:=hr.defers,slot:=fun s y hy=>?_ }⟩
  have hy':(St.mk n slots O).get s=some y:=hy
  obtain⟨u,h3,h4⟩:=hr.slot s y hy'
  exact⟨u,h3,h4.mono hle⟩
theorem Sub.nil_lst{O:List AObj}(sz:Nat):Sub O (.v (.slice none 0 0)) (.lst sz [] .ex):=fun g u _ h=>by
 obtain⟨e,_⟩:=h.v_inv
 rw [e]
 exact .nil (fun id q=>by cases q) (by simp)
end Go.Av
namespace Go.Proofs.Ytkhnjeblbiocaaa
open Go.Av
def predsR(f:Func):AVal:=if checkFuncM f=0 then .tup [.lst 1 ((predsM f).map eIs) .sh,aI 0] else .tup [.lst 1 [] .sh,aI (checkFuncM f)]
def Bnd(c:Nat)(ls:List (List Int)):Prop:=∀l∈ls,l.length≤c
theorem Bnd.push{c:Nat}{ls:List (List Int)}(h:Bnd c ls){j:Nat}{l:List Int}(hj:ls[j]?=some l)(k:Int):Bnd (c+1) (ls.set j (l++[k])):=fun m hm=>by
 rcases List.mem_or_eq_of_mem_set hm with q | q
 ·have:=h m q
  omega
 subst q
 have:=h l (List.mem_of_getElem? hj)
 simp
 omega
theorem Bnd.mono{c d:Nat}{ls:List (List Int)}(h:Bnd c ls)(hd:c≤d):Bnd d ls:=fun l hl=>Nat.le_trans (h l hl) hd
theorem preds_spec(f:Func)(hfit:f.fit):PCall Try.prog 22 [f.enc] (predsR f):=by
 have hck:=checkFunc_spec f hfit
 unfold predsR
 by_cases hc:checkFuncM f=0
 ·rw [if_pos hc]
  rw [hc] at hck
  have hw:=checkFunc_ok hfit hc
  have hn:f.blocks.length≤128:=hw.few
  obtain⟨N,hN⟩:∃N,N=f.blocks.length:=⟨_,rfl⟩
  obtain⟨R,hR⟩:∃R,R=predsM f:=⟨_,rfl⟩
  have hRl:R.length=N:=by rw [hR,hN,predsM,predL_len];simp
  rw [←hR]
  unfold predsM at hR
  refine zf true 0 Try.func22 Try.ntmps22 ?_
  dsimp only [Tmp,TypeId,slotsOf]
  refine zh1 (za0 ?_)
  refine awp_freeze1 1 0 (.ip none [aI f.name,eBlocks f.blocks]) rfl (by simp [AObj.isSpare]) trivial rfl ?_ ?_
  rotate_left
  simp -dsimp only [simprocAttr,↓vpre,zp]
  ·refine zh2 ?_
   refine zi hck ?_
   refine za0 ?_
   refine zh1 (za0 ?_)
   apply zk0 rfl<;>intro h
   ·cases h
   refine zb0 ?_
   refine zg1 ?_
   simp -dsimp only [simprocAttr,↓vpre,zp,nils_flat,←hN]
   refine⟨by omega,by omega,?_⟩
   refine za0 ?_
   have hpo:PO (List.replicate N []) (([AObj.gone,AObj.cells []]++List.replicate N (AObj.spare 0)).set 1 (.cells ((List.range N).map fun j=>.lst 1 [] (.tok ([AObj.gone,AObj.cells []].length+j))))):=by
    refine⟨by simp,?_,fun j l hj=>?_,?_⟩
    ·rw [List.getElem?_set_self (by simp),outC_nil]
     rfl
    ·have hj':=lt_of_getElem? hj
     rw [List.length_replicate] at hj'
     rw [List.getElem?_set_ne (by omega),List.getElem?_append_right (by simp)]
     simp only [List.length_cons,List.length_nil,Nat.zero_add,Nat.add_sub_cancel_left]
     simp [hj'] at hj ⊢
     rw [hj]
     rfl
    rw [←outC_nil]
    have:=uptoO_set (k:=1) (n:=N+2) (x:=.cells (outC 2 (List.replicate N []))) (O:=[AObj.gone,AObj.cells []]++List.replicate N (AObj.spare 0)) (fun o ho=>by
     rcases List.mem_append.1 ho with q | q
     ·simp at q
      rcases q with rfl | rfl<;>trivial
     rw [(List.mem_replicate.1 q).2]
     trivial) (outC_upto (by simp;omega))
    simpa using this
   show AWP Try.prog _ _ _ ⟨_,_,List.set [AObj.gone,AObj.cells []] 1 (.cells (List.replicate N (AVal.lst 1 [] .ex)))⟩
   refine awp_ownAll 1 N (by simp) ?_
   generalize ([AObj.gone,AObj.cells []]++List.replicate N (AObj.spare 0)).set 1 (.cells ((List.range N).map fun j=>.lst 1 [] (.tok ([AObj.gone,AObj.cells []].length+j))))=O0 at *
   rw [←hN] at hR
   refine zg2 ?_
   simp -dsimp only [simprocAttr,↓vpre,zp,←hN]
   refine za0 ?_
   refine awp_block (awp_loop (ι:={p:Nat×List (List Int)×List AObj // p.1≤N∧PO p.2.1 p.2.2∧p.2.1.length=N∧Bnd (p.1 * 257) p.2.1∧R=predL p.1 p.2.1 (f.blocks.drop p.1)}) (fun p=>⟨50,[(1,.ip none [aI f.name,eBlocks f.blocks]),(5,.ms 1 0 N N),(20,eBlocks f.blocks),(21,aI N),(22,aI p.1.1)],p.1.2.2⟩) (fun p=>N - p.1.1) ⟨(0,_,O0),by simp,hpo,by simp,by intro l hl;simp [(List.mem_replicate.1 hl).2],hR⟩ ?_ ?_)
   ·refine zq rfl ?_ ?_
    simp -dsimp only [simprocAttr,↓vpre,zp,zc]
    all_goals rfl
   rintro⟨⟨k,ls,O⟩,hk,hp,hls,hbd,hke⟩
   simp only at hk hp hls hbd hke
   have hOl:=hp.len
   have hup:=hp.up
   refine zh1 (za0 ?_)
   apply zk1 rfl<;>intro h
   ·refine zb0 ?_
    have hlt:k<N:=by simpa using h
    obtain⟨b,hb⟩:∃b,f.blocks[k]?=some b:=⟨f.blocks[k]'(by omega),List.getElem?_eq_getElem _⟩
    have hbm:=List.mem_of_getElem? hb
    have hend:=end_ok (hw.blk b hbm).fin
    have hto:b.term.to.length≤257:=by
     rcases (show(b.term.kind=0∨b.term.kind=4)∨b.term.kind=1∨b.term.kind=2∨b.term.kind=3 by have:=hend.kind;omega) with q | q | q | q
     ·rw [hend.to q];simp
     ·rw [hend.jump q];omega
     ·rw [hend.cond q];omega
     rw [hend.switch q];have:=hend.cases;omega
    rw [drop_at hb] at hke
    simp only [predL] at hke
    obtain⟨L1,hL1⟩:∃L1,L1=predB k ls b.term.to:=⟨_,rfl⟩
    rw [←hL1] at hke
    refine awp_seq (awp_block ?_)
    refine zg1 ?_
    simp -dsimp only [simprocAttr,↓vpre,zp,hb]
    refine za0 ?_
    refine awp_local 7 ([eIs b.params,eInss b.ins,aI b.term.kind,aI b.term.arg,aI b.term.n,eIs b.term.cases,eEdges b.term.to]) [(1,.ip none [aI f.name,eBlocks f.blocks]),(5,.ms 1 0 N N),(20,eBlocks f.blocks),(21,aI N),(22,aI k),(6,aI k),(7,.ip none [eIs b.params,eInss b.ins,aI b.term.kind,aI b.term.arg,aI b.term.n,eIs b.term.cases,eEdges b.term.to])] (by simp [putS,dropS,Go.Av.look]) (by rfl) (by omega) (by simp [putS,dropS,Go.Av.look]) ?_ ?_ ?_
    ·exact hup
    ·simp [AVal.upto,uptoL,aI_upto,Edge.map_upto,Ins.map_upto,Block.map_upto,hOl]
    refine zh1 (za0 ?_)
    refine awp_block (awp_loop (ι:={p:Nat×List (List Int)×List AObj // p.1≤b.term.to.length∧PO p.2.1 p.2.2∧p.2.1.length=N∧Bnd (k * 257+p.1) p.2.1∧L1=predB k p.2.1 (b.term.to.drop p.1)}) (fun p=>⟨50,[(1,.ip none [aI f.name,eBlocks f.blocks]),(5,.ms 1 0 N N),(20,eBlocks f.blocks),(21,aI N),(22,aI k),(6,aI k),(29,eEdges b.term.to),(30,aI b.term.to.length),(31,aI p.1.1)],p.1.2.2⟩) (fun p=>b.term.to.length - p.1.1) ⟨(0,ls,O),by simp,hp,hls,hbd,hL1⟩ ?_ ?_)
    ·refine zq rfl ?_ ?_
     simp -dsimp only [simprocAttr,↓vpre,zp,zc]
     all_goals rfl
    rintro⟨⟨z,ls,O⟩,hz,hp,hls,hbd,hze⟩
    simp only at hz hp hls hbd hze
    have hOl:=hp.len
    have hup:=hp.up
    refine zh1 (za0 ?_)
    apply zk1 rfl<;>intro h
    ·refine zb0 ?_
     have hlz:z<b.term.to.length:=by simpa using h
     obtain⟨e,he⟩:∃e,b.term.to[z]?=some e:=⟨b.term.to[z],by simp [hlz]⟩
     have hee:=(hend.edges e (List.mem_of_getElem? he)).1
     rw [drop_at he] at hze
     simp only [predB,List.foldl_cons] at hze
     obtain⟨j,hj⟩:∃j:Nat,e.block=(j:Int):=⟨e.block.toNat,by omega⟩
     have hjN:j<N:=by omega
     obtain⟨l,hl⟩:∃l,ls[j]?=some l:=⟨ls[j]'(by omega),List.getElem?_eq_getElem _⟩
     have hpe:predE k ls e=ls.set j (l++[(k:Int)]):=by simp [predE,hj,hl]
     rw [hpe] at hze
     have hget:=outC_get (b:=2) hl
     have hsp:=hp.sp j l hl
     have hpn:=hp.push hl k
     have hput:=outC_set (b:=2) (ls:=ls) (j:=j) (l++[(k:Int)])
     rw [List.map_append] at hput
     have hlb:=hbd l (List.mem_of_getElem? hl)
     have harr:=hp.arr
     have harr2:=at_set_ne (k:=1) (j:=2+j) (y:=.spare (l.length+1)) harr (by omega)
     refine awp_seq (awp_block ?_)
     refine zg1 ?_
     simp -dsimp only [simprocAttr,↓vpre,zp,he]
     refine za0 ?_
     refine awp_local 9 ([aI e.block,eIs e.args]) [(1,.ip none [aI f.name,eBlocks f.blocks]),(5,.ms 1 0 N N),(20,eBlocks f.blocks),(21,aI N),(22,aI k),(6,aI k),(29,eEdges b.term.to),(30,aI b.term.to.length),(31,aI z),(9,.ip none [aI e.block,eIs e.args])] (by simp [putS,dropS,Go.Av.look]) (by rfl) (by omega) (by simp [putS,dropS,Go.Av.look]) ?_ ?_ ?_
     ·exact hup
     ·simp [AVal.upto,uptoL,aI_upto,Edge.map_upto,Ins.map_upto,Block.map_upto,hOl]
     refine zg0 ?_
     simp -dsimp only [simprocAttr,↓vpre,zp,hj,harr,hget,hsp,harr2,hput,Int.toNat_natCast,Nat.mul_one,List.length_map,List.length_set]
     refine⟨by omega,by omega,by omega,by omega,by rw [outC_len];omega,?_⟩
     refine⟨orderB_ren [1,2+j] O.length [.pure,.pure,.pure,.pure,.pure,.pure,.pure,.rd 0,.pure,.pure,.wr 2 [1],.pure,.wr 2 [0]] (by simp;omega) (by simp;omega) rfl rfl (by kernel_rfl),at_intro ?_⟩
     simp -dsimp only [vend,ne_eq,Nat.reduceEqDiff,reduceCtorEq]
     have hput':(outC 2 ls).set j (.lst 1 (l.map aI++[.v (.int .i64 k)]) (.tok (2+j)))=outC 2 (ls.set j (l++[(k:Int)])):=hput
     rw [splice_one _ (by rw [outC_len];omega),hput']
     refine zh0 ?_
     repeat(refine⟨by omega,?_⟩)
     refine zl0 ?_
     refine⟨⟨(z+1,_,_),by simp only;omega,hpn,by simp [hls],hbd.push hl k,hze⟩,by simp;omega,?_⟩
     refine zq rfl ?_ ?_
     simp -dsimp only [simprocAttr,↓vpre,zp,zc]
     ·exact Sub.int (by simp)
     rfl
    refine awp_exit ?_
    simp -dsimp only [vend,ne_eq,Nat.reduceEqDiff,reduceCtorEq]
    have hzz:z=b.term.to.length:=by simp at h;omega
    subst hzz
    rw [List.drop_length] at hze
    simp only [predB,List.foldl_nil] at hze
    subst hze
    refine zh0 ?_
    repeat(refine⟨by omega,?_⟩)
    refine zl0 ?_
    refine⟨⟨(k+1,_,O),by simp only;omega,hp,hls,hbd.mono (by omega),hke⟩,by simp;omega,?_⟩
    refine zq rfl ?_ ?_
    simp -dsimp only [simprocAttr,↓vpre,zp,zc]
    ·exact Sub.int (by simp)
    rfl
   refine awp_exit ?_
   simp -dsimp only [vend,ne_eq,Nat.reduceEqDiff,reduceCtorEq]
   have hkk:k=N:=by simp at h;omega
   subst hkk
   rw [hN,List.drop_length] at hke
   simp only [predL] at hke
   subst hke
   have hshare:=outC_share 2 R
   have hcl:(outC 2 R).length=k:=by rw [outC_len,hls]
   refine awp_freeze1 5 1 (o:=.cells (outC 2 R)) (.lst 1 (R.map eIs) .sh) hp.arr (by simp [AObj.isSpare]) trivial rfl (FSub.ms (cs:=outC 2 R) hp.arr (by intro x hx;obtain⟨l,_,rfl⟩:=List.mem_map.1 hx;rfl) (by rw [List.length_map,hls]) (by rw [List.drop_zero,Nat.mul_one,←hcl,List.take_length,hshare])) ?_
   simp -dsimp only [simprocAttr,↓vpre,zp]
   refine zh1 (za0 ?_)
   refine awp_ret ?_
   simp -dsimp only [simprocAttr,↓vpre,zp,zr,Try.results22]
   simp only [uptoL,AVal.upto,and_true]
   rw [uptoL_iff]
   intro x hx
   obtain⟨l,_,rfl⟩:=List.mem_map.1 hx
   exact⟨aI_upto _ _,trivial⟩
  exact FSub.mp rfl rfl
 rw [if_neg hc]
 obtain⟨e,he⟩:∃e,e=checkFuncM f:=⟨_,rfl⟩
 rw [←he] at hc hck ⊢
 have hde:decide (e=0)=false:=decide_eq_false hc
 refine zf true 0 Try.func22 Try.ntmps22 ?_
 dsimp only [Tmp,TypeId,slotsOf]
 refine zh1 (za0 ?_)
 refine awp_freeze1 1 0 (.ip none [aI f.name,eBlocks f.blocks]) rfl (by simp [AObj.isSpare]) trivial rfl ?_ ?_
 rotate_left
 simp -dsimp only [simprocAttr,↓vpre,zp]
 ·refine zh2 ?_
  refine zi hck ?_
  refine za0 ?_
  refine zg1 ?_
  simp -dsimp only [simprocAttr,↓vpre,zp,hde]
  refine za0 ?_
  refine zw0 rfl ?_
  refine zh1 (za0 ?_)
  refine awp_ret ?_
  simp -dsimp only [simprocAttr,↓vpre,zp,zr,Try.results22]
  simp [uptoL,AVal.upto]
 exact FSub.mp rfl rfl
end Go.Proofs.Ytkhnjeblbiocaaa
namespace Go.Av
theorem FSub.os{O:List AObj}{id len sz:Nat}{cs xs:List AVal}(hid:O[id]?=some (.cells cs))(hsz:∀x∈xs,x.cells.length=sz)(hlen:xs.length=len)(hd:((cs.drop 0).take (len * sz)).map AVal.shareCell=cellsAll xs):FSub O id (.os id len sz) (.lst sz xs .sh):=fun g u l' hg hO he hle h=>by
 obtain⟨l,o1,cap',h1,h2,_,hlc,_,hmax,eu⟩:=h.os_inv
 subst eu
 rw [he] at h1
 simp only [Option.some.injEq] at h1
 subst h1
 have hid':g.objs[id]?=some (.cells cs):=by rw [hO];exact hid
 obtain⟨arr,t',hlo,hrow,hal,hcs,hcsc,_⟩:=hg.row hid' he
 subst hlen
 have key:∀(j:Nat) (c:AVal),(cellsAll xs)[j]?=some c→∃c',cs[0+j]?=some c'∧c'.shareCell=c:=fun j c hj=>by
  rw [←hd,List.getElem?_map,Option.map_eq_some_iff] at hj
  obtain⟨c',hj,e⟩:=hj
  have:=take_get hj
  rw [List.getElem?_drop] at this
  exact⟨c',this,e⟩
 refine .lst hsz (fun x hx c hc=>?_) hlc hmax (fun _=>rfl) (fun j=>arr.getD (0+j) undef) (fun j c hj=>?_) (fun j c hj=>?_) trivial
 ·have hmem:c∈cellsAll xs:=by
   simp only [cellsAll,List.mem_flatMap]
   exact⟨x,hx,hc⟩
  obtain⟨j,hj⟩:=List.getElem?_of_mem hmem
  obtain⟨c',hj',e⟩:=key j c hj
  subst e
  exact AVal.scalar_shareCell (hcsc c' (List.mem_of_getElem? hj'))
 ·obtain⟨c',hj',e⟩:=key j c hj
  have hlt:=lt_of_getElem? hj'
  refine⟨?_,freeze_own hg he hid' trivial _⟩
  show g.w.cell? _=_
  simp only
  rw [cell_of_row hrow]
  simp [Array.getD_eq_getD_getElem?,show j<arr.size by omega]
 obtain⟨c',hj',e⟩:=key j c hj
 have hlt:=lt_of_getElem? hj'
 subst e
 exact((hcs _ c' _ hj' (by simp [Array.getD_eq_getD_getElem?,show j<arr.size by omega])).mono hle).shareCell
end Go.Av
namespace Go.Proofs.Ytkhnjeblbiocaaa
open Go.Av
theorem cellsAll_v(x:Value):cellsAll [AVal.v x]=[AVal.v x]:=rfl
theorem cells_os'(id len sz:Nat):(AVal.os id len sz).cells=[AVal.os id len sz]:=rfl
end Go.Proofs.Ytkhnjeblbiocaaa
namespace Go.Av

end Go.Av
namespace Go.Proofs.Ytkhnjeblbiocaaa
open Go.Av

def toOf(f:Func)(b:Int):List Edge:=(blkOf f b).term.to
structure GrW(f:Func):Prop where
 ne:f.blocks≠[]
 few:f.blocks.length≤128
 to:∀b∈f.blocks,b.term.to.length≤257
 edges:∀b∈f.blocks,∀e∈b.term.to,1≤e.block∧e.block<f.blocks.length
theorem FnW.gr{f:Func}(h:FnW f):GrW f :=
 ⟨h.ne,h.few,fun b hb=>to_few (end_ok (h.blk b hb).fin),fun b hb e he=>by
  have:=((end_ok (h.blk b hb).fin).edges e he).1
  omega⟩
structure SmW(f:Func):Prop where
 few:f.blocks.length≤128
 params:∀b∈f.blocks,b.params.length≤4096
 ins:∀b∈f.blocks,b.ins.length≤1024
 iargs:∀b∈f.blocks,∀i∈b.ins,i.args.length≤16
 cases:∀b∈f.blocks,b.term.cases.length≤256
 to:∀b∈f.blocks,b.term.to.length≤257
 eargs:∀b∈f.blocks,∀e∈b.term.to,e.args.length≤4096
def edC(es:List Edge):List AVal:=es.flatMap fun e=>[aI e.block,eIs e.args]
def outX(id:Nat)(es:List Edge):AVal:=if es=[] then .lst 2 [] .ex else .os id es.length 2
def outE(id:Nat)(es:List Edge):AVal:=if es=[] then .lst 2 [] .sh else .os id es.length 2
def blC(id:Nat)(b:Block):List AVal:=[eIs b.params,eInss b.ins,aI b.term.kind,aI b.term.arg,aI b.term.n,eIs b.term.cases,outE id b.term.to]
def blsC(ids:List Nat)(bs:List Block):List AVal:=(List.zipWith blC ids bs).flatten
def outBl(id:Nat)(bs:List Block):AVal:=if bs=[] then .lst 7 [] .ex else .os id bs.length 7
theorem outX_share(id:Nat)(es:List Edge):(outX id es).shareCell=outE id es:=by
 unfold outX outE
 split<;>rfl
theorem outE_share(id:Nat)(es:List Edge):(outE id es).shareCell=outE id es:=by
 unfold outE
 split<;>rfl
theorem edC_snoc(es:List Edge)(e:Edge):edC (es++[e])=edC es++[aI e.block,eIs e.args]:=by simp [edC]
theorem edC_len(es:List Edge):(edC es).length=es.length * 2:=by
 induction es with
 | nil=>rfl
 | cons e r ih =>
  have:edC (e::r)=[aI e.block,eIs e.args]++edC r:=rfl
  rw [this,List.length_append,ih]
  simp only [List.length_cons,List.length_nil]
  omega
theorem edC_upto(n:Nat)(es:List Edge):uptoL n (edC es):=by
 rw [uptoL_iff]
 intro c hc
 simp only [edC,List.mem_flatMap] at hc
 obtain⟨e,_,hc⟩:=hc
 simp only [List.mem_cons,List.not_mem_nil,or_false] at hc
 rcases hc with rfl | rfl
 ·trivial
 exact⟨aI_upto _ _,trivial⟩
theorem edC_share(es:List Edge):(edC es).map AVal.shareCell=cellsAll (es.map Edge.enc):=by
 induction es with
 | nil=>rfl
 | cons e r ih =>
  have h1:edC (e::r)=[aI e.block,eIs e.args]++edC r:=rfl
  have h2:cellsAll ((e::r).map Edge.enc)=[aI e.block,eIs e.args]++cellsAll (r.map Edge.enc):=rfl
  rw [h1,h2,List.map_append,ih]
  rfl
theorem blsC_snoc{ids:List Nat}{bs:List Block}(h:ids.length=bs.length)(id:Nat)(b:Block):blsC (ids++[id]) (bs++[b])=blsC ids bs++blC id b:=by
 unfold blsC
 rw [List.zipWith_append h]
 simp
theorem blsC_len:∀{ids:List Nat} {bs:List Block},ids.length=bs.length→(blsC ids bs).length=bs.length * 7
 | [],[],_=>rfl
 | i::ids,b::bs,h=>by
  have e:blsC (i::ids) (b::bs)=blC i b++blsC ids bs:=rfl
  rw [e,List.length_append,blsC_len (by simpa using h)]
  simp only [blC,List.length_cons,List.length_nil]
  omega
 | [],b::bs,h=>by simp at h
 | i::ids,[],h=>by simp at h
theorem blC_upto{n id:Nat}(b:Block)(h:b.term.to≠[]→id<n):uptoL n (blC id b):=by
 refine⟨⟨aI_upto _ _,trivial⟩,⟨Ins.map_upto _ _,trivial⟩,trivial,trivial,trivial,⟨aI_upto _ _,trivial⟩,?_,trivial⟩
 unfold outE
 split
 ·exact⟨trivial,trivial⟩
 rename_i q
 exact h q
structure CpO(b0:Nat)(ids:List Nat)(bs:List Block)(O:List AObj):Prop where
 li:ids.length=bs.length
 own:∀(j id:Nat) (b:Block),ids[j]?=some id→bs[j]?=some b→b.term.to≠[]→b0≤id∧O[id]?=some (.cells (edC b.term.to))
 inj:∀(i j id:Nat) (b c:Block),ids[i]?=some id→ids[j]?=some id→bs[i]?=some b→bs[j]?=some c→b.term.to≠[]→c.term.to≠[]→i=j
structure CpS(f:Func)(done:List Block)(bid:Nat)(ids:List Nat)(O:List AObj):Prop where
 up:∀o∈O,o.upto O.length
 r0:O[0]?=some .gone
 r1:O[1]?=some (.cells [aI 0,.lst 7 [] .ex])
 r3:O[3]?=some (.cells [aI 0,.lst 7 [] .ex])
 out:O[4]?=some (.cells [aI f.name,outBl bid done])
 blk:done≠[]→5≤bid∧O[bid]?=some (.cells (blsC ids done))
 cp:CpO 5 ids done O
 ne:∀(j id:Nat) (b:Block),ids[j]?=some id→done[j]?=some b→b.term.to≠[]→id≠bid
theorem blsC_upto{n:Nat}:∀{ids:List Nat} {bs:List Block},(∀(j id:Nat) (b:Block),ids[j]?=some id→bs[j]?=some b→b.term.to≠[]→id<n)→uptoL n (blsC ids bs):=by
 intro ids bs h
 rw [uptoL_iff]
 intro c hc
 unfold blsC at hc
 obtain⟨l,hl,hc⟩:=List.mem_flatten.1 hc
 obtain⟨j,hj⟩:=List.mem_iff_getElem?.1 hl
 rw [List.getElem?_zipWith] at hj
 cases h1:ids[j]? with
 | none=>rw [h1] at hj;cases hj
 | some id =>
  cases h2:bs[j]? with
  | none=>rw [h1,h2] at hj;cases hj
  | some b =>
   rw [h1,h2] at hj
   simp only [Option.some.injEq] at hj
   subst hj
   exact uptoL_iff.1 (blC_upto b (h j id b h1 h2)) c hc
theorem CpS.snoc{f:Func}{done:List Block}{bid:Nat}{ids:List Nat}{O O1:List AObj}(h:CpS f done bid ids O){b:Block}{tid:Nat}(hlen:O.length≤O1.length)(hup:∀o∈O1,o.upto O1.length)
  (hsame:∀k,k<O.length→(done≠[]→k≠bid)→O1[k]?=O[k]?) (ht:b.term.to≠[]→O.length≤tid∧O1[tid]?=some (.cells (edC b.term.to))) {cs ar:List AVal} (hcs:cs=blsC (ids++[tid]) (done++[b])) (har:ar=[aI f.name,.os O1.length (done.length+1) 7]) :
  CpS f (done++[b]) O1.length (ids++[tid]) ((O1++[AObj.cells cs]).set 4 (.cells ar)):=by
 have h4:=lt_of_getElem? h.out
 have hli:=h.cp.li
 have hkeep:∀k,k<O.length→k≠4→(done≠[]→k≠bid)→((O1++[AObj.cells cs]).set 4 (.cells ar))[k]?=O[k]?:=fun k hk hk4 hkb=>by
  rw [List.getElem?_set_ne (Ne.symm hk4),List.getElem?_append_left (by omega),hsame k hk hkb]
 have hb5:done≠[]→5≤bid:=fun q=>(h.blk q).1
 have hids:∀(j id:Nat) (c:Block),(ids++[tid])[j]?=some id→(done++[b])[j]?=some c→(ids[j]?=some id∧done[j]?=some c)∨(j=ids.length∧id=tid∧c=b):=fun j id c h1 h2=>by
  by_cases hj:j<ids.length
  ·rw [List.getElem?_append_left hj] at h1
   rw [List.getElem?_append_left (by omega)] at h2
   exact .inl ⟨h1,h2⟩
  have hj1:=lt_of_getElem? h1
  rw [List.length_append,List.length_singleton] at hj1
  have hje:j=ids.length:=by omega
  subst hje
  rw [List.getElem?_append_right (Nat.le_refl _),Nat.sub_self] at h1
  rw [List.getElem?_append_right (by omega),←hli,Nat.sub_self] at h2
  simp only [List.getElem?_cons_zero,Option.some.injEq] at h1 h2
  exact .inr ⟨rfl,h1.symm,h2.symm⟩
 have hdn:∀(j id:Nat) (c:Block),ids[j]?=some id→done[j]?=some c→c.term.to≠[]→5≤id∧id<O.length∧O1[id]?=some (.cells (edC c.term.to)):=fun j id c h1 h2 h3=>by
  obtain⟨o1,o2⟩:=h.cp.own j id c h1 h2 h3
  have hl:=lt_of_getElem? o2
  refine⟨o1,hl,?_⟩
  rw [hsame id hl (fun _=>h.ne j id c h1 h2 h3)]
  exact o2
 have hown:∀(j id:Nat) (c:Block),(ids++[tid])[j]?=some id→(done++[b])[j]?=some c→c.term.to≠[]→5≤id∧id<O1.length∧O1[id]?=some (.cells (edC c.term.to)):=fun j id c h1 h2 h3=>by
  rcases hids j id c h1 h2 with⟨q1,q2⟩ | ⟨_,q2,q3⟩
  ·obtain⟨p1,p2,p3⟩:=hdn j id c q1 q2 h3
   exact⟨p1,by omega,p3⟩
  rw [q3] at h3 ⊢
  rw [q2]
  obtain⟨t1,t2⟩:=ht h3
  exact⟨by omega,lt_of_getElem? t2,t2⟩
 subst hcs
 subst har
 exact {
  up:=by
   intro o ho
   rw [List.length_set,List.length_append,List.length_singleton]
   rcases List.mem_or_eq_of_mem_set ho with q | q
   ·rcases List.mem_append.1 q with q | q
    ·exact AObj.upto_mono (by omega) (hup o q)
    rw [List.mem_singleton] at q
    subst q
    exact blsC_upto fun j id c h1 h2 h3=>by
     have:=(hown j id c h1 h2 h3).2.1
     omega
   subst q
   exact⟨trivial,show _<_ by omega,trivial⟩
  r0:=by rw [hkeep 0 (lt_of_getElem? h.r0) (by omega) (fun q=>by have:=hb5 q;omega)];exact h.r0
  r1:=by rw [hkeep 1 (lt_of_getElem? h.r1) (by omega) (fun q=>by have:=hb5 q;omega)];exact h.r1
  r3:=by rw [hkeep 3 (lt_of_getElem? h.r3) (by omega) (fun q=>by have:=hb5 q;omega)];exact h.r3
  out:=by
   rw [List.getElem?_set_self (by rw [List.length_append];omega)]
   have:outBl O1.length (done++[b])=.os O1.length (done.length+1) 7:=by
    unfold outBl
    rw [if_neg (by simp),List.length_append]
    rfl
   rw [this]
  blk:=fun _=>by
   refine⟨by omega,?_⟩
   rw [List.getElem?_set_ne (by omega),List.getElem?_append_right (Nat.le_refl _),Nat.sub_self]
   rfl
  cp:={
   li:=by rw [List.length_append,List.length_append,hli];rfl
   own:=fun j id c h1 h2 h3=>by
    obtain⟨p1,p2,p3⟩:=hown j id c h1 h2 h3
    refine⟨p1,?_⟩
    rw [List.getElem?_set_ne (by omega),List.getElem?_append_left p2]
    exact p3
   inj:=fun i j id c d h1 h2 h3 h4 h5 h6=>by
    rcases hids i id c h1 h3 with⟨p1,p2⟩ | ⟨p1,p2,p3⟩
    ·rcases hids j id d h2 h4 with⟨q1,q2⟩ | ⟨q1,q2,q3⟩
     ·exact h.cp.inj i j id c d p1 q1 p2 q2 h5 h6
     have:=(hdn i id c p1 p2 h5).2.1
     rw [q3] at h6
     have:=(ht h6).1
     omega
    rcases hids j id d h2 h4 with⟨q1,q2⟩ | ⟨q1,q2,q3⟩
    ·have:=(hdn j id d q1 q2 h6).2.1
     rw [p3] at h5
     have:=(ht h5).1
     omega
    omega }
  ne:=fun j id c h1 h2 h3=>by
   have:=(hown j id c h1 h2 h3).2.1
   omega }
structure CpI(O:List AObj)(cs:List AVal)(n:Nat)(O2:List AObj):Prop where
 len:O2.length=O.length+2
 up:∀o∈O2,o.upto O2.length
 keep:∀k,k<O.length→O2[k]?=O[k]?
 cell:O2[O.length]?=some (.cells cs)
 sp:O2[O.length+1]?=some (.spare n)
theorem CpI.start{O:List AObj}(hup:∀o∈O,o.upto O.length){cs:List AVal}(hcs:uptoL (O.length+2) cs):CpI O cs 0 (O++[.cells cs,.spare 0]) where
 len:=by simp
 up:=fun o ho=>by
  rw [List.length_append]
  rcases List.mem_append.1 ho with q | q
  ·exact AObj.upto_mono (by omega) (hup o q)
  simp only [List.mem_cons,List.not_mem_nil,or_false] at q
  rcases q with rfl | rfl
  ·exact hcs
  trivial
 keep:=fun k hk=>by rw [List.getElem?_append_left hk]
 cell:=by
  rw [List.getElem?_append_right (Nat.le_refl _),Nat.sub_self]
  rfl
 sp:=by
  rw [List.getElem?_append_right (by omega),show O.length+1 - O.length=1 by omega]
  rfl
theorem CpI.one{O:List AObj}{cs:List AVal}{n:Nat}{O2:List AObj}(h:CpI O cs n O2){cs':List AVal}(hcs:uptoL (O.length+2) cs'):CpI O cs' n (O2.set O.length (.cells cs')) where
 len:=by rw [List.length_set,h.len]
 up:=by
  rw [List.length_set]
  exact uptoO_set h.up (by rw [h.len];exact hcs)
 keep:=fun k hk=>by rw [List.getElem?_set_ne (by omega),h.keep k hk]
 cell:=by rw [List.getElem?_set_self (by rw [h.len];omega)]
 sp:=by rw [List.getElem?_set_ne (by omega),h.sp]
theorem CpI.room{O:List AObj}{cs:List AVal}{n:Nat}{O2:List AObj}(h:CpI O cs n O2)(m:Nat):CpI O cs m (O2.set (O.length+1) (.spare m)) where
 len:=by rw [List.length_set,h.len]
 up:=by
  rw [List.length_set]
  exact uptoO_set h.up trivial
 keep:=fun k hk=>by rw [List.getElem?_set_ne (by omega),h.keep k hk]
 cell:=by rw [List.getElem?_set_ne (by omega),h.cell]
 sp:=by rw [List.getElem?_set_self (by rw [h.len];omega)]
structure CpE(O:List AObj)(cs:AVal→List AVal)(tid:Nat)(es:List Edge)(O3:List AObj):Prop where
 len:O.length+2≤O3.length
 up:∀o∈O3,o.upto O3.length
 keep:∀k,k<O.length→O3[k]?=O[k]?
 cell:O3[O.length]?=some (.cells (cs (outX tid es)))
 own:es≠[]→O.length+2≤tid∧O3[tid]?=some (.cells (edC es))
theorem CpE.start{O:List AObj}{cs:AVal→List AVal}{n:Nat}{O2:List AObj}(h:CpI O (cs (.lst 2 [] .ex)) n O2):CpE O cs 0 [] O2 where
 len:=by rw [h.len];omega
 up:=h.up
 keep:=h.keep
 cell:=h.cell
 own:=fun q=>absurd rfl q
theorem CpE.push{O:List AObj}{cs:AVal→List AVal}{tid:Nat}{es:List Edge}{O3 O4:List AObj}(h:CpE O cs tid es O3)(e:Edge)(hcs:∀v n,v.upto n→O.length+2≤n→uptoL n (cs v))(hlen:O4.length=O3.length)(hup:∀o∈O4,o.upto O3.length)
  (hsame:∀k,(es≠[]→k≠tid)→O4[k]?=O3[k]?) {c a:List AVal} (hc:c=edC (es++[e])) (ha:a=cs (.os O3.length (es.length+1) 2)):CpE O cs O3.length (es++[e]) ((O4++[AObj.cells c]).set O.length (.cells a)):=by
 have hl:=h.len
 have hx:outX O3.length (es++[e])=.os O3.length (es.length+1) 2:=by
  unfold outX
  rw [if_neg (by simp),List.length_append]
  rfl
 subst hc
 subst ha
 exact {
  len:=by rw [List.length_set,List.length_append,hlen];omega
  up:=by
   intro o ho
   rw [List.length_set,List.length_append,List.length_singleton,hlen]
   rcases List.mem_or_eq_of_mem_set ho with q | q
   ·rcases List.mem_append.1 q with q | q
    ·exact AObj.upto_mono (by omega) (hup o q)
    rw [List.mem_singleton] at q
    subst q
    exact edC_upto _ _
   subst q
   exact hcs _ _ (show O3.length<O3.length+1 by omega) (by omega)
  keep:=fun k hk=>by
   rw [List.getElem?_set_ne (by omega),List.getElem?_append_left (by omega),hsame k (fun q=>by have:=(h.own q).1;omega),h.keep k hk]
  cell:=by
   rw [List.getElem?_set_self (by rw [List.length_append];omega),hx]
  own:=fun _=>by
   refine⟨by omega,?_⟩
   rw [List.getElem?_set_ne (by omega),List.getElem?_append_right (by omega),hlen,Nat.sub_self]
   rfl }
def CpR(f:Func)(r:AVal)(O:List AObj):Prop:=∃(ids:List Nat) (bid:Nat),r=.agg [aI f.name,.os bid f.blocks.length 7]∧(∀o∈O,o.upto O.length)∧O[0]?=some .gone∧O[1]?=some (.cells [aI 0,.lst 7 [] .ex]) ∧
 (5≤bid∧O[bid]?=some (.cells (blsC ids f.blocks)))∧CpO 5 ids f.blocks O∧∀(j id:Nat) (b:Block),ids[j]?=some id→f.blocks[j]?=some b→b.term.to≠[]→id≠bid
theorem copy_start(f:Func):CpS f [] 0 [] [.gone,.cells [aI 0,.lst 7 [] .ex],.gone,.cells [aI 0,.lst 7 [] .ex],.cells [aI f.name,.lst 7 [] .ex]] where
 up:=fun o ho=>by
  simp only [List.mem_cons,List.not_mem_nil,or_false] at ho
  rcases ho with rfl | rfl | rfl | rfl | rfl
  ·trivial
  ·exact⟨trivial,⟨trivial,trivial⟩,trivial⟩
  ·trivial
  ·exact⟨trivial,⟨trivial,trivial⟩,trivial⟩
  exact⟨trivial,⟨trivial,trivial⟩,trivial⟩
 r0:=rfl
 r1:=rfl
 r3:=rfl
 out:=rfl
 blk:=fun q=>absurd rfl q
 cp:=⟨rfl,fun j id b h=>by simp at h,fun i j id b c h=>by simp at h⟩
 ne:=fun j id b h=>by simp at h
theorem CpS.done{f:Func}{bid:Nat}{ids:List Nat}{O:List AObj}(h:CpS f f.blocks bid ids O)(hne:f.blocks≠[]){cs:List AVal}(hcs:uptoL O.length cs):CpR f (.agg [aI f.name,.os bid f.blocks.length 7]) (O.set 3 (.cells cs)):=by
 obtain⟨b1,b2⟩:=h.blk hne
 refine⟨ids,bid,rfl,?_,?_,?_,⟨b1,?_⟩,⟨h.cp.li,fun j id b q1 q2 q3=>?_,h.cp.inj⟩,h.ne⟩
 ·rw [List.length_set]
  exact uptoO_set h.up hcs
 ·rw [List.getElem?_set_ne (by omega)];exact h.r0
 ·rw [List.getElem?_set_ne (by omega)];exact h.r1
 ·rw [List.getElem?_set_ne (by omega)];exact b2
 obtain⟨o1,o2⟩:=h.cp.own j id b q1 q2 q3
 exact⟨o1,by rw [List.getElem?_set_ne (by omega)];exact o2⟩






def predsAt(f:Func)(k:Int):List Int:=(predsM f)[k.toNat]?.getD []

end Go.Proofs.Ytkhnjeblbiocaaa
namespace Go.Proofs.Ytkhnjeblbiocaaa
open Go.Av Go.Sort

end Go.Proofs.Ytkhnjeblbiocaaa
namespace Go.Proofs.Ytkhnjeblbiocaaa
open Go.Av

end Go.Proofs.Ytkhnjeblbiocaaa
namespace Go.Av
theorem awp_frzp{P:Program}{kb:Nat}{c:Code}{Q:AEx→St→Prop}{n:Nat}{slots:List (Nat×AVal)}{A:Nat}{C:Nat→List AVal}{N M:Nat}(pos:Nat→Nat)
  (hsc:∀i,∀d∈C i,d.scalar) (hl:∀i,(C i).length=M) (F:Nat→List AObj→Prop)
  (hF:∀i O,i<N→O[A]?=some (.cells (C i))→F i O→(C (i+1)=C i∧F (i+1) O) ∨
   ∃id o x y,id≠A∧O[id]?=some o∧¬o.isSpare∧o.live∧(C i)[pos i]?=some x∧(C (i+1))=(C i).set (pos i) y∧FSub O id x y∧F (i+1) ((O.set id .gone).set A (.cells (C (i+1))))) :
  ∀(m i:Nat) (O:List AObj),i+m=N→O[A]?=some (.cells (C i))→F i O→(∀O',O'.length=O.length→O'[A]?=some (.cells (C N))→F N O'→AWP P kb c Q ⟨n,slots,O'⟩)→AWP P kb c Q ⟨n,slots,O⟩
 | 0,i,O,hi,hA,hf,h=>by
  have:i=N:=by omega
  subst this
  exact h O rfl hA hf
 | m+1,i,O,hi,hA,hf,h=>by
  rcases hF i O (by omega) hA hf with⟨e,hf'⟩ | ⟨id,o,x,y,h1,h2,h3,h4,h5,h6,h7,hf'⟩
  ·exact awp_frzp pos hsc hl F hF m (i+1) O (by omega) (by rw [e];exact hA) hf' h
  have hAl:=lt_of_getElem? hA
  refine awp_freeze_in id h2 h3 h4 slots (fun s z hz=>⟨z,hz,.refl z⟩) A (Ne.symm h1) (C i) (C (i+1)) hA (by rw [hl,hl]) (hsc (i+1)) (fun j a b ha hb=>?_) (awp_frzp pos hsc hl F hF m (i+1) _ (by omega) (by rw [List.getElem?_set_self (by rw [List.length_set];exact hAl)]) hf' fun O' hO'=>h O' (by rw [hO',List.length_set,List.length_set]))
  rw [h6,List.getElem?_set] at hb
  split at hb
  ·rename_i e
   rw [←e,h5] at ha
   rw [if_pos (lt_of_getElem? h5)] at hb
   simp only [Option.some.injEq] at ha hb
   subst ha
   subst hb
   exact h7
  rw [ha] at hb
  simp only [Option.some.injEq] at hb
  subst hb
  exact .refl _
end Go.Av
namespace Go.Proofs.Ytkhnjeblbiocaaa
open Go.Av
theorem edC_append(a b:List Edge):edC (a++b)=edC a++edC b:=by simp [edC]
theorem edC_at{es:List Edge}{n:Nat}{e:Edge}(h:es[n]?=some e):(edC es)[n * 2]?=some (aI e.block)∧(edC es)[n * 2+1]?=some (eIs e.args):=by
 have hl:=lt_of_getElem? h
 have e1:es=es.take n++e::es.drop (n+1):=by
  rw [←drop_at h,List.take_append_drop]
 have hlen:(edC (es.take n)).length=n * 2:=by rw [edC_len,List.length_take];omega
 have e2:edC es=edC (es.take n)++(aI e.block::eIs e.args::edC (es.drop (n+1))):=by
  conv=>lhs;rw [e1]
  rw [edC_append]
  rfl
 rw [e2]
 refine⟨?_,?_⟩
 ·rw [List.getElem?_append_right (by omega),hlen,Nat.sub_self]
  rfl
 rw [List.getElem?_append_right (by omega),hlen,show n * 2+1 - n * 2=1 by omega]
 rfl
end Go.Proofs.Ytkhnjeblbiocaaa
namespace Go.Proofs.Ytkhnjeblbiocaaa
open Go.Av
section
variable {f:Func}
theorem blk_at{k:Int}(h0:0≤k)(h1:k<f.blocks.length):f.blocks[k.toNat]?=some (blkOf f k):=by
 unfold blkOf
 rw [List.getElem?_eq_getElem (by omega)]
 rfl
end
theorem shape_same{t t':Term}(h1:t.kind=t'.kind)(h2:t.arg=t'.arg)(h3:t.n=t'.n)(h4:t.cases=t'.cases)(h5:t.to.length=t'.to.length):shapeM t=shapeM t':=by
 unfold shapeM edgesM argM
 rw [h1,h2,h3,h4,h5]
theorem DefAt.range{f:Func}{v:Int}{p:Int×Int}(h:DefAt f v p):0≤p.1∧p.1<f.blocks.length:=by
 obtain⟨k,b,h1,h2,_⟩:=h
 have:=lt_of_getElem? h1
 omega
theorem end_intro{f:Func}{t:Term}(h1:shapeM t=true)(h2:t.cases.length≤256)(h3:t.kind=4→1≤t.n∧t.n≤6)(h4:casesE t.cases t.cases.length=0)(h5:∀e∈t.to,(1≤e.block∧e.block≤(f.blocks.length:Int) - 1)∧e.args.length=(blkOf f e.block).params.length):endE f t=0:=by
 unfold endE
 rw [if_neg (by simp [h1]),if_neg (by omega),if_neg (fun q=>by
  have:=h3 q.1
  have q2:=q.2
  simp [within,this] at q2),if_neg (by rw [h4];simp)]
 generalize t.to=l at h5
 induction l with
 | nil=>rfl
 | cons e r ih =>
  have he:=h5 e List.mem_cons_self
  simp only [edgesE]
  rw [if_neg (by simp [within,he.1]),if_neg (by rw [he.2];simp)]
  exact ih fun x hx=>h5 x (List.mem_cons_of_mem _ hx)
theorem end_cases{f:Func}{t:Term}(h:endE f t=0):casesE t.cases t.cases.length=0:=by
 unfold endE at h
 split at h
 ·simp at h
 split at h
 ·simp at h
 split at h
 ·simp at h
 split at h
 ·rename_i q
  exact absurd h q
 rename_i q
 simpa using q
end Go.Proofs.Ytkhnjeblbiocaaa
namespace Go.Proofs.Ytkhnjeblbiocaaa
open Go.Av

end Go.Proofs.Ytkhnjeblbiocaaa
namespace Go.Proofs.Ytkhnjeblbiocaaa
open Go.Av
section
variable {f:Func}
end
end Go.Proofs.Ytkhnjeblbiocaaa
namespace Go.Proofs.Ytkhnjeblbiocaaa
open Go.Av
theorem funcsE_intro:∀{l:List Func},(∀f∈l,checkFuncM f=0)→funcsE l=0
 | [],_=>rfl
 | g::r,h=>by
  unfold funcsE
  rw [orE_zero (h g List.mem_cons_self)]
  exact funcsE_intro fun f hf=>h f (List.mem_cons_of_mem _ hf)
theorem callsI_intro{u:Unt}:∀{l:List Ins},(∀i∈l,callsE u i=0)→callsI u l=0
 | [],_=>rfl
 | g::r,h=>by
  unfold callsI
  rw [orE_zero (h g List.mem_cons_self)]
  exact callsI_intro fun f hf=>h f (List.mem_cons_of_mem _ hf)
theorem callsB_intro{u:Unt}:∀{l:List Block},(∀b∈l,∀i∈b.ins,callsE u i=0)→callsB u l=0
 | [],_=>rfl
 | g::r,h=>by
  unfold callsB
  rw [orE_zero (callsI_intro (h g List.mem_cons_self))]
  exact callsB_intro fun f hf=>h f (List.mem_cons_of_mem _ hf)
theorem callsF_intro{u:Unt}:∀{l:List Func},(∀f∈l,∀b∈f.blocks,∀i∈b.ins,callsE u i=0)→callsF u l=0
 | [],_=>rfl
 | g::r,h=>by
  unfold callsF
  rw [orE_zero (callsB_intro (h g List.mem_cons_self))]
  exact callsF_intro fun f hf=>h f (List.mem_cons_of_mem _ hf)
theorem check_parts{u:Unt}(h:checkM u=0):u.fns.length≠0∧u.fns.length≤256∧within u.main 0 ((u.fns.length:Int) - 1)=true∧(∀f∈u.fns,checkFuncM f=0)∧(blkOf (fnOf u u.main) 0).params.length=0∧callsF u u.fns=0:=by
 unfold checkM at h
 split at h
 ·simp at h
 rename_i h1
 split at h
 ·simp at h
 rename_i h2
 split at h
 ·simp at h
 rename_i h3
 obtain⟨h4,h5⟩:=orE_eq h
 split at h5
 ·simp at h5
 rename_i h6
 exact⟨h1,by omega,by simpa using h3,funcsE_all h4,by omega,h5⟩
theorem check_unit{u:Unt}(h1:u.fns.length≠0)(h2:u.fns.length≤256)(h3:within u.main 0 ((u.fns.length:Int) - 1)=true)(h4:∀f∈u.fns,checkFuncM f=0)(h5:(blkOf (fnOf u u.main) 0).params.length=0)(h6:callsF u u.fns=0):checkM u=0:=by
 unfold checkM
 rw [if_neg h1,if_neg (by omega),if_neg (by simp [h3]),orE_zero (funcsE_intro h4),if_neg (by omega)]
 exact h6
theorem calls_same{u v:Unt}(h1:v.fns.length=u.fns.length)(h2:∀k:Int,0≤k→k<u.fns.length→(blkOf (fnOf v k) 0).params.length=(blkOf (fnOf u k) 0).params.length){i j:Ins}(ho:j.op=i.op)(hn:j.n=i.n)(hl:j.args.length=i.args.length)(h0:i.op=13∨i.op=9→0≤i.n):callsE v j=callsE u i:=by
 unfold callsE
 rw [ho,hn,hl,h1]
 split
 ·rfl
 split
 ·rfl
 rw [h2 i.n (h0 (by omega)) (by omega)]
theorem trI_id(i:Ins):trI (fun k=>k) i=i:=by
 unfold trI
 rw [List.map_id']
section
variable {u:Unt} (hfit:u.fit) (hc:checkM u=0)
include hfit hc
theorem pruneU_gr{f:Func}(hf:f∈u.fns):GrW f:=(checkFunc_ok (hfit.2.2 f hf) ((check_parts hc).2.2.2.1 f hf)).gr
end
end Go.Proofs.Ytkhnjeblbiocaaa
namespace Go.Proofs.Ytkhnjeblbiocaaa
open Go.Av
theorem blsC_at:∀{ids:List Nat} {bs:List Block} {k id:Nat} {b:Block},ids[k]?=some id→bs[k]?=some b→((blsC ids bs).drop (k * 7)).take 7=blC id b
 | i::ids,c::bs,0,id,b,h1,h2=>by
  simp only [List.getElem?_cons_zero,Option.some.injEq] at h1 h2
  subst h1
  subst h2
  rfl
 | i::ids,c::bs,k+1,id,b,h1,h2=>by
  have ih:=blsC_at (ids:=ids) (bs:=bs) (k:=k) (by simpa using h1) (by simpa using h2)
  have e:blsC (i::ids) (c::bs)=blC i c++blsC ids bs:=rfl
  have hl:(blC i c).length=7:=rfl
  rw [e,List.drop_append,List.drop_of_length_le (by rw [hl];omega),hl,List.nil_append,show(k+1) * 7 - 7=k * 7 by omega]
  exact ih
 | [],_,k,id,b,h1,_=>by simp at h1
 | i::ids,[],k,id,b,_,h2=>by simp at h2
def mixB:Nat→List Nat→List Block→List AVal
 | 0,ids,bs=>blsC ids bs
 | i+1,_::ids,b::bs=>b.enc.cells++mixB i ids bs
 | _+1,_,_=>[]
theorem mixB_len:∀(i:Nat) {ids:List Nat} {bs:List Block},ids.length=bs.length→(mixB i ids bs).length=bs.length * 7
 | 0,ids,bs,h=>blsC_len h
 | i+1,_::ids,b::bs,h=>by
  have hb:b.enc.cells.length=7:=rfl
  rw [mixB,List.length_append,mixB_len i (by simpa using h),hb,List.length_cons]
  omega
 | i+1,[],[],_=>rfl
 | i+1,[],b::bs,h=>by simp at h
 | i+1,x::ids,[],h=>by simp at h
theorem blC_scalar(id:Nat)(b:Block):∀d∈blC id b,d.scalar:=fun d hd=>by
 simp only [blC,List.mem_cons,List.not_mem_nil,or_false] at hd
 rcases hd with rfl | rfl | rfl | rfl | rfl | rfl | rfl
 ·trivial
 ·trivial
 ·trivial
 ·trivial
 ·trivial
 ·trivial
 unfold outE
 split<;>trivial
theorem mixB_scalar:∀(i:Nat) (ids:List Nat) (bs:List Block),∀d∈mixB i ids bs,d.scalar
 | 0,ids,bs=>fun d hd=>by
  unfold mixB blsC at hd
  obtain⟨l,hl,hd⟩:=List.mem_flatten.1 hd
  obtain⟨j,hj⟩:=List.mem_iff_getElem?.1 hl
  rw [List.getElem?_zipWith] at hj
  cases h1:ids[j]? with
  | none=>rw [h1] at hj;cases hj
  | some id =>
   cases h2:bs[j]? with
   | none=>rw [h1,h2] at hj;cases hj
   | some b =>
    rw [h1,h2] at hj
    simp only [Option.some.injEq] at hj
    subst hj
    exact blC_scalar id b d hd
 | i+1,x::ids,b::bs=>fun d hd=>by
  rw [mixB] at hd
  rcases List.mem_append.1 hd with q | q
  ·simp only [Block.enc,AVal.cells,List.mem_cons,List.not_mem_nil,or_false] at q
   rcases q with rfl | rfl | rfl | rfl | rfl | rfl | rfl<;>trivial
  exact mixB_scalar i ids bs d q
 | i+1,[],[]=>fun d hd=>by cases hd
 | i+1,[],b::bs=>fun d hd=>by cases hd
 | i+1,x::ids,[]=>fun d hd=>by cases hd
theorem mixB_at:∀(i:Nat) {ids:List Nat} {bs:List Block} {id:Nat} {b:Block},ids[i]?=some id→bs[i]?=some b →
  (mixB i ids bs)[i * 7+6]?=some (outE id b.term.to)∧mixB (i+1) ids bs=(mixB i ids bs).set (i * 7+6) (eEdges b.term.to)
 | 0,x::ids,c::bs,id,b,h1,h2=>by
  simp only [List.getElem?_cons_zero,Option.some.injEq] at h1 h2
  subst h1
  subst h2
  exact⟨rfl,rfl⟩
 | i+1,x::ids,c::bs,id,b,h1,h2=>by
  obtain⟨i1,i2⟩:=mixB_at i (ids:=ids) (bs:=bs) (id:=id) (b:=b) (by simpa using h1) (by simpa using h2)
  have hb:c.enc.cells.length=7:=rfl
  have e:mixB (i+1) (x::ids) (c::bs)=c.enc.cells++mixB i ids bs:=rfl
  have e2:mixB (i+1+1) (x::ids) (c::bs)=c.enc.cells++mixB (i+1) ids bs:=rfl
  rw [e,e2,i2]
  refine⟨?_,?_⟩
  ·rw [List.getElem?_append_right (by omega),hb,show(i+1) * 7+6 - 7=i * 7+6 by omega]
   exact i1
  rw [List.set_append_right _ _ (by omega),hb,show(i+1) * 7+6 - 7=i * 7+6 by omega]
 | 0,[],_,id,b,h1,_=>by simp at h1
 | 0,_::_,[],id,b,_,h2=>by simp at h2
 | i+1,[],_,id,b,h1,_=>by simp at h1
 | i+1,_::_,[],id,b,_,h2=>by simp at h2
theorem mixB_all:∀{ids:List Nat} {bs:List Block},ids.length=bs.length→mixB bs.length ids bs=cellsAll (bs.map Block.enc)
 | [],[],_=>rfl
 | x::ids,b::bs,h=>by
  have e:cellsAll ((b::bs).map Block.enc)=b.enc.cells++cellsAll (bs.map Block.enc):=rfl
  rw [e,←mixB_all (ids:=ids) (by simpa using h)]
  rfl
 | [],b::bs,h=>by simp at h
 | x::ids,[],h=>by simp at h
theorem blocks_share(bs:List Block):(cellsAll (bs.map Block.enc)).map AVal.shareCell=cellsAll (bs.map Block.enc):=by
 induction bs with
 | nil=>rfl
 | cons b r ih =>
  have e:cellsAll ((b::r).map Block.enc)=b.enc.cells++cellsAll (r.map Block.enc):=rfl
  rw [e,List.map_append,ih]
  rfl
def jumpB(x:Edge):Block:=⟨[],[],⟨1,0,0,[],[x]⟩⟩
def setTo(b:Block)(es:List Edge):Block:=⟨b.params,b.ins,⟨b.term.kind,b.term.arg,b.term.n,b.term.cases,es⟩⟩
structure Sp where
 tos:List (List Edge)
 news:List Block
def critB(f:Func)(k:Nat)(x:Edge):Bool:=decide (2≤(blkOf f (k:Int)).term.to.length)&&decide (2≤(predsAt f x.block).length)
def spStep(f:Func)(k n:Nat)(S:Sp):Sp :=
 match (toOf f (k:Int))[n]? with
 | none=>S
 | some x=>if critB f k x then ⟨S.tos.set k ((S.tos[k]?.getD []).set n ⟨((f.blocks.length+S.news.length:Nat):Int),[]⟩),S.news++[jumpB x]⟩ else S
def spE(f:Func)(k:Nat):Nat→Nat→Sp→Sp
 | 0,_,S=>S
 | m+1,n,S=>spE f k m (n+1) (spStep f k n S)
def spK(f:Func):Nat→Nat→Sp→Sp
 | 0,_,S=>S
 | m+1,k,S=>spK f m (k+1) (spE f k (toOf f (k:Int)).length 0 S)
def spS(f:Func):Sp:=⟨f.blocks.map fun b=>b.term.to,[]⟩
def spM(f:Func):Sp:=spK f f.blocks.length 0 (spS f)
def splitM(f:Func):Func:=⟨f.name,List.zipWith setTo f.blocks (spM f).tos++(spM f).news⟩
structure SpW(f:Func)(S:Sp):Prop where
 len:S.tos.length=f.blocks.length
 each:∀(k:Nat) b l,f.blocks[k]?=some b→S.tos[k]?=some l→l.length=b.term.to.length
theorem spS_w(f:Func):SpW f (spS f):=⟨by simp [spS],fun k b l h1 h2=>by
 unfold spS at h2
 simp only [List.getElem?_map,h1,Option.map_some,Option.some.injEq] at h2
 rw [←h2]⟩
theorem spStep_w{f:Func}{k n:Nat}{S:Sp}(h:SpW f S):SpW f (spStep f k n S):=by
 unfold spStep
 split
 ·exact h
 split
 ·refine⟨by rw [List.length_set];exact h.len,fun j b l h1 h2=>?_⟩
  simp only at h2
  rw [List.getElem?_set] at h2
  split at h2
  ·rename_i e
   subst e
   split at h2
   ·simp only [Option.some.injEq] at h2
    rename_i hk
    obtain⟨m,hm⟩:∃m,S.tos[k]?=some m:=⟨_,List.getElem?_eq_getElem hk⟩
    rw [←h2,List.length_set,hm,Option.getD_some]
    exact h.each k b m h1 hm
   cases h2
  exact h.each j b l h1 h2
 exact h
structure SpO(f:Func)(ids:List Nat)(X:Nat)(S:Sp)(bid:Nat)(O:List AObj):Prop where
 up:∀o∈O,o.upto O.length
 r1:O[1]?=some (.cells [aI 0,.lst 7 [] .ex])
 x5:5≤X
 xb:bid≠X
 out:O[X]?=some (.cells [aI f.name,.os bid (f.blocks.length+S.news.length) 7])
 bl:5≤bid∧O[bid]?=some (.cells (blsC ids f.blocks++cellsAll (S.news.map Block.enc)))
 li:ids.length=f.blocks.length
 w:SpW f S
 own:∀(j id:Nat) (b:Block) (l:List Edge),ids[j]?=some id→f.blocks[j]?=some b→S.tos[j]?=some l→b.term.to≠[]→5≤id∧id≠bid∧id≠X∧O[id]?=some (.cells (edC l))
 inj:∀(i j id:Nat) (b c:Block),ids[i]?=some id→ids[j]?=some id→f.blocks[i]?=some b→f.blocks[j]?=some c→b.term.to≠[]→c.term.to≠[]→i=j
theorem SpO.start{f:Func}{ids:List Nat}{bid:Nat}{O:List AObj}(hup:∀o∈O,o.upto O.length)(h1:O[1]?=some (.cells [aI 0,.lst 7 [] .ex]))(hb:5≤bid∧O[bid]?=some (.cells (blsC ids f.blocks)))(hc:CpO 5 ids f.blocks O)
  (hne:∀(j id:Nat) (b:Block),ids[j]?=some id→f.blocks[j]?=some b→b.term.to≠[]→id≠bid):SpO f ids O.length (spS f) bid (O++[AObj.cells [aI f.name,.os bid f.blocks.length 7]]) where
 up:=fun o ho=>by
  have hbl:=lt_of_getElem? hb.2
  rw [List.length_append,List.length_singleton]
  rcases List.mem_append.1 ho with q | q
  ·exact AObj.upto_mono (by omega) (hup o q)
  rw [List.mem_singleton] at q
  subst q
  exact⟨trivial,show _<_ by omega,trivial⟩
 r1:=at_left h1
 x5:=by
  have:=lt_of_getElem? hb.2
  omega
 xb:=by
  have:=lt_of_getElem? hb.2
  omega
 out:=snoc_get _ _
 bl:=⟨hb.1,by
  have h2:=at_left (X:=[AObj.cells [aI f.name,.os bid f.blocks.length 7]]) hb.2
  have e:blsC ids f.blocks++cellsAll ((spS f).news.map Block.enc)=blsC ids f.blocks:=List.append_nil _
  rw [e]
  exact h2⟩
 li:=hc.li
 w:=spS_w f
 own:=fun j id b l q1 q2 q3 q4=>by
  obtain⟨o1,o2⟩:=hc.own j id b q1 q2 q4
  have:=lt_of_getElem? o2
  unfold spS at q3
  simp only [List.getElem?_map,q2,Option.map_some,Option.some.injEq] at q3
  rw [←q3]
  exact⟨o1,hne j id b q1 q2 q4,by omega,at_left o2⟩
 inj:=hc.inj
theorem SpO.edge{f:Func}{ids:List Nat}{X:Nat}{S:Sp}{bid:Nat}{O:List AObj}(h:SpO f ids X S bid O){k id:Nat}{b:Block}{l m:List Edge}(hid:ids[k]?=some id)(hb:f.blocks[k]?=some b)(hl:S.tos[k]?=some l)(hne:b.term.to≠[])(hm:m.length=l.length) :
  SpO f ids X ⟨S.tos.set k m,S.news⟩ bid (O.set id (.cells (edC m))):=by
 obtain⟨o1,o2,o3,o4⟩:=h.own k id b l hid hb hl hne
 have hil:=lt_of_getElem? o4
 have hx5:=h.x5
 have hb5:=h.bl.1
 exact {
  up:=by
   rw [List.length_set]
   exact uptoO_set h.up (show AObj.upto O.length (.cells (edC m)) from edC_upto _ _)
  r1:=by rw [List.getElem?_set_ne (by omega)];exact h.r1
  x5:=h.x5
  xb:=h.xb
  out:=by rw [List.getElem?_set_ne o3];exact h.out
  bl:=⟨h.bl.1,by rw [List.getElem?_set_ne o2];exact h.bl.2⟩
  li:=h.li
  w:=⟨by rw [List.length_set];exact h.w.len,fun j c x h1 h2=>by
   simp only at h2
   rw [List.getElem?_set] at h2
   split at h2
   ·rename_i e
    subst e
    split at h2
    ·simp only [Option.some.injEq] at h2
     rw [hb] at h1
     simp only [Option.some.injEq] at h1
     rw [←h2,←h1,hm]
     exact h.w.each k b l hb hl
    cases h2
   exact h.w.each j c x h1 h2⟩
  own:=fun j z c x h1 h2 h3 h4=>by
   simp only at h3
   rw [List.getElem?_set] at h3
   by_cases e:k=j
   ·subst e
    rw [hid] at h1
    simp only [Option.some.injEq] at h1
    subst h1
    rw [if_pos rfl] at h3
    split at h3
    ·simp only [Option.some.injEq] at h3
     subst h3
     exact⟨o1,o2,o3,List.getElem?_set_self hil⟩
    cases h3
   rw [if_neg e] at h3
   obtain⟨p1,p2,p3,p4⟩:=h.own j z c x h1 h2 h3 h4
   refine⟨p1,p2,p3,?_⟩
   rw [List.getElem?_set_ne (fun q=>?_)]
   ·exact p4
   subst q
   exact e (h.inj k j id b c hid h1 hb h2 hne h4)
  inj:=h.inj }
theorem SpO.block{f:Func}{ids:List Nat}{X:Nat}{S:Sp}{bid:Nat}{O:List AObj}(h:SpO f ids X S bid O)(c:Block){cs ar:List AVal}(hcs:cs=(blsC ids f.blocks++cellsAll (S.news.map Block.enc))++c.enc.cells)(har:ar=[aI f.name,.os O.length (f.blocks.length+S.news.length+1) 7]) :
  SpO f ids X ⟨S.tos,S.news++[c]⟩ O.length ((O.set bid .gone++[AObj.cells cs]).set X (.cells ar)):=by
 have hXl:=lt_of_getElem? h.out
 have hbl:=lt_of_getElem? h.bl.2
 have hx5:=h.x5
 have hb5:=h.bl.1
 have hxb:=h.xb
 have hkeep:∀j,j<O.length→j≠X→j≠bid→((O.set bid .gone++[AObj.cells cs]).set X (.cells ar))[j]?=O[j]?:=fun j hj h1 h2=>by
  rw [List.getElem?_set_ne (Ne.symm h1),List.getElem?_append_left (by rw [List.length_set];omega),List.getElem?_set_ne (Ne.symm h2)]
 have hce:cellsAll ((S.news++[c]).map Block.enc)=cellsAll (S.news.map Block.enc)++c.enc.cells:=by
  rw [List.map_append]
  simp [cellsAll]
 subst har
 exact {
  up:=by
   intro o ho
   rw [List.length_set,List.length_append,List.length_set,List.length_singleton]
   rcases List.mem_or_eq_of_mem_set ho with q | q
   ·rcases List.mem_append.1 q with q | q
    ·rcases List.mem_or_eq_of_mem_set q with q | q
     ·exact AObj.upto_mono (by omega) (h.up o q)
     subst q
     trivial
    rw [List.mem_singleton] at q
    subst q
    subst hcs
    show uptoL _ _
    have h1:=h.up _ (List.mem_of_getElem? h.bl.2)
    have h2:uptoL O.length (blsC ids f.blocks++cellsAll (S.news.map Block.enc)):=h1
    rw [uptoL_iff] at h2 ⊢
    intro x hx
    rcases List.mem_append.1 hx with q | q
    ·exact AVal.upto_mono (by omega) x (h2 x q)
    have h3:=Block.enc_upto (O.length+1) c
    have h4:uptoL (O.length+1) c.enc.cells:=h3
    exact uptoL_iff.1 h4 x q
   subst q
   exact⟨trivial,show _<_ by omega,trivial⟩
  r1:=by rw [hkeep 1 (lt_of_getElem? h.r1) (by omega) (by omega)];exact h.r1
  x5:=h.x5
  xb:=by omega
  out:=by
   rw [List.getElem?_set_self (by rw [List.length_append,List.length_set];omega),List.length_append]
   rfl
  bl:=⟨by omega,by
   rw [List.getElem?_set_ne (by omega),List.getElem?_append_right (by rw [List.length_set];omega),List.length_set,Nat.sub_self,hce,←List.append_assoc,←hcs]
   rfl⟩
  li:=h.li
  w:=⟨h.w.len,h.w.each⟩
  own:=fun j z b l h1 h2 h3 h4=>by
   obtain⟨p1,p2,p3,p4⟩:=h.own j z b l h1 h2 h3 h4
   have:=lt_of_getElem? p4
   exact⟨p1,by omega,p3,by rw [hkeep z this p3 p2];exact p4⟩
  inj:=h.inj }
end Go.Proofs.Ytkhnjeblbiocaaa
namespace Go.Proofs.Ytkhnjeblbiocaaa
open Go.Av
structure SpI(f:Func)(S:Sp):Prop where
 w:SpW f S
 old:∀(k:Nat) b l,f.blocks[k]?=some b→S.tos[k]?=some l→∀(n:Nat) x,b.term.to[n]?=some x→l[n]?=some x∨∃i:Nat,l[n]?=some ⟨((f.blocks.length+i:Nat):Int),[]⟩∧S.news[i]?=some (jumpB x)
 new:∀(i:Nat) c,S.news[i]?=some c→∃(k:Nat) (b:Block) (x:Edge),f.blocks[k]?=some b∧x∈b.term.to∧c=jumpB x
theorem spI_start(f:Func):SpI f (spS f):=⟨spS_w f,fun k b l h1 h2 n x h3=>by
 unfold spS at h2
 simp only [List.getElem?_map,h1,Option.map_some,Option.some.injEq] at h2
 rw [←h2]
 exact .inl h3,fun i c h=>by simp [spS] at h⟩
theorem spI_step{f:Func}{k n:Nat}{S:Sp}(h:SpI f S):SpI f (spStep f k n S):=by
 refine⟨spStep_w h.w,?_,?_⟩
 ·intro j b l h1 h2 m x h3
  unfold spStep at h2 ⊢
  cases hx:(toOf f (k:Int))[n]? with
  | none =>
   rw [hx] at h2
   exact h.old j b l h1 h2 m x h3
  | some y =>
   rw [hx] at h2
   simp only at h2 ⊢
   by_cases hc:critB f k y=true
   ·rw [if_pos hc] at h2 ⊢
    simp only at h2 ⊢
    have hext:∀i:Nat,S.news[i]?=some (jumpB x)→(S.news++[jumpB y])[i]?=some (jumpB x):=fun i q=>by
     rw [List.getElem?_append_left (lt_of_getElem? q)]
     exact q
    have hold:∀l',S.tos[j]?=some l'→l'[m]?=l[m]?→l[m]?=some x∨∃i:Nat,l[m]?=some ⟨((f.blocks.length+i:Nat):Int),[]⟩∧(S.news++[jumpB y])[i]?=some (jumpB x):=fun l' q1 q2=>by
     rw [←q2]
     rcases h.old j b l' h1 q1 m x h3 with r | ⟨i,r1,r2⟩
     ·exact .inl r
     exact .inr ⟨i,r1,hext i r2⟩
    rw [List.getElem?_set] at h2
    split at h2
    ·rename_i e
     subst e
     split at h2
     ·rename_i hk
      simp only [Option.some.injEq] at h2
      obtain⟨l',hl'⟩:∃l',S.tos[k]?=some l':=⟨_,List.getElem?_eq_getElem hk⟩
      rw [hl',Option.getD_some] at h2
      by_cases e2:n=m
      ·subst e2
       have hto:toOf f (k:Int)=b.term.to:=by
        unfold toOf blkOf
        rw [Int.toNat_natCast,h1]
        rfl
       rw [hto,h3] at hx
       simp only [Option.some.injEq] at hx
       subst hx
       refine .inr ⟨S.news.length,?_,by simp⟩
       rw [←h2,List.getElem?_set_self]
       rw [h.w.each k b l' h1 hl']
       exact lt_of_getElem? h3
      exact hold l' hl' (by rw [←h2,List.getElem?_set_ne e2])
     cases h2
    exact hold l h2 rfl
   rw [if_neg hc] at h2 ⊢
   exact h.old j b l h1 h2 m x h3
 intro i c hi
 unfold spStep at hi
 cases hx:(toOf f (k:Int))[n]? with
 | none =>
  rw [hx] at hi
  exact h.new i c hi
 | some y =>
  rw [hx] at hi
  simp only at hi
  split at hi
  ·simp only at hi
   by_cases hl:i<S.news.length
   ·rw [List.getElem?_append_left hl] at hi
    exact h.new i c hi
   have:=lt_of_getElem? hi
   rw [List.length_append,List.length_singleton] at this
   have e:i=S.news.length:=by omega
   subst e
   rw [List.getElem?_append_right (Nat.le_refl _),Nat.sub_self] at hi
   simp only [List.getElem?_cons_zero,Option.some.injEq] at hi
   have hk:k<f.blocks.length:=by
    refine Classical.byContradiction fun q=>?_
    unfold toOf blkOf at hx
    rw [Int.toNat_natCast,show f.blocks[k]?=none from List.getElem?_eq_none (by omega)] at hx
    cases hx
   have hb:f.blocks[k]?=some f.blocks[k]:=List.getElem?_eq_getElem hk
   have hto:toOf f (k:Int)=f.blocks[k].term.to:=by
    unfold toOf blkOf
    rw [Int.toNat_natCast,hb]
    rfl
   rw [hto] at hx
   exact⟨k,_,y,hb,List.mem_of_getElem? hx,hi.symm⟩
  exact h.new i c hi
theorem spI_E{f:Func}{k:Nat}:∀(m n:Nat) {S:Sp},SpI f S→SpI f (spE f k m n S)
 | 0,_,_,h=>h
 | m+1,n,_,h=>spI_E m (n+1) (spI_step h)
theorem spI_K{f:Func}:∀(m k:Nat) {S:Sp},SpI f S→SpI f (spK f m k S)
 | 0,_,_,h=>h
 | m+1,k,_,h=>spI_K m (k+1) (spI_E _ 0 h)
theorem split_i(f:Func):SpI f (spM f):=spI_K _ 0 (spI_start f)
section
variable {f:Func}
theorem split_len:(splitM f).blocks.length=f.blocks.length+(spM f).news.length:=by
 unfold splitM
 rw [List.length_append,List.length_zipWith,(split_i f).w.len]
 omega
theorem split_old{k:Nat}{c:Block}(hk:k<f.blocks.length):(splitM f).blocks[k]?=some c↔∃b l,f.blocks[k]?=some b∧(spM f).tos[k]?=some l∧c=setTo b l:=by
 have hw:=(split_i f).w.len
 have e:(splitM f).blocks[k]?=(List.zipWith setTo f.blocks (spM f).tos)[k]?:=List.getElem?_append_left (by rw [List.length_zipWith];omega)
 have h1:f.blocks[k]?=some f.blocks[k]:=List.getElem?_eq_getElem hk
 have h2:(spM f).tos[k]?=some ((spM f).tos[k]'(by omega)):=List.getElem?_eq_getElem _
 rw [e,List.getElem?_zipWith,h1,h2]
 constructor
 ·intro h
  simp only [Option.some.injEq] at h
  exact⟨_,_,rfl,rfl,h.symm⟩
 rintro⟨b,l,q1,q2,q3⟩
 simp only [Option.some.injEq] at q1 q2
 rw [q1,q2,q3]
theorem split_new(i:Nat):(splitM f).blocks[f.blocks.length+i]?=(spM f).news[i]?:=by
 have hw:=(split_i f).w.len
 have hl:(List.zipWith setTo f.blocks (spM f).tos).length=f.blocks.length:=by
  rw [List.length_zipWith]
  omega
 have e:(splitM f).blocks[f.blocks.length+i]?=(spM f).news[f.blocks.length+i - (List.zipWith setTo f.blocks (spM f).tos).length]?:=List.getElem?_append_right (by omega)
 rw [e,hl,Nat.add_sub_cancel_left]
theorem split_edge{k:Nat}{b:Block}{l:List Edge}(hb:f.blocks[k]?=some b)(hl:(spM f).tos[k]?=some l){e:Edge}(he:e∈l):e∈b.term.to∨∃(i:Nat) (x:Edge),e=⟨((f.blocks.length+i:Nat):Int),[]⟩∧(spM f).news[i]?=some (jumpB x)∧x∈b.term.to:=by
 obtain⟨n,hn⟩:=List.mem_iff_getElem?.1 he
 have hlen:=(split_i f).w.each k b l hb hl
 have hnl:=lt_of_getElem? hn
 have hx:b.term.to[n]?=some (b.term.to[n]'(by omega)):=List.getElem?_eq_getElem _
 rcases (split_i f).old k b l hb hl n _ hx with q | ⟨i,q1,q2⟩
 ·rw [hn] at q
  simp only [Option.some.injEq] at q
  rw [q]
  exact .inl (List.getElem_mem _)
 rw [hn] at q1
 simp only [Option.some.injEq] at q1
 exact .inr ⟨i,_,q1,q2,List.getElem_mem _⟩
end
theorem jumpB_inj{x y:Edge}(h:jumpB x=jumpB y):x=y:=by
 unfold jumpB at h
 simpa using h
theorem zip_vals:∀(bs:List Block) (tos:List (List Edge)),tos.length=bs.length→(List.zipWith setTo bs tos).flatMap blkVals=bs.flatMap blkVals
 | [],_,_=>by simp
 | b::bs,l::tos,h=>by
  rw [List.zipWith_cons_cons,List.flatMap_cons,List.flatMap_cons,zip_vals bs tos (by simpa using h)]
  rfl
 | b::bs,[],h=>by simp at h
theorem zip_sum:∀(bs:List Block) (tos:List (List Edge)),tos.length=bs.length→sumI (List.zipWith setTo bs tos)=sumI bs
 | [],_,_=>by simp [sumI]
 | b::bs,l::tos,h=>by
  have ih:=zip_sum bs tos (by simpa using h)
  unfold sumI at ih ⊢
  rw [List.zipWith_cons_cons,List.map_cons,List.map_cons,List.sum_cons,List.sum_cons,ih]
  rfl
 | b::bs,[],h=>by simp at h
theorem dom_seen{f:Func}{D:Nat→Nat→Prop}{R:Nat→Prop}(hne:f.blocks≠[])(hc:DmC f D R)(h0:R 0)(hz:∀i,D i 0→i=0)(hlt:∀i j,D i j→i<f.blocks.length){j:Nat}(hj:j<128)(h:seenF f j=true):R j:=by
 have hl:=List.length_pos_iff.2 hne
 have hs:DmX f.blocks.length D R (domS f):=by
  refine⟨by simp [domS],fun i j hj hij=>⟨hlt i j hij,?_⟩,fun j hj hsj=>?_⟩
  ·unfold Ds.at_ domS
   simp only
   rw [List.getElem?_set]
   split
   ·rename_i e
    subst e
    rw [if_pos (by simpa using hl),Option.getD_some,hz i hij]
    decide
   rw [List.getElem?_replicate,if_pos hj,Option.getD_some]
   exact allB_in _ _ hc.few (hlt i j hij)
  have:(Bs.none.add 0).has j=true:=hsj
  rw [Bs.has_add _ _ _ (by omega) hj] at this
  have hn:Bs.none.has j=false:=by unfold Bs.has Bs.none;simp
  rw [hn] at this
  simp only [Bool.false_or,decide_eq_true_eq] at this
  rw [this]
  exact h0
 exact(dmx_I hc 20000 hs).seen j hj h
end Go.Proofs.Ytkhnjeblbiocaaa
namespace Go.Proofs.Ytkhnjeblbiocaaa
open Go.Av
def EdgN(f:Func)(k j:Nat):Prop:=∃b l,f.blocks[k]?=some b∧(spM f).tos[k]?=some l∧∃e∈l,e.block=(j:Int)
theorem edgN_src{f:Func}(hg:GrW f){k i:Nat}{x:Edge}(h:EdgN f k (f.blocks.length+i))(hx:(spM f).news[i]?=some (jumpB x)):∃b,f.blocks[k]?=some b∧x∈b.term.to:=by
 obtain⟨b,l,h1,h2,e,h3,h4⟩:=h
 refine⟨b,h1,?_⟩
 rcases split_edge h1 h2 h3 with q | ⟨j,y,q1,q2,q3⟩
 ·have:=(hg.edges b (List.mem_of_getElem? h1) e q).2
  omega
 rw [q1] at h4
 have h4':((f.blocks.length+j:Nat):Int)=((f.blocks.length+i:Nat):Int):=h4
 have:j=i:=by omega
 subst this
 rw [q2] at hx
 simp only [Option.some.injEq] at hx
 rw [←jumpB_inj hx]
 exact q3
def SpD(f:Func)(i j:Nat):Prop:=(j<f.blocks.length∧i<f.blocks.length∧(overF f j).has i=true)∨(f.blocks.length≤j∧((i=j∧j<f.blocks.length+(spM f).news.length)∨(i<f.blocks.length∧∀k,seenF f k=true→EdgN f k j→(overF f k).has i=true)))
def SpR(f:Func)(j:Nat):Prop:=(j<f.blocks.length∧seenF f j=true)∨(f.blocks.length≤j∧∃k,seenF f k=true∧EdgN f k j)
theorem def_split{f:Func}{v:Int}{p:Int×Int}(h:DefAt f v p):DefAt (splitM f) v p:=by
 obtain⟨k,b,h1,h2,h3⟩:=h
 have hk:=lt_of_getElem? h1
 have hw:=(split_i f).w.len
 have hl:(spM f).tos[k]?=some ((spM f).tos[k]'(by omega)):=List.getElem?_eq_getElem _
 exact⟨k,setTo b _,(split_old hk).2 ⟨b,_,h1,hl,rfl⟩,h2,h3⟩
section
variable {f:Func}
theorem split_case{k:Nat}{c:Block}(h:(splitM f).blocks[k]?=some c):(∃b l,k<f.blocks.length∧f.blocks[k]?=some b∧(spM f).tos[k]?=some l∧c=setTo b l)∨∃(i:Nat) (x:Edge),k=f.blocks.length+i∧(spM f).news[i]?=some (jumpB x)∧c=jumpB x∧∃(k0:Nat) (b0:Block),f.blocks[k0]?=some b0∧x∈b0.term.to:=by
 by_cases hk:k<f.blocks.length
 ·obtain⟨b,l,h1,h2,h3⟩:=(split_old hk).1 h
  exact .inl ⟨b,l,hk,h1,h2,h3⟩
 obtain⟨i,hi⟩:∃i,k=f.blocks.length+i:=⟨k - f.blocks.length,by omega⟩
 rw [hi,split_new] at h
 obtain⟨k0,b0,x,q1,q2,q3⟩:=(split_i f).new i c h
 exact .inr ⟨i,x,hi,by rw [h,q3],q3,k0,b0,q1,q2⟩
theorem split_c(hg:GrW f)(hd:DomW f)(hm:f.blocks.length+(spM f).news.length≤128):DmC (splitM f) (SpD f) (SpR f) where
 few:=by rw [split_len];exact hm
 edges:=fun c hc e he=>by
  obtain⟨k,hk⟩:=List.mem_iff_getElem?.1 hc
  rw [split_len]
  rcases split_case hk with⟨b,l,h1,h2,h3,h4⟩ | ⟨i,x,h1,h2,h3,k0,b0,h4,h5⟩
  ·rw [h4] at he
   rcases split_edge h2 h3 he with q | ⟨i,x,q1,q2,q3⟩
   ·have:=hg.edges b (List.mem_of_getElem? h2) e q
    omega
   have:=lt_of_getElem? q2
   rw [q1]
   simp only
   omega
  rw [h3] at he
  have hex:e=x:=by simpa [jumpB] using he
  have:=hg.edges b0 (List.mem_of_getElem? h4) x h5
  rw [hex]
  omega
 next:=fun k c hk hR e he=>by
  have hn:=hg.few
  rcases split_case hk with⟨b,l,h1,h2,h3,h4⟩ | ⟨i,x,h1,h2,h3,_⟩
  ·rw [h4] at he
   have hs:seenF f k=true:=by
    rcases hR with q | q
    ·exact q.2
    omega
   rcases split_edge h2 h3 he with q | ⟨i,x,q1,q2,q3⟩
   ·have hr:=hg.edges b (List.mem_of_getElem? h2) e q
    obtain⟨s1,s2⟩:=hd.step k b h2 hs e q
    refine⟨.inl ⟨by omega,s1⟩,fun z hz=>?_⟩
    rcases hz with⟨z1,z2,z3⟩ | ⟨z1,_⟩
    ·rcases s2 z (by omega) z3 with r | r
     ·exact .inl r
     exact .inr (.inl ⟨h1,z2,r⟩)
    omega
   have hen:EdgN f k (f.blocks.length+i):=⟨b,l,h2,h3,e,he,by rw [q1]⟩
   have heb:e.block.toNat=f.blocks.length+i:=by
    rw [q1]
    simp only
    omega
   rw [heb]
   refine⟨.inr ⟨by omega,k,hs,hen⟩,fun z hz=>?_⟩
   rcases hz with⟨z1,_⟩ | ⟨_,⟨z2,_⟩ | ⟨z2,z3⟩⟩
   ·omega
   ·exact .inl z2
   exact .inr (.inl ⟨h1,z2,z3 k hs hen⟩)
  rw [h3] at he
  have hex:e=x:=by simpa [jumpB] using he
  rw [hex]
  have hsrc:∀k',seenF f k'=true→EdgN f k' k→seenF f x.block.toNat=true∧x.block.toNat<f.blocks.length∧∀j,j<128→((overF f x.block.toNat).has j=true→j=x.block.toNat∨(overF f k').has j=true):=fun k' hs' hen=>by
   rw [h1] at hen
   obtain⟨b',r1,r2⟩:=edgN_src hg hen h2
   obtain⟨s1,s2⟩:=hd.step k' b' r1 hs' x r2
   have hr:=hg.edges b' (List.mem_of_getElem? r1) x r2
   exact⟨s1,by omega,s2⟩
  have hex2:∃k',seenF f k'=true∧EdgN f k' k:=by
   rcases hR with q | q
   ·omega
   exact q.2
  obtain⟨k',e1,e2⟩:=hex2
  obtain⟨s1,s2,_⟩:=hsrc k' e1 e2
  refine⟨.inl ⟨s2,s1⟩,fun z hz=>?_⟩
  rcases hz with⟨z1,z2,z3⟩ | ⟨z1,_⟩
  ·by_cases q:z=x.block.toNat
   ·exact .inl q
   exact .inr (.inr ⟨by omega,.inr ⟨z2,fun k'' f1 f2=>((hsrc k'' f1 f2).2.2 z (by omega) z3).resolve_left q⟩⟩)
  omega
theorem spD_zero(hg:GrW f)(hd:DomW f):∀i,SpD f i 0→i=0:=fun i h=>by
 have hl:=List.length_pos_iff.2 hg.ne
 have hn:=hg.few
 rcases h with⟨_,h2,h3⟩ | ⟨h1,_⟩
 ·exact(hd.zero i (by omega)).1 h3
 omega
theorem spD_lt:∀i j,SpD f i j→i<(splitM f).blocks.length:=fun i j h=>by
 rw [split_len]
 rcases h with⟨_,h2,_⟩ | ⟨_,⟨h2,h3⟩ | ⟨h2,_⟩⟩<;>omega
theorem split_ne(hg:GrW f):(splitM f).blocks≠[]:=fun q=>by
 have hl:=List.length_pos_iff.2 hg.ne
 have:=congrArg List.length q
 rw [split_len] at this
 simp only [List.length_nil] at this
 omega
theorem sumI_nil:∀l:List Block,(∀c∈l,c.ins=[])→sumI l=0
 | [],_=>rfl
 | c::l,h=>by
  have ih:=sumI_nil l fun d hd=>h d (List.mem_cons_of_mem _ hd)
  unfold sumI at ih ⊢
  rw [List.map_cons,List.sum_cons,ih,h c (List.mem_cons_self ..)]
  rfl
theorem split_check(hfit:f.fit)(hc:checkFuncM f=0)(hm:f.blocks.length+(spM f).news.length≤128):checkFuncM (splitM f)=0:=by
 have hv:=checkFunc_v hfit hc
 have hf:=hv.fn
 have hg:=hf.gr
 have hd:=hv.dom
 have hl:=List.length_pos_iff.2 hg.ne
 have hC:=split_c hg hd hm
 have hR0:SpR f 0:=.inl ⟨hl,hd.seen⟩
 have hz:=spD_zero hg hd
 have hlt:=spD_lt (f:=f)
 have hwl:=(split_i f).w.len
 have hmax:∀{i j:Nat},j<(splitM f).blocks.length→SpD f i j→(overF (splitM f) j).has i=true:=fun hj h=>dom_max (split_ne hg) hC hR0 hz hlt hj h
 have hseen:∀{j:Nat},j<128→seenF (splitM f) j=true→SpR f j:=fun hj h=>dom_seen (split_ne hg) hC hR0 hz hlt hj h
 have hold:∀{k:Nat} {n v:Int},k<f.blocks.length→Fine f k n v→Fine (splitM f) k n v:=fun {k n v} hk h=>by
  obtain⟨p,h1,h2⟩:=h
  have hp:=h1.range
  refine⟨p,def_split h1,fun hs=>?_⟩
  have hsf:seenF f k=true:=by
   rcases hseen (by omega) hs with q | q
   ·exact q.2
   omega
  rcases h2 hsf with q | ⟨q1,q2⟩
  ·exact .inl q
  exact .inr ⟨q1,hmax (by rw [split_len];omega) (.inl ⟨hk,by omega,q2⟩)⟩
 have hvals:valsF (splitM f)=valsF f:=by
  unfold valsF splitM
  rw [List.flatMap_append,zip_vals _ _ hwl]
  have:(spM f).news.flatMap blkVals=[]:=by
   rw [List.flatMap_eq_nil_iff]
   intro c hcm
   obtain⟨i,hi⟩:=List.mem_iff_getElem?.1 hcm
   obtain⟨_,_,x,_,_,q⟩:=(split_i f).new i c hi
   rw [q]
   rfl
  rw [this,List.append_nil]
 have hsum:sumI (splitM f).blocks=sumI f.blocks:=by
  have h1:sumI (splitM f).blocks=sumI (List.zipWith setTo f.blocks (spM f).tos)+sumI (spM f).news:=by
   unfold sumI splitM
   rw [List.map_append,List.sum_append]
  have h2:sumI (spM f).news=0:=by
   refine sumI_nil _ fun c hcm=>?_
   obtain⟨i,hi⟩:=List.mem_iff_getElem?.1 hcm
   obtain⟨_,_,x,_,_,q⟩:=(split_i f).new i c hi
   rw [q]
   rfl
  rw [h1,h2,zip_sum _ _ hwl]
  rfl
 have hpar:∀{k:Int},0≤k→k<f.blocks.length→(blkOf (splitM f) k).params=(blkOf f k).params:=fun {k} h0 h1=>by
  have hb:=blk_at h0 h1
  have hlk:(spM f).tos[k.toNat]?=some ((spM f).tos[k.toNat]'(by omega)):=List.getElem?_eq_getElem _
  have:=(split_old (f:=f) (k:=k.toNat) (by omega)).2 ⟨_,_,hb,hlk,rfl⟩
  have e:blkOf (splitM f) k=setTo (blkOf f k) ((spM f).tos[k.toNat]'(by omega)):=by
   show(splitM f).blocks[k.toNat]?.getD default=_
   rw [this]
   rfl
  rw [e]
  rfl
 have hpn:∀(i:Nat),i<(spM f).news.length→(blkOf (splitM f) ((f.blocks.length+i:Nat):Int)).params=[]:=fun i hi=>by
  have hni:(spM f).news[i]?=some ((spM f).news[i]'hi):=List.getElem?_eq_getElem _
  obtain⟨_,_,x,_,_,q⟩:=(split_i f).new i _ hni
  have:(splitM f).blocks[f.blocks.length+i]?=some (jumpB x):=by rw [split_new,hni,q]
  have e:blkOf (splitM f) ((f.blocks.length+i:Nat):Int)=jumpB x:=by
   unfold blkOf
   rw [Int.toNat_natCast,this]
   rfl
  rw [e]
  rfl
 refine check_intro (split_ne hg) (by rw [split_len];exact hm) hf.name (fun c hcm=>?_) (by rw [hsum];exact sum_few hfit hc) (by rw [hpar (by omega) (by omega)];exact hf.args) (by rw [hvals];exact hv.vals) (by rw [hvals];exact hv.nodup) (fun c hcm=>?_) ?_
 ·obtain⟨k,hk⟩:=List.mem_iff_getElem?.1 hcm
  rcases split_case hk with⟨b,l,_,h2,_,h4⟩ | ⟨i,x,_,_,h3,_⟩
  ·rw [h4]
   exact hf.ins b (List.mem_of_getElem? h2)
  rw [h3]
  simp [jumpB]
 ·obtain⟨k,hk⟩:=List.mem_iff_getElem?.1 hcm
  rcases split_case hk with⟨b,l,h1,h2,h3,h4⟩ | ⟨i,x,h1,h2,h3,k0,b0,h4,h5⟩
  ·have hbw:=hf.blk b (List.mem_of_getElem? h2)
   have hbl:=(split_i f).w.each k b l h2 h3
   obtain⟨m1,m2,m3,m4⟩:=edges_of_end hbw.fin
   rw [h4]
   refine⟨hbw.forms,end_intro ?_ m2 m3 (end_cases (f:=f) (t:=b.term) hbw.fin) fun e he=>?_⟩
   ·rw [shape_same (t:=(setTo b l).term) (t':=b.term) rfl rfl rfl rfl hbl]
    exact m1
   rw [split_len]
   rcases split_edge h2 h3 he with q | ⟨i,x,q1,q2,q3⟩
   ·obtain⟨e1,e2⟩:=m4 e q
    exact⟨by omega,by rw [hpar (by omega) (by omega)];exact e2⟩
   have hi:=lt_of_getElem? q2
   rw [q1]
   refine⟨by simp only;omega,?_⟩
   simp only
   rw [hpn i hi]
  have hbw:=hf.blk b0 (List.mem_of_getElem? h4)
  obtain⟨m1,m2,m3,m4⟩:=edges_of_end hbw.fin
  obtain⟨e1,e2⟩:=m4 x h5
  rw [h3]
  refine⟨fun i hi=>(by cases hi),end_intro (by simp [jumpB,shapeM,edgesM,argM]) (by simp [jumpB]) (by simp [jumpB]) rfl fun e he=>?_⟩
  have hex:e=x:=by simpa [jumpB] using he
  rw [hex,split_len]
  exact⟨by omega,by rw [hpar (by omega) (by omega)];exact e2⟩
 refine⟨fun k c hk n i hi a ha=>?_,fun k c hk h1 h4=>?_,fun k c hk e he a ha=>?_⟩
 ·rcases split_case hk with⟨b,l,h1,h2,h3,h4⟩ | ⟨i0,x,_,_,h3,_⟩
  ·rw [h4] at hi
   exact hold h1 (hv.uses.ins k b h2 n i hi a ha)
  rw [h3] at hi
  simp [jumpB] at hi
 ·rcases split_case hk with⟨b,l,q1,q2,q3,q4⟩ | ⟨i0,x,_,_,q3,_⟩
  ·rw [q4] at h1 h4 ⊢
   exact hold q1 (hv.uses.arg k b q2 h1 h4)
  rw [q3] at h1
  exact absurd rfl h1
 rcases split_case hk with⟨b,l,q1,q2,q3,q4⟩ | ⟨i0,x,q1,q2,q3,k0,b0,q4,q5⟩
 ·rw [q4] at he ⊢
  rcases split_edge q2 q3 he with q | ⟨i,x,r1,_,_⟩
  ·exact hold q1 (hv.uses.args k b q2 e q a ha)
  rw [r1] at ha
  cases ha
 rw [q3] at he ⊢
 have hex:e=x:=by simpa [jumpB] using he
 rw [hex] at ha
 obtain⟨p,p1,_⟩:=hv.uses.args k0 b0 q4 x q5 a ha
 have hp:=p1.range
 refine⟨p,def_split p1,fun hs=>.inr ⟨by omega,?_⟩⟩
 have hil:=lt_of_getElem? q2
 refine hmax (by rw [split_len];omega) (.inr ⟨by omega,.inr ⟨by omega,fun k' s1 s2=>?_⟩⟩)
 rw [q1] at s2
 obtain⟨b',r1,r2⟩:=edgN_src hg s2 q2
 obtain⟨p',t1,t2⟩:=hv.uses.args k' b' r1 x r2 a ha
 have:=t1.uniq hv p1
 subst this
 rcases t2 s1 with⟨u1,_⟩ | ⟨_,u2⟩
 ·rw [show p'.1.toNat=k' by omega]
  exact hd.self k' (lt_of_getElem? r1)
 exact u2
end
end Go.Proofs.Ytkhnjeblbiocaaa
namespace Go.Proofs.Ytkhnjeblbiocaaa
open Go.Av
theorem fitIs_nil':fitIs []:=fun _ h=>by cases h
theorem split_fit{f:Func}(hfit:f.fit)(hm:f.blocks.length+(spM f).news.length≤128):(splitM f).fit:=by
 refine⟨hfit.1,by rw [split_len];omega,fun c hcm=>?_⟩
 obtain⟨k,hk⟩:=List.mem_iff_getElem?.1 hcm
 rcases split_case hk with⟨b,l,h1,h2,h3,h4⟩ | ⟨i,x,h1,h2,h3,k0,b0,h4,h5⟩
 ·obtain⟨b1,b2,b3,b4,t1,t2,t3,t4,t5,t6,t7⟩:=hfit.2.2 _ (List.mem_of_getElem? h2)
  have hlen:=(split_i f).w.each k b l h2 h3
  rw [h4]
  refine⟨b1,b2,b3,b4,t1,t2,t3,t4,t5,by show l.length≤_;rw [hlen];exact t6,fun e he=>?_⟩
  rcases split_edge h2 h3 he with q | ⟨i,x,q1,q2,q3⟩
  ·exact t7 e q
  have:=lt_of_getElem? q2
  rw [q1]
  refine⟨?_,fitIs_nil',by simp⟩
  unfold fitI
  simp only
  omega
 obtain⟨b1,b2,b3,b4,t1,t2,t3,t4,t5,t6,t7⟩:=hfit.2.2 _ (List.mem_of_getElem? h4)
 rw [h3]
 refine⟨fitIs_nil',by simp [jumpB],by simp [jumpB],fun v hv=>(by cases hv),by simp [jumpB,fitI],by simp [jumpB,fitI],by simp [jumpB,fitI],fitIs_nil',by simp [jumpB],by simp [jumpB],fun e he=>?_⟩
 have hex:e=x:=by simpa [jumpB] using he
 rw [hex]
 exact t7 x h5
section
variable {f:Func}
end
end Go.Proofs.Ytkhnjeblbiocaaa
namespace Go.Proofs.Ytkhnjeblbiocaaa
open Go.Av
def cntE(t:Int)(es:List Edge):Nat:=es.countP fun e=>decide (e.block=t)
def cntL(t:Int)(ls:List (List Edge)):Nat:=(ls.map (cntE t)).sum
def cntB(t:Int)(bs:List Block):Nat:=cntL t (bs.map fun b=>b.term.to)
theorem sumN_set:∀{l:List Nat} {k:Nat} {a:Nat},l[k]?=some a→∀v,(l.set k v).sum+a=l.sum+v
 | [],k,a,h,v=>by simp at h
 | x::l,0,a,h,v=>by
  simp only [List.getElem?_cons_zero,Option.some.injEq] at h
  subst h
  simp only [List.set_cons_zero,List.sum_cons]
  omega
 | x::l,k+1,a,h,v=>by
  have:=sumN_set (l:=l) (k:=k) (a:=a) (by simpa using h) v
  simp only [List.set_cons_succ,List.sum_cons]
  omega
theorem cntE_set(t:Int):∀{l:List Edge} {n:Nat} {x:Edge},l[n]?=some x→∀y,cntE t (l.set n y)+(if x.block=t then 1 else 0)=cntE t l+if y.block=t then 1 else 0
 | [],k,a,h,v=>by simp at h
 | x::l,0,a,h,v=>by
  simp only [List.getElem?_cons_zero,Option.some.injEq] at h
  subst h
  unfold cntE
  simp only [List.set_cons_zero,List.countP_cons,decide_eq_true_eq]
  omega
 | x::l,k+1,a,h,v=>by
  have:=cntE_set t (l:=l) (n:=k) (x:=a) (by simpa using h) v
  unfold cntE at this ⊢
  simp only [List.set_cons_succ,List.countP_cons]
  omega
theorem cntL_set(t:Int){ls:List (List Edge)}{k:Nat}{l:List Edge}(h:ls[k]?=some l)(m:List Edge):cntL t (ls.set k m)+cntE t l=cntL t ls+cntE t m:=by
 unfold cntL
 rw [List.map_set]
 exact sumN_set (by rw [List.getElem?_map,h];rfl) _
theorem predE_cnt{k:Nat}{ls:List (List Int)}{e:Edge}{j:Nat}(hj:j<ls.length)(he:0≤e.block):((predE k ls e)[j]?.getD []).length=(ls[j]?.getD []).length+if e.block=(j:Int) then 1 else 0:=by
 unfold predE
 rw [List.getElem?_set]
 by_cases h:e.block.toNat=j
 ·rw [if_pos h,h,if_pos hj,if_pos (by omega),Option.getD_some,List.length_append]
  rfl
 rw [if_neg h,if_neg (by omega)]
 rfl
theorem predB_cnt{k:Nat}{j:Nat}:∀(es:List Edge) (ls:List (List Int)),j<ls.length→(∀e∈es,0≤e.block)→((predB k ls es)[j]?.getD []).length=(ls[j]?.getD []).length+cntE (j:Int) es
 | [],ls,_,_=>rfl
 | e::r,ls,hj,he=>by
  show((predB k (predE k ls e) r)[j]?.getD []).length=_
  rw [predB_cnt r (predE k ls e) (by rw [predE_len];exact hj) (fun x hx=>he x (List.mem_cons_of_mem _ hx)),predE_cnt hj (he e List.mem_cons_self)]
  unfold cntE
  simp only [List.countP_cons,decide_eq_true_eq]
  omega
theorem predL_cnt{j:Nat}:∀(bs:List Block) (k:Nat) (ls:List (List Int)),j<ls.length→(∀b∈bs,∀e∈b.term.to,0≤e.block)→((predL k ls bs)[j]?.getD []).length=(ls[j]?.getD []).length+cntB (j:Int) bs
 | [],k,ls,_,_=>rfl
 | b::r,k,ls,hj,he=>by
  show((predL (k+1) (predB k ls b.term.to) r)[j]?.getD []).length=_
  rw [predL_cnt r (k+1) _ (by rw [predB_len];exact hj) (fun x hx=>he x (List.mem_cons_of_mem _ hx)),predB_cnt _ _ hj (he b List.mem_cons_self)]
  unfold cntB cntL
  simp only [List.map_cons,List.sum_cons]
  omega
theorem preds_cnt{f:Func}(he:∀b∈f.blocks,∀e∈b.term.to,0≤e.block){t:Int}(h0:0≤t)(h1:t<f.blocks.length):(predsAt f t).length=cntB t f.blocks:=by
 unfold predsAt predsM
 rw [predL_cnt f.blocks 0 _ (by rw [List.length_replicate];omega) he,List.getElem?_replicate,if_pos (by omega)]
 rw [show((t.toNat:Nat):Int)=t by omega]
 simp
def cntS(t:Int)(S:Sp):Nat:=cntL t S.tos+cntB t S.news
structure SpT(f:Func)(k n:Nat)(S:Sp):Prop where
 i:SpI f S
 rest:∀(j:Nat) b,f.blocks[j]?=some b→k<j→S.tos[j]?=some b.term.to
 cur:∀b l,f.blocks[k]?=some b→S.tos[k]?=some l→∀m,n≤m→l[m]?=b.term.to[m]?
 done:∀(j:Nat) b l,f.blocks[j]?=some b→S.tos[j]?=some l→∀(m:Nat) e,(j<k∨j=k∧m<n)→l[m]?=some e→(f.blocks.length:Int)≤e.block∨critB f j e=false
 old:∀t:Int,t<f.blocks.length→cntS t S=cntB t f.blocks
 new:∀i:Nat,i<S.news.length→cntS ((f.blocks.length+i:Nat):Int) S=1
 none:∀i:Nat,S.news.length≤i→cntS ((f.blocks.length+i:Nat):Int) S=0
theorem spT_start{f:Func}(hr:∀b∈f.blocks,∀e∈b.term.to,e.block<f.blocks.length):SpT f 0 0 (spS f) where
 i:=spI_start f
 rest:=fun j b h _=>by
  unfold spS
  rw [List.getElem?_map,h]
  rfl
 cur:=fun b l h1 h2 m _=>by
  unfold spS at h2
  simp only [List.getElem?_map,h1,Option.map_some,Option.some.injEq] at h2
  rw [h2]
 done:=fun j b l _ _ m e h _=>by omega
 old:=fun t _=>Nat.add_zero _
 new:=fun i h=>by simp [spS] at h
 none:=fun i _=>by
  show cntL _ (f.blocks.map fun b=>b.term.to)+0=0
  unfold cntL
  rw [Nat.add_zero]
  have:∀l∈f.blocks.map (fun b=>b.term.to),cntE ((f.blocks.length+i:Nat):Int) l=0:=fun l hl=>by
   obtain⟨b,hb,rfl⟩:=List.mem_map.1 hl
   unfold cntE
   rw [List.countP_eq_zero]
   intro e he
   have:=hr b hb e he
   simp only [decide_eq_true_eq]
   omega
  generalize f.blocks.map (fun b=>b.term.to)=L at *
  induction L with
  | nil=>rfl
  | cons a r ih =>
   rw [List.map_cons,List.sum_cons,this a List.mem_cons_self,ih fun l hl=>this l (List.mem_cons_of_mem _ hl)]
theorem spT_step{f:Func}{k n:Nat}{S:Sp}(h:SpT f k n S)(hk:k<f.blocks.length)(hn:n<(toOf f (k:Int)).length):SpT f k (n+1) (spStep f k n S):=by
 obtain⟨b,hb⟩:∃b,f.blocks[k]?=some b:=⟨_,List.getElem?_eq_getElem hk⟩
 have hto:toOf f (k:Int)=b.term.to:=by simp [toOf,blkOf,hb]
 obtain⟨l,hl⟩:∃l,S.tos[k]?=some l:=⟨S.tos[k]'(by rw [h.i.w.len];exact hk),List.getElem?_eq_getElem _⟩
 obtain⟨x,hx⟩:∃x,(toOf f (k:Int))[n]?=some x:=⟨_,List.getElem?_eq_getElem hn⟩
 have hi:=spI_step (k:=k) (n:=n) h.i
 have hlx:l[n]?=some x:=by rw [h.cur b l hb hl n (Nat.le_refl _),←hto,hx]
 have hnl:=lt_of_getElem? hlx
 unfold spStep at hi ⊢
 rw [hx] at hi ⊢
 simp only at hi ⊢
 by_cases hc:critB f k x=true
 ·rw [if_pos hc] at hi ⊢
  rw [hl,Option.getD_some] at hi ⊢
  have hcs:∀t,cntS t ⟨S.tos.set k (l.set n ⟨((f.blocks.length+S.news.length:Nat):Int),[]⟩),S.news++[jumpB x]⟩=cntS t S+if ((f.blocks.length+S.news.length:Nat):Int)=t then 1 else 0:=fun t=>by
   have e1:=cntL_set t hl (l.set n ⟨((f.blocks.length+S.news.length:Nat):Int),[]⟩)
   have e2:=cntE_set t hlx ⟨((f.blocks.length+S.news.length:Nat):Int),[]⟩
   have e3:cntB t (S.news++[jumpB x])=cntB t S.news+if x.block=t then 1 else 0:=by
    unfold cntB cntL
    rw [List.map_append,List.map_append,List.sum_append]
    unfold jumpB cntE
    simp only [List.map_cons,List.map_nil,List.sum_cons,List.sum_nil,List.countP_cons,List.countP_nil,decide_eq_true_eq]
    omega
   unfold cntS
   simp only [e3]
   simp only at e2
   omega
  refine⟨hi,fun j c h1 h2=>?_,fun c m h1 h2 z hz=>?_,fun j c m h1 h2 z e h3 h4=>?_,fun t ht=>?_,fun i hi=>?_,fun i hi=>?_⟩
  ·simp only
   rw [List.getElem?_set_ne (by omega)]
   exact h.rest j c h1 h2
  ·simp only at h2
   rw [List.getElem?_set_self (lt_of_getElem? hl)] at h2
   simp only [Option.some.injEq] at h2
   rw [←h2,List.getElem?_set_ne (by omega)]
   exact h.cur c l h1 hl z (by omega)
  ·simp only at h2
   rw [List.getElem?_set] at h2
   split at h2
   ·rename_i hkj
    subst hkj
    rw [if_pos (lt_of_getElem? hl)] at h2
    simp only [Option.some.injEq] at h2
    rw [←h2,List.getElem?_set] at h4
    split at h4
    ·simp only [Option.some.injEq] at h4
     rw [←h4]
     exact .inl (by simp only;omega)
    exact h.done k c l h1 hl z e (by omega) h4
   exact h.done j c m h1 h2 z e (by omega) h4
  ·rw [hcs,h.old t ht,if_neg (by omega)]
   rfl
  ·rw [List.length_append,List.length_singleton] at hi
   rw [hcs]
   by_cases q:i=S.news.length
   ·subst q
    rw [if_pos rfl,h.none _ (Nat.le_refl _)]
   rw [if_neg (by omega),h.new i (by omega)]
  rw [List.length_append,List.length_singleton] at hi
  rw [hcs,if_neg (by omega),h.none i (by omega)]
 rw [if_neg hc] at hi ⊢
 refine⟨h.i,h.rest,fun c m h1 h2 z hz=>h.cur c m h1 h2 z (by omega),fun j c m h1 h2 z e h3 h4=>?_,h.old,h.new,h.none⟩
 by_cases q:j=k∧z=n
 ·obtain⟨q1,q2⟩:=q
  subst q1 q2
  rw [hl] at h2
  simp only [Option.some.injEq] at h2
  subst h2
  rw [hlx] at h4
  simp only [Option.some.injEq] at h4
  subst h4
  exact .inr (by simpa using hc)
 exact h.done j c m h1 h2 z e (by omega) h4
theorem spT_E{f:Func}{k:Nat}(hk:k<f.blocks.length):∀(m n:Nat) {S:Sp},n+m=(toOf f (k:Int)).length→SpT f k n S→SpT f k (n+m) (spE f k m n S)
 | 0,n,S,_,h=>h
 | m+1,n,S,hm,h=>by
  rw [show n+(m+1)=n+1+m by omega]
  exact spT_E hk m (n+1) (by omega) (spT_step h hk (by omega))
theorem spT_next{f:Func}{k:Nat}{S:Sp}(h:SpT f k (toOf f (k:Int)).length S):SpT f (k+1) 0 S where
 i:=h.i
 rest:=fun j b h1 h2=>h.rest j b h1 (by omega)
 cur:=fun b l h1 h2 m _=>by
  rw [h.rest (k+1) b h1 (by omega)] at h2
  simp only [Option.some.injEq] at h2
  rw [h2]
 done:=fun j b l h1 h2 m e h3 h4=>by
  by_cases q:j=k
  ·subst q
   have hto:toOf f (j:Int)=b.term.to:=by simp [toOf,blkOf,h1]
   have hw:=h.i.w.each j b l h1 h2
   have:=lt_of_getElem? h4
   exact h.done j b l h1 h2 m e (.inr ⟨rfl,by rw [hto];omega⟩) h4
  exact h.done j b l h1 h2 m e (by omega) h4
 old:=h.old
 new:=h.new
 none:=h.none
theorem spT_K{f:Func}:∀(m k:Nat) {S:Sp},k+m=f.blocks.length→SpT f k 0 S→SpT f (k+m) 0 (spK f m k S)
 | 0,k,S,_,h=>h
 | m+1,k,S,hm,h=>by
  rw [show k+(m+1)=k+1+m by omega]
  refine spT_K m (k+1) (by omega) (spT_next ?_)
  have:=spT_E (f:=f) (k:=k) (by omega) (toOf f (k:Int)).length 0 (S:=S) (by omega) h
  rwa [Nat.zero_add] at this
theorem split_t{f:Func}(hr:∀b∈f.blocks,∀e∈b.term.to,e.block<f.blocks.length):SpT f f.blocks.length 0 (spM f):=by
 have:=spT_K (f:=f) f.blocks.length 0 (S:=spS f) (by omega) (spT_start hr)
 rwa [Nat.zero_add] at this
theorem zip_to:∀{bs:List Block} {tos:List (List Edge)},tos.length=bs.length→(List.zipWith setTo bs tos).map (fun b=>b.term.to)=tos
 | [],[],_=>rfl
 | b::bs,l::tos,h=>by
  have:=zip_to (bs:=bs) (tos:=tos) (by simpa using h)
  simp only [List.zipWith_cons_cons,List.map_cons,this]
  rfl
 | [],l::tos,h=>by simp at h
 | b::bs,[],h=>by simp at h
theorem split_cnt(f:Func)(t:Int):cntB t (splitM f).blocks=cntS t (spM f):=by
 unfold cntS cntB splitM
 rw [List.map_append,zip_to (split_i f).w.len]
 unfold cntL
 rw [List.map_append,List.sum_append]
theorem split_bare{f:Func}(hg:GrW f)(hg':GrW (splitM f)){k:Nat}{c:Block}(hc:(splitM f).blocks[k]?=some c){e:Edge}(he:e∈c.term.to):critB (splitM f) k e=false:=by
 have hr:∀b∈f.blocks,∀e∈b.term.to,e.block<f.blocks.length:=fun b hb e he=>(hg.edges b hb e he).2
 have T:=split_t hr
 have hbk:blkOf (splitM f) (k:Int)=c:=by
  unfold blkOf
  rw [Int.toNat_natCast,hc]
  rfl
 have her:=hg'.edges c (List.mem_of_getElem? hc) e he
 have hpc:=preds_cnt (f:=splitM f) (fun b hb e he=>by have:=hg'.edges b hb e he;omega) (t:=e.block) (by omega) her.2
 rw [split_cnt] at hpc
 unfold critB
 rw [hbk]
 rcases split_case hc with⟨b,l,h1,h2,h3,h4⟩ | ⟨i,x,h1,h2,h3⟩
 ·subst h4
  obtain⟨m,hm⟩:=List.mem_iff_getElem?.1 he
  have hle:(setTo b l).term.to.length=b.term.to.length:=(split_i f).w.each k b l h2 h3
  rcases T.done k b l h2 h3 m e (.inl h1) hm with q | q
  ·obtain⟨i,hi⟩:∃i:Nat,e.block=((f.blocks.length+i:Nat):Int):=⟨(e.block - f.blocks.length).toNat,by omega⟩
   have hil:i<(spM f).news.length:=by
    have:=her.2
    rw [split_len] at this
    omega
   have:(predsAt (splitM f) e.block).length=1:=by rw [hpc,hi,T.new i hil]
   rw [this]
   simp
  rcases split_edge h2 h3 (e:=e) he with r | ⟨i,x,r1,r2,r3⟩
  ·have hef:=hg.edges b (List.mem_of_getElem? h2) e r
   have hpf:=preds_cnt (f:=f) (fun b hb e he=>by have:=hg.edges b hb e he;omega) (t:=e.block) (by omega) hef.2
   have hbf:blkOf f (k:Int)=b:=by
    unfold blkOf
    rw [Int.toNat_natCast,h2]
    rfl
   unfold critB at q
   rw [hbf] at q
   rw [hle,hpc,T.old _ hef.2,←hpf]
   exact q
  have hil:=lt_of_getElem? r2
  have:(predsAt (splitM f) e.block).length=1:=by rw [hpc,r1,T.new i hil]
  rw [this]
  simp
 have:c.term.to.length=1:=by rw [h3.1];rfl
 rw [this]
 rfl
theorem spE_same{f:Func}{k:Nat}{S:Sp}(h:∀x∈toOf f (k:Int),critB f k x=false):∀(m n:Nat),spE f k m n S=S
 | 0,n=>rfl
 | m+1,n=>by
  have:spStep f k n S=S:=by
   unfold spStep
   split
   ·rfl
   rename_i x hx
   rw [if_neg (by rw [h x (List.mem_of_getElem? hx)];simp)]
  unfold spE
  rw [this]
  exact spE_same h m (n+1)
theorem spK_same{f:Func}{S:Sp}(h:∀k:Nat,∀x∈toOf f (k:Int),critB f k x=false):∀(m k:Nat),spK f m k S=S
 | 0,k=>rfl
 | m+1,k=>by
  unfold spK
  rw [spE_same (h k)]
  exact spK_same h m (k+1)
theorem zip_self:∀bs:List Block,List.zipWith setTo bs (bs.map fun b=>b.term.to)=bs
 | []=>rfl
 | b::bs=>by
  simp only [List.map_cons,List.zipWith_cons_cons,zip_self bs]
  rfl
theorem split_twice{f:Func}(hg:GrW f)(hg':GrW (splitM f)):(spM (splitM f)).news=[]∧splitM (splitM f)=splitM f:=by
 have h:spM (splitM f)=spS (splitM f):=spK_same (fun k x hx=>by
  unfold toOf blkOf at hx
  rw [Int.toNat_natCast] at hx
  cases hc:(splitM f).blocks[k]? with
  | none =>
   rw [hc] at hx
   cases hx
  | some c =>
   rw [hc] at hx
   exact split_bare hg hg' hc hx) _ _
 refine⟨by rw [h];rfl,?_⟩
 generalize splitM f=g at *
 unfold splitM
 rw [h]
 unfold spS
 simp only [zip_self,List.append_nil]
def splitU(u:Unt):Unt:=⟨u.fns.map splitM,u.main⟩
theorem splitU_fn{u:Unt}{k:Int}(h0:0≤k)(h1:k<u.fns.length):fnOf (splitU u) k=splitM (fnOf u k):=by
 unfold fnOf splitU
 rw [List.getElem?_map,List.getElem?_eq_getElem (by omega)]
 rfl
theorem split_blk{f:Func}{k:Int}(h0:0≤k)(h1:k<f.blocks.length):∃l,(spM f).tos[k.toNat]?=some l∧blkOf (splitM f) k=setTo (blkOf f k) l:=by
 have hw:=(split_i f).w.len
 have hl:(spM f).tos[k.toNat]?=some ((spM f).tos[k.toNat]'(by omega)):=List.getElem?_eq_getElem _
 refine⟨_,hl,?_⟩
 have:=(split_old (f:=f) (k:=k.toNat) (by omega)).2 ⟨_,_,blk_at h0 h1,hl,rfl⟩
 conv=>lhs;unfold blkOf
 rw [this]
 rfl
section
variable {u:Unt} (hfit:u.fit) (hc:checkM u=0) (hm:∀f∈u.fns,f.blocks.length+(spM f).news.length≤128)
include hfit hc hm
theorem splitU_fit:(splitU u).fit:=by
 refine⟨hfit.1,by unfold splitU;rw [List.length_map];exact hfit.2.1,fun g hg=>?_⟩
 obtain⟨f,hf,rfl⟩:=List.mem_map.1 hg
 exact split_fit (hfit.2.2 f hf) (hm f hf)
theorem splitU_params{k:Int}(h0:0≤k)(h1:k<u.fns.length):(blkOf (fnOf (splitU u) k) 0).params=(blkOf (fnOf u k) 0).params:=by
 have hg:=pruneU_gr hfit hc (fnOf_mem h0 h1)
 have hn:=List.length_pos_iff.2 hg.ne
 obtain⟨l,_,h⟩:=split_blk (f:=fnOf u k) (k:=0) (by omega) (by omega)
 rw [splitU_fn h0 h1,h]
 rfl
theorem splitU_check:checkM (splitU u)=0:=by
 obtain⟨c1,c2,c3,c4,c5,c6⟩:=check_parts hc
 have hl:(splitU u).fns.length=u.fns.length:=List.length_map ..
 have hmr:=within_iff.1 c3
 refine check_unit (by rw [hl];exact c1) (by rw [hl];exact c2) (by rw [hl];exact c3) (fun g hg=>?_) (by
  have:=splitU_params hfit hc hm (k:=u.main) (by omega) (by omega)
  rw [show(splitU u).main=u.main from rfl,this]
  exact c5) (callsF_intro fun g hg b hb i hi=>?_)
 ·obtain⟨f,hf,rfl⟩:=List.mem_map.1 hg
  exact split_check (hfit.2.2 f hf) (c4 f hf) (hm f hf)
 obtain⟨f,hf,rfl⟩:=List.mem_map.1 hg
 obtain⟨k,hk⟩:=List.mem_iff_getElem?.1 hb
 rcases split_case hk with⟨c,l,h1,h2,h3,h4⟩ | ⟨j,x,h1,h2,h3⟩
 ·have hbm:=List.mem_of_getElem? h2
  have hi':i∈c.ins:=by
   rw [h4] at hi
   exact hi
  have hform:=form_ok (((checkFunc_ok (hfit.2.2 f hf) (c4 f hf)).blk _ hbm).forms i hi')
  rw [calls_same (u:=u) hl (fun k h0 h1=>by rw [splitU_params hfit hc hm h0 h1]) (i:=i) rfl rfl rfl (fun q=>(hform.call (by omega)).1)]
  exact callsF_all c6 f hf _ hbm i hi'
 rw [h3.1] at hi
 cases hi
theorem splitU_tr:UntTr u (splitU u) (fun k=>k) (fun _ _=>True) (fun fn b=>0≤b∧b<(fnOf u fn).blocks.length) (fun _ b=>b) (fun _ _=>[]) 2:=by
 refine⟨List.length_map ..,rfl,fun _ _ _ _ _ h=>h,fun fn h0 h1=>?_,fun fn b h0 h1 hL=>?_⟩
 ·have hg:=pruneU_gr hfit hc (fnOf_mem h0 h1)
  have:=List.length_pos_iff.2 hg.ne
  exact⟨⟨by omega,by omega⟩,rfl,by simp⟩
 have hf:=fnOf_mem h0 h1
 have hg:=pruneU_gr hfit hc hf
 obtain⟨l,hl,hbl⟩:=split_blk hL.1 hL.2
 have hba:=blk_at hL.1 hL.2
 have hlen:=(split_i (fnOf u fn)).w.each _ _ _ hba hl
 have hold:=(split_i (fnOf u fn)).old _ _ _ hba hl
 rw [splitU_fn h0 h1,hbl]
 refine⟨⟨by rw [List.map_id'];rfl,fun _ _=>trivial⟩,?_,fun _ _=>⟨trivial,fun _ _=>trivial⟩,fun i hi=>by simp at hi,⟨rfl,rfl,rfl,hlen⟩,fun _ _=>⟨rfl,trivial⟩,fun k e e' he he'=>?_⟩
 ·show(blkOf (fnOf u fn) b).ins=[]++(blkOf (fnOf u fn) b).ins.map (trI fun k=>k)
  rw [List.nil_append]
  conv=>lhs;rw [←List.map_id (blkOf (fnOf u fn) b).ins]
  exact List.map_congr_left fun i _=>(trI_id i).symm
 have her:=hg.edges _ (List.mem_of_getElem? hba) e (List.mem_of_getElem? he)
 refine⟨⟨by omega,her.2⟩,fun _ _=>trivial,?_⟩
 have he'':l[k]?=some e':=he'
 rcases hold k e he with q | ⟨i,q1,q2⟩
 ·rw [he''] at q
  simp only [Option.some.injEq] at q
  rw [q]
  exact .inl ⟨rfl,by rw [List.map_id'],by simp⟩
 rw [he''] at q1
 simp only [Option.some.injEq] at q1
 have hC:blkOf (splitM (fnOf u fn)) e'.block=jumpB e:=by
  rw [q1]
  unfold blkOf
  simp only [Int.toNat_natCast]
  rw [split_new,q2]
  rfl
 refine .inr ⟨_,e,rfl,?_,?_,?_,rfl,by simp,fun es=>?_⟩
 ·rw [splitU_fn h0 h1,hC];rfl
 ·rw [splitU_fn h0 h1,hC];rfl
 ·rw [splitU_fn h0 h1,hC];rfl
 rw [splitU_fn h0 h1,hC,q1]
 have:bindS es (jumpB e).params (takeS es (⟨((fnOf u fn).blocks.length+i:Nat),[]⟩:Edge).args)=es:=rfl
 rw [this,List.map_id']
 exact⟨rfl,fun _ _=>rfl⟩
theorem splitU_law(he:(runM u 1500).e=0):(runM (splitU u) 1000000).e=0∧(runM (splitU u) 1000000).out=(runM u 1500).out∧(runM (splitU u) 1000000).fin=(runM u 1500).fin∧(runM (splitU u) 1000000).val=(runM u 1500).val:=by
 have hu:=unit_ok hfit hc
 have hc':=splitU_check hfit hc hm
 have hv:=unit_ok (splitU_fit hfit hc hm) hc'
 have hA:runM u 1500=performM u 1500:=by
  unfold runM
  rw [if_neg (by simp [hc]),if_neg (by decide)]
 have hB:runM (splitU u) 1000000=performM (splitU u) 1000000:=by
  unfold runM
  rw [if_neg (by simp [hc']),if_neg (by decide)]
 rw [hA] at he ⊢
 rw [hB]
 obtain⟨q1,q2,q3,q4,q5,q6⟩:=perform_rel (splitU_tr hfit hc hm) hu hv (by omega) (F:=1500) (G:=1000000) (by omega) (by omega) (by omega) he
 exact⟨q1,q2,q3,q4⟩
end
end Go.Proofs.Ytkhnjeblbiocaaa
namespace Go.Proofs.Ytkhnjeblbiocaaa
open Go.Av
theorem blocks_len(bs:List Block):(cellsAll (bs.map Block.enc)).length=bs.length * 7:=by
 induction bs with
 | nil=>rfl
 | cons b r ih =>
  have e:cellsAll ((b::r).map Block.enc)=b.enc.cells++cellsAll (r.map Block.enc):=rfl
  have hb:b.enc.cells.length=7:=rfl
  rw [e,List.length_append,ih,hb,List.length_cons]
  omega
theorem blocks_scalar(bs:List Block):∀d∈cellsAll (bs.map Block.enc),d.scalar:=by
 induction bs with
 | nil=>intro d hd;cases hd
 | cons b r ih =>
  intro d hd
  have e:cellsAll ((b::r).map Block.enc)=b.enc.cells++cellsAll (r.map Block.enc):=rfl
  rw [e] at hd
  rcases List.mem_append.1 hd with q | q
  ·simp only [Block.enc,AVal.cells,List.mem_cons,List.not_mem_nil,or_false] at q
   rcases q with rfl | rfl | rfl | rfl | rfl | rfl | rfl<;>trivial
  exact ih d q
theorem awp_blocks2{P:Program}{kb:Nat}{c:Code}{Q:AEx→St→Prop}{n:Nat}{slots:List (Nat×AVal)}{O:List AObj}{ids:List Nat}{bs T:List Block}{X oid:Nat}{name:Int}
  (hl:ids.length=bs.length) (hX:oid≠X) (hout:O[X]?=some (.cells [aI name,.os oid (bs.length+T.length) 7])) (hlst:O[oid]?=some (.cells (blsC ids bs++cellsAll (T.map Block.enc))))
  (hown:∀(j id:Nat) (b:Block),ids[j]?=some id→bs[j]?=some b→b.term.to≠[]→id≠oid∧id≠X∧O[id]?=some (.cells (edC b.term.to)))
  (hinj:∀(i j id:Nat) (b d:Block),ids[i]?=some id→ids[j]?=some id→bs[i]?=some b→bs[j]?=some d→b.term.to≠[]→d.term.to≠[]→i=j)
  (h:∀O',O'.length=O.length→O'[X]?=some (.cells [aI name,eBlocks (bs++T)])→AWP P kb c Q ⟨n,slots,O'⟩):AWP P kb c Q ⟨n,slots,O⟩:=by
 have hT:=blocks_len T
 refine awp_frzp (A:=oid) (C:=fun i=>mixB i ids bs++cellsAll (T.map Block.enc)) (N:=bs.length) (M:=bs.length * 7+T.length * 7) (fun i=>i * 7+6) (fun i d hd=>by
   rcases List.mem_append.1 hd with q | q
   ·exact mixB_scalar i ids bs d q
   exact blocks_scalar T d q) (fun i=>by rw [List.length_append,mixB_len i hl,hT])
  (fun i O=>O[X]?=some (.cells [aI name,.os oid (bs.length+T.length) 7])∧∀(j id:Nat) (b:Block),i≤j→ids[j]?=some id→bs[j]?=some b→b.term.to≠[]→id≠oid∧id≠X∧O[id]?=some (.cells (edC b.term.to)))
  (fun i O hi hA hf=>?_) bs.length 0 O (by omega) hlst ⟨hout,fun j id b _=>hown j id b⟩ (fun O1 hO1 hA hf=>?_)
 ·have hid:ids[i]?=some (ids[i]'(by omega)):=List.getElem?_eq_getElem _
  have hb:bs[i]?=some (bs[i]'hi):=List.getElem?_eq_getElem _
  generalize ids[i]'(by omega)=id at hid
  generalize bs[i]'hi=b at hb
  obtain⟨m1,m2⟩:=mixB_at i hid hb
  have hml:=lt_of_getElem? m1
  by_cases ht:b.term.to=[]
  ·refine .inl ⟨?_,hf.1,fun j id b hij=>hf.2 j id b (by omega)⟩
   have he:eEdges b.term.to=outE id b.term.to:=by
    rw [ht]
    rfl
   show mixB (i+1) ids bs++_=mixB i ids bs++_
   rw [m2,he]
   congr 1
   apply List.ext_getElem?
   intro j
   rw [List.getElem?_set]
   split
   ·rename_i e
    first | rw [←e,m1] | rw [←e,if_pos (lt_of_getElem? m1),m1]
   rfl
  obtain⟨o1,o2,o3⟩:=hf.2 i id b (Nat.le_refl _) hid hb ht
  refine .inr ⟨id,.cells (edC b.term.to),.os id b.term.to.length 2,eEdges b.term.to,o1,o3,by simp [AObj.isSpare],trivial,?_,?_,FSub.os (cs:=edC b.term.to) o3 (fun x hx=>by obtain⟨e,_,rfl⟩:=List.mem_map.1 hx;rfl) (by simp) (by rw [List.drop_zero,List.take_of_length_le (by rw [edC_len];omega)];exact edC_share _),?_,fun j id' b' hij h1 h2 h3=>?_⟩
  ·show(mixB i ids bs++_)[i * 7+6]?=_
   rw [List.getElem?_append_left hml,m1]
   exact congrArg some (if_neg ht)
  ·show mixB (i+1) ids bs++_=(mixB i ids bs++_).set (i * 7+6) _
   rw [m2,List.set_append_left _ _ hml]
  ·rw [List.getElem?_set_ne (fun e=>hX e),List.getElem?_set_ne (fun e=>o2 e)]
   exact hf.1
  obtain⟨p1,p2,p3⟩:=hf.2 j id' b' (by omega) h1 h2 h3
  refine⟨p1,p2,?_⟩
  rw [List.getElem?_set_ne (fun e=>p1 e.symm),List.getElem?_set_ne (fun e=>?_)]
  ·exact p3
  subst e
  have:=hinj i j id b b' hid h1 hb h2 ht h3
  omega
 have hall:mixB bs.length ids bs++cellsAll (T.map Block.enc)=cellsAll ((bs++T).map Block.enc):=by
  rw [mixB_all hl,List.map_append]
  simp [cellsAll]
 rw [hall] at hA
 refine awp_freeze_in oid hA (by simp [AObj.isSpare]) trivial slots (fun s z hz=>⟨z,hz,.refl z⟩) X (Ne.symm hX) [aI name,.os oid (bs.length+T.length) 7] [aI name,eBlocks (bs++T)] hf.1 rfl (fun d hd=>?_) (fun j a d ha hd=>?_) (h _ (by rw [List.length_set,List.length_set,hO1]) ?_)
 ·simp only [List.mem_cons,List.not_mem_nil,or_false] at hd
  rcases hd with rfl | rfl<;>trivial
 ·match j,ha,hd with
  | 0,ha,hd =>
   simp only [List.getElem?_cons_zero,Option.some.injEq] at ha hd
   subst ha
   subst hd
   exact .refl _
  | 1,ha,hd =>
   simp only [List.getElem?_cons_succ,List.getElem?_cons_zero,Option.some.injEq] at ha hd
   subst ha
   subst hd
   refine FSub.os hA (fun x hx=>?_) (by simp) ?_
   ·obtain⟨b,_,rfl⟩:=List.mem_map.1 hx
    rfl
   have hml:=blocks_len (bs++T)
   rw [List.length_append] at hml
   rw [List.drop_zero,List.take_of_length_le (by omega)]
   exact blocks_share (bs++T)
  | j+2,ha,hd=>simp at ha
 rw [List.getElem?_set_self (by rw [List.length_set];exact lt_of_getElem? hf.1)]
theorem blsC_to{ids:List Nat}{bs:List Block}{T:List AVal}{k id:Nat}{b:Block}(h1:ids[k]?=some id)(h2:bs[k]?=some b):(blsC ids bs++T)[k * 7+6]?=some (outE id b.term.to):=by
 have h3:=blsC_at h1 h2
 have h4:(((blsC ids bs).drop (k * 7)).take 7)[6]?=some (outE id b.term.to):=by
  rw [h3]
  rfl
 rw [List.getElem?_take,if_pos (by omega),List.getElem?_drop] at h4
 rw [List.getElem?_append_left (lt_of_getElem? h4)]
 exact h4
theorem blC_set(id:Nat)(b:Block)(l:List Edge)(h:l.length=b.term.to.length):blC id (setTo b l)=blC id b:=by
 unfold blC setTo outE
 simp only
 by_cases q:b.term.to=[]
 ·rw [if_pos q,if_pos (by rw [q] at h;exact List.length_eq_zero_iff.1 h)]
 rw [if_neg q,if_neg (fun r=>q (by rw [r] at h;exact List.length_eq_zero_iff.1 h.symm)),h]
theorem blsC_set:∀{ids:List Nat} {bs:List Block} {tos:List (List Edge)},tos.length=bs.length→(∀(k:Nat) b l,bs[k]?=some b→tos[k]?=some l→l.length=b.term.to.length)→blsC ids (List.zipWith setTo bs tos)=blsC ids bs
 | [],_,_,_,_=>by simp [blsC]
 | _::_,[],[],_,_=>rfl
 | i::ids,b::bs,l::tos,h,hl=>by
  have e1:blsC (i::ids) (List.zipWith setTo (b::bs) (l::tos))=blC i (setTo b l)++blsC ids (List.zipWith setTo bs tos):=rfl
  have e2:blsC (i::ids) (b::bs)=blC i b++blsC ids bs:=rfl
  rw [e1,e2,blC_set i b l (hl 0 b l rfl rfl),blsC_set (by simpa using h) fun k b l h1 h2=>hl (k+1) b l (by simpa using h1) (by simpa using h2)]
 | _::_,[],_::_,h,_=>by simp at h
 | _::_,_::_,[],h,_=>by simp at h
theorem edC_two{es:List Edge}{n:Nat}{e:Edge}(h:es[n]?=some e):((edC es).drop (n * 2)).take 2=[aI e.block,eIs e.args]:=by
 obtain⟨h1,h2⟩:=edC_at h
 have hl:=lt_of_getElem? h2
 apply List.ext_getElem?
 intro i
 rw [List.getElem?_take]
 by_cases h0:i=0
 ·subst h0
  rw [if_pos (by omega),List.getElem?_drop,Nat.add_zero,h1]
  rfl
 by_cases h3:i=1
 ·subst h3
  rw [if_pos (by omega),List.getElem?_drop,h2]
  rfl
 rw [if_neg (by omega),List.getElem?_eq_none (by simp;omega)]
theorem edC_put{es:List Edge}{n:Nat}(h:n<es.length)(e:Edge):splice (edC es) (n * 2) [aI e.block,eIs e.args]=edC (es.set n e):=by
 have hl:=edC_len es
 have hx:es[n]?=some es[n]:=List.getElem?_eq_getElem h
 have hlen:(edC (es.take n)).length=n * 2:=by rw [edC_len,List.length_take];omega
 have e1:es=es.take n++es[n]::es.drop (n+1):=by rw [←drop_at hx,List.take_append_drop]
 have e2:edC es=edC (es.take n)++(aI es[n].block::eIs es[n].args::edC (es.drop (n+1))):=by
  conv=>lhs;rw [e1]
  rw [edC_append]
  rfl
 have e3:edC (es.set n e)=edC (es.take n)++(aI e.block::eIs e.args::edC (es.drop (n+1))):=by
  have:es.set n e=es.take n++e::es.drop (n+1):=by
   conv=>lhs;rw [e1]
   rw [List.set_append_right _ _ (by rw [List.length_take];omega),List.length_take,show n - min n es.length=0 by omega]
   rfl
  rw [this,edC_append]
  rfl
 rw [e3]
 apply List.ext_getElem?
 intro i
 rw [splice_get (by rw [hl];simp;omega),e2]
 simp only [List.length_cons,List.length_nil]
 by_cases h1:i<n * 2
 ·rw [if_neg (by omega),List.getElem?_append_left (by omega),List.getElem?_append_left (by omega)]
 by_cases h2:i<n * 2+2
 ·rw [if_pos (by omega),List.getElem?_append_right (by omega),hlen]
  rcases (show i=n * 2∨i=n * 2+1 by omega) with q | q
  ·subst q
   rw [Nat.sub_self]
   rfl
  subst q
  rw [show n * 2+1 - n * 2=1 by omega]
  rfl
 rw [if_neg (by omega),List.getElem?_append_right (by omega),List.getElem?_append_right (by omega),hlen]
 obtain⟨j,hj⟩:∃j,i - n * 2=j+2:=⟨i - n * 2 - 2,by omega⟩
 rw [hj]
 rfl
theorem edC_scalar(es:List Edge):∀d∈edC es,d.scalar:=fun d hd=>by
 simp only [edC,List.mem_flatMap] at hd
 obtain⟨e,_,hd⟩:=hd
 simp only [List.mem_cons,List.not_mem_nil,or_false] at hd
 rcases hd with rfl | rfl<;>trivial
theorem sub_splice{O:List AObj}{cs xs ys:List AVal}{i:Nat}(hl:xs.length=ys.length)(hi:i+xs.length≤cs.length)(h:∀(j:Nat) c d,xs[j]?=some c→ys[j]?=some d→Sub O c d)(j:Nat)(c d:AVal)(h1:(splice cs i xs)[j]?=some c)(h2:(splice cs i ys)[j]?=some d):Sub O c d:=by
 rw [splice_get hi] at h1
 rw [splice_get (by omega)] at h2
 rw [←hl] at h2
 split at h1
 ·rename_i q
  rw [if_pos q] at h2
  exact h _ c d h1 h2
 rename_i q
 rw [if_neg q,h1] at h2
 simp only [Option.some.injEq] at h2
 rw [h2]
 exact .refl _
theorem aI_shares(l:List Int):(l.map aI).map AVal.share=l.map aI:=by
 rw [List.map_map]
 rfl
theorem clone_spec(l:List Int)(hl:l.length≤2 ^ 43):PCall Try.prog 64 [eIs l] (eIs l):=by
 have hs:=aI_shares l
 refine zf true 0 Try.func64 Try.ntmps64 ?_
 dsimp only [Tmp,TypeId,slotsOf]
 refine zh1 (za0 ?_)
 refine awp_nil2 0 rfl (fun hn=>?_) ?_
 ·simp -dsimp only [simprocAttr,↓vpre,zp]
  refine zh2 (za0 ?_)
  refine zw0 rfl ?_
  refine zh1 (za0 ?_)
  refine awp_ret ?_
  simp -dsimp only [simprocAttr,↓vpre,zp,zr,Try.results64]
  exact⟨trivial,by show AVal.lst 1 [] Own.sh=.lst 1 (l.map aI) .sh;rw [hn]⟩
 simp -dsimp only [simprocAttr,↓vpre,zp]
 refine zh2 (za0 ?_)
 refine zu0 rfl ?_
 refine zb0 ?_
 refine zg1 ?_
 simp -dsimp only [simprocAttr,↓vpre,zp,hs]
 repeat(refine⟨by omega,?_⟩)
 refine za0 ?_
 refine awp_ret ?_
 simp -dsimp only [simprocAttr,↓vpre,zp,zr,Try.results64]
structure Cx where
 k:Nat
 bid:Nat
 ids:List Nat
 O:List AObj
structure Ci where
 j:Nat
 O:List AObj
structure Ce where
 z:Nat
 tid:Nat
 O:List AObj
theorem ins_take{l:List Ins}{j:Nat}{i:Ins}(h:l[j]?=some i):(l.take (j+1)).map Ins.enc=(l.take j).map Ins.enc++[i.enc]:=by
 rw [List.take_add_one,h,List.map_append]
 rfl
theorem own_norm(O:List AObj)(C0:List AVal):(O++[AObj.cells C0]++[AObj.spare 0]).set O.length (.cells (C0.set 1 (.lst 4 [] (.tok (O++[AObj.cells C0]).length))))=O++[.cells (C0.set 1 (.lst 4 [] (.tok (O.length+1)))),.spare 0]:=by simp
abbrev bcC0(id:Nat)(b:Block)(l:List AVal)(t:AVal):List AVal:=[eIs b.params,.lst 4 l (.tok id),aI b.term.kind,aI b.term.arg,aI b.term.n,eIs b.term.cases,t]
abbrev bcC(id:Nat)(b:Block)(l:List Ins)(t:AVal):List AVal:=[eIs b.params,.lst 4 (l.map Ins.enc) (.tok id),aI b.term.kind,aI b.term.arg,aI b.term.n,eIs b.term.cases,t]
theorem bcC_upto{n id:Nat}(b:Block)(l:List Ins){t:AVal}(h:id<n)(ht:t.upto n):uptoL n (bcC id b l t):=⟨⟨aI_upto _ _,trivial⟩,⟨Ins.map_upto _ _,h⟩,trivial,trivial,trivial,⟨aI_upto _ _,trivial⟩,ht,trivial⟩
theorem copy_spec(f:Func)(hs:SmW f)(hne:f.blocks≠[]):ECall Try.prog 41 [.gone,.cells [aI 0,.lst 7 [] .ex]] [f.enc] (CpR f):=by
 have hcl:=fun(l:List Int) (h:l.length≤4096)=>clone_spec l (by omega)
 have hS0:=copy_start f
 have hn:=hs.few
 obtain⟨N,hN⟩:∃N,N=f.blocks.length:=⟨_,rfl⟩
 rw [←hN] at hn
 refine ecall_all hT Try.func41 rfl (by kernel_rfl) (by simp [Try.ntmps41]) ?_
 show AWP Try.prog _ _ _ ⟨83,_,_⟩
 dsimp only [Tmp,TypeId,slotsOf]
 refine zh1 (za0 ?_)
 refine awp_freeze1 1 2 (.ip none [aI f.name,eBlocks f.blocks]) rfl (by simp [AObj.isSpare]) trivial rfl ?_ ?_
 rotate_left
 simp -dsimp only [simprocAttr,↓vpre,zp]
 ·refine zh1 (za0 ?_)
  refine zg2 ?_
  simp -dsimp only [simprocAttr,↓vpre,zp,←hN]
  refine za0 ?_
  show AWP Try.prog _ _ _ ⟨_,_,[.gone,.cells [aI 0,.lst 7 [] .ex],.gone,.cells [aI 0,.lst 7 [] .ex],.cells [aI f.name,.lst 7 [] .ex]]⟩
  generalize [AObj.gone,.cells [aI 0,.lst 7 [] .ex],.gone,.cells [aI 0,.lst 7 [] .ex],.cells [aI f.name,.lst 7 [] .ex]]=O0 at *
  refine awp_block (awp_loop (ι:={X:Cx // X.k≤N∧CpS f (f.blocks.take X.k) X.bid X.ids X.O}) (fun X=>⟨83,[(1,.ip none [aI f.name,eBlocks f.blocks]),(2,.mp 3 0),(3,.mp 4 0),(15,eBlocks f.blocks),(16,aI N),(17,aI X.1.k)],X.1.O⟩) (fun X=>N - X.1.k) ⟨⟨0,0,[],O0⟩,by simp,hS0⟩ ?_ ?_)
  ·refine zq rfl ?_ ?_
   simp -dsimp only [simprocAttr,↓vpre,zp,zc]
   all_goals rfl
  rintro⟨⟨k,bid,ids,O⟩,hk,hS⟩
  simp only at hk hS
  refine zh1 (za0 ?_)
  apply zk1 rfl<;>intro h
  ·refine zb0 ?_
   have hlt:k<N:=by simpa using h
   obtain⟨b,hb⟩:∃b,f.blocks[k]?=some b:=⟨f.blocks[k]'(by omega),List.getElem?_eq_getElem _⟩
   have hbm:=List.mem_of_getElem? hb
   have htk:f.blocks.take (k+1)=f.blocks.take k++[b]:=by rw [List.take_add_one,hb];rfl
   have hbp:=hs.params b hbm
   have hbi:=hs.ins b hbm
   have hba:=hs.iargs b hbm
   have hbc:=hs.cases b hbm
   have hbt:=hs.to b hbm
   have hbe:=hs.eargs b hbm
   have hcp:=hcl b.params (by omega)
   have hcc:=hcl b.term.cases (by omega)
   have h3l:=lt_of_getElem? hS.r3
   have h4l:=lt_of_getElem? hS.out
   refine awp_seq (awp_block ?_)
   refine zg1 ?_
   simp -dsimp only [simprocAttr,↓vpre,zp,hb]
   refine za0 ?_
   refine awp_local 5 ([eIs b.params,eInss b.ins,aI b.term.kind,aI b.term.arg,aI b.term.n,eIs b.term.cases,eEdges b.term.to]) [(1,.ip none [aI f.name,eBlocks f.blocks]),(2,.mp 3 0),(3,.mp 4 0),(15,eBlocks f.blocks),(16,aI N),(17,aI k),(5,.ip none [eIs b.params,eInss b.ins,aI b.term.kind,aI b.term.arg,aI b.term.n,eIs b.term.cases,eEdges b.term.to])] (by simp [putS,dropS,Go.Av.look]) (by rfl) (by omega) (by simp [putS,dropS,Go.Av.look]) ?_ ?_ ?_
   ·exact hS.up
   ·simp [AVal.upto,uptoL,aI_upto,Edge.map_upto,Ins.map_upto,Block.map_upto,h3l,h4l]
   refine zh1 ?_
   refine zi hcp ?_
   refine⟨ob (by kernel_rfl),?_⟩
   refine za0 ?_
   refine awp_ownCell O.length 1 (sz:=4) (xs:=[]) (snoc_get _ _) rfl ?_
   show AWP Try.prog _ _ _ ⟨_,_,(O++[AObj.cells [eIs b.params,.lst 4 [] .ex,aI b.term.kind,aI b.term.arg,aI b.term.n,eIs b.term.cases,eEdges b.term.to]]++[AObj.spare 0]).set O.length (.cells ([eIs b.params,.lst 4 [] .ex,aI b.term.kind,aI b.term.arg,aI b.term.n,eIs b.term.cases,eEdges b.term.to].set 1 (.lst 4 [] (.tok (O++[AObj.cells [eIs b.params,.lst 4 [] .ex,aI b.term.kind,aI b.term.arg,aI b.term.n,eIs b.term.cases,eEdges b.term.to]]).length))))⟩
   rw [own_norm]
   have hI:=CpI.start hS.up (cs:=bcC (O.length+1) b [] (eEdges b.term.to)) (bcC_upto b [] (by omega) ⟨Edge.map_upto _ _,trivial⟩)
   show AWP Try.prog _ _ _ ⟨_,_,O++[AObj.cells (bcC (O.length+1) b [] (eEdges b.term.to)),.spare 0]⟩
   generalize O++[AObj.cells (bcC (O.length+1) b [] (eEdges b.term.to)),.spare 0]=O2 at *
   refine zh2 (za0 ?_)
   refine awp_block (awp_loop (ι:={X:Ci // X.j≤b.ins.length∧CpI O (bcC (O.length+1) b (b.ins.take X.j) (eEdges b.term.to)) X.j X.O}) (fun X=>⟨83,[(1,.ip none [aI f.name,eBlocks f.blocks]),(2,.mp 3 0),(3,.mp 4 0),(15,eBlocks f.blocks),(16,aI N),(17,aI k),(5,.ip none [eIs b.params,eInss b.ins,aI b.term.kind,aI b.term.arg,aI b.term.n,eIs b.term.cases,eEdges b.term.to]),(6,.mp O.length 0),(28,eInss b.ins),(29,aI b.ins.length),(30,aI X.1.j)],X.1.O⟩) (fun X=>b.ins.length - X.1.j) ⟨⟨0,O2⟩,by simp,hI⟩ ?_ ?_)
   ·refine zq rfl ?_ ?_
    simp -dsimp only [simprocAttr,↓vpre,zp,zc]
    all_goals rfl
   rintro⟨⟨j,O2⟩,hj,hI⟩
   simp only at hj hI
   have hI2:=hI.len
   refine zh1 (za0 ?_)
   apply zk1 rfl<;>intro h
   ·refine zb0 ?_
    have hlj:j<b.ins.length:=by simpa using h
    obtain⟨i,hi⟩:∃i,b.ins[j]?=some i:=⟨b.ins[j],by simp [hlj]⟩
    have hci:=hcl i.args (by have:=hba i (List.mem_of_getElem? hi);omega)
    have hcell:=hI.cell
    have hsp:=hI.sp
    have htl:(b.ins.take j).length=j:=by rw [List.length_take];omega
    refine awp_seq (awp_block ?_)
    refine zg1 ?_
    simp -dsimp only [simprocAttr,↓vpre,zp,hi]
    refine za0 ?_
    refine zh1 ?_
    refine zi hci ?_
    refine za0 ?_
    refine awp_local 8 ([aI i.to,aI i.op,aI i.n,eIs i.args]) [(1,.ip none [aI f.name,eBlocks f.blocks]),(2,.mp 3 0),(3,.mp 4 0),(15,eBlocks f.blocks),(16,aI N),(17,aI k),(5,.ip none [eIs b.params,eInss b.ins,aI b.term.kind,aI b.term.arg,aI b.term.n,eIs b.term.cases,eEdges b.term.to]),(6,.mp O.length 0),(28,eInss b.ins),(29,aI b.ins.length),(30,aI j),(8,.ip none [aI i.to,aI i.op,aI i.n,eIs i.args])] (by simp [putS,dropS,Go.Av.look]) (by rfl) (by omega) (by simp [putS,dropS,Go.Av.look]) ?_ ?_ ?_
    ·exact hI.up
    ·have h6l:=lt_of_getElem? hcell
     simp [AVal.upto,uptoL,aI_upto,Edge.map_upto,Ins.map_upto,Block.map_upto,h6l,show 3<O2.length by omega,show 4<O2.length by omega]
    have hcell':∀y,(O2.set (O.length+1) y)[O.length]?=some (.cells (bcC (O.length+1) b (b.ins.take j) (eEdges b.term.to))):=fun y=>by rw [List.getElem?_set_ne (by omega)];exact hcell
    refine zg0 ?_
    simp -dsimp only [simprocAttr,↓vpre,zp,hcell,hcell',hsp,bcC,List.length_map,htl]
    repeat(refine⟨by omega,?_⟩)
    refine za0 ?_
    have hIn:=(hI.room (j+1)).one (cs':=bcC (O.length+1) b (b.ins.take (j+1)) (eEdges b.term.to)) (bcC_upto b _ (by omega) ⟨Edge.map_upto _ _,trivial⟩)
    show AWP Try.prog _ _ _ ⟨_,_,(O2.set (O.length+1) (AObj.spare (j+1))).set O.length (.cells (bcC0 (O.length+1) b ((b.ins.take j).map Ins.enc++[i.enc]) (eEdges b.term.to)))⟩
    rw [←ins_take hi]
    have hIn:CpI O _ _ ((O2.set (O.length+1) (AObj.spare (j+1))).set O.length (.cells (bcC0 (O.length+1) b ((b.ins.take (j+1)).map Ins.enc) (eEdges b.term.to)))):=hIn
    generalize (O2.set (O.length+1) (AObj.spare (j+1))).set O.length (.cells (bcC0 (O.length+1) b ((b.ins.take (j+1)).map Ins.enc) (eEdges b.term.to)))=O5 at *
    refine zh0 ?_
    repeat(refine⟨by omega,?_⟩)
    refine zl0 ?_
    refine⟨⟨⟨j+1,O5⟩,hlj,hIn⟩,by simp;omega,?_⟩
    refine zq rfl ?_ ?_
    simp -dsimp only [simprocAttr,↓vpre,zp,zc]
    ·exact Sub.int (by simp)
    rfl
   refine awp_exit ?_
   simp -dsimp only [vend,ne_eq,Nat.reduceEqDiff,reduceCtorEq]
   have hjl:b.ins.length≤j:=by
    have:=of_decide_eq_false h
    omega
   rw [List.take_of_length_le hjl] at hI
   have hcell:=hI.cell
   refine zg1 ?_
   simp -dsimp only [simprocAttr,↓vpre,zp,hcell]
   refine .inl ⟨_,hcc,by simp only [uptoL,AVal.upto,zt,zu,aI_upto],later_intro ?_⟩
   simp -dsimp only [simprocAttr,↓vpre,zp,hcell]
   refine za0 ?_
   have hIn:=hI.one (cs':=bcC (O.length+1) b b.ins (eEdges b.term.to)) (bcC_upto b _ (by omega) ⟨Edge.map_upto _ _,trivial⟩)
   show AWP Try.prog _ _ _ ⟨_,_,O2.set O.length (.cells (bcC (O.length+1) b b.ins (eEdges b.term.to)))⟩
   generalize O2.set O.length (.cells (bcC (O.length+1) b b.ins (eEdges b.term.to)))=O5 at *
   have hcell:=hIn.cell
   refine zg1 ?_
   simp -dsimp only [simprocAttr,↓vpre,zp,hcell]
   refine za0 ?_
   have h2l:=hIn.len
   have hnil:bcC (O.length+1) b b.ins (.lst 2 [] .ex)=[eIs b.params,.lst 4 (b.ins.map Ins.enc) (.tok (O.length+1)),aI b.term.kind,aI b.term.arg,aI b.term.n,eIs b.term.cases,.lst 2 [] .ex]:=rfl
   refine awp_retell2 O.length (bcC (O.length+1) b b.ins (.lst 2 [] .ex)) (List.getElem?_set_self (by omega)) rfl (fun d hd=>?_) (fun j c d hc hd=>?_) ?_
   ·simp only [bcC,bcC0,List.mem_cons,List.not_mem_nil,or_false] at hd
    rcases hd with rfl | rfl | rfl | rfl | rfl | rfl | rfl<;>trivial
   ·match j,hc,hd with
    | 0,hc,hd=>exact Sub.of_eq (by simpa [bcC,bcC0] using hc.symm.trans hd)
    | 1,hc,hd=>exact Sub.of_eq (by simpa [bcC,bcC0] using hc.symm.trans hd)
    | 2,hc,hd=>exact Sub.of_eq (by simpa [bcC,bcC0] using hc.symm.trans hd)
    | 3,hc,hd=>exact Sub.of_eq (by simpa [bcC,bcC0] using hc.symm.trans hd)
    | 4,hc,hd=>exact Sub.of_eq (by simpa [bcC,bcC0] using hc.symm.trans hd)
    | 5,hc,hd=>exact Sub.of_eq (by simpa [bcC,bcC0] using hc.symm.trans hd)
    | 6,hc,hd =>
     simp only [bcC,bcC0,List.getElem?_cons_succ,List.getElem?_cons_zero,Option.some.injEq] at hc hd
     subst hc
     subst hd
     exact Sub.nil_lst 2
    | j+7,hc,hd=>simp at hc
   rw [List.set_set]
   have hE:=CpE.start (cs:=bcC (O.length+1) b b.ins) (hIn.one (cs':=bcC (O.length+1) b b.ins (.lst 2 [] .ex)) (bcC_upto b _ (by omega) ⟨trivial,trivial⟩))
   generalize O5.set O.length (.cells (bcC (O.length+1) b b.ins (.lst 2 [] .ex)))=O6 at *
   refine zh2 (za0 ?_)
   refine awp_block (awp_loop (ι:={X:Ce // X.z≤b.term.to.length∧CpE O (bcC (O.length+1) b b.ins) X.tid (b.term.to.take X.z) X.O}) (fun X=>⟨83,[(1,.ip none [aI f.name,eBlocks f.blocks]),(2,.mp 3 0),(3,.mp 4 0),(15,eBlocks f.blocks),(16,aI N),(17,aI k),(5,.ip none [eIs b.params,eInss b.ins,aI b.term.kind,aI b.term.arg,aI b.term.n,eIs b.term.cases,eEdges b.term.to]),(6,.mp O.length 0),(55,eEdges b.term.to),(56,aI b.term.to.length),(57,aI X.1.z)],X.1.O⟩) (fun X=>b.term.to.length - X.1.z) ⟨⟨0,0,O6⟩,by simp,hE⟩ ?_ ?_)
   ·refine zq rfl ?_ ?_
    simp -dsimp only [simprocAttr,↓vpre,zp,zc]
    all_goals rfl
   rintro⟨⟨z,tid,O3⟩,hz,hE⟩
   simp only at hz hE
   have hE2:=hE.len
   refine zh1 (za0 ?_)
   apply zk1 rfl<;>intro h
   ·refine zb0 ?_
    have hlz:z<b.term.to.length:=by simpa using h
    obtain⟨e,he⟩:∃e,b.term.to[z]?=some e:=⟨b.term.to[z],by simp [hlz]⟩
    have hce:=hcl e.args (hbe e (List.mem_of_getElem? he))
    have hcell:=hE.cell
    have hti:b.term.to.take (z+1)=b.term.to.take z++[e]:=by rw [List.take_add_one,he];rfl
    have htl:(b.term.to.take z).length=z:=by rw [List.length_take];omega
    have h6l:=lt_of_getElem? hcell
    refine awp_seq (awp_block ?_)
    refine zg1 ?_
    simp -dsimp only [simprocAttr,↓vpre,zp,he]
    refine za0 ?_
    refine awp_local 10 ([aI e.block,eIs e.args]) [(1,.ip none [aI f.name,eBlocks f.blocks]),(2,.mp 3 0),(3,.mp 4 0),(15,eBlocks f.blocks),(16,aI N),(17,aI k),(5,.ip none [eIs b.params,eInss b.ins,aI b.term.kind,aI b.term.arg,aI b.term.n,eIs b.term.cases,eEdges b.term.to]),(6,.mp O.length 0),(55,eEdges b.term.to),(56,aI b.term.to.length),(57,aI z),(10,.ip none [aI e.block,eIs e.args])] (by simp [putS,dropS,Go.Av.look]) (by rfl) (by omega) (by simp [putS,dropS,Go.Av.look]) ?_ ?_ ?_
    ·exact hE.up
    ·simp [AVal.upto,uptoL,aI_upto,Edge.map_upto,Ins.map_upto,Block.map_upto,h6l,show 3<O3.length by omega,show 4<O3.length by omega]
    by_cases hzn:b.term.to.take z=[]
    ·have hox:outX tid (b.term.to.take z)=.lst 2 [] .ex:=if_pos hzn
     rw [hox] at hcell
     have hcell':∀X,(O3++X)[O.length]?=some (.cells (bcC (O.length+1) b b.ins (.lst 2 [] .ex))):=fun X=>at_left hcell
     refine zs0 ?_
     simp -dsimp only [simprocAttr,↓vpre,zp,hcell,hcell',bcC,cellsAll_v,cells_os']
     repeat(refine⟨by omega,?_⟩)
     refine .inl ⟨_,hce,by simp only [uptoL,AVal.upto,zt,zu,aI_upto],later_intro ?_⟩
     simp -dsimp only [simprocAttr,↓vpre,zp,hcell,hcell',bcC,cellsAll_v,cells_os']
     repeat(refine⟨by omega,?_⟩)
     refine⟨trivial,?_⟩
     refine⟨ob (by kernel_rfl),?_⟩
     refine za0 ?_
     have hput:CpE O (bcC (O.length+1) b b.ins) O3.length (b.term.to.take z++[e]) ((O3++[AObj.cells [aI e.block,eIs e.args]]).set O.length (.cells (bcC (O.length+1) b b.ins (.os O3.length 1 2)))):=hE.push e (fun v n hv hn=>bcC_upto b _ (by omega) hv) rfl hE.up (fun _ _=>rfl) (by rw [hzn];rfl) (by rw [hzn];rfl)
     show AWP Try.prog _ _ _ ⟨_,_,(O3++[AObj.cells [aI e.block,eIs e.args]]).set O.length (.cells (bcC (O.length+1) b b.ins (.os O3.length 1 2)))⟩
     generalize (O3++[AObj.cells [aI e.block,eIs e.args]]).set O.length (.cells (bcC (O.length+1) b b.ins (.os O3.length 1 2)))=O7 at *
     refine zh0 ?_
     repeat(refine⟨by omega,?_⟩)
     refine zl0 ?_
     refine⟨⟨⟨z+1,O3.length,O7⟩,hlz,by rw [hti];exact hput⟩,by simp;omega,?_⟩
     refine zq rfl ?_ ?_
     simp -dsimp only [simprocAttr,↓vpre,zp,zc]
     ·exact Sub.int (by simp)
     rfl
    obtain⟨o1,o2⟩:=hE.own hzn
    have hox:outX tid (b.term.to.take z)=.os tid z 2:=by
     unfold outX
     rw [if_neg hzn,htl]
    rw [hox] at hcell
    have hcell':∀X,(O3.set tid .gone++X)[O.length]?=some (.cells (bcC (O.length+1) b b.ins (.os tid z 2))):=fun X=>at_left (at_set_ne hcell (by omega))
    have hTT:(edC (b.term.to.take z)).take (z * 2)=edC (b.term.to.take z):=List.take_of_length_le (by rw [edC_len];omega)
    have hel:=edC_len (b.term.to.take z)
    rw [htl] at hel
    refine zg0 ?_
    simp -dsimp only [simprocAttr,↓vpre,zp,hcell,hcell',bcC,o2,hTT,hel,cellsAll_v,cells_os']
    repeat(refine⟨by omega,?_⟩)
    refine .inl ⟨_,hce,by simp only [uptoL,AVal.upto,zt,zu,aI_upto],later_intro ?_⟩
    simp -dsimp only [simprocAttr,↓vpre,zp,hcell,hcell',bcC,o2,hTT,hel,cellsAll_v,cells_os']
    repeat(refine⟨by omega,?_⟩)
    refine⟨trivial,?_⟩
    refine⟨ob (by kernel_rfl),?_⟩
    refine za0 ?_
    have hput:CpE O (bcC (O.length+1) b b.ins) O3.length (b.term.to.take z++[e]) ((O3.set tid .gone++[AObj.cells (edC (b.term.to.take z)++[aI e.block,eIs e.args])]).set O.length (.cells (bcC (O.length+1) b b.ins (.os O3.length (z+1) 2)))):=hE.push (O4:=O3.set tid .gone) e (fun v n hv hn=>bcC_upto b _ (by omega) hv) (List.length_set) (uptoO_set hE.up trivial) (fun k hk=>by rw [List.getElem?_set_ne (Ne.symm (hk hzn))]) (by rw [edC_snoc]) (by rw [htl])
    show AWP Try.prog _ _ _ ⟨_,_,(O3.set tid .gone++[AObj.cells (edC (b.term.to.take z)++[aI e.block,eIs e.args])]).set O.length (.cells (bcC (O.length+1) b b.ins (.os O3.length (z+1) 2)))⟩
    generalize (O3.set tid .gone++[AObj.cells (edC (b.term.to.take z)++[aI e.block,eIs e.args])]).set O.length (.cells (bcC (O.length+1) b b.ins (.os O3.length (z+1) 2)))=O7 at *
    refine zh0 ?_
    repeat(refine⟨by omega,?_⟩)
    refine zl0 ?_
    refine⟨⟨⟨z+1,O3.length,O7⟩,hlz,by rw [hti];exact hput⟩,by simp;omega,?_⟩
    refine zq rfl ?_ ?_
    simp -dsimp only [simprocAttr,↓vpre,zp,zc]
    ·exact Sub.int (by simp)
    rfl
   refine awp_exit ?_
   simp -dsimp only [vend,ne_eq,Nat.reduceEqDiff,reduceCtorEq]
   have hzl:b.term.to.length≤z:=by
    have:=of_decide_eq_false h
    omega
   rw [List.take_of_length_le hzl] at hE
   have hcell:=hE.cell
   have hout:=hS.out
   have ho4:=hE.keep 4 (by omega)
   rw [hout] at ho4
   have htkl:(f.blocks.take k).length=k:=by rw [List.length_take];omega
   have hown:=hE.own
   have h6l:=lt_of_getElem? hcell
   by_cases hdn:f.blocks.take k=[]
   ·have hob:outBl bid (f.blocks.take k)=.lst 7 [] .ex:=if_pos hdn
    rw [hob] at ho4
    have ho4':∀X,(O3++X)[4]?=some (.cells [aI f.name,.lst 7 [] .ex]):=fun X=>at_left ho4
    refine zs0 ?_
    simp -dsimp only [simprocAttr,↓vpre,zp,hcell,bcC,ho4,ho4',cellsAll_v,cells_os',outX_share,outE_share]
    repeat(refine⟨by omega,?_⟩)
    refine⟨trivial,?_⟩
    refine za0 ?_
    have hput:CpS f (f.blocks.take k++[b]) O3.length (ids++[tid]) ((O3++[AObj.cells (blC tid b)]).set 4 (.cells [aI f.name,.os O3.length 1 7])):=hS.snoc (by omega) hE.up (fun k hk _=>hE.keep k hk) (fun q=>⟨by have:=(hown q).1;omega,(hown q).2⟩) (by rw [blsC_snoc hS.cp.li,hdn];simp [blsC]) (by rw [hdn];rfl)
    show AWP Try.prog _ _ _ ⟨_,_,(O3++[AObj.cells (blC tid b)]).set 4 (.cells [aI f.name,.os O3.length 1 7])⟩
    generalize (O3++[AObj.cells (blC tid b)]).set 4 (.cells [aI f.name,.os O3.length 1 7])=O7 at *
    refine zh0 ?_
    repeat(refine⟨by omega,?_⟩)
    refine zl0 ?_
    refine⟨⟨⟨k+1,O3.length,ids++[tid],O7⟩,hlt,by rw [htk];exact hput⟩,by simp;omega,?_⟩
    refine zq rfl ?_ ?_
    simp -dsimp only [simprocAttr,↓vpre,zp,zc]
    ·exact Sub.int (by simp)
    rfl
   obtain⟨b1,b2⟩:=hS.blk hdn
   have hbl:=lt_of_getElem? b2
   have b3:=hE.keep bid hbl
   rw [b2] at b3
   have hob:outBl bid (f.blocks.take k)=.os bid k 7:=by
    unfold outBl
    rw [if_neg hdn,htkl]
   rw [hob] at ho4
   have ho4':∀X,(O3.set bid .gone++X)[4]?=some (.cells [aI f.name,.os bid k 7]):=fun X=>at_left (at_set_ne ho4 (by omega))
   have hbll:=blsC_len hS.cp.li
   rw [htkl] at hbll
   have hTT:(blsC ids (f.blocks.take k)).take (k * 7)=blsC ids (f.blocks.take k):=List.take_of_length_le (by omega)
   refine zg0 ?_
   simp -dsimp only [simprocAttr,↓vpre,zp,hcell,bcC,ho4,ho4',b3,hTT,hbll,cellsAll_v,cells_os',outX_share,outE_share]
   repeat(refine⟨by omega,?_⟩)
   refine⟨trivial,?_⟩
   refine za0 ?_
   have hput:CpS f (f.blocks.take k++[b]) O3.length (ids++[tid]) ((O3.set bid .gone++[AObj.cells (blsC ids (f.blocks.take k)++blC tid b)]).set 4 (.cells [aI f.name,.os O3.length (k+1) 7])):=by
    have:=hS.snoc (O1:=O3.set bid .gone) (b:=b) (tid:=tid) (by rw [List.length_set];omega) (by rw [List.length_set];exact uptoO_set hE.up trivial) (fun k hk hkb=>by rw [List.getElem?_set_ne (Ne.symm (hkb hdn))];exact hE.keep k hk) (fun q=>⟨by have:=(hown q).1;omega,by rw [List.getElem?_set_ne (by have:=(hown q).1;omega)];exact(hown q).2⟩) (blsC_snoc hS.cp.li tid b).symm rfl
    rw [List.length_set,htkl] at this
    exact this
   show AWP Try.prog _ _ _ ⟨_,_,(O3.set bid .gone++[AObj.cells (blsC ids (f.blocks.take k)++blC tid b)]).set 4 (.cells [aI f.name,.os O3.length (k+1) 7])⟩
   generalize (O3.set bid .gone++[AObj.cells (blsC ids (f.blocks.take k)++blC tid b)]).set 4 (.cells [aI f.name,.os O3.length (k+1) 7])=O7 at *
   refine zh0 ?_
   repeat(refine⟨by omega,?_⟩)
   refine zl0 ?_
   refine⟨⟨⟨k+1,O3.length,ids++[tid],O7⟩,hlt,by rw [htk];exact hput⟩,by simp;omega,?_⟩
   refine zq rfl ?_ ?_
   simp -dsimp only [simprocAttr,↓vpre,zp,zc]
   ·exact Sub.int (by simp)
   rfl
  refine awp_exit ?_
  simp -dsimp only [vend,ne_eq,Nat.reduceEqDiff,reduceCtorEq]
  have hkN:k=N:=by
   have:=of_decide_eq_false h
   omega
  subst hkN
  rw [List.take_of_length_le (by omega)] at hS
  have hout:=hS.out
  have hr3:=hS.r3
  have hob:outBl bid f.blocks=.os bid f.blocks.length 7:=if_neg hne
  rw [hob] at hout
  have hbl:=lt_of_getElem? (hS.blk hne).2
  have hR:=hS.done hne (cs:=[aI f.name,.os bid f.blocks.length 7]) ⟨trivial,hbl,trivial⟩
  have h3l:=lt_of_getElem? hr3
  have hr3':(O.set 3 (.cells [aI f.name,.os bid f.blocks.length 7]))[3]?=some (.cells [aI f.name,.os bid f.blocks.length 7]):=List.getElem?_set_self h3l
  refine zg1 ?_
  simp -dsimp only [simprocAttr,↓vpre,zp,hout,hr3]
  refine za0 ?_
  refine awp_ret ?_
  simp -dsimp only [simprocAttr,↓vpre,zp,RetAll,Try.results41,retVals,retVal,mkRet,seqPost_ret,blockPost_ret,loopPost_ret,hr3']
  exact hR
 exact FSub.mp rfl rfl
theorem sm_w{f:Func}(hfit:f.fit)(hc:checkFuncM f=0):SmW f:=by
 have hw:=checkFunc_ok hfit hc
 have hg:=hw.gr
 have hpar:∀b∈f.blocks,b.params.length≤4096:=fun b hb=>by
  have:=(hw.blk b hb).few
  omega
 exact {
  few:=hw.few
  params:=hpar
  ins:=hw.ins
  iargs:=fun b hb i hi=>(form_ok ((hw.blk b hb).forms i hi)).len
  cases:=fun b hb=>(end_ok (hw.blk b hb).fin).cases
  to:=fun b hb=>hg.to b hb
  eargs:=fun b hb e he=>by
   have h1:=(end_ok (hw.blk b hb).fin).edges e he
   rw [h1.2]
   have hr:=hg.edges b hb e he
   have hx:f.blocks[e.block.toNat]?=some (f.blocks[e.block.toNat]'(by omega)):=List.getElem?_eq_getElem _
   have:blkOf f e.block=f.blocks[e.block.toNat]'(by omega):=by simp [blkOf,hx]
   rw [this]
   exact hpar _ (List.getElem_mem _) }
def splitR(f:Func):AVal:=if checkFuncM f=0 then (if 128<f.blocks.length+(spM f).news.length then .tup [.agg [aI 0,.lst 7 [] .sh],aI 2] else .tup [(splitM f).enc,aI 0]) else .tup [.agg [aI 0,.lst 7 [] .sh],aI (checkFuncM f)]
structure Sx where
 k:Nat
 S:Sp
 bid:Nat
 O:List AObj
theorem spStep_news(f:Func)(k n:Nat)(S:Sp):(spStep f k n S).news.length≤S.news.length+1:=by
 unfold spStep
 split
 ·omega
 split
 ·simp
 omega
theorem eIss_up(n:Nat)(l:List (List Int)):uptoL n (l.map eIs):=by
 rw [uptoL_iff]
 intro c hc
 obtain⟨x,_,rfl⟩:=List.mem_map.1 hc
 exact⟨aI_upto _ _,trivial⟩
theorem split_spec(f:Func)(hfit:f.fit):PCall Try.prog 21 [f.enc] (splitR f):=by
 have hpr:=preds_spec f hfit
 unfold predsR at hpr
 unfold splitR
 by_cases hc:checkFuncM f=0
 ·rw [if_pos hc] at hpr ⊢
  have hg:=(checkFunc_ok hfit hc).gr
  have hsm:=sm_w hfit hc
  have hn:f.blocks.length≤128:=hg.few
  have hcp:=copy_spec f hsm hg.ne
  have hprl:=preds_len f
  obtain⟨R,hR0⟩:∃R,R=spM f:=⟨_,rfl⟩
  have hsp:splitM f=⟨f.name,List.zipWith setTo f.blocks R.tos++R.news⟩:=by rw [hR0];rfl
  rw [hsp,←hR0]
  unfold spM at hR0
  refine zf true 0 Try.func21 Try.ntmps21 ?_
  dsimp only [Tmp,TypeId,slotsOf]
  refine zh1 (za0 ?_)
  refine awp_freeze1 1 0 (.ip none [aI f.name,eBlocks f.blocks]) rfl (by simp [AObj.isSpare]) trivial rfl ?_ ?_
  rotate_left
  simp -dsimp only [simprocAttr,↓vpre,zp]
  ·refine zh1 ?_
   refine zi hpr ?_
   refine za0 ?_
   refine zh2 (za0 ?_)
   apply zk0 rfl<;>intro h
   ·cases h
   refine zb0 ?_
   refine awp_seq (awp_call_ex ⟨false,false⟩ hT 1 rfl rfl rfl (by simp) ?_)
   simp -dsimp only [simprocAttr,↓vpre,zp]
   refine⟨CpR f,cert_ecallE rfl (by simp) rfl rfl hcp,fun r O' hR=>?_⟩
   obtain⟨ids,bid,hr,hup,hg0,hg1,⟨hb5,hbO⟩,hco,hne⟩:=hR
   subst hr
   simp -dsimp only [simprocAttr,↓vpre,zp]
   refine za0 ?_
   have hS0:=SpO.start hup hg1 ⟨hb5,hbO⟩ hco hne
   generalize O'++[AObj.cells [aI f.name,.os bid f.blocks.length 7]]=O0 at *
   generalize O'.length=X0 at *
   refine zh2 (za0 ?_)
   refine awp_block (awp_loop (ι:={X:Sx // X.k≤f.blocks.length∧SpO f ids X0 X.S X.bid X.O∧R=spK f (f.blocks.length - X.k) X.k X.S∧X.S.news.length≤X.k * 257∧∀(j:Nat) b,X.k≤j→f.blocks[j]?=some b→X.S.tos[j]?=some b.term.to}) (fun X=>⟨78,[(1,.ip none [aI f.name,eBlocks f.blocks]),(2,.mp 1 0),(4,.lst 1 ((predsM f).map eIs) .sh),(6,.mp X0 0),(23,eBlocks f.blocks),(24,aI f.blocks.length),(25,aI X.1.k)],X.1.O⟩) (fun X=>f.blocks.length - X.1.k) ⟨⟨0,spS f,bid,O0⟩,by simp,hS0,by simpa using hR0,by simp [spS],fun j b _ h=>by simp [spS,h]⟩ ?_ ?_)
   ·refine zq rfl ?_ ?_
    simp -dsimp only [simprocAttr,↓vpre,zp,zc]
    all_goals rfl
   rintro⟨⟨k,S,bid,O⟩,hk,hS,hke,hnw,hrest⟩
   simp only at hk hS hke hnw hrest
   refine zh1 (za0 ?_)
   apply zk1 rfl<;>intro h
   ·refine zb0 ?_
    have hlt:k<f.blocks.length:=by simpa using h
    obtain⟨b,hb⟩:∃b,f.blocks[k]?=some b:=⟨_,List.getElem?_eq_getElem hlt⟩
    obtain⟨id,hid⟩:∃id,ids[k]?=some id:=⟨ids[k]'(by rw [hS.li];omega),List.getElem?_eq_getElem _⟩
    have hbo:blkOf f (k:Int)=b:=by simp [blkOf,hb]
    have hto:toOf f (k:Int)=b.term.to:=by unfold toOf;rw [hbo]
    have hbt:=hg.to b (List.mem_of_getElem? hb)
    have hbe:=hg.edges b (List.mem_of_getElem? hb)
    rw [show f.blocks.length - k=(f.blocks.length - (k+1))+1 by omega] at hke
    simp only [spK] at hke
    rw [hto] at hke
    obtain⟨S1,hS1⟩:∃S1,S1=spE f k b.term.to.length 0 S:=⟨_,rfl⟩
    rw [←hS1] at hke
    have hout:=hS.out
    have hbl:=hS.bl.2
    have hcell:=blsC_to (T:=cellsAll (S.news.map Block.enc)) hid hb
    have hcl:(blsC ids f.blocks++cellsAll (S.news.map Block.enc)).length=(f.blocks.length+S.news.length) * 7:=by
     rw [List.length_append,blsC_len hS.li,blocks_len]
     omega
    refine awp_seq (awp_block ?_)
    refine zh1 (za0 ?_)
    by_cases ht0:b.term.to=[]
    ·have hoe:outE id b.term.to=.lst 2 [] .sh:=if_pos ht0
     rw [hoe] at hcell
     refine zg1 ?_
     simp -dsimp only [simprocAttr,↓vpre,zp,hout,hbl,hcell,hcl,Int.toNat_natCast]
     repeat(refine⟨by omega,?_⟩)
     refine za0 ?_
     refine zh1 (za0 ?_)
     refine awp_block (awp_loop (ι:=Unit) (fun _=>⟨78,[(1,.ip none [aI f.name,eBlocks f.blocks]),(2,.mp 1 0),(4,.lst 1 ((predsM f).map eIs) .sh),(6,.mp X0 0),(23,eBlocks f.blocks),(24,aI f.blocks.length),(25,aI k),(36,aI 0),(37,aI 0)],O⟩) (fun _=>0) () ?_ ?_)
     ·refine zq rfl ?_ ?_
      simp -dsimp only [simprocAttr,↓vpre,zp,zc]
      all_goals rfl
     rintro⟨⟩
     refine zh1 (za0 ?_)
     refine zu1 rfl ?_
     refine awp_exit ?_
     simp -dsimp only [vend,ne_eq,Nat.reduceEqDiff,reduceCtorEq]
     have hS1e:S1=S:=by
      rw [hS1,ht0]
      rfl
     rw [hS1e] at hke
     refine zh0 ?_
     repeat(refine⟨by omega,?_⟩)
     refine zl0 ?_
     refine⟨⟨⟨k+1,S,bid,O⟩,hlt,hS,hke,by simp only;omega,fun j b hj=>hrest j b (by simp only at hj;omega)⟩,by simp;omega,?_⟩
     refine zq rfl ?_ ?_
     simp -dsimp only [simprocAttr,↓vpre,zp,zc]
     ·exact Sub.int (by simp)
     rfl
    have hoe:outE id b.term.to=.os id b.term.to.length 2:=if_neg ht0
    rw [hoe] at hcell
    refine zg1 ?_
    simp -dsimp only [simprocAttr,↓vpre,zp,hout,hbl,hcell,hcl,Int.toNat_natCast]
    repeat(refine⟨by omega,?_⟩)
    refine za0 ?_
    refine zh1 (za0 ?_)
    refine awp_block (awp_loop (ι:={X:Sx // X.k≤b.term.to.length∧SpO f ids X0 X.S X.bid X.O∧S1=spE f k (b.term.to.length - X.k) X.k X.S∧X.S.news.length≤k * 257+X.k∧(∀(j:Nat) c,k+1≤j→f.blocks[j]?=some c→X.S.tos[j]?=some c.term.to)∧∃l,X.S.tos[k]?=some l∧l.length=b.term.to.length∧l.drop X.k=b.term.to.drop X.k}) (fun X=>⟨78,[(1,.ip none [aI f.name,eBlocks f.blocks]),(2,.mp 1 0),(4,.lst 1 ((predsM f).map eIs) .sh),(6,.mp X0 0),(23,eBlocks f.blocks),(24,aI f.blocks.length),(25,aI k),(8,.os id b.term.to.length 2),(35,.os id b.term.to.length 2),(36,aI b.term.to.length),(37,aI X.1.k)],X.1.O⟩) (fun X=>b.term.to.length - X.1.k) ⟨⟨0,S,bid,O⟩,by simp,hS,by simpa using hS1,by simpa using hnw,fun j c hj=>hrest j c (by omega),b.term.to,hrest k b (Nat.le_refl _) hb,rfl,rfl⟩ ?_ ?_)
    ·refine zq rfl ?_ ?_
     simp -dsimp only [simprocAttr,↓vpre,zp,zc]
     all_goals rfl
    rintro⟨⟨n,S,bid,O⟩,hz,hS,hze,hnw,hrest,l,hl,hll,hld⟩
    simp only at hz hS hze hnw hrest hl hld
    refine zh1 (za0 ?_)
    apply zk1 rfl<;>intro h
    ·refine zb0 ?_
     have hlz:n<b.term.to.length:=by simpa using h
     obtain⟨x,hx⟩:∃x,b.term.to[n]?=some x:=⟨b.term.to[n],by simp [hlz]⟩
     have hlx:l[n]?=some x:=by
      have h1:(l.drop n)[0]?=(b.term.to.drop n)[0]?:=by rw [hld]
      rw [List.getElem?_drop,List.getElem?_drop,Nat.add_zero,hx] at h1
      exact h1
     have hxe:=hbe x (List.mem_of_getElem? hx)
     obtain⟨o1,o2,o3,o4⟩:=hS.own k id b l hid hb hl ht0
     have h2:=edC_two hlx
     have hel:=edC_len l
     have hil:=lt_of_getElem? o4
     have hXl:=lt_of_getElem? hS.out
     have hBl:=lt_of_getElem? hS.bl.2
     have h1l:=lt_of_getElem? hS.r1
     rw [show b.term.to.length - n=(b.term.to.length - (n+1))+1 by omega] at hze
     simp only [spE] at hze
     obtain⟨p,hp⟩:∃p,p=predsAt f x.block:=⟨_,rfl⟩
     have hpp:(predsM f)[x.block.toNat]?=some p:=by
      rw [hp]
      unfold predsAt
      rw [List.getElem?_eq_getElem (by rw [hprl];omega)]
      rfl
     have hst:spStep f k n S=if critB f k x then ⟨S.tos.set k (l.set n ⟨((f.blocks.length+S.news.length:Nat):Int),[]⟩),S.news++[jumpB x]⟩ else S:=by
      unfold spStep
      rw [hto,hx,hl]
      rfl
     have hcr:critB f k x=(decide (2≤b.term.to.length)&&decide (2≤p.length)):=by
      unfold critB
      rw [hbo,hp]
     rw [hst] at hze
     have hnn:=spStep_news f k n S
     refine awp_seq (awp_block ?_)
     refine zg1 ?_
     simp -dsimp only [simprocAttr,↓vpre,zp,o4,h2,hel]
     repeat(refine⟨by omega,?_⟩)
     refine za0 ?_
     refine awp_local 10 ([aI x.block,eIs x.args]) [(1,.ip none [aI f.name,eBlocks f.blocks]),(2,.mp 1 0),(4,.lst 1 ((predsM f).map eIs) .sh),(6,.mp X0 0),(23,eBlocks f.blocks),(24,aI f.blocks.length),(25,aI k),(8,.os id b.term.to.length 2),(35,.os id b.term.to.length 2),(36,aI b.term.to.length),(37,aI n),(9,aI n),(10,.ip none [aI x.block,eIs x.args])] (by simp [putS,dropS,Go.Av.look]) (by rfl) (by omega) (by simp [putS,dropS,Go.Av.look]) ?_ ?_ ?_
     ·exact hS.up
     ·simp [AVal.upto,uptoL,aI_upto,Edge.map_upto,Ins.map_upto,Block.map_upto,eIss_up,hXl,hBl,h1l,hil]
     by_cases c1:2≤b.term.to.length
     ·have g1:decide ((b.term.to.length:Int)<2)=false:=decide_eq_false (by omega)
      by_cases c2:2≤p.length
      ·have g2:decide ((p.length:Int)<2)=false:=decide_eq_false (by omega)
       rw [if_pos (by rw [hcr,decide_eq_true c1,decide_eq_true c2];rfl)] at hze
       refine zg2 ?_
       simp -dsimp only [simprocAttr,↓vpre,zp,g1,hpp,g2]
       repeat(refine⟨by omega,?_⟩)
       refine za0 ?_
       apply zk0 rfl<;>intro h
       ·cases h
       refine zb0 ?_
       have hout:=hS.out
       refine zg1 ?_
       simp -dsimp only [simprocAttr,↓vpre,zp,hout,o4,hel,Int.toNat_natCast]
       repeat(refine⟨by omega,?_⟩)
       refine za0 ?_
       have hsub:=fun(j:Nat) c d=>sub_splice (O:=O.set id (.cells (splice (edC l) (n * 2) [aI ((f.blocks.length+S.news.length:Nat):Int),.lst 1 [] .ex]))) (cs:=edC l) (xs:=[aI ((f.blocks.length+S.news.length:Nat):Int),.lst 1 [] .ex]) (ys:=[aI ((f.blocks.length+S.news.length:Nat):Int),eIs []]) (i:=n * 2) rfl (by rw [hel];simp;omega) (fun j c d h1 h2=>by
        match j,h1,h2 with
        | 0,h1,h2=>exact Sub.of_eq (by simpa using h1.symm.trans h2)
        | 1,h1,h2 =>
         simp only [List.getElem?_cons_succ,List.getElem?_cons_zero,Option.some.injEq] at h1 h2
         subst h1
         subst h2
         exact fun _ _ _ h=>h.lst_share
        | j+2,h1,h2=>simp at h1) j c d
       have hput:=edC_put (es:=l) (n:=n) (by omega) ⟨((f.blocks.length+S.news.length:Nat):Int),[]⟩
       have hput':splice (edC l) (n * 2) [aI ((f.blocks.length+S.news.length:Nat):Int),eIs []]=edC (l.set n ⟨((f.blocks.length+S.news.length:Nat):Int),[]⟩):=hput
       rw [hput'] at hsub
       refine awp_retell2 id (edC (l.set n ⟨((f.blocks.length+S.news.length:Nat):Int),[]⟩)) (List.getElem?_set_self hil) (by rw [←hput',splice_length (by rw [hel];simp;omega),splice_length (by rw [hel];simp;omega)]) (edC_scalar _) hsub ?_
       rw [List.set_set]
       have hS2:=hS.edge hid hb hl ht0 (m:=l.set n ⟨((f.blocks.length+S.news.length:Nat):Int),[]⟩) (List.length_set)
       generalize O.set id (.cells (edC (l.set n ⟨((f.blocks.length+S.news.length:Nat):Int),[]⟩)))=O5 at *
       have hout2:=hS2.out
       have hbl2:=hS2.bl.2
       have hxb:=hS2.xb
       have hout2':∀Y,(O5.set bid .gone++Y)[X0]?=some (.cells [aI f.name,.os bid (f.blocks.length+S.news.length) 7]):=fun Y=>at_left (at_set_ne hout2 hxb)
       have hcl2:(blsC ids f.blocks++cellsAll (S.news.map Block.enc)).length=(f.blocks.length+S.news.length) * 7:=by
        rw [List.length_append,blsC_len hS.li,blocks_len]
        omega
       have hTT:(blsC ids f.blocks++cellsAll (S.news.map Block.enc)).take ((f.blocks.length+S.news.length) * 7)=blsC ids f.blocks++cellsAll (S.news.map Block.enc):=List.take_of_length_le (by omega)
       refine zg0 ?_
       simp -dsimp only [simprocAttr,↓vpre,zp,hout2,hout2',hbl2,hcl2,hTT,cellsAll_v,cells_os']
       repeat(refine⟨by omega,?_⟩)
       refine⟨trivial,?_⟩
       refine za0 ?_
       have hS3:SpO f ids X0 ⟨S.tos.set k (l.set n ⟨((f.blocks.length+S.news.length:Nat):Int),[]⟩),S.news++[jumpB x]⟩ O5.length ((O5.set bid .gone++[AObj.cells (blsC ids f.blocks++(cellsAll (S.news.map Block.enc)++[.lst 1 [] .sh,.lst 4 [] .sh,aI 1,aI 0,aI 0,.lst 1 [] .sh,.lst 2 [x.enc] .sh]))]).set X0 (.cells [aI f.name,.os O5.length (f.blocks.length+S.news.length+1) 7])):=by
        have:=hS2.block (jumpB x) rfl rfl
        rw [List.append_assoc] at this
        exact this
       show AWP Try.prog _ _ _ ⟨_,_,(O5.set bid .gone++[AObj.cells (blsC ids f.blocks++(cellsAll (S.news.map Block.enc)++[.lst 1 [] .sh,.lst 4 [] .sh,aI 1,aI 0,aI 0,.lst 1 [] .sh,.lst 2 [x.enc] .sh]))]).set X0 (.cells [aI f.name,.os O5.length (f.blocks.length+S.news.length+1) 7])⟩
       generalize (O5.set bid .gone++[AObj.cells (blsC ids f.blocks++(cellsAll (S.news.map Block.enc)++[.lst 1 [] .sh,.lst 4 [] .sh,aI 1,aI 0,aI 0,.lst 1 [] .sh,.lst 2 [x.enc] .sh]))]).set X0 (.cells [aI f.name,.os O5.length (f.blocks.length+S.news.length+1) 7])=O7 at *
       refine zh0 ?_
       repeat(refine⟨by omega,?_⟩)
       refine zl0 ?_
       refine⟨⟨⟨n+1,_,O5.length,O7⟩,hlz,hS3,hze,by simp only [List.length_append,List.length_singleton];omega,fun j c hj hc=>by
        simp only at hj ⊢
        rw [List.getElem?_set_ne (by omega)]
        exact hrest j c hj hc,l.set n ⟨((f.blocks.length+S.news.length:Nat):Int),[]⟩,by simp only;rw [List.getElem?_set_self (lt_of_getElem? hl)],by rw [List.length_set,hll],by
        simp only
        rw [List.drop_set_of_lt (by omega),←List.drop_drop,hld,List.drop_drop]⟩,by simp;omega,?_⟩
       refine zq rfl ?_ ?_
       simp -dsimp only [simprocAttr,↓vpre,zp,zc]
       ·exact Sub.int (by simp)
       rfl
      have g2:decide ((p.length:Int)<2)=true:=decide_eq_true (by omega)
      rw [if_neg (by rw [hcr,decide_eq_false c2];simp)] at hze
      refine zg2 ?_
      simp -dsimp only [simprocAttr,↓vpre,zp,g1,hpp,g2]
      repeat(refine⟨by omega,?_⟩)
      refine za0 ?_
      refine zw0 rfl ?_
      refine awp_exit ?_
      simp -dsimp only [vend,ne_eq,Nat.reduceEqDiff,reduceCtorEq]
      refine zh0 ?_
      repeat(refine⟨by omega,?_⟩)
      refine zl0 ?_
      refine⟨⟨⟨n+1,S,bid,O⟩,hlz,hS,by simp only;rw [show b.term.to.length - (n+1)=b.term.to.length - (n+1) from rfl];exact hze,by simp only;omega,hrest,l,hl,hll,by simp only;rw [←List.drop_drop,hld,List.drop_drop]⟩,by simp;omega,?_⟩
      refine zq rfl ?_ ?_
      simp -dsimp only [simprocAttr,↓vpre,zp,zc]
      ·exact Sub.int (by simp)
      rfl
     have g1:decide ((b.term.to.length:Int)<2)=true:=decide_eq_true (by omega)
     rw [if_neg (by rw [hcr,decide_eq_false c1];simp)] at hze
     refine zg2 ?_
     simp -dsimp only [simprocAttr,↓vpre,zp,g1]
     repeat(refine⟨by omega,?_⟩)
     refine za0 ?_
     refine zw0 rfl ?_
     refine awp_exit ?_
     simp -dsimp only [vend,ne_eq,Nat.reduceEqDiff,reduceCtorEq]
     refine zh0 ?_
     repeat(refine⟨by omega,?_⟩)
     refine zl0 ?_
     refine⟨⟨⟨n+1,S,bid,O⟩,hlz,hS,by simp only;rw [show b.term.to.length - (n+1)=b.term.to.length - (n+1) from rfl];exact hze,by simp only;omega,hrest,l,hl,hll,by simp only;rw [←List.drop_drop,hld,List.drop_drop]⟩,by simp;omega,?_⟩
     refine zq rfl ?_ ?_
     simp -dsimp only [simprocAttr,↓vpre,zp,zc]
     ·exact Sub.int (by simp)
     rfl
    refine awp_exit ?_
    simp -dsimp only [vend,ne_eq,Nat.reduceEqDiff,reduceCtorEq]
    have hzl:b.term.to.length≤n:=by
     have:=of_decide_eq_false h
     omega
    rw [show b.term.to.length - n=0 by omega] at hze
    simp only [spE] at hze
    subst hze
    refine zh0 ?_
    repeat(refine⟨by omega,?_⟩)
    refine zl0 ?_
    refine⟨⟨⟨k+1,S1,bid,O⟩,hlt,hS,hke,by simp only;omega,hrest⟩,by simp;omega,?_⟩
    refine zq rfl ?_ ?_
    simp -dsimp only [simprocAttr,↓vpre,zp,zc]
    ·exact Sub.int (by simp)
    rfl
   refine awp_exit ?_
   simp -dsimp only [vend,ne_eq,Nat.reduceEqDiff,reduceCtorEq]
   have hkN:f.blocks.length≤k:=by
    have:=of_decide_eq_false h
    omega
   rw [show f.blocks.length - k=0 by omega] at hke
   simp only [spK] at hke
   subst hke
   have hout:=hS.out
   have hr1:=hS.r1
   have h1l:=lt_of_getElem? hr1
   have hx5:=hS.x5
   by_cases hm:128<f.blocks.length+R.news.length
   ·have g1:decide ((128:Int)<((f.blocks.length+R.news.length:Nat):Int))=true:=decide_eq_true (by omega)
    rw [if_pos hm]
    refine zg2 ?_
    simp -dsimp only [simprocAttr,↓vpre,zp,hout,g1]
    refine za0 ?_
    refine zw0 rfl ?_
    have hr1':(O.set 1 (.cells [aI 0,.lst 7 [] .ex]))[1]?=some (.cells [aI 0,.lst 7 [] .ex]):=List.getElem?_set_self h1l
    refine zg1 ?_
    simp -dsimp only [simprocAttr,↓vpre,zp,hr1]
    refine za0 ?_
    refine awp_ret ?_
    simp -dsimp only [simprocAttr,↓vpre,zp,zr,Try.results21,hr1']
    simp [uptoL,AVal.upto]
   have g1:decide ((128:Int)<((f.blocks.length+R.news.length:Nat):Int))=false:=decide_eq_false (by omega)
   rw [if_neg hm]
   have hzl:(List.zipWith setTo f.blocks R.tos).length=f.blocks.length:=by
    rw [List.length_zipWith,hS.w.len]
    omega
   have hbs:=blsC_set (ids:=ids) hS.w.len hS.w.each
   have hel:∀(j id:Nat) (c:Block),ids[j]?=some id→(List.zipWith setTo f.blocks R.tos)[j]?=some c→c.term.to≠[]→∃b l,f.blocks[j]?=some b∧R.tos[j]?=some l∧c=setTo b l∧b.term.to≠[]:=fun j id c h1 h2 h3=>by
    rw [List.getElem?_zipWith] at h2
    cases hb:f.blocks[j]? with
    | none=>rw [hb] at h2;cases h2
    | some b =>
     cases hl:R.tos[j]? with
     | none=>rw [hb,hl] at h2;cases h2
     | some l =>
      rw [hb,hl] at h2
      simp only [Option.some.injEq] at h2
      refine⟨b,l,rfl,rfl,h2.symm,fun q=>h3 ?_⟩
      have:=hS.w.each j b l hb hl
      rw [q] at this
      rw [←h2]
      exact List.length_eq_zero_iff.1 this
   refine zg2 ?_
   simp -dsimp only [simprocAttr,↓vpre,zp,hout,g1]
   refine za0 ?_
   refine zu0 rfl ?_
   refine zb0 ?_
   refine zg1 ?_
   simp -dsimp only [simprocAttr,↓vpre,zp,hout,hr1]
   refine za0 ?_
   refine awp_blocks2 (ids:=ids) (bs:=List.zipWith setTo f.blocks R.tos) (T:=R.news) (X:=1) (oid:=bid) (name:=f.name) (by rw [hzl,hS.li]) (by have:=hS.bl.1;omega) (by rw [hzl];exact List.getElem?_set_self h1l) (by rw [hbs,List.getElem?_set_ne (by have:=hS.bl.1;omega)];exact hS.bl.2) (fun j id c h1 h2 h3=>?_) (fun i j id c d h1 h2 h3 h4 h5 h6=>?_) fun O1 hO1 hO11=>?_
   ·obtain⟨b,l,q1,q2,q3,q4⟩:=hel j id c h1 h2 h3
    obtain⟨o1,o2,o3,o4⟩:=hS.own j id b l h1 q1 q2 q4
    exact⟨o2,by omega,by rw [List.getElem?_set_ne (by omega),q3];exact o4⟩
   ·obtain⟨b,l,q1,q2,q3,q4⟩:=hel i id c h1 h3 h5
    obtain⟨b',l',r1,r2,r3,r4⟩:=hel j id d h2 h4 h6
    exact hS.inj i j id b b' h1 h2 q1 r1 q4 r4
   generalize List.zipWith setTo f.blocks R.tos++R.news=GB at hO11 ⊢
   refine awp_ret ?_
   simp -dsimp only [simprocAttr,↓vpre,zp,zr,Try.results21,hO11]
   refine⟨?_,rfl⟩
   simp [uptoL,AVal.upto,aI_upto,Block.map_upto]
  exact FSub.mp rfl rfl
 rw [if_neg hc] at hpr ⊢
 obtain⟨e,he⟩:∃e,e=checkFuncM f:=⟨_,rfl⟩
 rw [←he] at hc hpr ⊢
 have hde:decide (e=0)=false:=decide_eq_false hc
 refine zf true 0 Try.func21 Try.ntmps21 ?_
 dsimp only [Tmp,TypeId,slotsOf]
 refine zh1 (za0 ?_)
 refine awp_freeze1 1 0 (.ip none [aI f.name,eBlocks f.blocks]) rfl (by simp [AObj.isSpare]) trivial rfl ?_ ?_
 rotate_left
 simp -dsimp only [simprocAttr,↓vpre,zp]
 ·refine zh1 ?_
  refine zi hpr ?_
  refine za0 ?_
  refine zg2 ?_
  simp -dsimp only [simprocAttr,↓vpre,zp,hde]
  refine za0 ?_
  refine zw0 rfl ?_
  refine zh1 (za0 ?_)
  refine awp_ret ?_
  simp -dsimp only [simprocAttr,↓vpre,zp,zr,Try.results21]
  simp [uptoL,AVal.upto]
 exact FSub.mp rfl rfl
theorem sameI_refl(l:List Int):PCall Try.prog 36 [eIs l,eIs l] (.v (.bool true)):=by
 have h:=sameInts_spec l l
 rw [decide_eq_true rfl] at h
 exact h
theorem sameIns_refl(i:Ins):PCall Try.prog 43 [i.enc,i.enc] (.v (.bool true)):=by
 have hs:=sameI_refl i.args
 refine zf true 0 Try.func43 Try.ntmps43 ?_
 dsimp only [Tmp,TypeId,slotsOf]
 refine zh1 (za0 ?_)
 refine zg1 ?_
 simp -dsimp only [simprocAttr,↓vpre,zp,decide_true]
 refine .inl ⟨_,hs,by simp only [uptoL,AVal.upto,zt,zu,aI_upto],later_intro ?_⟩
 simp -dsimp only [simprocAttr,↓vpre,zp,decide_true]
 refine za0 ?_
 refine awp_ret ?_
 simp -dsimp only [simprocAttr,↓vpre,zp,zr,Try.results43]
theorem sameTerm_refl(t:Term)(hl:t.to.length≤2 ^ 47):PCall Try.prog 42 [t.enc,t.enc] (.v (.bool true)):=by
 have hs:=sameI_refl t.cases
 refine zf true 0 Try.func42 Try.ntmps42 ?_
 dsimp only [Tmp,TypeId,slotsOf]
 refine zh1 (za0 ?_)
 refine awp_freeze1 2 0 (.ip none [aI t.kind,aI t.arg,aI t.n,eIs t.cases,eEdges t.to]) rfl (by simp [AObj.isSpare]) trivial rfl ?_ ?_
 rotate_left
 simp -dsimp only [simprocAttr,↓vpre,zp]
 ·refine awp_freeze1 3 1 (.ip none [aI t.kind,aI t.arg,aI t.n,eIs t.cases,eEdges t.to]) rfl (by simp [AObj.isSpare]) trivial rfl ?_ ?_
  rotate_left
  simp -dsimp only [simprocAttr,↓vpre,zp]
  ·refine zg2 ?_
   simp -dsimp only [simprocAttr,↓vpre,zp,decide_true]
   refine .inl ⟨_,hs,by simp only [uptoL,AVal.upto,zt,zu,aI_upto],later_intro ?_⟩
   simp -dsimp only [simprocAttr,↓vpre,zp,decide_true]
   refine za0 ?_
   apply zk0 rfl<;>intro h
   ·cases h
   refine zb0 ?_
   refine zh2 (za0 ?_)
   refine awp_block (awp_loop (ι:={k:Nat // k≤t.to.length}) (fun k=>⟨73,[(3,.ip none [aI t.kind,aI t.arg,aI t.n,eIs t.cases,eEdges t.to]),(44,eEdges t.to),(45,aI t.to.length),(46,aI k.1)],[.gone,.gone]⟩) (fun k=>t.to.length - k.1) ⟨0,by omega⟩ ?_ ?_)
   ·refine zq rfl ?_ ?_
    simp -dsimp only [simprocAttr,↓vpre,zp,zc]
    all_goals rfl
   rintro⟨k,hk⟩
   refine zh1 (za0 ?_)
   apply zk1 rfl<;>intro h
   ·refine zb0 ?_
    have hlt:k<t.to.length:=by simpa using h
    obtain⟨e,he⟩:∃e,t.to[k]?=some e:=⟨t.to[k],by simp [hlt]⟩
    have hse:=sameI_refl e.args
    refine awp_seq (awp_block ?_)
    refine zg1 ?_
    simp -dsimp only [simprocAttr,↓vpre,zp,he]
    refine za0 ?_
    refine awp_freeze1 6 2 (.ip none [aI e.block,eIs e.args]) rfl (by simp [AObj.isSpare]) trivial rfl ?_ ?_
    rotate_left
    simp -dsimp only [simprocAttr,↓vpre,zp]
    ·refine awp_trunc' 2 [(3,.ip none [aI t.kind,aI t.arg,aI t.n,eIs t.cases,eEdges t.to]),(44,eEdges t.to),(45,aI t.to.length),(46,aI k),(5,aI k),(6,.ip none [aI e.block,eIs e.args])] (by simp) (by omega) [.gone,.gone] ?_ ?_ ?_ ?_ ?_
     ·rfl
     ·simp [AObj.upto,uptoL,AVal.upto,aI_upto,Edge.map_upto]
     ·simp [Says,St.get,putS,dropS,Go.Av.look,Sub.refl]
     ·simp [AObj.upto,uptoL,AVal.upto,aI_upto,Edge.map_upto]
     refine zg1 ?_
     simp -dsimp only [simprocAttr,↓vpre,zp,he,decide_true]
     repeat(refine⟨by omega,?_⟩)
     refine .inl ⟨_,hse,by simp only [uptoL,AVal.upto,zt,zu,aI_upto],later_intro ?_⟩
     simp -dsimp only [simprocAttr,↓vpre,zp,decide_true]
     refine⟨ob (by kernel_rfl),?_⟩
     refine za0 ?_
     refine zu0 rfl ?_
     refine zb1 ?_
     refine zh0 ?_
     repeat(refine⟨by omega,?_⟩)
     refine zl0 ?_
     refine⟨⟨k+1,hlt⟩,by simp;omega,?_⟩
     refine zq rfl ?_ ?_
     simp -dsimp only [simprocAttr,↓vpre,zp,zc]
     ·exact Sub.int (by simp)
     rfl
    exact FSub.mp rfl rfl
   refine awp_exit ?_
   simp -dsimp only [vend,ne_eq,Nat.reduceEqDiff,reduceCtorEq]
   refine zh1 (za0 ?_)
   refine awp_ret ?_
   simp -dsimp only [simprocAttr,↓vpre,zp,zr,Try.results42]
  exact FSub.mp rfl rfl
 exact FSub.mp rfl rfl
theorem sameFunc_refl(f:Func)(hfit:f.fit):PCall Try.prog 23 [f.enc,f.enc] (.v (.bool true)):=by
 have hN:f.blocks.length≤2 ^ 47:=hfit.2.1
 refine zf true 0 Try.func23 Try.ntmps23 ?_
 dsimp only [Tmp,TypeId,slotsOf]
 refine zh1 (za0 ?_)
 refine awp_freeze1 2 0 (.ip none [aI f.name,eBlocks f.blocks]) rfl (by simp [AObj.isSpare]) trivial rfl ?_ ?_
 rotate_left
 simp -dsimp only [simprocAttr,↓vpre,zp]
 ·refine awp_freeze1 3 1 (.ip none [aI f.name,eBlocks f.blocks]) rfl (by simp [AObj.isSpare]) trivial rfl ?_ ?_
  rotate_left
  simp -dsimp only [simprocAttr,↓vpre,zp]
  ·refine zg2 ?_
   simp -dsimp only [simprocAttr,↓vpre,zp,decide_true]
   refine za0 ?_
   apply zk0 rfl<;>intro h
   ·cases h
   refine zb0 ?_
   refine zh2 (za0 ?_)
   refine awp_block (awp_loop (ι:={k:Nat // k≤f.blocks.length}) (fun k=>⟨78,[(3,.ip none [aI f.name,eBlocks f.blocks]),(25,eBlocks f.blocks),(26,aI f.blocks.length),(27,aI k.1)],[.gone,.gone]⟩) (fun k=>f.blocks.length - k.1) ⟨0,by omega⟩ ?_ ?_)
   ·refine zq rfl ?_ ?_
    simp -dsimp only [simprocAttr,↓vpre,zp,zc]
    all_goals rfl
   rintro⟨k,hk⟩
   refine zh1 (za0 ?_)
   apply zk1 rfl<;>intro h
   ·refine zb0 ?_
    have hlt:k<f.blocks.length:=by simpa using h
    obtain⟨b,hb⟩:∃b,f.blocks[k]?=some b:=⟨f.blocks[k],by simp [hlt]⟩
    have hs1:=sameI_refl b.params
    obtain⟨_,_,hbi,_,hbt⟩:=hfit.2.2 b (List.mem_of_getElem? hb)
    have hs2:=sameTerm_refl b.term hbt.2.2.2.2.2.1
    unfold Term.enc at hs2
    refine awp_seq (awp_block ?_)
    refine zg1 ?_
    simp -dsimp only [simprocAttr,↓vpre,zp,hb]
    refine za0 ?_
    refine awp_freeze1 6 2 (.ip none [eIs b.params,eInss b.ins,aI b.term.kind,aI b.term.arg,aI b.term.n,eIs b.term.cases,eEdges b.term.to]) rfl (by simp [AObj.isSpare]) trivial rfl ?_ ?_
    rotate_left
    simp -dsimp only [simprocAttr,↓vpre,zp]
    ·refine zg1 ?_
     simp -dsimp only [simprocAttr,↓vpre,zp,hb]
     repeat(refine⟨by omega,?_⟩)
     refine za0 ?_
     refine awp_freeze1 7 3 (.ip none [eIs b.params,eInss b.ins,aI b.term.kind,aI b.term.arg,aI b.term.n,eIs b.term.cases,eEdges b.term.to]) rfl (by simp [AObj.isSpare]) trivial rfl ?_ ?_
     rotate_left
     simp -dsimp only [simprocAttr,↓vpre,zp]
     ·refine zg2 ?_
      simp -dsimp only [simprocAttr,↓vpre,zp,decide_true]
      refine .inl ⟨_,hs1,by simp only [uptoL,AVal.upto,zt,zu,aI_upto],later_intro ?_⟩
      simp -dsimp only [simprocAttr,↓vpre,zp,decide_true]
      refine .inl ⟨_,hs2,by simp only [uptoL,AVal.upto,zt,zu,aI_upto],later_intro ?_⟩
      simp -dsimp only [simprocAttr,↓vpre,zp,decide_true]
      refine za0 ?_
      apply zk0 rfl<;>intro h
      ·cases h
      refine zb0 ?_
      refine awp_trunc' 2 [(3,.ip none [aI f.name,eBlocks f.blocks]),(25,eBlocks f.blocks),(26,aI f.blocks.length),(27,aI k),(6,.ip none [eIs b.params,eInss b.ins,aI b.term.kind,aI b.term.arg,aI b.term.n,eIs b.term.cases,eEdges b.term.to]),(7,.ip none [eIs b.params,eInss b.ins,aI b.term.kind,aI b.term.arg,aI b.term.n,eIs b.term.cases,eEdges b.term.to])] (by simp) (by omega) [.gone,.gone] ?_ ?_ ?_ ?_ ?_
      ·rfl
      ·simp [AObj.upto,uptoL,AVal.upto,aI_upto,Edge.map_upto,Ins.map_upto,Block.map_upto]
      ·simp [Says,St.get,putS,dropS,Go.Av.look,Sub.refl]
      ·simp [AObj.upto,uptoL,AVal.upto,aI_upto,Edge.map_upto,Ins.map_upto,Block.map_upto]
      refine zh1 (za0 ?_)
      refine awp_block (awp_loop (ι:={j:Nat // j≤b.ins.length}) (fun j=>⟨78,[(3,.ip none [aI f.name,eBlocks f.blocks]),(25,eBlocks f.blocks),(26,aI f.blocks.length),(27,aI k),(7,.ip none [eIs b.params,eInss b.ins,aI b.term.kind,aI b.term.arg,aI b.term.n,eIs b.term.cases,eEdges b.term.to]),(61,eInss b.ins),(62,aI b.ins.length),(63,aI j.1)],[.gone,.gone]⟩) (fun j=>b.ins.length - j.1) ⟨0,by omega⟩ ?_ ?_)
      ·refine zq rfl ?_ ?_
       simp -dsimp only [simprocAttr,↓vpre,zp,zc]
       all_goals rfl
      rintro⟨j,hj⟩
      refine zh1 (za0 ?_)
      apply zk1 rfl<;>intro h
      ·refine zb0 ?_
       have hlj:j<b.ins.length:=by simpa using h
       obtain⟨i,hi⟩:∃i,b.ins[j]?=some i:=⟨b.ins[j],by simp [hlj]⟩
       have hs3:=sameIns_refl i
       unfold Ins.enc at hs3
       refine awp_seq (awp_block ?_)
       refine zg1 ?_
       simp -dsimp only [simprocAttr,↓vpre,zp,hi]
       refine za0 ?_
       refine awp_freeze1 9 2 (.ip none [aI i.to,aI i.op,aI i.n,eIs i.args]) rfl (by simp [AObj.isSpare]) trivial rfl ?_ ?_
       rotate_left
       simp -dsimp only [simprocAttr,↓vpre,zp]
       ·refine awp_trunc' 2 [(3,.ip none [aI f.name,eBlocks f.blocks]),(25,eBlocks f.blocks),(26,aI f.blocks.length),(27,aI k),(7,.ip none [eIs b.params,eInss b.ins,aI b.term.kind,aI b.term.arg,aI b.term.n,eIs b.term.cases,eEdges b.term.to]),(61,eInss b.ins),(62,aI b.ins.length),(63,aI j),(8,aI j),(9,.ip none [aI i.to,aI i.op,aI i.n,eIs i.args])] (by simp) (by omega) [.gone,.gone] ?_ ?_ ?_ ?_ ?_
        ·rfl
        ·simp [AObj.upto,uptoL,AVal.upto,aI_upto,Edge.map_upto,Ins.map_upto,Block.map_upto]
        ·simp [Says,St.get,putS,dropS,Go.Av.look,Sub.refl]
        ·simp [AObj.upto,uptoL,AVal.upto,aI_upto,Edge.map_upto,Ins.map_upto,Block.map_upto]
        refine zg1 ?_
        simp -dsimp only [simprocAttr,↓vpre,zp,hi]
        repeat(refine⟨by omega,?_⟩)
        refine zi hs3 ?_
        refine⟨ob (by kernel_rfl),?_⟩
        refine za0 ?_
        refine zu0 rfl ?_
        refine zb1 ?_
        refine zh0 ?_
        repeat(refine⟨by omega,?_⟩)
        refine zl0 ?_
        refine⟨⟨j+1,hlj⟩,by simp;omega,?_⟩
        refine zq rfl ?_ ?_
        simp -dsimp only [simprocAttr,↓vpre,zp,zc]
        ·exact Sub.int (by simp)
        rfl
       exact FSub.mp rfl rfl
      refine awp_exit ?_
      simp -dsimp only [vend,ne_eq,Nat.reduceEqDiff,reduceCtorEq]
      refine zh0 ?_
      repeat(refine⟨by omega,?_⟩)
      refine zl0 ?_
      refine⟨⟨k+1,hlt⟩,by simp;omega,?_⟩
      refine zq rfl ?_ ?_
      simp -dsimp only [simprocAttr,↓vpre,zp,zc]
      ·exact Sub.int (by simp)
      rfl
     exact FSub.mp rfl rfl
    exact FSub.mp rfl rfl
   refine awp_exit ?_
   simp -dsimp only [vend,ne_eq,Nat.reduceEqDiff,reduceCtorEq]
   refine zh1 (za0 ?_)
   refine awp_ret ?_
   simp -dsimp only [simprocAttr,↓vpre,zp,zr,Try.results23]
  exact FSub.mp rfl rfl
 exact FSub.mp rfl rfl
def manyB:List Block→Nat
 | []=>0
 | b::r=>b.ins.length+1+manyB r
def manyF:List Func→Nat
 | []=>0
 | f::r=>manyB f.blocks+manyF r
def simpM(u:Unt):Bool:=decide ((manyF u.fns:Int)≤400)&&decide ((u.fns.length:Int)≤8)
theorem manyB_le:∀{l:List Block} {c:Nat},(∀b∈l,b.ins.length≤c)→manyB l≤l.length * (c+1)
 | [],c,_=>Nat.zero_le _
 | b::r,c,h=>by
  have:=manyB_le (l:=r) (c:=c) fun x hx=>h x (List.mem_cons_of_mem _ hx)
  have:=h b List.mem_cons_self
  simp only [manyB,List.length_cons]
  rw [Nat.add_mul]
  omega
theorem manyF_le:∀{l:List Func} {c:Nat},(∀f∈l,manyB f.blocks≤c)→manyF l≤l.length * c
 | [],c,_=>Nat.zero_le _
 | f::r,c,h=>by
  have:=manyF_le (l:=r) (c:=c) fun x hx=>h x (List.mem_cons_of_mem _ hx)
  have:=h f List.mem_cons_self
  simp only [manyF,List.length_cons]
  rw [Nat.add_mul]
  omega
theorem simple_spec(u:Unt)(hl:u.fns.length≤256)(hb:∀f∈u.fns,f.blocks.length≤128∧∀b∈f.blocks,b.ins.length≤1024):PCall Try.prog 19 [u.enc] (.v (.bool (simpM u))):=by
 have hB:∀f∈u.fns,manyB f.blocks≤131200:=fun f hf=>by
  have:=manyB_le (l:=f.blocks) (c:=1024) (hb f hf).2
  have:=(hb f hf).1
  have:f.blocks.length * (1024+1)≤128 * (1024+1):=Nat.mul_le_mul_right _ this
  omega
 have hF:manyF u.fns≤33587200:=by
  have:=manyF_le hB
  have:u.fns.length * 131200≤256 * 131200:=Nat.mul_le_mul_right _ hl
  omega
 obtain⟨R,hR⟩:∃R,R=manyF u.fns:=⟨_,rfl⟩
 unfold simpM
 rw [←hR] at hF ⊢
 refine zf true 0 Try.func19 Try.ntmps19 ?_
 dsimp only [Tmp,TypeId,slotsOf]
 refine zh1 (za0 ?_)
 refine awp_freeze1 1 0 (.ip none [eFuncs u.fns,aI u.main]) rfl (by simp [AObj.isSpare]) trivial rfl ?_ ?_
 rotate_left
 simp -dsimp only [simprocAttr,↓vpre,zp]
 ·refine zh1 (za0 ?_)
  refine zh2 (za0 ?_)
  refine awp_block (awp_loop (ι:={x:Nat×Nat // x.1≤u.fns.length∧R=x.2+manyF (u.fns.drop x.1)}) (fun x=>⟨38,[(1,.ip none [eFuncs u.fns,aI u.main]),(3,aI x.1.2),(9,eFuncs u.fns),(10,aI u.fns.length),(11,aI x.1.1)],[.gone]⟩) (fun x=>u.fns.length - x.1.1) ⟨(0,0),by omega,by simp [hR]⟩ ?_ ?_)
  ·refine zq rfl ?_ ?_
   simp -dsimp only [simprocAttr,↓vpre,zp,zc]
   all_goals rfl
  rintro⟨⟨k,n⟩,hk,hn⟩
  simp only at hk hn
  refine zh1 (za0 ?_)
  apply zk1 rfl<;>intro h
  ·refine zb0 ?_
   have hlt:k<u.fns.length:=by simpa using h
   obtain⟨f,hf⟩:∃f,u.fns[k]?=some f:=⟨u.fns[k],by simp [hlt]⟩
   rw [drop_at hf] at hn
   simp only [manyF] at hn
   obtain⟨hfb,hfi⟩:=hb f (List.mem_of_getElem? hf)
   refine awp_seq (awp_block ?_)
   refine zg1 ?_
   simp -dsimp only [simprocAttr,↓vpre,zp,hf]
   refine za0 ?_
   refine awp_freeze1 5 1 (.ip none [aI f.name,eBlocks f.blocks]) rfl (by simp [AObj.isSpare]) trivial rfl ?_ ?_
   rotate_left
   simp -dsimp only [simprocAttr,↓vpre,zp]
   ·refine awp_trunc' 1 [(1,.ip none [eFuncs u.fns,aI u.main]),(3,aI n),(9,eFuncs u.fns),(10,aI u.fns.length),(11,aI k),(5,.ip none [aI f.name,eBlocks f.blocks])] (by simp) (by omega) [.gone] ?_ ?_ ?_ ?_ ?_
    ·rfl
    ·simp [AObj.upto,uptoL,AVal.upto,aI_upto,Func.map_upto,Block.map_upto]
    ·simp [Says,St.get,putS,dropS,Go.Av.look,Sub.refl]
    ·simp [AObj.upto,uptoL,AVal.upto,aI_upto,Func.map_upto,Block.map_upto]
    refine zh1 (za0 ?_)
    refine awp_block (awp_loop (ι:={y:Nat×Nat // y.1≤f.blocks.length∧R=y.2+manyB (f.blocks.drop y.1)+manyF (u.fns.drop (k+1))}) (fun y=>⟨38,[(1,.ip none [eFuncs u.fns,aI u.main]),(3,aI y.1.2),(9,eFuncs u.fns),(10,aI u.fns.length),(11,aI k),(16,eBlocks f.blocks),(17,aI f.blocks.length),(18,aI y.1.1)],[.gone]⟩) (fun y=>f.blocks.length - y.1.1) ⟨(0,n),by omega,by simp only [List.drop_zero];omega⟩ ?_ ?_)
    ·refine zq rfl ?_ ?_
     simp -dsimp only [simprocAttr,↓vpre,zp,zc]
     all_goals rfl
    rintro⟨⟨j,m⟩,hj,hm⟩
    simp only at hj hm
    refine zh1 (za0 ?_)
    apply zk1 rfl<;>intro h
    ·refine zb0 ?_
     have hlj:j<f.blocks.length:=by simpa using h
     obtain⟨b,hb⟩:∃b,f.blocks[j]?=some b:=⟨f.blocks[j],by simp [hlj]⟩
     have hbi:=hfi b (List.mem_of_getElem? hb)
     rw [drop_at hb] at hm
     simp only [manyB] at hm
     refine awp_seq (awp_block ?_)
     refine zg1 ?_
     simp -dsimp only [simprocAttr,↓vpre,zp,hb]
     refine za0 ?_
     refine awp_freeze1 7 1 (.ip none [eIs b.params,eInss b.ins,aI b.term.kind,aI b.term.arg,aI b.term.n,eIs b.term.cases,eEdges b.term.to]) rfl (by simp [AObj.isSpare]) trivial rfl ?_ ?_
     rotate_left
     simp -dsimp only [simprocAttr,↓vpre,zp]
     ·refine awp_trunc' 1 [(1,.ip none [eFuncs u.fns,aI u.main]),(3,aI m),(9,eFuncs u.fns),(10,aI u.fns.length),(11,aI k),(16,eBlocks f.blocks),(17,aI f.blocks.length),(18,aI j),(7,.ip none [eIs b.params,eInss b.ins,aI b.term.kind,aI b.term.arg,aI b.term.n,eIs b.term.cases,eEdges b.term.to])] (by simp) (by omega) [.gone] ?_ ?_ ?_ ?_ ?_
      ·rfl
      ·simp [AObj.upto,uptoL,AVal.upto,aI_upto,Func.map_upto,Block.map_upto,Edge.map_upto,Ins.map_upto]
      ·simp [Says,St.get,putS,dropS,Go.Av.look,Sub.refl]
      ·simp [AObj.upto,uptoL,AVal.upto,aI_upto,Func.map_upto,Block.map_upto,Edge.map_upto,Ins.map_upto]
      refine zh0 ?_
      repeat(refine⟨by omega,?_⟩)
      refine za0 ?_
      refine zh0 ?_
      repeat(refine⟨by omega,?_⟩)
      refine zl0 ?_
      refine⟨⟨(j+1,m+(b.ins.length+1)),hlj,by simp only;omega⟩,by simp;omega,?_⟩
      refine zq rfl ?_ ?_
      simp -dsimp only [simprocAttr,↓vpre,zp,zc]
      ·exact⟨Sub.int (by simp),Sub.int (by simp)⟩
      rfl
     exact FSub.mp rfl rfl
    refine awp_exit ?_
    simp -dsimp only [vend,ne_eq,Nat.reduceEqDiff,reduceCtorEq]
    have hjj:j=f.blocks.length:=by simp at h;omega
    subst hjj
    rw [List.drop_length] at hm
    simp only [manyB] at hm
    refine zh0 ?_
    repeat(refine⟨by omega,?_⟩)
    refine zl0 ?_
    refine⟨⟨(k+1,m),hlt,by simp only;omega⟩,by simp;omega,?_⟩
    refine zq rfl ?_ ?_
    simp -dsimp only [simprocAttr,↓vpre,zp,zc]
    ·exact Sub.int (by simp)
    rfl
   exact FSub.mp rfl rfl
  refine awp_exit ?_
  simp -dsimp only [vend,ne_eq,Nat.reduceEqDiff,reduceCtorEq]
  have hkk:k=u.fns.length:=by simp at h;omega
  subst hkk
  rw [List.drop_length] at hn
  simp only [manyF] at hn
  have hRn:R=n:=by omega
  subst hRn
  cases h1:decide ((R:Int)≤400)
  ·refine zg1 ?_
   simp -dsimp only [simprocAttr,↓vpre,zp,h1]
   refine za0 ?_
   refine awp_ret ?_
   simp -dsimp only [simprocAttr,↓vpre,zp,zr,Try.results19]
  refine zg1 ?_
  simp -dsimp only [simprocAttr,↓vpre,zp,h1]
  refine za0 ?_
  refine awp_ret ?_
  simp -dsimp only [simprocAttr,↓vpre,zp,zr,Try.results19]
 exact FSub.mp rfl rfl
theorem run_w(u:Unt)(hfit:u.fit)(n:Int)(h:(runM u n).e=0∧(runM u n).fin≠5):PCall Try.prog 30 [u.enc,aI n] (.tup [eRes (runM u n).out (runM u n).fin (runM u n).val,aI (runM u n).n,.v (.bool true)]):=by
 have hrun:=run_spec u hfit n
 generalize runM u n=A at *
 obtain⟨out,fin,val,k,e⟩:=A
 obtain⟨h1,h2⟩:=h
 simp only at h1 h2
 subst h1
 unfold Ans.enc at hrun
 have d1:decide (fin=5)=false:=decide_eq_false h2
 refine zf true 0 Try.func30 Try.ntmps30 ?_
 dsimp only [Tmp,TypeId,slotsOf]
 refine zh1 (za0 ?_)
 refine zh1 ?_
 refine zi hrun ?_
 refine za0 ?_
 refine awp_freeze1 7 2 (.ip none [.lst 1 (out.map aI) .sh,aI fin,aI val]) rfl (by simp [AObj.isSpare]) trivial rfl ?_ ?_
 rotate_left
 simp -dsimp only [simprocAttr,↓vpre,zp]
 ·refine zg1 ?_
  simp -dsimp only [simprocAttr,↓vpre,zp,d1,decide_true]
  refine⟨ob (by kernel_rfl),?_⟩
  refine za0 ?_
  refine awp_ret ?_
  simp -dsimp only [simprocAttr,↓vpre,zp,zr,Try.results30]
  simp [uptoL,AVal.upto,aI_upto]
 exact FSub.mp rfl rfl
theorem run_n(u:Unt)(hfit:u.fit)(n:Int)(h:¬((runM u n).e=0∧(runM u n).fin≠5)):∃(r:List Int×Int×Int) (m:Int),PCall Try.prog 30 [u.enc,aI n] (.tup [eRes r.1 r.2.1 r.2.2,aI m,.v (.bool false)]):=by
 have hrun:=run_spec u hfit n
 generalize runM u n=A at *
 obtain⟨out,fin,val,k,e⟩:=A
 simp only at h
 refine⟨(out,fin,val),k,?_⟩
 unfold Ans.enc at hrun
 simp only at hrun ⊢
 by_cases h1:e=0
 ·have d0:decide (e=0)=true:=decide_eq_true h1
  have d1:decide (fin=5)=true:=decide_eq_true (Classical.byContradiction fun q=>h ⟨h1,q⟩)
  refine zf true 0 Try.func30 Try.ntmps30 ?_
  dsimp only [Tmp,TypeId,slotsOf]
  refine zh1 (za0 ?_)
  refine zh1 ?_
  refine zi hrun ?_
  refine za0 ?_
  refine awp_freeze1 7 2 (.ip none [.lst 1 (out.map aI) .sh,aI fin,aI val]) rfl (by simp [AObj.isSpare]) trivial rfl ?_ ?_
  rotate_left
  simp -dsimp only [simprocAttr,↓vpre,zp]
  ·refine zg1 ?_
   simp -dsimp only [simprocAttr,↓vpre,zp,d0,d1]
   refine⟨ob (by kernel_rfl),?_⟩
   refine za0 ?_
   refine awp_ret ?_
   simp -dsimp only [simprocAttr,↓vpre,zp,zr,Try.results30]
   simp [uptoL,AVal.upto,aI_upto]
  exact FSub.mp rfl rfl
 have d0:decide (e=0)=false:=decide_eq_false h1
 refine zf true 0 Try.func30 Try.ntmps30 ?_
 dsimp only [Tmp,TypeId,slotsOf]
 refine zh1 (za0 ?_)
 refine zh1 ?_
 refine zi hrun ?_
 refine za0 ?_
 refine awp_freeze1 7 2 (.ip none [.lst 1 (out.map aI) .sh,aI fin,aI val]) rfl (by simp [AObj.isSpare]) trivial rfl ?_ ?_
 rotate_left
 simp -dsimp only [simprocAttr,↓vpre,zp]
 ·refine zg1 ?_
  simp -dsimp only [simprocAttr,↓vpre,zp,d0]
  refine⟨ob (by kernel_rfl),?_⟩
  refine za0 ?_
  refine awp_ret ?_
  simp -dsimp only [simprocAttr,↓vpre,zp,zr,Try.results30]
  simp [uptoL,AVal.upto,aI_upto]
 exact FSub.mp rfl rfl
theorem alike_spec(u v:Unt)(hfit:u.fit)(hfit':v.fit)(h:(runM u 1500).e=0→(runM u 1500).fin≠5→(runM v 1000000).e=13∨((runM v 1000000).e=0∧(runM v 1000000).out=(runM u 1500).out∧(runM v 1000000).fin=(runM u 1500).fin∧(runM v 1000000).val=(runM u 1500).val)) :
  PCall Try.prog 24 [u.enc,v.enc] (.v (.bool true)):=by
 by_cases he:(runM u 1500).e=0∧(runM u 1500).fin≠5
 ·have hr:=run_w u hfit 1500 he
  have hv:=run_spec v hfit' 1000000
  have hh:=h he.1 he.2
  generalize runM u 1500=A at *
  generalize runM v 1000000=B at *
  obtain⟨out,fin,val,n,e⟩:=A
  obtain⟨out2,fin2,val2,n2,e2⟩:=B
  unfold Ans.enc at hv
  simp only at hr hv hh
  rcases hh with q | ⟨q1,q2,q3,q4⟩
  ·subst q
   refine zf true 0 Try.func24 Try.ntmps24 ?_
   dsimp only [Tmp,TypeId,slotsOf]
   refine zh1 (za0 ?_)
   refine zh1 ?_
   refine zi hr ?_
   refine za0 ?_
   refine zh2 (za0 ?_)
   refine zu0 rfl ?_
   refine zb0 ?_
   refine zh1 ?_
   refine zi hv ?_
   refine za0 ?_
   refine zg1 ?_
   simp -dsimp only [simprocAttr,↓vpre,zp,decide_true]
   refine za0 ?_
   refine awp_ret ?_
   simp -dsimp only [simprocAttr,↓vpre,zp,zr,Try.results24]
  subst q1 q2 q3 q4
  have hsr:=sameResult_spec out2 out2 fin2 fin2 val2 val2
  unfold eRes at hsr
  simp only [decide_true,Bool.and_self] at hsr
  refine zf true 0 Try.func24 Try.ntmps24 ?_
  dsimp only [Tmp,TypeId,slotsOf]
  refine zh1 (za0 ?_)
  refine zh1 ?_
  refine zi hr ?_
  refine za0 ?_
  refine zh2 (za0 ?_)
  refine zu0 rfl ?_
  refine zb0 ?_
  refine zh1 ?_
  refine zi hv ?_
  refine za0 ?_
  refine zg1 ?_
  simp -dsimp only [simprocAttr,↓vpre,zp,decide_true]
  refine .inl ⟨_,hsr,by simp only [uptoL,AVal.upto,zt,zu,aI_upto],later_intro ?_⟩
  simp -dsimp only [simprocAttr,↓vpre,zp,decide_true]
  refine za0 ?_
  refine awp_ret ?_
  simp -dsimp only [simprocAttr,↓vpre,zp,zr,Try.results24]
 obtain⟨r,m,hr⟩:=run_n u hfit 1500 he
 refine zf true 0 Try.func24 Try.ntmps24 ?_
 dsimp only [Tmp,TypeId,slotsOf]
 refine zh1 (za0 ?_)
 refine zh1 ?_
 refine zi hr ?_
 refine za0 ?_
 refine zh2 (za0 ?_)
 refine zw0 rfl ?_
 refine zh1 (za0 ?_)
 refine awp_ret ?_
 simp -dsimp only [simprocAttr,↓vpre,zp,zr,Try.results24]
def firstE(er:Func→Int):List Func→Int
 | []=>0
 | f::r=>orE (er f) (firstE er r)
theorem firstE_zero{er:Func→Int}:∀{l:List Func},firstE er l=0→∀f∈l,er f=0
 | [],_,f,hf=>by cases hf
 | g::r,h,f,hf=>by
  have:=orE_eq h
  rcases List.mem_cons.1 hf with q | q
  ·subst q
   exact this.1
  exact firstE_zero this.2 f q
def chgR(gM:Func→Func)(er:Func→Int)(f:Func):AVal:=if er f=0 then .tup [(gM f).enc,aI 0] else .tup [.agg [aI 0,.lst 7 [] .sh],aI (er f)]
theorem each_spec(u:Unt)(hfew:u.fns.length≤256)(id:Nat)(gM:Func→Func)(er:Func→Int)(h:∀f∈u.fns,PCall Try.prog id [f.enc] (chgR gM er f)) :
  PCall Try.prog 20 [u.enc,.fn (.func id) [] []] (if firstE er u.fns=0 then .tup [(⟨u.fns.map gM,u.main⟩:Unt).enc,aI 0] else .tup [.agg [.lst 2 [] .sh,aI 0],aI (firstE er u.fns)]):=by
 obtain⟨R,hR⟩:∃R,R=firstE er u.fns:=⟨_,rfl⟩
 rw [←hR]
 have hfn:∀n,AVal.upto n (.fn (.func id) [] []):=fun n=>⟨trivial,trivial⟩
 refine zf true 0 Try.func20 Try.ntmps20 ?_
 dsimp only [Tmp,TypeId,slotsOf]
 refine zh1 (za0 ?_)
 refine awp_freeze1 2 0 (.ip none [eFuncs u.fns,aI u.main]) rfl (by simp [AObj.isSpare]) trivial rfl ?_ ?_
 rotate_left
 simp -dsimp only [simprocAttr,↓vpre,zp]
 ·refine zh1 (za0 ?_)
  refine awp_ownCell 2 0 rfl rfl ?_
  simp -dsimp only [simprocAttr,↓vpre,zp]
  refine zh2 (za0 ?_)
  refine awp_block (awp_loop (ι:={k:Nat // k≤u.fns.length∧R=firstE er (u.fns.drop k)}) (fun k=>⟨39,[(1,.fn (.func id) [] []),(4,.mp 1 0),(5,aI 0),(6,.mp 2 0),(15,eFuncs u.fns),(16,aI u.fns.length),(17,aI k.1)],[.gone,.cells [.lst 2 [] .ex,aI 0],.cells [.lst 2 (((u.fns.take k.1).map gM).map Func.enc) (.tok 3),aI u.main],.spare k.1]⟩) (fun k=>u.fns.length - k.1) ⟨0,by omega,hR⟩ ?_ ?_)
  ·refine zq rfl ?_ ?_
   simp -dsimp only [simprocAttr,↓vpre,zp,zc]
   all_goals rfl
  rintro⟨k,hk,hRk⟩
  refine zh1 (za0 ?_)
  apply zk1 rfl<;>intro h
  ·refine zb0 ?_
   have hlt:k<u.fns.length:=by simpa using h
   obtain⟨f,hf⟩:∃f,u.fns[k]?=some f:=⟨u.fns[k],by simp [hlt]⟩
   rw [drop_at hf] at hRk
   simp only [firstE] at hRk
   rename_i hcall _
   have hcf:=hcall f (List.mem_of_getElem? hf)
   unfold chgR at hcf
   have htk:(((u.fns.take (k+1)).map gM).map Func.enc)=((u.fns.take k).map gM).map Func.enc++[(gM f).enc]:=by
    rw [List.take_add_one,hf]
    simp
   have htl:(((u.fns.take k).map gM).map Func.enc).length=k:=by
    simp
    omega
   have hTu:∀n,uptoL n (((u.fns.take k).map gM).map Func.enc):=fun n=>Func.map_upto n _
   have hTu2:∀n,uptoL n (((u.fns.take k).map gM).map Func.enc++[(gM f).enc]):=fun n=>by
    rw [←htk]
    exact Func.map_upto n _
   generalize ((u.fns.take k).map gM).map Func.enc=T at *
   refine awp_seq (awp_block ?_)
   refine zg1 ?_
   simp -dsimp only [simprocAttr,↓vpre,zp,hf]
   refine za0 ?_
   refine awp_freeze1 8 4 (.ip none [aI f.name,eBlocks f.blocks]) rfl (by simp [AObj.isSpare]) trivial rfl ?_ ?_
   rotate_left
   simp -dsimp only [simprocAttr,↓vpre,zp]
   ·by_cases he:er f=0
    ·rw [if_pos he] at hcf
     rw [orE_zero he] at hRk
     generalize gM f=g at *
     unfold Func.enc at hcf
     refine zh1 ?_
     refine zi hcf ?_
     refine za0 ?_
     refine awp_freeze1 9 5 (.ip none [aI g.name,eBlocks g.blocks]) rfl (by simp [AObj.isSpare]) trivial rfl ?_ ?_
     rotate_left
     simp -dsimp only [simprocAttr,↓vpre,zp]
     ·refine zh2 (za0 ?_)
      refine zu0 rfl ?_
      refine zb0 ?_
      refine zg0 ?_
      simp -dsimp only [simprocAttr,↓vpre,zp,htl]
      repeat(refine⟨by omega,?_⟩)
      refine za0 ?_
      refine awp_trunc' 4 [(1,.fn (.func id) [] []),(4,.mp 1 0),(5,aI 0),(6,.mp 2 0),(15,eFuncs u.fns),(16,aI u.fns.length),(17,aI k)] (by simp) (by omega) [.gone,.cells [.lst 2 [] .ex,aI 0],.cells [.lst 2 (T++[g.enc]) (.tok 3),aI u.main],.spare (k+1)] ?_ ?_ ?_ ?_ ?_
      ·rfl
      ·simp [AObj.upto,uptoL,AVal.upto,aI_upto,Func.map_upto,Block.map_upto,hTu,hTu2]
      ·simp [Says,St.get,putS,dropS,Go.Av.look,Sub.refl]
      ·simp [AObj.upto,uptoL,AVal.upto,aI_upto,Func.map_upto,Block.map_upto,hTu]
      refine zh0 ?_
      repeat(refine⟨by omega,?_⟩)
      refine zl0 ?_
      refine⟨⟨k+1,hlt,hRk⟩,by simp;omega,?_⟩
      dsimp only
      rw [htk]
      refine zq rfl ?_ ?_
      simp -dsimp only [simprocAttr,↓vpre,zp,zc]
      ·exact Sub.int (by simp)
      rfl
     exact FSub.mp rfl rfl
    rw [if_neg he] at hcf
    rw [orE_ne he] at hRk
    obtain⟨e,hee⟩:∃e,e=er f:=⟨_,rfl⟩
    rw [←hee] at hcf he hRk
    have hde:decide (e=0)=false:=decide_eq_false he
    rw [if_neg (by rw [hRk];exact he)]
    refine zh1 ?_
    refine zi hcf ?_
    refine za0 ?_
    refine zg2 ?_
    simp -dsimp only [simprocAttr,↓vpre,zp,hde]
    refine za0 ?_
    refine zw0 rfl ?_
    refine zh1 (za0 ?_)
    refine awp_ret ?_
    simp -dsimp only [simprocAttr,↓vpre,zp,zr,Try.results20]
    rw [hRk]
    simp [uptoL,AVal.upto]
   exact FSub.mp rfl rfl
  refine awp_exit ?_
  simp -dsimp only [vend,ne_eq,Nat.reduceEqDiff,reduceCtorEq]
  have hkk:k=u.fns.length:=by simp at h;omega
  subst hkk
  rw [List.drop_length] at hRk
  simp only [firstE] at hRk
  rw [if_pos hRk,List.take_length]
  have hTu:∀n,uptoL n ((u.fns.map gM).map Func.enc):=fun n=>Func.map_upto n _
  refine zh1 (za0 ?_)
  refine awp_ret ?_
  simp -dsimp only [simprocAttr,↓vpre,zp,zr,Try.results20]
  simp [uptoL,AVal.upto]
  rw [List.map_map] at hTu
  exact⟨hTu 0,by simp [Unt.enc]⟩
 exact FSub.mp rfl rfl
def erS(f:Func):Int:=if 128<f.blocks.length+(spM f).news.length then 2 else 0
theorem erS_zero{f:Func}(h:erS f=0):f.blocks.length+(spM f).news.length≤128:=by
 unfold erS at h
 split at h
 ·simp at h
 omega
theorem splitR_chg{f:Func}(hc:checkFuncM f=0):splitR f=chgR splitM erS f:=by
 unfold splitR chgR erS
 rw [if_pos hc]
 by_cases h:128<f.blocks.length+(spM f).news.length
 ·rw [if_pos h,if_pos h,if_neg (by decide)]
 rw [if_neg h,if_neg h,if_pos rfl]
theorem firstE_two:∀{l:List Func},firstE erS l≠0→firstE erS l=2
 | [],h=>absurd rfl h
 | f::r,h=>by
  unfold firstE at h ⊢
  by_cases he:erS f=0
  ·rw [orE_zero he] at h ⊢
   exact firstE_two h
  rw [orE_ne he]
  unfold erS at he ⊢
  split at he
  ·rw [if_pos (by assumption)]
  exact absurd rfl he
theorem cfgSplits_law(u:Unt)(hfit:u.fit):PCall Try.prog 6 [u.enc] (.v (.bool true)):=by
 have hwk:=works_spec
 have hck:=check_spec u hfit
 by_cases hc:checkM u=0
 ·rw [hc] at hck
  have hW:=check_ok hfit hc
  have hsi:=simple_spec u hW.few fun f hf=>⟨(hW.fns f hf).few,(hW.fns f hf).ins⟩
  by_cases hs:simpM u=true
  ·rw [hs] at hsi
   have hsp:∀f∈u.fns,PCall Try.prog 21 [f.enc] (chgR splitM erS f):=fun f hf=>by
    rw [←splitR_chg ((check_parts hc).2.2.2.1 f hf)]
    exact split_spec f (hfit.2.2 f hf)
   have hea:=each_spec u hW.few 21 splitM erS hsp
   by_cases he:firstE erS u.fns=0
   ·rw [if_pos he] at hea
    have hm:∀f∈u.fns,f.blocks.length+(spM f).news.length≤128:=fun f hf=>erS_zero (firstE_zero he f hf)
    have hfit':=splitU_fit hfit hc hm
    have hal:=alike_spec u (splitU u) hfit hfit' fun h1 _=>.inr (splitU_law hfit hc hm h1)
    have hfew:=hW.few
    have hG:∀g∈u.fns.map splitM,g.fit∧checkFuncM g=0∧GrW g∧(spM g).news=[]∧splitM g=g∧∀(k:Nat) c,g.blocks[k]?=some c→∀e∈c.term.to,critB g k e=false:=fun g hg=>by
     obtain⟨f,hf,rfl⟩:=List.mem_map.1 hg
     have hcf:=(check_parts hc).2.2.2.1 f hf
     have hgr:=(checkFunc_ok (hfit.2.2 f hf) hcf).gr
     have f1:=split_fit (hfit.2.2 f hf) (hm f hf)
     have f2:=split_check (hfit.2.2 f hf) hcf (hm f hf)
     have f3:=(checkFunc_ok f1 f2).gr
     exact⟨f1,f2,f3,(split_twice hgr f3).1,(split_twice hgr f3).2,fun k c hk e he=>split_bare hgr f3 hk he⟩
    have hGl:(u.fns.map splitM).length≤256:=by rw [List.length_map];exact hfew
    unfold splitU at hal
    obtain⟨G,hGe⟩:∃G,G=u.fns.map splitM:=⟨_,rfl⟩
    rw [←hGe] at hea hal hG hGl
    clear hGe hsp hfit'
    refine zf true 0 Try.func6 Try.ntmps6 ?_
    dsimp only [Tmp,TypeId,slotsOf]
    refine zh1 (za0 ?_)
    refine awp_freeze1 1 0 (.ip none [eFuncs u.fns,aI u.main]) rfl (by simp [AObj.isSpare]) trivial rfl ?_ ?_
    rotate_left
    simp -dsimp only [simprocAttr,↓vpre,zp]
    ·refine zh2 ?_
     refine zi hwk ?_
     refine za0 ?_
     apply zk0 rfl<;>intro h
     ·cases h
     refine zb0 ?_
     refine zh2 ?_
     refine zi hck ?_
     refine zi hsi ?_
     refine za0 ?_
     apply zk0 rfl<;>intro h
     ·cases h
     refine zb0 ?_
     refine zh1 ?_
     refine zi hea ?_
     refine za0 ?_
     refine awp_freeze1 3 1 (.ip none [eFuncs G,aI u.main]) rfl (by simp [AObj.isSpare]) trivial rfl ?_ ?_
     rotate_left
     simp -dsimp only [simprocAttr,↓vpre,zp]
     ·refine zh2 (za0 ?_)
      apply zk0 rfl<;>intro h
      ·cases h
      refine zb0 ?_
      refine zh2 (za0 ?_)
      refine awp_block (awp_loop (ι:={k:Nat // k≤G.length}) (fun k=>⟨96,[(1,.ip none [eFuncs u.fns,aI u.main]),(3,.ip none [eFuncs G,aI u.main]),(35,eFuncs G),(36,aI G.length),(37,aI k.1)],[.gone,.gone]⟩) (fun k=>G.length - k.1) ⟨0,by omega⟩ ?_ ?_)
      ·refine zq rfl ?_ ?_
       simp -dsimp only [simprocAttr,↓vpre,zp,zc]
       all_goals rfl
      rintro⟨k,hk⟩
      refine zh1 (za0 ?_)
      apply zk1 rfl<;>intro h
      ·refine zb0 ?_
       have hlt:k<G.length:=by simpa using h
       obtain⟨g,hg⟩:∃g,G[k]?=some g:=⟨G[k],by simp [hlt]⟩
       obtain⟨gf,gc,gg,gn,gs,gb⟩:=hG g (List.mem_of_getElem? hg)
       have hpr:=preds_spec g gf
       unfold predsR at hpr
       rw [if_pos gc] at hpr
       have hsg:=split_spec g gf
       unfold splitR at hsg
       rw [if_pos gc,gn,if_neg (by have:=gg.few;simp;omega),gs] at hsg
       have hsf:=sameFunc_refl g gf
       have hprl:=preds_len g
       have hN:=gg.few
       unfold Func.enc at hpr hsg hsf
       refine awp_seq (awp_block ?_)
       refine zg1 ?_
       simp -dsimp only [simprocAttr,↓vpre,zp,hg]
       refine za0 ?_
       refine awp_freeze1 6 2 (.ip none [aI g.name,eBlocks g.blocks]) rfl (by simp [AObj.isSpare]) trivial rfl ?_ ?_
       rotate_left
       simp -dsimp only [simprocAttr,↓vpre,zp]
       ·refine awp_trunc' 2 [(1,.ip none [eFuncs u.fns,aI u.main]),(3,.ip none [eFuncs G,aI u.main]),(35,eFuncs G),(36,aI G.length),(37,aI k),(6,.ip none [aI g.name,eBlocks g.blocks])] (by simp) (by omega) [.gone,.gone] ?_ ?_ ?_ ?_ ?_
        ·rfl
        ·simp [AObj.upto,uptoL,AVal.upto,aI_upto,Func.map_upto,Block.map_upto]
        ·simp [Says,St.get,putS,dropS,Go.Av.look,Sub.refl]
        ·simp [AObj.upto,uptoL,AVal.upto,aI_upto,Func.map_upto,Block.map_upto]
        refine zh1 ?_
        refine zi hpr ?_
        refine za0 ?_
        refine zh2 (za0 ?_)
        apply zk0 rfl<;>intro h
        ·cases h
        refine zb0 ?_
        refine zh2 (za0 ?_)
        refine awp_block (awp_loop (ι:={j:Nat // j≤g.blocks.length}) (fun j=>⟨96,[(1,.ip none [eFuncs u.fns,aI u.main]),(3,.ip none [eFuncs G,aI u.main]),(35,eFuncs G),(36,aI G.length),(37,aI k),(6,.ip none [aI g.name,eBlocks g.blocks]),(7,.lst 1 ((predsM g).map eIs) .sh),(49,eBlocks g.blocks),(50,aI g.blocks.length),(51,aI j.1)],[.gone,.gone]⟩) (fun j=>g.blocks.length - j.1) ⟨0,by omega⟩ ?_ ?_)
        ·refine zq rfl ?_ ?_
         simp -dsimp only [simprocAttr,↓vpre,zp,zc]
         all_goals rfl
        rintro⟨j,hj⟩
        refine zh1 (za0 ?_)
        apply zk1 rfl<;>intro h
        ·refine zb0 ?_
         have hlj:j<g.blocks.length:=by simpa using h
         obtain⟨b,hb⟩:∃b,g.blocks[j]?=some b:=⟨g.blocks[j],by simp [hlj]⟩
         have hbt:=gg.to b (List.mem_of_getElem? hb)
         have hbe:=gg.edges b (List.mem_of_getElem? hb)
         have hbc:=gb j b hb
         have hbo:blkOf g (j:Int)=b:=by simp [blkOf,hb]
         refine awp_seq (awp_block ?_)
         refine zg1 ?_
         simp -dsimp only [simprocAttr,↓vpre,zp,hb]
         refine za0 ?_
         refine awp_freeze1 10 2 (.ip none [eIs b.params,eInss b.ins,aI b.term.kind,aI b.term.arg,aI b.term.n,eIs b.term.cases,eEdges b.term.to]) rfl (by simp [AObj.isSpare]) trivial rfl ?_ ?_
         rotate_left
         simp -dsimp only [simprocAttr,↓vpre,zp]
         ·refine awp_trunc' 2 [(1,.ip none [eFuncs u.fns,aI u.main]),(3,.ip none [eFuncs G,aI u.main]),(35,eFuncs G),(36,aI G.length),(37,aI k),(6,.ip none [aI g.name,eBlocks g.blocks]),(7,.lst 1 ((predsM g).map eIs) .sh),(49,eBlocks g.blocks),(50,aI g.blocks.length),(51,aI j),(10,.ip none [eIs b.params,eInss b.ins,aI b.term.kind,aI b.term.arg,aI b.term.n,eIs b.term.cases,eEdges b.term.to])] (by simp) (by omega) [.gone,.gone] ?_ ?_ ?_ ?_ ?_
          ·rfl
          ·simp [AObj.upto,uptoL,AVal.upto,aI_upto,Func.map_upto,Block.map_upto,Edge.map_upto,Ins.map_upto,eIss_up]
          ·simp [Says,St.get,putS,dropS,Go.Av.look,Sub.refl]
          ·simp [AObj.upto,uptoL,AVal.upto,aI_upto,Func.map_upto,Block.map_upto,Edge.map_upto,Ins.map_upto,eIss_up]
          refine zh1 (za0 ?_)
          refine awp_block (awp_loop (ι:={z:Nat // z≤b.term.to.length}) (fun z=>⟨96,[(1,.ip none [eFuncs u.fns,aI u.main]),(3,.ip none [eFuncs G,aI u.main]),(35,eFuncs G),(36,aI G.length),(37,aI k),(6,.ip none [aI g.name,eBlocks g.blocks]),(7,.lst 1 ((predsM g).map eIs) .sh),(49,eBlocks g.blocks),(50,aI g.blocks.length),(51,aI j),(10,.ip none [eIs b.params,eInss b.ins,aI b.term.kind,aI b.term.arg,aI b.term.n,eIs b.term.cases,eEdges b.term.to]),(57,eEdges b.term.to),(58,aI b.term.to.length),(59,aI z.1)],[.gone,.gone]⟩) (fun z=>b.term.to.length - z.1) ⟨0,by omega⟩ ?_ ?_)
          ·refine zq rfl ?_ ?_
           simp -dsimp only [simprocAttr,↓vpre,zp,zc]
           all_goals rfl
          rintro⟨z,hz⟩
          refine zh1 (za0 ?_)
          apply zk1 rfl<;>intro h
          ·refine zb0 ?_
           have hlz:z<b.term.to.length:=by simpa using h
           obtain⟨x,hx⟩:∃x,b.term.to[z]?=some x:=⟨b.term.to[z],by simp [hlz]⟩
           have hxr:=hbe x (List.mem_of_getElem? hx)
           have hxc:=hbc x (List.mem_of_getElem? hx)
           obtain⟨p,hp⟩:∃p,p=predsAt g x.block:=⟨_,rfl⟩
           have hpp:(predsM g)[x.block.toNat]?=some p:=by
            rw [hp]
            unfold predsAt
            rw [List.getElem?_eq_getElem (by rw [hprl];omega)]
            rfl
           unfold critB at hxc
           rw [hbo,←hp] at hxc
           refine awp_seq (awp_block ?_)
           refine zg1 ?_
           simp -dsimp only [simprocAttr,↓vpre,zp,hx]
           refine za0 ?_
           refine awp_freeze1 12 2 (.ip none [aI x.block,eIs x.args]) rfl (by simp [AObj.isSpare]) trivial rfl ?_ ?_
           rotate_left
           simp -dsimp only [simprocAttr,↓vpre,zp]
           ·refine awp_trunc' 2 [(1,.ip none [eFuncs u.fns,aI u.main]),(3,.ip none [eFuncs G,aI u.main]),(35,eFuncs G),(36,aI G.length),(37,aI k),(6,.ip none [aI g.name,eBlocks g.blocks]),(7,.lst 1 ((predsM g).map eIs) .sh),(49,eBlocks g.blocks),(50,aI g.blocks.length),(51,aI j),(10,.ip none [eIs b.params,eInss b.ins,aI b.term.kind,aI b.term.arg,aI b.term.n,eIs b.term.cases,eEdges b.term.to]),(57,eEdges b.term.to),(58,aI b.term.to.length),(59,aI z),(12,.ip none [aI x.block,eIs x.args])] (by simp) (by omega) [.gone,.gone] ?_ ?_ ?_ ?_ ?_
            ·rfl
            ·simp [AObj.upto,uptoL,AVal.upto,aI_upto,Func.map_upto,Block.map_upto,Edge.map_upto,Ins.map_upto,eIss_up]
            ·simp [Says,St.get,putS,dropS,Go.Av.look,Sub.refl]
            ·simp [AObj.upto,uptoL,AVal.upto,aI_upto,Func.map_upto,Block.map_upto,Edge.map_upto,Ins.map_upto,eIss_up]
            by_cases c1:2≤b.term.to.length
            ·have g1:decide ((1:Int)<b.term.to.length)=true:=decide_eq_true (by omega)
             rw [decide_eq_true c1,Bool.true_and] at hxc
             have c2:=of_decide_eq_false hxc
             have g2:decide ((1:Int)<p.length)=false:=decide_eq_false (by omega)
             refine zg1 ?_
             simp -dsimp only [simprocAttr,↓vpre,zp,g1,hpp,g2]
             repeat(refine⟨by omega,?_⟩)
             refine za0 ?_
             refine zu0 rfl ?_
             refine zb1 ?_
             refine zh0 ?_
             repeat(refine⟨by omega,?_⟩)
             refine zl0 ?_
             refine⟨⟨z+1,hlz⟩,by simp;omega,?_⟩
             refine zq rfl ?_ ?_
             simp -dsimp only [simprocAttr,↓vpre,zp,zc]
             ·exact Sub.int (by simp)
             rfl
            have g1:decide ((1:Int)<b.term.to.length)=false:=decide_eq_false (by omega)
            refine zg1 ?_
            simp -dsimp only [simprocAttr,↓vpre,zp,g1]
            repeat(refine⟨by omega,?_⟩)
            refine za0 ?_
            refine zu0 rfl ?_
            refine zb1 ?_
            refine zh0 ?_
            repeat(refine⟨by omega,?_⟩)
            refine zl0 ?_
            refine⟨⟨z+1,hlz⟩,by simp;omega,?_⟩
            refine zq rfl ?_ ?_
            simp -dsimp only [simprocAttr,↓vpre,zp,zc]
            ·exact Sub.int (by simp)
            rfl
           exact FSub.mp rfl rfl
          refine awp_exit ?_
          simp -dsimp only [vend,ne_eq,Nat.reduceEqDiff,reduceCtorEq]
          refine zh0 ?_
          repeat(refine⟨by omega,?_⟩)
          refine zl0 ?_
          refine⟨⟨j+1,hlj⟩,by simp;omega,?_⟩
          refine zq rfl ?_ ?_
          simp -dsimp only [simprocAttr,↓vpre,zp,zc]
          ·exact Sub.int (by simp)
          rfl
         exact FSub.mp rfl rfl
        refine awp_exit ?_
        simp -dsimp only [vend,ne_eq,Nat.reduceEqDiff,reduceCtorEq]
        refine zh1 ?_
        refine zi hsg ?_
        refine za0 ?_
        refine awp_freeze1 13 2 (.ip none [aI g.name,eBlocks g.blocks]) rfl (by simp [AObj.isSpare]) trivial rfl ?_ ?_
        rotate_left
        simp -dsimp only [simprocAttr,↓vpre,zp]
        ·refine awp_trunc' 2 [(1,.ip none [eFuncs u.fns,aI u.main]),(3,.ip none [eFuncs G,aI u.main]),(35,eFuncs G),(36,aI G.length),(37,aI k),(6,.ip none [aI g.name,eBlocks g.blocks]),(13,.ip none [aI g.name,eBlocks g.blocks]),(14,aI 0)] (by simp) (by omega) [.gone,.gone] ?_ ?_ ?_ ?_ ?_
         ·rfl
         ·simp [AObj.upto,uptoL,AVal.upto,aI_upto,Func.map_upto,Block.map_upto]
         ·simp [Says,St.get,putS,dropS,Go.Av.look,Sub.refl]
         ·simp [AObj.upto,uptoL,AVal.upto,aI_upto,Func.map_upto,Block.map_upto]
         refine zh1 ?_
         refine zi hsf ?_
         refine za0 ?_
         refine zu0 rfl ?_
         refine zb1 ?_
         refine zh0 ?_
         repeat(refine⟨by omega,?_⟩)
         refine zl0 ?_
         refine⟨⟨k+1,hlt⟩,by simp;omega,?_⟩
         refine zq rfl ?_ ?_
         simp -dsimp only [simprocAttr,↓vpre,zp,zc]
         ·exact Sub.int (by simp)
         rfl
        exact FSub.mp rfl rfl
       exact FSub.mp rfl rfl
      refine awp_exit ?_
      simp -dsimp only [vend,ne_eq,Nat.reduceEqDiff,reduceCtorEq]
      refine zh1 ?_
      refine zi hal ?_
      refine za0 ?_
      refine awp_ret ?_
      simp -dsimp only [simprocAttr,↓vpre,zp,zr,Try.results6]
     exact FSub.mp rfl rfl
    exact FSub.mp rfl rfl
   rw [if_neg he] at hea
   have he2:=firstE_two he
   rw [he2] at hea
   refine zf true 0 Try.func6 Try.ntmps6 ?_
   dsimp only [Tmp,TypeId,slotsOf]
   refine zh1 (za0 ?_)
   refine awp_freeze1 1 0 (.ip none [eFuncs u.fns,aI u.main]) rfl (by simp [AObj.isSpare]) trivial rfl ?_ ?_
   rotate_left
   simp -dsimp only [simprocAttr,↓vpre,zp]
   ·refine zh2 ?_
    refine zi hwk ?_
    refine za0 ?_
    refine zu0 rfl ?_
    refine zb0 ?_
    refine zh2 ?_
    refine zi hck ?_
    refine zi hsi ?_
    refine za0 ?_
    refine zu0 rfl ?_
    refine zb0 ?_
    refine zh1 ?_
    refine zi hea ?_
    refine za0 ?_
    refine zh2 (za0 ?_)
    refine zw0 rfl ?_
    refine zh1 (za0 ?_)
    refine awp_ret ?_
    simp -dsimp only [simprocAttr,↓vpre,zp,zr,Try.results6]
   exact FSub.mp rfl rfl
  have hs':simpM u=false:=by simpa using hs
  rw [hs'] at hsi
  refine zf true 0 Try.func6 Try.ntmps6 ?_
  dsimp only [Tmp,TypeId,slotsOf]
  refine zh1 (za0 ?_)
  refine awp_freeze1 1 0 (.ip none [eFuncs u.fns,aI u.main]) rfl (by simp [AObj.isSpare]) trivial rfl ?_ ?_
  rotate_left
  simp -dsimp only [simprocAttr,↓vpre,zp]
  ·refine zh2 ?_
   refine zi hwk ?_
   refine za0 ?_
   refine zu0 rfl ?_
   refine zb0 ?_
   refine zh2 ?_
   refine zi hck ?_
   refine zi hsi ?_
   refine za0 ?_
   refine zw0 rfl ?_
   refine zh1 (za0 ?_)
   refine awp_ret ?_
   simp -dsimp only [simprocAttr,↓vpre,zp,zr,Try.results6]
  exact FSub.mp rfl rfl
 obtain⟨e,hee⟩:∃e,e=checkM u:=⟨_,rfl⟩
 rw [←hee] at hc hck
 have hde:decide (e=0)=false:=decide_eq_false hc
 refine zf true 0 Try.func6 Try.ntmps6 ?_
 dsimp only [Tmp,TypeId,slotsOf]
 refine zh1 (za0 ?_)
 refine awp_freeze1 1 0 (.ip none [eFuncs u.fns,aI u.main]) rfl (by simp [AObj.isSpare]) trivial rfl ?_ ?_
 rotate_left
 simp -dsimp only [simprocAttr,↓vpre,zp]
 ·refine zh2 ?_
  refine zi hwk ?_
  refine za0 ?_
  refine zu0 rfl ?_
  refine zb0 ?_
  refine zg2 ?_
  simp -dsimp only [simprocAttr,↓vpre,zp,hde]
  refine .inl ⟨_,hck,by simp only [uptoL,AVal.upto,zt,zu,aI_upto],later_intro ?_⟩
  simp -dsimp only [simprocAttr,↓vpre,zp,hde]
  refine za0 ?_
  refine zw0 rfl ?_
  refine zh1 (za0 ?_)
  refine awp_ret ?_
  simp -dsimp only [simprocAttr,↓vpre,zp,zr,Try.results6]
 exact FSub.mp rfl rfl
end Go.Proofs.Ytkhnjeblbiocaaa
