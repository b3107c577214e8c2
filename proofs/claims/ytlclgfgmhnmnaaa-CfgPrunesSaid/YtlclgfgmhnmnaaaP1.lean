/-
  Texts bound together by a program of mine: YtlclgfgmhnmnaaaPy, YtlclgfgmhnmnaaaPz, YtlclgfgmhnmnaaaPwa, YtlclgfgmhnmnaaaPf, YtlclgfgmhnmnaaaT48, YtlclgfgmhnmnaaaPc, YtlclgfgmhnmnaaaPus, YtlclgfgmhnmnaaaPum, YtlclgfgmhnmnaaaT41, YtlclgfgmhnmnaaaPj, YtlclgfgmhnmnaaaT43, YtlclgfgmhnmnaaaPg, YtlclgfgmhnmnaaaPk, YtlclgfgmhnmnaaaPun, YtlclgfgmhnmnaaaPuo, YtlclgfgmhnmnaaaT44, YtlclgfgmhnmnaaaT45, YtlclgfgmhnmnaaaT46, YtlclgfgmhnmnaaaT54, YtlclgfgmhnmnaaaPl, YtlclgfgmhnmnaaaPdb, YtlclgfgmhnmnaaaPdc, YtlclgfgmhnmnaaaPdd, YtlclgfgmhnmnaaaPua, YtlclgfgmhnmnaaaPub, YtlclgfgmhnmnaaaPuq, YtlclgfgmhnmnaaaPut, YtlclgfgmhnmnaaaPuu, YtlclgfgmhnmnaaaPuv, YtlclgfgmhnmnaaaPwb, YtlclgfgmhnmnaaaPur, YtlclgfgmhnmnaaaT121, YtlclgfgmhnmnaaaT122, YtlclgfgmhnmnaaaPud, YtlclgfgmhnmnaaaT49, YtlclgfgmhnmnaaaT50, YtlclgfgmhnmnaaaPh, YtlclgfgmhnmnaaaT51, YtlclgfgmhnmnaaaPi, YtlclgfgmhnmnaaaPde, YtlclgfgmhnmnaaaT59, YtlclgfgmhnmnaaaT52, YtlclgfgmhnmnaaaPda, YtlclgfgmhnmnaaaT53, YtlclgfgmhnmnaaaPdf, YtlclgfgmhnmnaaaPdg, YtlclgfgmhnmnaaaPdh, YtlclgfgmhnmnaaaT101, YtlclgfgmhnmnaaaT102, YtlclgfgmhnmnaaaT103, YtlclgfgmhnmnaaaT107, YtlclgfgmhnmnaaaT55, YtakdmelemfnmdaaAvv, YtlclgfgmhnmnaaaT56, YtlclgfgmhnmnaaaT123, YtlclgfgmhnmnaaaT129.
-/
import Derived.Test.YtlclgfgmhnmnaaaJ4
import Derived.Sort.Grow
import Derived.Test.YtlclgfgmhnmnaaaChecked
import Derived.KernelRfl
import Derived.Shelf.Slices.In.SortNone
import Derived.Shelf.Sort.Plain
set_option linter.all false
set_option maxRecDepth 100000
set_option maxHeartbeats 4000000

namespace Go.Proofs.Ytlclgfgmhnmnaaa
open Go.Av
theorem pay_ok{u:Unt}{m:Mach}(hm:MachOK u m)(ho:m.over=false)(hp:¬m.left<1):MachOK u (m.pay 1)∧(m.pay 1).over=false∧(m.pay 1).short=false∧(m.pay 1).left=m.left - 1∧(m.pay 1).frames=m.frames:=by
 have h0:=hm.left
 have hd:=hm.depth
 have hm1e:m.pay 1 = { m with left:=m.left - 1 }:=by simp [Mach.pay,hp]
 rw [hm1e]
 exact⟨⟨fun f hf=>(hm.frames f hf).of_heap (by rfl),fun a ha=>⟨(hm.arrs a ha).1,fun v hv=>((hm.arrs a ha).2 v hv).of_heap (by rfl)⟩,by simp only;omega,by simp only;omega,hm.out,hm.words,hm.fin,hm.val,hm.done,fun h=>hm.over h⟩,ho,(hm.over ho).2,rfl,rfl⟩
theorem pay_short{m:Mach}(hp:m.left<1):m.pay 1 = { m with short:=true,over:=true }:=by simp [Mach.pay,hp]
theorem run_ok{u:Unt}(hu:UnitOK u):∀(k:Nat) (m:Mach),MachOK u m→m.left.toNat+2≤k→(Mach.run u k m).over=true∧(Mach.run u k m).left≤m.left∧(m.over=false→(Mach.run u k m).short=false→(Mach.run u k m).left≤m.left - 1)∧((Mach.run u k m).short=false→MachOK u (Mach.run u k m))
 | 0,m,hm,hk=>by omega
 | k+1,m,hm,hk=>by
  cases hov:m.over with
  | true=>simp [Mach.run,hov,hm]
  | false =>
   have hl:=hm.left
   have hd:=hm.depth
   simp only [Mach.run,hov,Bool.false_eq_true,if_false]
   by_cases hp:m.left<1
   ·rw [pay_short hp]
    simp
   obtain⟨q1,q2,q3,q4,q5⟩:=pay_ok hm hov hp
   rw [if_neg (by simp [q3])]
   have hd1:(m.pay 1).frames.length+(m.pay 1).left+1≤2 ^ 40:=by rw [q4,q5];omega
   have hs:=MachOK.step hu q1 q2 hd1
   have hsl:=step_left u (m.pay 1) q1 hu q2
   have hs0:=hs.left
   have ih:=run_ok hu k _ hs (by omega)
   refine⟨ih.1,by have:=ih.2.1;omega,fun _ _=>by have:=ih.2.1;omega,ih.2.2.2⟩
namespace Mach
def shift(m:Mach)(c:Int):Mach:={ m with left:=m.left+c }
theorem shift_pay(m:Mach)(c n:Int)(h:¬m.left<n)(h':¬m.left+c<n):(m.shift c).pay n=(m.pay n).shift c:=by
 have h1:m.pay n = { m with left:=m.left - n }:=by simp [pay,h]
 have h2:(m.shift c).pay n = { m.shift c with left:=(m.shift c).left - n }:=by simp [pay,shift,h']
 rw [h1,h2]
 simp only [shift]
 congr 1
 omega
theorem shift_allocate(m:Mach)(c:Int)(size fill:SV)(hs:(m.allocate size fill).1.short=false)(hl:0≤(m.allocate size fill).1.left+c):(m.shift c).allocate size fill=((m.allocate size fill).1.shift c,(m.allocate size fill).2):=by
 unfold allocate at hs hl ⊢
 by_cases h1:size.kind≠0
 ·rw [if_pos h1,if_pos h1]
 rw [if_neg h1] at hs hl
 rw [if_neg h1,if_neg h1]
 by_cases h2:size.n<0∨1024<size.n
 ·rw [if_pos h2,if_pos h2]
 rw [if_neg h2] at hs hl
 rw [if_neg h2,if_neg h2]
 by_cases h3:(m.pay size.n).short=true
 ·rw [if_pos h3] at hs
  simp only at hs
  rw [hs] at h3
  cases h3
 rw [if_neg h3] at hl
 have h4:¬m.left<size.n:=fun q=>h3 (by simp [pay,q])
 have h5:m.pay size.n = { m with left:=m.left - size.n }:=by simp [pay,h4]
 have h7:(m.pay size.n).left=m.left - size.n:=by rw [h5]
 simp only [h7] at hl
 rw [shift_pay m c size.n h4 (by omega)]
 have h6:¬((m.pay size.n).shift c).short=true:=h3
 rw [if_neg h6,if_neg h3]
 rfl
theorem shift_effect(m:Mach)(c:Int)(i:Ins)(args:List SV)(hs:(m.effect i args).1.short=false)(hl:0≤(m.effect i args).1.left+c):(m.shift c).effect i args=((m.effect i args).1.shift c,(m.effect i args).2):=by
 unfold effect at hs hl ⊢
 by_cases h15:i.op=15
 ·rw [if_pos h15,if_pos h15]
  show(if _ then _ else if m.out.length=1000 then _ else _)=_
  split
  ·rfl
  split<;>rfl
 rw [if_neg h15] at hs hl
 rw [if_neg h15,if_neg h15]
 by_cases h16:i.op=16
 ·rw [if_pos h16] at hs hl
  rw [if_pos h16,if_pos h16]
  exact shift_allocate m c _ _ hs hl
 rw [if_neg h16,if_neg h16]
 by_cases h18:i.op=18
 ·rw [if_pos h18,if_pos h18]
  split
  ·rfl
  split<;>rfl
 have hh:(m.shift c).heap=m.heap:=rfl
 rw [if_neg h18,if_neg h18,hh]
 by_cases k1:(argS args 0).kind≠3∨(i.op≠17∧(argS args 1).kind≠0)
 ·rw [if_pos k1,if_pos k1]
 rw [if_neg k1,if_neg k1]
 by_cases k2:i.op=17
 ·rw [if_pos k2,if_pos k2]
 rw [if_neg k2,if_neg k2]
 by_cases k3:(argS args 1).n<0∨((arrOf m.heap (argS args 0).arr).length:Int)≤(argS args 1).n
 ·rw [if_pos k3,if_pos k3]
 rw [if_neg k3,if_neg k3]
 by_cases k4:i.op=19
 ·rw [if_pos k4,if_pos k4]
 rw [if_neg k4,if_neg k4]
 rfl
theorem shift_exec(m:Mach)(c:Int)(i:Ins)(args:List SV)(hs:(m.exec i args).1.short=false)(hl:0≤(m.exec i args).1.left+c):(m.shift c).exec i args=((m.exec i args).1.shift c,(m.exec i args).2):=by
 unfold exec at hs hl ⊢
 by_cases h0:i.op=0
 ·rw [if_pos h0,if_pos h0]
 rw [if_neg h0] at hs hl
 rw [if_neg h0,if_neg h0]
 by_cases h1:1≤i.op∧i.op≤7
 ·rw [if_pos h1,if_pos h1]
  split<;>rfl
 rw [if_neg h1] at hs hl
 rw [if_neg h1,if_neg h1]
 by_cases h8:i.op=8
 ·rw [if_pos h8,if_pos h8]
 rw [if_neg h8] at hs hl
 rw [if_neg h8,if_neg h8]
 by_cases h9:i.op=9
 ·rw [if_pos h9,if_pos h9]
 rw [if_neg h9] at hs hl
 rw [if_neg h9,if_neg h9]
 by_cases h10:i.op=10∨i.op=11∨i.op=12∨i.op=21
 ·rw [if_pos h10,if_pos h10]
 rw [if_neg h10] at hs hl
 rw [if_neg h10,if_neg h10]
 by_cases h22:i.op=22∨i.op=23∨i.op=24
 ·rw [if_pos h22,if_pos h22]
 rw [if_neg h22] at hs hl
 rw [if_neg h22,if_neg h22]
 by_cases h100:i.op=100
 ·rw [if_pos h100,if_pos h100]
 rw [if_neg h100] at hs hl
 rw [if_neg h100,if_neg h100]
 exact shift_effect m c i args hs hl
theorem settle_short(f:Fr)(to:Int)(r:Mach×SV×Int):(settle f to r).short=r.1.short∧(settle f to r).left=r.1.left:=by
 unfold settle
 split<;>exact⟨rfl,rfl⟩
end Mach
theorem run_over'{u:Unt}{m:Mach}(h:m.over=true)(k:Nat):Mach.run u k m=m:=by
 cases k with
 | zero=>rfl
 | succ k=>simp [Mach.run,h]
end Go.Proofs.Ytlclgfgmhnmnaaa
namespace Go.Proofs.Ytlclgfgmhnmnaaa
open Go.Av
def trI(s:Int→Int)(i:Ins):Ins:=⟨s i.to,i.op,i.n,i.args.map s⟩
theorem getS_put(es:List (Int×SV))(k j:Int)(v:SV):getS (putS' es k v) j=if k=j then v else getS es j:=by
 unfold getS
 induction es with
 | nil =>
  simp only [putS',lookS]
  split<;>rfl
 | cons p r ih =>
  obtain⟨a,x⟩:=p
  simp only [putS']
  by_cases h:a=k
  ·rw [if_pos h]
   subst h
   simp only [lookS]
   split<;>rfl
  rw [if_neg h]
  simp only [lookS]
  by_cases h2:a=j
  ·rw [if_pos h2,if_pos h2,if_neg (fun q=>h (by rw [h2,q]))]
  rw [if_neg h2,if_neg h2]
  exact ih
def VR(D:Int→Prop)(s:Int→Int)(es es':List (Int×SV)):Prop:=∀k,D k→getS es' (s k)=getS es k
section
variable {D:Int→Prop} {s:Int→Int}
theorem VR.put(hi:∀j k,D j→D k→s j=s k→j=k){es es':List (Int×SV)}(h:VR D s es es'){k:Int}(hk:D k)(v:SV):VR D s (putS' es k v) (putS' es' (s k) v):=fun j hj=>by
 rw [getS_put,getS_put]
 by_cases e:k=j
 ·rw [if_pos e,if_pos (by rw [e])]
 rw [if_neg e,if_neg (fun q=>e (hi k j hk hj q)),h j hj]
theorem VR.bind(hi:∀j k,D j→D k→s j=s k→j=k):∀(ps:List Int) (l:List SV) {es es':List (Int×SV)},(∀p∈ps,D p)→VR D s es es'→VR D s (bindS es ps l) (bindS es' (ps.map s) l)
 | [],l,es,es',_,h=>by simpa [bindS] using h
 | p::ps,[],es,es',_,h=>by simpa [bindS] using h
 | p::ps,a::l,es,es',hp,h=>by
  simp only [bindS,List.map_cons]
  exact VR.bind hi ps l (fun q hq=>hp q (List.mem_cons_of_mem _ hq)) (h.put hi (hp p List.mem_cons_self) a)
theorem VR.take{es es':List (Int×SV)}(h:VR D s es es'){l:List Int}(hl:∀a∈l,D a):takeS es' (l.map s)=takeS es l:=by
 unfold takeS
 rw [List.map_map]
 exact List.map_congr_left fun a ha=>h a (hl a ha)
theorem VR.other{es es':List (Int×SV)}(h:VR D s es es'){j:Int}(hj:∀k,D k→s k≠j)(v:SV):VR D s es (putS' es' j v):=fun k hk=>by
 rw [getS_put,if_neg fun q=>hj k hk q.symm,h k hk]
end
structure EdgeTr(v:Unt)(s:Int→Int)(D L:Int→Prop)(β:Int→Int)(pre:Int→List Ins)(c:Int)(fn:Int)(e e':Edge):Prop where
 live:L e.block
 args:∀a∈e.args,D a
 way:(e'.block=β e.block∧e'.args=e.args.map s∧1+((pre e.block).length:Int)≤c) ∨
  ∃(C:Block) (e2:Edge),C=blkOf (fnOf v fn) e'.block∧C.ins=[]∧C.term.kind=1∧C.term.to=[e2]∧e2.block=β e.block∧2+((pre e.block).length:Int)≤c ∧
   ∀es,takeS (bindS es C.params (takeS es e'.args)) e2.args=takeS es (e.args.map s)∧∀k,D k→getS (bindS es C.params (takeS es e'.args)) (s k)=getS es (s k)
structure BlkTr(v:Unt)(s:Int→Int)(D L:Int→Prop)(β:Int→Int)(pre:Int→List Ins)(c:Int)(fn:Int)(b:Int)(B B':Block):Prop where
 params:B'.params=B.params.map s∧∀p∈B.params,D p
 ins:B'.ins=pre b++B.ins.map (trI s)
 vals:∀i∈B.ins,D i.to∧∀a∈i.args,D a
 hd:∀i∈pre b,i.op=0∧∀k,D k→s k≠i.to
 term:B'.term.kind=B.term.kind∧B'.term.n=B.term.n∧B'.term.cases=B.term.cases∧B'.term.to.length=B.term.to.length
 arg:B.term.kind≠1→B.term.kind≠4→B'.term.arg=s B.term.arg∧D B.term.arg
 edges:∀(k:Nat) e e',B.term.to[k]?=some e→B'.term.to[k]?=some e'→EdgeTr v s D L β pre c fn e e'
structure UntTr(u v:Unt)(s:Int→Int)(D L:Int→Int→Prop)(β:Int→Int→Int)(pre:Int→Int→List Ins)(c:Int):Prop where
 fns:v.fns.length=u.fns.length
 main:v.main=u.main
 inj:∀fn j k:Int,D fn j→D fn k→s j=s k→j=k
 zero:∀fn:Int,0≤fn→fn<u.fns.length→L fn 0∧β fn 0=0∧1+((pre fn 0).length:Int)≤c
 blks:∀fn b:Int,0≤fn→fn<u.fns.length→L fn b→BlkTr v s (D fn) (L fn) (β fn) (pre fn) c fn b (blkOf (fnOf u fn) b) (blkOf (fnOf v fn) (β fn b))
namespace Mach
def put(m:Mach)(fs:List Fr)(l:Int):Mach:={ m with frames:=fs,left:=l }
theorem frames_allocate(m:Mach)(fs:List Fr)(size fill:SV):({ m with frames:=fs }:Mach).allocate size fill=({ (m.allocate size fill).1 with frames:=fs },(m.allocate size fill).2):=by
 unfold allocate
 by_cases h1:size.kind≠0
 ·rw [if_pos h1,if_pos h1]
 rw [if_neg h1,if_neg h1]
 by_cases h2:size.n<0∨1024<size.n
 ·rw [if_pos h2,if_pos h2]
 rw [if_neg h2,if_neg h2]
 have e:({ m with frames:=fs }:Mach).pay size.n = { m.pay size.n with frames:=fs }:=by
  unfold pay
  by_cases h3:m.left<size.n
  ·rw [if_pos h3,if_pos h3]
  rw [if_neg h3,if_neg h3]
 rw [e]
 by_cases h4:(m.pay size.n).short=true
 ·rw [if_pos h4,if_pos h4]
 rw [if_neg h4,if_neg h4]
theorem frames_effect(m:Mach)(fs:List Fr)(i:Ins)(args:List SV):({ m with frames:=fs }:Mach).effect i args=({ (m.effect i args).1 with frames:=fs },(m.effect i args).2):=by
 unfold effect
 by_cases h15:i.op=15
 ·rw [if_pos h15,if_pos h15]
  show(if _ then _ else if m.out.length=1000 then _ else _)=_
  split
  ·rfl
  split<;>rfl
 rw [if_neg h15,if_neg h15]
 by_cases h16:i.op=16
 ·rw [if_pos h16,if_pos h16]
  exact frames_allocate m fs _ _
 rw [if_neg h16,if_neg h16]
 by_cases h18:i.op=18
 ·rw [if_pos h18,if_pos h18]
  split
  ·rfl
  split<;>rfl
 rw [if_neg h18,if_neg h18]
 by_cases k1:(argS args 0).kind≠3∨(i.op≠17∧(argS args 1).kind≠0)
 ·rw [if_pos k1,if_pos k1]
 rw [if_neg k1,if_neg k1]
 by_cases k2:i.op=17
 ·rw [if_pos k2,if_pos k2]
 rw [if_neg k2,if_neg k2]
 show(if (argS args 1).n<0∨((arrOf m.heap (argS args 0).arr).length:Int)≤(argS args 1).n then _ else _)=_
 by_cases k3:(argS args 1).n<0∨((arrOf m.heap (argS args 0).arr).length:Int)≤(argS args 1).n
 ·rw [if_pos k3,if_pos k3]
 rw [if_neg k3,if_neg k3]
 by_cases k4:i.op=19
 ·rw [if_pos k4,if_pos k4]
 rw [if_neg k4,if_neg k4]
theorem frames_exec(m:Mach)(fs:List Fr)(i:Ins)(args:List SV):({ m with frames:=fs }:Mach).exec i args=({ (m.exec i args).1 with frames:=fs },(m.exec i args).2):=by
 unfold exec
 by_cases h0:i.op=0
 ·rw [if_pos h0,if_pos h0]
 rw [if_neg h0,if_neg h0]
 by_cases h1:1≤i.op∧i.op≤7
 ·rw [if_pos h1,if_pos h1]
  split<;>rfl
 rw [if_neg h1,if_neg h1]
 by_cases h8:i.op=8
 ·rw [if_pos h8,if_pos h8]
 rw [if_neg h8,if_neg h8]
 by_cases h9:i.op=9
 ·rw [if_pos h9,if_pos h9]
 rw [if_neg h9,if_neg h9]
 by_cases h10:i.op=10∨i.op=11∨i.op=12∨i.op=21
 ·rw [if_pos h10,if_pos h10]
 rw [if_neg h10,if_neg h10]
 by_cases h22:i.op=22∨i.op=23∨i.op=24
 ·rw [if_pos h22,if_pos h22]
 rw [if_neg h22,if_neg h22]
 by_cases h100:i.op=100
 ·rw [if_pos h100,if_pos h100]
 rw [if_neg h100,if_neg h100]
 exact frames_effect m fs i args
theorem put_exec(m:Mach)(fs:List Fr)(l:Int)(i:Ins)(args:List SV)(hs:(m.exec i args).1.short=false)(h0:0≤(m.exec i args).1.left)(hl:m.left≤l) :
  (m.put fs l).exec i args=((m.exec i args).1.put fs (l - (m.left - (m.exec i args).1.left)),(m.exec i args).2):=by
 have e:m.put fs l = { m.shift (l - m.left) with frames:=fs }:=by
  unfold put shift
  simp only [Mach.mk.injEq,true_and,and_true]
  omega
 rw [e,frames_exec,shift_exec m _ i args hs (by omega)]
 unfold put shift
 simp only [Prod.mk.injEq,Mach.mk.injEq,true_and,and_true]
 omega
inductive Steps(u:Unt):Nat→Mach→Mach→Prop
 | refl (m:Mach):Steps u 0 m m
 | cons {n:Nat} {m m':Mach}:m.over=false→m.short=false→1≤m.left→Steps u n (step u { m with left:=m.left - 1 }) m'→Steps u (n+1) m m'
theorem pay_one{m:Mach}(h:1≤m.left):m.pay 1 = { m with left:=m.left - 1 }:=by
 unfold pay
 rw [if_neg (by omega)]
theorem Steps.trans{u:Unt}{a b:Nat}{m m' m'':Mach}(h:Steps u a m m')(k:Steps u b m' m''):Steps u (a+b) m m'':=by
 induction h with
 | refl m=>rw [Nat.zero_add];exact k
 | cons h1 h2 h3 _ ih =>
  rw [Nat.add_right_comm]
  exact .cons h1 h2 h3 (ih k)
theorem Steps.run{u:Unt}{n:Nat}{m m':Mach}(h:Steps u n m m')(k:Nat):Mach.run u (n+k) m=Mach.run u k m':=by
 induction h with
 | refl m=>rw [Nat.zero_add]
 | cons h1 h2 h3 _ ih =>
  rw [Nat.add_right_comm]
  simp only [Mach.run]
  rw [if_neg (by rw [h1];simp),pay_one h3,if_neg (by simp only;rw [h2];simp)]
  exact ih
theorem Steps.before{u:Unt}{n:Nat}{m m':Mach}(h:Steps u n m m'):∀k,k<n→(Mach.run u k m).over=false:=by
 induction h with
 | refl m=>intro k hk;omega
 | cons h1 h2 h3 _ ih =>
  intro k hk
  cases k with
  | zero=>exact h1
  | succ k =>
   simp only [Mach.run]
   rw [if_neg (by rw [h1];simp),pay_one h3,if_neg (by simp only;rw [h2];simp)]
   exact ih k (by omega)
end Mach
section
variable (u v:Unt) (s:Int→Int) (D L:Int→Int→Prop) (β:Int→Int→Int) (pre:Int→Int→List Ins)
structure FR(f f':Fr):Prop where
 ids:f'.fid=f.fid∧f'.mid=f.mid∧f'.fn=f.fn
 fn:0≤f.fn∧f.fn<u.fns.length
 live:L f.fn f.blk
 blk:f'.blk=β f.fn f.blk
 pos:f'.pos=(pre f.fn f.blk).length+f.pos
 vals:VR (D f.fn) s f.vals f'.vals
def ToR(f f':Fr):List Fr→Prop
 | []=>True
 | g::_=>f'.to=s f.to∧D g.fn f.to
def FsR:List Fr→List Fr→Prop
 | [],[]=>True
 | f::r,f'::r'=>FR u s D L β pre f f'∧ToR s D f f' r∧FsR r r'
 | _,_=>False
def Rel(c d:Int)(m m':Mach):Prop:=∃fs l,m'=m.put fs l∧FsR u s D L β pre m.frames fs∧c * m.left≤l∧l≤m.left+d
end
section
variable {u v:Unt} {s:Int→Int} {D L:Int→Int→Prop} {β:Int→Int→Int} {pre:Int→Int→List Ins} {c d:Int}
theorem FsR.cons{f:Fr}{r:List Fr}{fs:List Fr}(h:FsR u s D L β pre (f::r) fs):∃f' r',fs=f'::r'∧FR u s D L β pre f f'∧ToR s D f f' r∧FsR u s D L β pre r r':=by
 cases fs with
 | nil=>exact False.elim h
 | cons f' r'=>exact⟨f',r',rfl,h.1,h.2.1,h.2.2⟩
theorem ahead{fn b:Int}{B':Block}{rest:List Ins}(hb:blkOf (fnOf v fn) (β fn b)=B')(hi:B'.ins=pre fn b++rest)(hp:∀i∈pre fn b,i.op=0∧∀k,D fn k→s k≠i.to){m:Mach}(ho:m.over=false)(hs:m.short=false){f':Fr}{r':List Fr}(h1:f'.fn=fn)(h2:f'.blk=β fn b){es:List (Int×SV)} :
  ∀(n:Nat) (k:Nat) (vals':List (Int×SV)) (l:Int),k+n=(pre fn b).length→(n:Int)≤l→VR (D fn) s es vals' →
   ∃vals'',VR (D fn) s es vals''∧Mach.Steps v n (m.put ({ f' with pos:=k,vals:=vals' }::r') l) (m.put ({ f' with pos:=(pre fn b).length,vals:=vals'' }::r') (l - n))
 | 0,k,vals',l,hk,hl,hv=>⟨vals',hv,by
   have:l - ((0:Nat):Int)=l:=by omega
   rw [this,show k=(pre fn b).length by omega]
   exact .refl _⟩
 | n+1,k,vals',l,hk,hl,hv=>by
  obtain⟨i,hi2⟩:∃i,(pre fn b)[k]?=some i:=⟨(pre fn b)[k]'(by omega),List.getElem?_eq_getElem _⟩
  obtain⟨q1,q2⟩:=hp i (List.mem_of_getElem? hi2)
  obtain⟨vals'',e1,e2⟩:=ahead hb hi hp ho hs (f':=f') (r':=r') h1 h2 n (k+1) (putS' vals' i.to (.word i.n)) (l - 1) (by omega) (by omega) (hv.other q2 _)
  refine⟨vals'',e1,.cons ho hs (by show 1≤l;omega) ?_⟩
  have hst:Mach.step v { m.put ({ f' with pos:=k,vals:=vals' }::r') l with left:=l - 1 }=m.put ({ f' with pos:=k+1,vals:=putS' vals' i.to (.word i.n) }::r') (l - 1):=by
   unfold Mach.step Mach.put
   simp only
   rw [h1,h2,hb,hi,List.getElem?_append_left (lt_of_getElem? hi2),hi2]
   simp only
   unfold Mach.act
   rw [if_neg (by omega),if_neg (by omega)]
   unfold Mach.exec
   rw [if_pos q1]
   rfl
  rw [show l - ((n+1:Nat):Int)=l - 1 - n by omega]
  show Mach.Steps v n (Mach.step v { m.put ({ f' with pos:=k,vals:=vals' }::r') l with left:=l - 1 }) _
  rw [hst]
  exact e2
theorem mul_down{c x l a:Int}(hc:1≤c)(h:c * x≤l)(ha:0≤a):c * (x - a)≤l - a:=by
 have h1:c * (x - a)=c * x - c * a:=Int.mul_sub ..
 have h2:1 * a≤c * a:=Int.mul_le_mul_of_nonneg_right hc ha
 omega
def Goes(u v:Unt)(s:Int→Int)(D L:Int→Int→Prop)(β:Int→Int→Int)(pre:Int→Int→List Ins)(c d:Int)(m m':Mach):Prop:=∃n m'',Mach.Steps v n m' m''∧Rel u s D L β pre c d m m''
theorem Goes.now{m m':Mach}(h:Rel u s D L β pre c d m m'):Goes u v s D L β pre c d m m':=⟨0,m',.refl _,h⟩
theorem arrive(T:UntTr u v s D L β pre c){m:Mach}(ho:m.over=false)(hs:m.short=false){f f':Fr}{r r':List Fr}{l:Int}(hm:m.frames=f::r)
  (h1:f'.fid=f.fid∧f'.mid=f.mid∧f'.fn=f.fn) (h2:0≤f.fn∧f.fn<u.fns.length) (h3:L f.fn f.blk) (h4:f'.blk=β f.fn f.blk) (h5:f.pos=0) (h6:f'.pos=0) (hv:VR (D f.fn) s f.vals f'.vals)
  (ht:ToR s D f f' r) (hr:FsR u s D L β pre r r') (l0:0≤m.left) (l1:c * m.left+(pre f.fn f.blk).length≤l) (l2:l - (pre f.fn f.blk).length≤m.left+d) (hc:1≤c):Goes u v s D L β pre c d m (m.put (f'::r') l):=by
 have hB:=T.blks f.fn f.blk h2.1 h2.2 h3
 have hcl:0≤c * m.left:=Int.mul_nonneg (by omega) l0
 obtain⟨vals'',e1,e2⟩:=ahead (s:=s) (D:=D) (pre:=pre) (β:=β) (v:=v) rfl hB.ins hB.hd ho hs (f':=f') (r':=r') h1.2.2 h4 (es:=f.vals) (pre f.fn f.blk).length 0 f'.vals l (by omega) (by omega) hv
 have e:({ f' with pos:=0,vals:=f'.vals }:Fr)=f':=by
  rw [←h6]
 rw [e] at e2
 refine⟨_,_,e2,_,_,rfl,?_,by omega,by omega⟩
 rw [hm]
 exact⟨⟨h1,h2,h3,h4,by rw [h5];rfl,e1⟩,by cases r<;>exact ht,hr⟩
theorem follow_rel(T:UntTr u v s D L β pre c)(hc:1≤c){m:Mach}(ho:m.over=false)(hs:m.short=false){f f':Fr}{r r':List Fr}{y:Int}(hm:m.frames=f::r)(hF:FR u s D L β pre f f')(hT:ToR s D f f' r)(hR:FsR u s D L β pre r r')
  (l0:0≤m.left) (l1:c * m.left+(c - 1)≤y) (l2:y≤m.left+d) {e e':Edge} (he:EdgeTr v s (D f.fn) (L f.fn) (β f.fn) (pre f.fn) c f.fn e e'):Goes u v s D L β pre c d (m.follow u f e) ((m.put (f'::r') y).follow v f' e'):=by
 obtain⟨fid',mid',fn',blk',pos',to',vals'⟩:=f'
 obtain⟨⟨h1,h2,h3⟩,g2,g3,g4,g5,g6⟩:=hF
 simp only at h1 h2 h3 g4 g5 g6
 subst h1 h2 h3
 have hB:=T.blks f.fn e.block g2.1 g2.2 he.live
 have ht:takeS vals' (e.args.map s)=takeS f.vals e.args:=g6.take he.args
 have hfr:(m.follow u f e).frames = { f with blk:=e.block,pos:=0,vals:=bindS f.vals (blkOf (fnOf u f.fn) e.block).params (takeS f.vals e.args) }::r:=by
  show _::m.frames.tail=_
  rw [hm]
  rfl
 rcases he.way with⟨w1,w2,w3⟩ | ⟨C,e2,w1,w2,w3,w4,w5,w6,w7⟩
 ·have e0:(m.put (⟨f.fid,f.mid,f.fn,blk',pos',to',vals'⟩::r') y).follow v ⟨f.fid,f.mid,f.fn,blk',pos',to',vals'⟩ e'=(m.follow u f e).put (⟨f.fid,f.mid,f.fn,β f.fn e.block,0,to',bindS vals' ((blkOf (fnOf u f.fn) e.block).params.map s) (takeS f.vals e.args)⟩::r') y:=by
   unfold Mach.follow
   simp only
   rw [w1,w2,hB.params.1,ht]
   rfl
  rw [e0]
  exact arrive T (m:=m.follow u f e) ho hs hfr ⟨rfl,rfl,rfl⟩ g2 he.live rfl rfl rfl (VR.bind (T.inj f.fn) _ _ hB.params.2 g6) hT hR l0 (by
   show c * m.left+(pre f.fn e.block).length≤y
   omega) (by
   show y - (pre f.fn e.block).length≤m.left+d
   omega) hc
 obtain⟨x1,x2⟩:=w7 vals'
 have hcl:0≤c * m.left:=Int.mul_nonneg (by omega) l0
 have hv1:VR (D f.fn) s f.vals (bindS vals' C.params (takeS vals' e'.args)):=fun k hk=>by rw [x2 k hk,g6 k hk]
 generalize hes:bindS vals' C.params (takeS vals' e'.args)=es1 at *
 have e0:(m.put (⟨f.fid,f.mid,f.fn,blk',pos',to',vals'⟩::r') y).follow v ⟨f.fid,f.mid,f.fn,blk',pos',to',vals'⟩ e'=m.put (⟨f.fid,f.mid,f.fn,e'.block,0,to',es1⟩::r') y:=by
  unfold Mach.follow
  simp only
  rw [←w1,hes]
  rfl
 have e1:Mach.step v { m.put (⟨f.fid,f.mid,f.fn,e'.block,0,to',es1⟩::r') y with left:=y - 1 }=(m.follow u f e).put (⟨f.fid,f.mid,f.fn,β f.fn e.block,0,to',bindS es1 ((blkOf (fnOf u f.fn) e.block).params.map s) (takeS f.vals e.args)⟩::r') (y - 1):=by
  unfold Mach.step Mach.put
  simp only
  rw [←w1,w2]
  simp only [List.getElem?_nil]
  unfold Mach.finish
  rw [w3,if_neg (by decide),if_pos rfl,w4]
  simp only [List.getElem?_cons_zero,Option.getD_some]
  unfold Mach.follow
  simp only
  rw [x1,ht,w5,hB.params.1]
  rfl
 rw [e0]
 obtain⟨n,m'',s1,s2⟩:=arrive T (m:=m.follow u f e) (l:=y - 1) ho hs hfr (f':=⟨f.fid,f.mid,f.fn,β f.fn e.block,0,to',bindS es1 ((blkOf (fnOf u f.fn) e.block).params.map s) (takeS f.vals e.args)⟩) ⟨rfl,rfl,rfl⟩ g2 he.live rfl rfl rfl (VR.bind (T.inj f.fn) _ _ hB.params.2 hv1) hT hR l0 (by
  show c * m.left+(pre f.fn e.block).length≤y - 1
  omega) (by
  show y - 1 - (pre f.fn e.block).length≤m.left+d
  omega) hc
 refine⟨n+1,m'',.cons ho hs (by show 1≤y;omega) ?_,s2⟩
 show Mach.Steps v n (Mach.step v { m.put (⟨f.fid,f.mid,f.fn,e'.block,0,to',es1⟩::r') y with left:=y - 1 }) m''
 rw [e1]
 exact s1
theorem leave_rel(T:UntTr u v s D L β pre c){m:Mach}{f f':Fr}{r r':List Fr}{y:Int}(hm:m.frames=f::r)(hT:ToR s D f f' r)(hR:FsR u s D L β pre r r')(l1:c * m.left≤y)(l2:y≤m.left+d)(x:SV) :
  Goes u v s D L β pre c d (m.leave f x) ((m.put (f'::r') y).leave f' x):=by
 refine .now ?_
 unfold Mach.leave
 rw [hm]
 simp only [List.tail_cons,Mach.put]
 cases r with
 | nil =>
  cases r' with
  | nil=>exact⟨[],y,rfl,trivial,l1,l2⟩
  | cons g' r'=>exact False.elim hR
 | cons g r =>
  obtain⟨g',r2,rfl,hG,hT2,hR2⟩:=hR.cons
  obtain⟨t1,t2⟩:=hT
  simp only
  refine⟨{ g' with vals:=putS' g'.vals f'.to x }::r2,y,rfl,⟨⟨hG.ids,hG.fn,hG.live,hG.blk,hG.pos,?_⟩,by cases r<;>exact hT2,hR2⟩,l1,l2⟩
  show VR (D g.fn) s (putS' g.vals f.to x) (putS' g'.vals f'.to x)
  rw [t1]
  exact hG.vals.put (T.inj g.fn) t2 x
theorem enter_rel(T:UntTr u v s D L β pre c)(hc:1≤c){m:Mach}(ho:m.over=false)(hs:m.short=false){fs':List Fr}{y:Int}{g:Fr}{r:List Fr}(hm:m.frames=g::r)(hR:FsR u s D L β pre m.frames fs')(l0:0≤m.left)(l1:c * m.left+(c - 1)≤y)(l2:y≤m.left+d)
  {fn:Int} (hfn:0≤fn∧fn<u.fns.length) (args:List SV) {to to':Int} (ht:to'=s to∧D g.fn to):Goes u v s D L β pre c d (m.enter u fn args to) ((m.put fs' y).enter v fn args to'):=by
 obtain⟨z1,z2,z3⟩:=T.zero fn hfn.1 hfn.2
 have hB:=T.blks fn 0 hfn.1 hfn.2 z1
 rw [z2] at hB
 have e0:(m.put fs' y).enter v fn args to'=(m.enter u fn args to).put (⟨m.next+1,m.next,fn,0,0,to',bindS [] ((blkOf (fnOf u fn) 0).params.map s) args⟩::fs') y:=by
  unfold Mach.enter
  rw [hB.params.1]
  rfl
 rw [e0]
 refine arrive T (m:=m.enter u fn args to) ho hs (f:=⟨m.next+1,m.next,fn,0,0,to,bindS [] (blkOf (fnOf u fn) 0).params args⟩) (r:=m.frames) rfl ⟨rfl,rfl,rfl⟩ hfn z1 z2.symm rfl rfl (VR.bind (T.inj fn) _ _ hB.params.2 (fun _ _=>rfl)) ?_ hR l0 (by
  show c * m.left+(pre fn 0).length≤y
  omega) (by
  show y - (pre fn 0).length≤m.left+d
  omega) hc
 rw [hm]
 exact ht
theorem settle_put(E:Mach)(E2:SV×Int)(f f':Fr)(fs:List Fr)(to to' y:Int):Mach.settle f' to' (E.put fs y,E2)=(Mach.settle f to (E,E2)).put ({ f' with vals:=putS' f'.vals to' E2.1 }::fs.tail) y:=by
 unfold Mach.settle
 simp only
 split<;>rfl
theorem settle_frames(E:Mach)(E2:SV×Int)(f:Fr)(to:Int):(Mach.settle f to (E,E2)).frames = { f with vals:=putS' f.vals to E2.1 }::E.frames.tail∧(Mach.settle f to (E,E2)).left=E.left:=by
 unfold Mach.settle
 simp only
 split<;>exact⟨rfl,rfl⟩
theorem step_rel(T:UntTr u v s D L β pre c)(hu:UnitOK u)(hc:1≤c){m m':Mach}(hm:MachOK u m)(ho:m.over=false)(h1:1≤m.left)(hs:(Mach.step u { m with left:=m.left - 1 }).short=false)(hr:Rel u s D L β pre c d m m') :
  ∃n m'',Mach.Steps v (n+1) m' m''∧Rel u s D L β pre c d (Mach.step u { m with left:=m.left - 1 }) m'':=by
 obtain⟨fs,l,rfl,hfs,l1,l2⟩:=hr
 obtain⟨hne,hsh⟩:=hm.over ho
 have hcl:1 * m.left≤c * m.left:=Int.mul_le_mul_of_nonneg_right hc (by omega)
 have hcs:c * (m.left - 1)=c * m.left - c:=by rw [Int.mul_sub,Int.mul_one]
 suffices h:Goes u v s D L β pre c d (Mach.step u { m with left:=m.left - 1 }) (Mach.step v (({ m with left:=m.left - 1 }:Mach).put fs (l - 1))) by
  obtain⟨n,m'',q1,q2⟩:=h
  exact⟨n,m'',.cons ho hsh (by show 1≤l;omega) q1,q2⟩
 have hm1:MachOK u { m with left:=m.left - 1 }:=by
  have:=(pay_ok hm ho (by omega)).1
  rwa [Mach.pay_one h1] at this
 have e1:({ m with left:=m.left - 1 }:Mach).left=m.left - 1:=rfl
 have k1:c * ({ m with left:=m.left - 1 }:Mach).left+(c - 1)≤l - 1:=by rw [e1];omega
 have k2:l - 1≤({ m with left:=m.left - 1 }:Mach).left+d:=by rw [e1];omega
 have k0:0≤({ m with left:=m.left - 1 }:Mach).left:=by rw [e1];omega
 have ho1:({ m with left:=m.left - 1 }:Mach).over=false:=ho
 have hs1:({ m with left:=m.left - 1 }:Mach).short=false:=hsh
 have hfs1:FsR u s D L β pre ({ m with left:=m.left - 1 }:Mach).frames fs:=hfs
 have hne1:({ m with left:=m.left - 1 }:Mach).frames≠[]:=hne
 generalize ({ m with left:=m.left - 1 }:Mach)=M at *
 generalize l - 1=y at *
 clear hm hcl hcs l1 l2 hfs hne e1 hsh h1 ho
 cases hfr:M.frames with
 | nil=>exact absurd hfr hne1
 | cons f r =>
  rw [hfr] at hfs1
  obtain⟨f',r',rfl,hF,hT,hR⟩:=hfs1.cons
  have hfo:=hm1.frames f (by rw [hfr];simp)
  have hb:=hu.blocks _ (fnOf_mem hfo.fn.1 hfo.fn.2) _ (blkOf_mem hfo.blk.1 hfo.blk.2)
  have hB:=T.blks f.fn f.blk hF.fn.1 hF.fn.2 hF.live
  have hget:(blkOf (fnOf v f'.fn) f'.blk).ins[f'.pos]?=((blkOf (fnOf u f.fn) f.blk).ins[f.pos]?).map (trI s):=by
   rw [hF.ids.2.2,hF.blk,hB.ins,hF.pos,List.getElem?_append_right (by omega),Nat.add_sub_cancel_left,List.getElem?_map]
  have hput:(M.put (f'::r') y).frames=f'::r':=rfl
  have k3:c * M.left≤y:=by omega
  unfold Mach.step at hs ⊢
  rw [hfr] at hs ⊢
  rw [hput]
  simp only at hs ⊢
  rw [hget]
  cases hi:(blkOf (fnOf u f.fn) f.blk).ins[f.pos]? with
  | none =>
   simp only [Option.map_none]
   rw [hF.ids.2.2,hF.blk]
   generalize blkOf (fnOf v f.fn) (β f.fn f.blk)=B' at *
   generalize hBB:blkOf (fnOf u f.fn) f.blk=B at *
   obtain⟨t1,t2,t3,t4⟩:=hB.term
   unfold Mach.finish
   rw [t1,t2]
   by_cases q4:B.term.kind=4
   ·rw [if_pos q4,if_pos q4]
    exact .now ⟨f'::r',y,rfl,by show FsR u s D L β pre M.frames _;rw [hfr];exact⟨hF,hT,hR⟩,k3,k2⟩
   rw [if_neg q4,if_neg q4]
   by_cases q1:B.term.kind=1
   ·rw [if_pos q1,if_pos q1]
    have hl:=hb.term.jump q1
    obtain⟨e,he⟩:∃e,B.term.to[0]?=some e:=⟨B.term.to[0]'(by omega),List.getElem?_eq_getElem _⟩
    obtain⟨e',he'⟩:∃e',B'.term.to[0]?=some e':=⟨B'.term.to[0]'(by omega),List.getElem?_eq_getElem _⟩
    rw [he,he']
    exact follow_rel T hc ho1 hs1 hfr hF hT hR k0 k1 k2 (hB.edges 0 e e' he he')
   rw [if_neg q1,if_neg q1]
   obtain⟨a1,a2⟩:=hB.arg q1 q4
   have hga:getS f'.vals B'.term.arg=getS f.vals B.term.arg:=by rw [a1];exact hF.vals _ a2
   rw [hga]
   by_cases q0:B.term.kind=0
   ·rw [if_pos q0,if_pos q0]
    exact leave_rel T hfr hT hR k3 k2 _
   rw [if_neg q0,if_neg q0]
   by_cases qk:(getS f.vals B.term.arg).kind≠0
   ·rw [if_pos qk,if_pos qk]
    exact .now ⟨f'::r',y,rfl,by show FsR u s D L β pre M.frames _;rw [hfr];exact⟨hF,hT,hR⟩,k3,k2⟩
   rw [if_neg qk,if_neg qk]
   have hch:choiceM B'.term (getS f.vals B.term.arg).n=choiceM B.term (getS f.vals B.term.arg).n:=by
    unfold choiceM
    rw [t1,t3]
   rw [hch]
   obtain⟨e,he⟩:=choice_at hb.term q0 q1 q4 (getS f.vals B.term.arg).n
   have hlt:=lt_of_getElem? he
   obtain⟨e',he'⟩:∃e',B'.term.to[choiceM B.term (getS f.vals B.term.arg).n]?=some e':=⟨B'.term.to[choiceM B.term (getS f.vals B.term.arg).n]'(by omega),List.getElem?_eq_getElem _⟩
   rw [he,he']
   exact follow_rel T hc ho1 hs1 hfr hF hT hR k0 k1 k2 (hB.edges _ e e' he he')
  | some i =>
   rw [hi] at hs
   simp only [Option.map_some] at hs ⊢
   have him:=List.mem_of_getElem? hi
   have hio:=hb.ins i him
   have hlt:=lt_of_getElem? hi
   obtain⟨d1,d2⟩:=hB.vals i him
   have hargs:takeS f'.vals (trI s i).args=takeS f.vals i.args:=hF.vals.take d2
   rw [hargs]
   have hf1:FrOK u M { f with pos:=f.pos+1 }:=⟨hfo.fn,hfo.blk,hlt,hfo.vals⟩
   have hf2:FrOK u (M.setTop { f with pos:=f.pos+1 }) { f with pos:=f.pos+1 }:=hf1.of_heap (by rfl)
   have hM2:=hm1.setTop hne1 hf1
   have ha:=takeS_ok hf2.vals i.args
   have hal:=takeS_len f.vals i.args
   have hF1:FR u s D L β pre { f with pos:=f.pos+1 } { f' with pos:=f'.pos+1 }:=⟨hF.ids,hF.fn,hF.live,hF.blk,by show f'.pos+1=_+(f.pos+1);rw [hF.pos];rfl,hF.vals⟩
   have hfr2:(M.setTop { f with pos:=f.pos+1 }).frames = { f with pos:=f.pos+1 }::r:=by
    show _::M.frames.tail=_
    rw [hfr]
    rfl
   have e2:(M.put (f'::r') y).setTop { f' with pos:=f'.pos+1 }=(M.setTop { f with pos:=f.pos+1 }).put ({ f' with pos:=f'.pos+1 }::r') y:=rfl
   rw [e2]
   have hT2:ToR s D { f with pos:=f.pos+1 } { f' with pos:=f'.pos+1 } r:=by cases r<;>exact hT
   have hFs2:FsR u s D L β pre (M.setTop { f with pos:=f.pos+1 }).frames ({ f' with pos:=f'.pos+1 }::r'):=by
    rw [hfr2]
    exact⟨hF1,hT2,hR⟩
   have k0':0≤(M.setTop { f with pos:=f.pos+1 }).left:=k0
   have k1':c * (M.setTop { f with pos:=f.pos+1 }).left+(c - 1)≤y:=k1
   have k2':y≤(M.setTop { f with pos:=f.pos+1 }).left+d:=k2
   have ho2:(M.setTop { f with pos:=f.pos+1 }).over=false:=ho1
   have hs2:(M.setTop { f with pos:=f.pos+1 }).short=false:=hs1
   have hvk:(({ f with pos:=f.pos+1 }:Fr)).vals=f.vals:=rfl
   rw [hvk] at ha
   unfold Mach.act at hs ⊢
   have o1:(trI s i).op=i.op:=rfl
   have o2:(trI s i).n=i.n:=rfl
   have o3:(trI s i).to=s i.to:=rfl
   rw [o1,o2,o3]
   by_cases h13:i.op=13
   ·rw [if_pos h13,if_pos h13]
    obtain⟨c1,c2,c3⟩:=hio.call h13
    exact enter_rel T hc ho2 hs2 hfr2 hFs2 k0' k1' k2' ⟨c1,c2⟩ _ ⟨rfl,d1⟩
   rw [if_neg h13] at hs
   rw [if_neg h13,if_neg h13]
   by_cases h14:i.op=14
   ·rw [if_pos h14,if_pos h14]
    by_cases hk2:(argS (takeS f.vals i.args) 0).kind=2
    ·have hfn:=SV.Wf.fn (argS_ok ha 0) hk2
     obtain⟨z1,z2,z3⟩:=T.zero _ hfn.1 hfn.2
     have hP:=(T.blks _ 0 hfn.1 hfn.2 z1).params.1
     rw [z2] at hP
     rw [hP,List.length_map]
     by_cases hcn:(argS (takeS f.vals i.args) 0).kind=2∧(blkOf (fnOf u (argS (takeS f.vals i.args) 0).n) 0).params.length=(takeS f.vals i.args).length
     ·rw [if_pos hcn,if_pos hcn]
      exact enter_rel T hc ho2 hs2 hfr2 hFs2 k0' k1' k2' hfn _ ⟨rfl,d1⟩
     rw [if_neg hcn,if_neg hcn]
     exact .now ⟨_,y,rfl,hFs2,k3,k2⟩
    rw [if_neg (fun q=>hk2 q.1),if_neg (fun q=>hk2 q.1)]
    exact .now ⟨_,y,rfl,hFs2,k3,k2⟩
   rw [if_neg h14] at hs
   rw [if_neg h14,if_neg h14]
   have hx:=exec_ok hM2 hio hal ha
   have htr:((M.setTop { f with pos:=f.pos+1 }).put ({ f' with pos:=f'.pos+1 }::r') y).exec (trI s i) (takeS f.vals i.args)=((M.setTop { f with pos:=f.pos+1 }).put ({ f' with pos:=f'.pos+1 }::r') y).exec i (takeS f.vals i.args):=rfl
   have hss:=(Mach.settle_short { f with pos:=f.pos+1 } i.to ((M.setTop { f with pos:=f.pos+1 }).exec i (takeS f.vals i.args))).1
   rw [hss] at hs
   have hml:(M.setTop { f with pos:=f.pos+1 }).left≤y:=by
    have:1 * M.left≤c * M.left:=Int.mul_le_mul_of_nonneg_right hc k0
    show M.left≤y
    omega
   rw [htr,Mach.put_exec _ _ _ _ _ hs hx.left.1 hml]
   generalize (M.setTop { f with pos:=f.pos+1 }).exec i (takeS f.vals i.args)=X at *
   obtain⟨E,E2⟩:=X
   have hxf:E.frames = { f with pos:=f.pos+1 }::r:=by
    rw [←hfr2]
    exact hx.frames
   have hxl:E.left≤M.left:=hx.left.2
   obtain⟨w1,w2⟩:=settle_frames E E2 { f with pos:=f.pos+1 } i.to
   refine .now ⟨_,_,settle_put E E2 { f with pos:=f.pos+1 } _ _ i.to _ _,?_,?_,?_⟩
   ·rw [w1,hxf]
    refine⟨⟨hF1.ids,hF1.fn,hF1.live,hF1.blk,hF1.pos,hF1.vals.put (T.inj f.fn) d1 _⟩,by cases r<;>exact hT,hR⟩
   ·rw [w2]
    have:=mul_down hc k3 (a:=M.left - E.left) (by omega)
    rw [show M.left - (M.left - E.left)=E.left by omega] at this
    exact this
   rw [w2]
   show y - (M.left - E.left)≤E.left+d
   omega
theorem Rel.core{m m':Mach}(h:Rel u s D L β pre c d m m'):m'.over=m.over∧m'.short=m.short∧m'.out=m.out∧m'.fin=m.fin∧m'.val=m.val∧c * m.left≤m'.left∧m'.left≤m.left+d:=by
 obtain⟨fs,l,rfl,_,l1,l2⟩:=h
 exact⟨rfl,rfl,rfl,rfl,rfl,l1,l2⟩
theorem run_rel(T:UntTr u v s D L β pre c)(hu:UnitOK u)(hc:1≤c):∀(k:Nat) (m m':Mach),MachOK u m→Rel u s D L β pre c d m m'→(Mach.run u k m).short=false→∃n m'',Mach.Steps v n m' m''∧Rel u s D L β pre c d (Mach.run u k m) m''
 | 0,m,m',hm,hr,hs=>⟨0,m',.refl _,hr⟩
 | k+1,m,m',hm,hr,hs=>by
  cases ho:m.over with
  | true =>
   rw [run_over' ho] at hs ⊢
   exact⟨0,m',.refl _,hr⟩
  | false =>
   have hrun:Mach.run u (k+1) m=if (m.pay 1).short then m.pay 1 else Mach.run u k (Mach.step u (m.pay 1)):=by simp [Mach.run,ho]
   rw [hrun] at hs ⊢
   by_cases hp:m.left<1
   ·rw [pay_short hp] at hs
    simp at hs
   obtain⟨q1,q2,q3,q4,q5⟩:=pay_ok hm ho hp
   rw [if_neg (by simp [q3])] at hs ⊢
   have hd1:(m.pay 1).frames.length+(m.pay 1).left+1≤2 ^ 40:=by
    have:=hm.depth
    rw [q4,q5];omega
   have hst:=MachOK.step hu q1 q2 hd1
   have hss:(Mach.step u (m.pay 1)).short=false:=by
    cases hx:(Mach.step u (m.pay 1)).short with
    | false=>rfl
    | true =>
     have ho:(Mach.step u (m.pay 1)).over=true:=by
      cases hy:(Mach.step u (m.pay 1)).over with
      | true=>rfl
      | false=>rw [(hst.over hy).2] at hx;cases hx
     rw [run_over' ho,hx] at hs
     cases hs
   rw [Mach.pay_one (by omega)] at hst hss hs ⊢
   obtain⟨n,m1,s1,s2⟩:=step_rel T hu hc hm ho (by omega) hss hr
   obtain⟨n2,m2,s3,s4⟩:=run_rel T hu hc k _ m1 hst s2 hs
   exact⟨n+1+n2,m2,s1.trans s3,s4⟩
theorem perform_rel(T:UntTr u v s D L β pre c)(hu:UnitOK u)(hv:UnitOK v)(hc:1≤c){F G:Int}(hF:0≤F∧F≤1000000)(hG:G≤1000000)(hlo:c * F+(c - 1)≤G)(he:(performM u F).e=0) :
  (performM v G).e=0∧(performM v G).out=(performM u F).out∧(performM v G).fin=(performM u F).fin∧(performM v G).val=(performM u F).val∧(performM v G).n≤G - c * (F - (performM u F).n)∧(performM u F).n+(pre u.main 0).length≤(performM v G).n:=by
 have hcF:1 * F≤c * F:=Int.mul_le_mul_of_nonneg_right hc hF.1
 obtain⟨z1,z2,z3⟩:=T.zero u.main hu.main.1 hu.main.2
 have hB:=T.blks u.main 0 hu.main.1 hu.main.2 z1
 rw [z2] at hB
 have hsu:=start_ok hu (fuel:=F) hF.1 hF.2
 have hsv:=start_ok hv (fuel:=G) (by omega) hG
 have hstart:Goes u v s D L β pre c (G - F - (pre u.main 0).length) ((Mach.start F).enter u u.main [] 0) ((Mach.start G).enter v v.main [] 0):=by
  have e0:(Mach.start G).enter v v.main [] 0=((Mach.start F).enter u u.main [] 0).put [⟨5,4,u.main,0,0,0,bindS [] ((blkOf (fnOf u u.main) 0).params.map s) []⟩] G:=by
   rw [T.main]
   unfold Mach.enter
   rw [hB.params.1]
   rfl
  rw [e0]
  refine arrive T (m:=(Mach.start F).enter u u.main [] 0) rfl rfl (f:=⟨5,4,u.main,0,0,0,bindS [] (blkOf (fnOf u u.main) 0).params []⟩) (r:=[]) rfl ⟨rfl,rfl,rfl⟩ hu.main z1 z2.symm rfl rfl (VR.bind (T.inj u.main) _ _ hB.params.2 (fun _ _=>rfl)) trivial trivial hF.1 (by
   show c * F+(pre u.main 0).length≤G
   omega) (by
   show G - (pre u.main 0).length≤F+(G - F - (pre u.main 0).length)
   omega) hc
 obtain⟨n0,m0,s0,r0⟩:=hstart
 unfold performM at he ⊢
 simp only at he ⊢
 have hru:=run_ok hu (F.toNat+2) _ hsu (by simp [Mach.enter,Mach.start])
 have hrv:=run_ok hv (G.toNat+2) _ hsv (by simp [Mach.enter,Mach.start])
 have hsim:=fun h=>run_rel T hu hc (F.toNat+2) _ m0 hsu r0 h
 generalize Mach.run u (F.toNat+2) ((Mach.start F).enter u u.main [] 0)=E at *
 cases hs:E.short with
 | true =>
  rw [hs] at he
  simp at he
 | false =>
  obtain⟨n1,m1,s1,r1⟩:=hsim hs
  have S:=s0.trans s1
  obtain⟨b1,b2,b3,b4,b5,b6,b7⟩:=r1.core
  have hle:n0+n1≤G.toNat+2:=Classical.byContradiction fun q=>by
   have:=S.before (G.toNat+2) (by omega)
   rw [hrv.1] at this
   cases this
  have hend:Mach.run v (G.toNat+2) ((Mach.start G).enter v v.main [] 0)=m1:=by
   have:=S.run (G.toNat+2 - (n0+n1))
   rw [show n0+n1+(G.toNat+2 - (n0+n1))=G.toNat+2 by omega] at this
   rw [this]
   exact run_over' (by rw [b1];exact hru.1) _
  rw [hend,b2,hs]
  simp only [Bool.false_eq_true,if_false]
  refine⟨trivial,b3,b4,b5,?_,?_⟩
  ·rw [show F - (F - E.left)=E.left by omega]
   omega
  omega
end
end Go.Proofs.Ytlclgfgmhnmnaaa
namespace Go.Av

end Go.Av
namespace Go.Proofs.Ytlclgfgmhnmnaaa
open Go.Av
theorem splice_one{cs:List AVal}{j:Nat}(x:AVal)(h:j<cs.length):splice cs j [x]=cs.set j x:=by
 apply List.ext_getElem?
 intro i
 rw [splice_get (by simp;omega),List.getElem?_set]
 simp only [List.length_cons,List.length_nil,Nat.zero_add]
 by_cases e:j=i
 ·subst e
  simp [h]
 rw [if_neg (by omega),if_neg e]
theorem to_few{f:Func}{t:Term}(hend:EndW f t):t.to.length≤257:=by
 rcases (show(t.kind=0∨t.kind=4)∨t.kind=1∨t.kind=2∨t.kind=3 by have:=hend.kind;omega) with q | q | q | q
 ·rw [hend.to q];simp
 ·rw [hend.jump q];omega
 ·rw [hend.cond q];omega
 rw [hend.switch q];have:=hend.cases;omega
def blkVals(b:Block):List Int:=b.params++b.ins.map Ins.to
def valsF(f:Func):List Int:=f.blocks.flatMap blkVals
def ValsW(f:Func):Prop:=∀v∈valsF f,0≤v∧v≤4095
def parDefs(k:Int)(l:List Int):Defs:=l.map fun p=>(p,(k,0))
def insDefs(k:Int):Int→List Ins→Defs
 | _,[]=>[]
 | n,i::r=>(i.to,(k,n+1))::insDefs k (n+1) r
def blkDefs(k:Int)(b:Block):Defs:=parDefs k b.params++insDefs k 0 b.ins
def allDefs:Int→List Block→Defs
 | _,[]=>[]
 | k,b::r=>blkDefs k b++allDefs (k+1) r
theorem defineM_eq{ds:Defs}{v:Int}{p:Int×Int}(h:(defineM ds v p).1=0):(defineM ds v p).2=ds++[(v,p)]:=by
 unfold defineM at h ⊢
 split at h
 ·simp at h
 rename_i h1
 rw [if_neg h1]
 split at h
 ·simp at h
 rename_i h2
 rw [if_neg h2]
theorem paramsM_eq(k:Int):∀(l:List Int) (ds:Defs),(paramsM k ds l).1=0→(paramsM k ds l).2=ds++parDefs k l
 | [],ds,_=>by simp [paramsM,parDefs]
 | p::r,ds,h=>by
  simp only [paramsM] at h ⊢
  split at h
  ·rename_i hne
   exact absurd h hne
  rename_i he
  rw [if_neg he,paramsM_eq k r _ h,defineM_eq (by simpa using he)]
  simp [parDefs]
theorem insM_eq(k:Int):∀(l:List Ins) (n:Int) (ds:Defs),(insM k n ds l).1=0→(insM k n ds l).2=ds++insDefs k n l
 | [],n,ds,_=>by simp [insM,insDefs]
 | i::r,n,ds,h=>by
  simp only [insM] at h ⊢
  split at h
  ·rename_i hne
   exact absurd h hne
  rename_i he
  split at h
  ·rename_i hf
   exact absurd h hf
  rename_i hf
  rw [if_neg he,if_neg hf,insM_eq k r _ _ h,defineM_eq (by simpa using he)]
  simp [insDefs]
theorem blockM_eq{f:Func}{ds:Defs}{k:Int}(h:(blockM f ds k).1=0):(blockM f ds k).2=ds++blkDefs k (blkOf f k):=by
 unfold blockM at h ⊢
 split at h
 ·rename_i hne
  exact absurd h hne
 rename_i hp
 split at h
 ·rename_i hne
  exact absurd h hne
 rename_i hi
 rw [if_neg hp,if_neg hi]
 simp only
 rw [insM_eq k _ _ _ (by simpa using hi),paramsM_eq k _ _ (by simpa using hp),blkDefs,List.append_assoc]
theorem blocksM_eq{f:Func}:∀(n k:Nat) (ds:Defs),k+n=f.blocks.length→(blocksM f n k ds).1=0→(blocksM f n k ds).2=ds++allDefs k (f.blocks.drop k)
 | 0,k,ds,hk,_=>by
  rw [List.drop_of_length_le (by omega)]
  simp [blocksM,allDefs]
 | n+1,k,ds,hk,h=>by
  simp only [blocksM] at h ⊢
  split at h
  ·rename_i hne
   exact absurd h hne
  rename_i he
  rw [if_neg he]
  have hb:f.blocks[k]?=some f.blocks[k]:=List.getElem?_eq_getElem (by omega)
  have ih:=blocksM_eq n (k+1) (blockM f ds k).2 (by omega) h
  have e:((k+1:Nat):Int)=(k:Int)+1:=by omega
  rw [e] at ih
  rw [ih,blockM_eq (by simpa using he),drop_at hb,allDefs,List.append_assoc]
  congr 3
  simp [blkOf,hb]
def dsF(f:Func):Defs:=allDefs 0 f.blocks
theorem FnW.ds{f:Func}(hfit:f.fit)(h:checkFuncM f=0):(blocksM f f.blocks.length 0 []).2=dsF f∧DefsW f.blocks.length (dsF f):=by
 have he:(blocksM f f.blocks.length 0 []).1=0:=by
  unfold checkFuncM at h
  split at h
  ·simp at h
  split at h
  ·simp at h
  split at h
  ·simp at h
  split at h
  ·rename_i h4
   exact absurd h h4
  rename_i h4
  simpa using h4
 have e:=blocksM_eq f.blocks.length 0 [] (by omega) he
 rw [List.drop_zero,List.nil_append] at e
 have hw:=(blocksM_ok f.blocks.length 0 [] (.nil _) (by omega) (by simp) he).1
 have e':(blocksM f f.blocks.length 0 []).2=dsF f:=e
 rw [e'] at hw
 exact⟨e',hw⟩
theorem lookD_mem{ds:Defs}(hn:(ds.map (·.1)).Nodup){v:Int}{p:Int×Int}:lookD ds v=some p↔(v,p)∈ds:=by
 induction ds with
 | nil=>simp [lookD]
 | cons e r ih =>
  obtain⟨a,q⟩:=e
  simp only [List.map_cons,List.nodup_cons,List.mem_map,not_exists,not_and] at hn
  have ih:=ih hn.2
  simp only [lookD,List.mem_cons,Prod.mk.injEq]
  by_cases h:a=v
  ·subst h
   rw [if_pos rfl]
   constructor
   ·intro h
    simp only [Option.some.injEq] at h
    exact .inl ⟨rfl,h.symm⟩
   rintro(⟨_,h⟩ | h)
   ·rw [h]
   exact absurd rfl (hn.1 _ h)
  rw [if_neg h,ih]
  constructor
  ·exact .inr
  rintro(⟨h1,_⟩ | h1)
  ·exact absurd h1.symm h
  exact h1
theorem mem_insDefs{k:Int}{v:Int}{p:Int×Int}:∀(l:List Ins) (n:Int),(v,p)∈insDefs k n l↔∃(j:Nat) (i:Ins),l[j]?=some i∧i.to=v∧p=(k,n+j+1)
 | [],n=>by simp [insDefs]
 | i::r,n=>by
  simp only [insDefs,List.mem_cons,Prod.mk.injEq]
  rw [mem_insDefs r (n+1)]
  constructor
  ·rintro(⟨h1,h2⟩ | ⟨j,x,h1,h2,h3⟩)
   ·exact⟨0,i,rfl,h1.symm,by simpa using h2⟩
   exact⟨j+1,x,h1,h2,by rw [h3];congr 1;omega⟩
  rintro⟨j,x,h1,h2,h3⟩
  cases j with
  | zero =>
   simp only [List.getElem?_cons_zero,Option.some.injEq] at h1
   subst h1
   exact .inl ⟨h2.symm,by simpa using h3⟩
  | succ j=>exact .inr ⟨j,x,h1,h2,by rw [h3];congr 1;omega⟩
theorem mem_allDefs{v:Int}{p:Int×Int}:∀(l:List Block) (k:Int),(v,p)∈allDefs k l↔∃(j:Nat) (b:Block),l[j]?=some b∧(v,p)∈blkDefs (k+j) b
 | [],k=>by simp [allDefs]
 | b::r,k=>by
  rw [allDefs,List.mem_append,mem_allDefs r (k+1)]
  constructor
  ·rintro(h | ⟨j,x,h1,h2⟩)
   ·exact⟨0,b,rfl,by simpa using h⟩
   exact⟨j+1,x,h1,by rw [show k+((j+1:Nat):Int)=k+1+j by omega];exact h2⟩
  rintro⟨j,x,h1,h2⟩
  cases j with
  | zero =>
   simp only [List.getElem?_cons_zero,Option.some.injEq] at h1
   subst h1
   exact .inl (by simpa using h2)
  | succ j=>exact .inr ⟨j,x,h1,by rw [show k+((j+1:Nat):Int)=k+1+j by omega] at h2;exact h2⟩
def DefAt(f:Func)(v:Int)(p:Int×Int):Prop:=∃(k:Nat) (b:Block),f.blocks[k]?=some b∧p.1=k∧((p.2=0∧v∈b.params)∨∃(j:Nat) (i:Ins),b.ins[j]?=some i∧i.to=v∧p.2=j+1)
theorem mem_dsF{f:Func}{v:Int}{p:Int×Int}:(v,p)∈dsF f↔DefAt f v p:=by
 obtain⟨p1,p2⟩:=p
 rw [dsF,mem_allDefs]
 constructor
 ·rintro⟨k,b,h1,h2⟩
  rw [blkDefs,List.mem_append] at h2
  rcases h2 with h2 | h2
  ·simp only [parDefs,List.mem_map,Prod.mk.injEq] at h2
   obtain⟨x,h3,h4,h5,h6⟩:=h2
   subst h4
   exact⟨k,b,h1,by simp only;omega,.inl ⟨h6.symm,h3⟩⟩
  obtain⟨j,i,h3,h4,h5⟩:=(mem_insDefs _ _).1 h2
  simp only [Prod.mk.injEq] at h5
  exact⟨k,b,h1,by simp only;omega,.inr ⟨j,i,h3,h4,by simp only;omega⟩⟩
 rintro⟨k,b,h1,h2,h3⟩
 simp only at h2 h3
 subst h2
 refine⟨k,b,h1,?_⟩
 rw [blkDefs,List.mem_append]
 rcases h3 with⟨h3,h4⟩ | ⟨j,i,h3,h4,h5⟩
 ·subst h3
  exact .inl (by simpa [parDefs] using h4)
 exact .inr ((mem_insDefs _ _).2 ⟨j,i,h3,h4,by subst h5;simp⟩)
theorem insDefs_fst(k:Int):∀(l:List Ins) (n:Int),(insDefs k n l).map (·.1)=l.map Ins.to
 | [],_=>rfl
 | i::r,n=>by rw [insDefs,List.map_cons,insDefs_fst k r,List.map_cons]
theorem allDefs_fst:∀(l:List Block) (k:Int),(allDefs k l).map (·.1)=l.flatMap blkVals
 | [],_=>rfl
 | b::r,k=>by
  rw [allDefs,List.map_append,allDefs_fst r,List.flatMap_cons,blkDefs,List.map_append,insDefs_fst,blkVals,parDefs,List.map_map]
  congr 2
  exact List.map_id' _
theorem dsF_fst(f:Func):(dsF f).map (·.1)=valsF f:=allDefs_fst _ _
theorem domE_again{k:Nat}{S:Ds}{e:Edge}(h:(domE k S e).again=false):domE k S e=S∧((S.at_ e.block.toNat).meet (S.at_ k)).add e.block.toNat=S.at_ e.block.toNat∧S.seen.has e.block.toNat=true:=by
 unfold domE at h ⊢
 simp only at h ⊢
 split at h
 ·cases h
 rename_i hc
 rw [if_neg hc]
 simp only [ne_eq,not_or,Decidable.not_not,Bool.not_eq_false] at hc
 exact⟨rfl,hc⟩
theorem domF_again{k:Nat}:∀(l:List Edge) {S:Ds},(l.foldl (domE k) S).again=false→l.foldl (domE k) S=S∧∀e∈l,((S.at_ e.block.toNat).meet (S.at_ k)).add e.block.toNat=S.at_ e.block.toNat∧S.seen.has e.block.toNat=true
 | [],S,_=>⟨rfl,by simp⟩
 | e::r,S,h=>by
  rw [List.foldl_cons] at h
  have ih:=domF_again r h
  rw [ih.1] at h
  have h1:=domE_again h
  rw [List.foldl_cons,ih.1,h1.1]
  rw [h1.1] at ih
  refine⟨rfl,fun x hx=>?_⟩
  rcases List.mem_cons.1 hx with q | q
  ·subst q
   exact h1.2
  exact ih.2 x q
theorem domR_again:∀(l:List Block) (k:Nat) {S:Ds},(domR k S l).again=false→domR k S l=S∧∀(j:Nat) b,l[j]?=some b→S.seen.has (k+j)=true→∀e∈b.term.to,((S.at_ e.block.toNat).meet (S.at_ (k+j))).add e.block.toNat=S.at_ e.block.toNat∧S.seen.has e.block.toNat=true
 | [],k,S,_=>⟨rfl,fun j b h=>by simp at h⟩
 | b::r,k,S,h=>by
  rw [domR] at h
  have ih:=domR_again r (k+1) h
  rw [ih.1] at h
  have h1:domB k S b=S∧(S.seen.has k=true→∀e∈b.term.to,((S.at_ e.block.toNat).meet (S.at_ k)).add e.block.toNat=S.at_ e.block.toNat∧S.seen.has e.block.toNat=true):=by
   unfold domB at h ⊢
   split
   ·rename_i hs
    exact⟨rfl,fun q=>by rw [hs] at q;cases q⟩
   rename_i hs
   rw [if_neg hs] at h
   have:=domF_again _ h
   exact⟨this.1,fun _=>this.2⟩
  rw [domR,ih.1,h1.1]
  rw [h1.1] at ih
  refine⟨rfl,fun j x hj hs=>?_⟩
  cases j with
  | zero =>
   simp only [List.getElem?_cons_zero,Option.some.injEq] at hj
   subst hj
   exact h1.2 hs
  | succ j =>
   rw [show k+(j+1)=k+1+j by omega] at hs ⊢
   exact ih.2 j x hj hs
theorem domI_ends{f:Func}(he:∀b∈f.blocks,∀e∈b.term.to,0≤e.block∧e.block.toNat<f.blocks.length):∀(n:Nat) {S:Ds},DsOK f.blocks.length S→(S.again=true→S.weight<n)→(domI f n S).again=false
 | 0,S,_,h=>by
  cases hs:S.again with
  | false=>exact hs
  | true=>exact absurd (h hs) (by omega)
 | n+1,S,hS,h=>by
  simp only [domI]
  split
  ·rename_i ha
   have hw:=h ha
   have hr:=domR_ok f.blocks (k:=0) (S:=⟨S.over,S.seen,false⟩) ⟨hS.few,hS.len,hS.fit,hS.seen,hS.self⟩ he
   have hwS:(⟨S.over,S.seen,false⟩:Ds).weight=S.weight:=rfl
   refine domI_ends he n hr.1 fun q=>?_
   rcases hr.2.2 q with q | q
   ·cases q
   omega
  rename_i ha
  simpa using ha
structure Dz(S:Ds):Prop where
 zero:S.at_ 0=Bs.none.add 0
 seen:S.seen.has 0=true
theorem domE_z{n k:Nat}{S:Ds}(h:Dz S){e:Edge}(h1:1≤e.block)(h2:e.block.toNat<n)(h3:n≤128):Dz (domE k S e):=by
 unfold domE
 simp only
 split
 ·refine⟨?_,?_⟩
  ·have:=h.zero
   unfold Ds.at_ at this ⊢
   simp only
   rw [List.getElem?_set_ne (by omega)]
   exact this
  simp only
  rw [Bs.has_add _ _ _ (by omega) (by omega),h.seen]
  rfl
 exact h
theorem domF_z{n k:Nat}(h3:n≤128):∀(l:List Edge) {S:Ds},Dz S→(∀e∈l,1≤e.block∧e.block.toNat<n)→Dz (l.foldl (domE k) S)
 | [],_,h,_=>h
 | e::r,S,h,he=>domF_z h3 r (domE_z h (he e (by simp)).1 (he e (by simp)).2 h3) fun x hx=>he x (by simp [hx])
theorem domR_z{n:Nat}(h3:n≤128):∀(l:List Block) {k:Nat} {S:Ds},Dz S→(∀b∈l,∀e∈b.term.to,1≤e.block∧e.block.toNat<n)→Dz (domR k S l)
 | [],_,_,h,_=>h
 | b::r,k,S,h,he=>by
  refine domR_z h3 r (k:=k+1) ?_ fun x hx=>he x (by simp [hx])
  unfold domB
  split
  ·exact h
  exact domF_z h3 _ h (he b (by simp))
theorem domI_z{f:Func}(h3:f.blocks.length≤128)(he:∀b∈f.blocks,∀e∈b.term.to,1≤e.block∧e.block.toNat<f.blocks.length):∀(n:Nat) {S:Ds},Dz S→Dz (domI f n S)
 | 0,_,h=>h
 | n+1,S,h=>by
  simp only [domI]
  split
  ·exact domI_z h3 he n (domR_z h3 _ (S:=⟨S.over,S.seen,false⟩) ⟨h.zero,h.seen⟩ he)
  exact h
theorem domI_last{f:Func}:∀(n:Nat) {S:Ds},S.again=true→(domI f n S).again=false→∃T:Ds,domI f n S=domR 0 T f.blocks
 | 0,S,h1,h2=>by
  rw [domI,h1] at h2
  cases h2
 | n+1,S,h1,h2=>by
  simp only [domI,h1,if_true] at h2 ⊢
  cases hr:(domR 0 ⟨S.over,S.seen,false⟩ f.blocks).again with
  | false=>exact⟨_,domI_done hr n⟩
  | true=>exact domI_last n hr h2
def overF(f:Func)(k:Nat):Bs:=(domM f).1[k]?.getD .none
def seenF(f:Func)(k:Nat):Bool:=(domM f).2.has k
structure DomW(f:Func):Prop where
 seen:seenF f 0=true
 zero:∀j,j<128→((overF f 0).has j=true↔j=0)
 self:∀k,k<f.blocks.length→(overF f k).has k=true
 step:∀(k:Nat) b,f.blocks[k]?=some b→seenF f k=true→∀e∈b.term.to,seenF f e.block.toNat=true∧∀j,j<128→((overF f e.block.toNat).has j=true→j=e.block.toNat∨(overF f k).has j=true)
theorem domM_w{f:Func}(h0:f.blocks≠[])(h1:f.blocks.length≤128)(he:∀b∈f.blocks,∀e∈b.term.to,1≤e.block∧e.block<f.blocks.length):DomW f:=by
 have he':∀b∈f.blocks,∀e∈b.term.to,0≤e.block∧e.block.toNat<f.blocks.length:=fun b hb e hx=>by have:=he b hb e hx;omega
 have he1:∀b∈f.blocks,∀e∈b.term.to,1≤e.block∧e.block.toNat<f.blocks.length:=fun b hb e hx=>by have:=he b hb e hx;omega
 have hl:=List.length_pos_iff.2 h0
 have hS:=domS_ok h0 h1
 have hw0:=weight_le hS
 have hz0:Dz (domS f):=⟨by unfold Ds.at_ domS;simp only;rw [List.getElem?_set_self (by simpa using hl)];rfl,by show(Bs.none.add 0).has 0=true;decide⟩
 have hend:=domI_ends he' 20000 hS (fun _=>by omega)
 have hz:=domI_z h1 he1 20000 hz0
 obtain⟨T,hT⟩:=domI_last 20000 rfl hend
 have hok:DsOK f.blocks.length (domI f 20000 (domS f)):=by
  have key:∀(n:Nat) (S:Ds),DsOK f.blocks.length S→DsOK f.blocks.length (domI f n S):=fun n=>by
   induction n with
   | zero=>exact fun S h=>h
   | succ n ih =>
    intro S h
    simp only [domI]
    split
    ·exact ih _ (domR_ok f.blocks (k:=0) (S:=⟨S.over,S.seen,false⟩) ⟨h.few,h.len,h.fit,h.seen,h.self⟩ he').1
    exact h
  exact key _ _ hS
 have hTa:=domR_again f.blocks 0 (S:=T) (by rw [←hT];exact hend)
 have hfix:=hTa.2
 rw [show T=domI f 20000 (domS f) from hTa.1.symm.trans hT.symm] at hfix
 have hov:∀k,overF f k=(domI f 20000 (domS f)).at_ k:=fun k=>rfl
 have hse:∀k,seenF f k=(domI f 20000 (domS f)).seen.has k:=fun k=>rfl
 generalize domI f 20000 (domS f)=S at *
 refine⟨by rw [hse,hz.seen],fun j hj=>?_,fun k hk=>by rw [hov];exact hok.self k hk,fun k b hb hs e hx=>?_⟩
 ·rw [hov,hz.zero,Bs.has_add _ _ _ (by omega) hj]
  have:Bs.none.has j=false:=by unfold Bs.has Bs.none;simp
  simp [this]
 have hb1:=he1 b (List.mem_of_getElem? hb) e hx
 obtain⟨q1,q2⟩:=hfix k b hb (by rw [Nat.zero_add,←hse];exact hs) e hx
 rw [Nat.zero_add] at q1
 refine⟨by rw [hse];exact q2,fun j hj q=>?_⟩
 rw [hov,←q1,Bs.has_add _ _ _ (by omega) hj,Bs.has_meet] at q
 rw [hov]
 simp only [Bool.or_eq_true,Bool.and_eq_true,decide_eq_true_eq] at q
 rcases q with q | q
 ·exact .inr q.2
 exact .inl q
theorem lookD_some{ds:Defs}{v:Int}{p:Int×Int}(h:lookD ds v=some p):(v,p)∈ds:=by
 induction ds with
 | nil=>cases h
 | cons e r ih =>
  obtain⟨a,q⟩:=e
  simp only [lookD] at h
  split at h
  ·rename_i e
   simp only [Option.some.injEq] at h
   rw [e,h]
   simp
  exact List.mem_cons.2 (.inr (ih h))
def Fine(f:Func)(k:Nat)(n:Int)(v:Int):Prop:=∃p,DefAt f v p∧(seenF f k=true→(p.1=k∧p.2≤n)∨(p.1≠k∧(overF f k).has p.1.toNat=true))
theorem fine_of{f:Func}{k:Nat}{n v:Int}(h:fineM (dsF f) (domM f).1 (domM f).2 k n v=true):Fine f k n v:=by
 unfold fineM at h
 cases hl:lookD (dsF f) v with
 | none=>rw [hl] at h;cases h
 | some p =>
  rw [hl] at h
  refine⟨p,mem_dsF.1 (lookD_some hl),fun hs=>?_⟩
  have hs':(domM f).2.has k=true:=hs
  simp only [hs',Bool.not_true,Bool.or_false,Bool.or_eq_true,Bool.and_eq_true,decide_eq_true_eq,Bool.not_eq_true',decide_eq_false_iff_not] at h
  exact h
structure UsesW(f:Func):Prop where
 ins:∀(k:Nat) b,f.blocks[k]?=some b→∀(n:Nat) i,b.ins[n]?=some i→∀a∈i.args,Fine f k n a
 arg:∀(k:Nat) b,f.blocks[k]?=some b→b.term.kind≠1→b.term.kind≠4→Fine f k b.ins.length b.term.arg
 args:∀(k:Nat) b,f.blocks[k]?=some b→∀e∈b.term.to,∀a∈e.args,Fine f k b.ins.length a
theorem insUses_all{ds:Defs}{over:List Bs}{seen:Bs}{k:Nat}:∀(l:List Ins) (n:Nat),insUses ds over seen k n l=true→∀(j:Nat) i,l[j]?=some i→∀a∈i.args,fineM ds over seen k ((n+j:Nat):Int) a=true
 | [],_,_=>fun j i h=>by simp at h
 | x::r,n,h=>fun j i hj a ha=>by
  simp only [insUses,Bool.and_eq_true,List.all_eq_true] at h
  cases j with
  | zero =>
   simp only [List.getElem?_cons_zero,Option.some.injEq] at hj
   subst hj
   exact h.1 a ha
  | succ j =>
   rw [show n+(j+1)=n+1+j by omega]
   exact insUses_all r (n+1) h.2 j i hj a ha
theorem allUses_all{ds:Defs}{over:List Bs}{seen:Bs}:∀(l:List Block) (k:Nat),allUses ds over seen k l=true→∀(j:Nat) b,l[j]?=some b→blkUses ds over seen (k+j) b=true
 | [],_,_=>fun j i h=>by simp at h
 | x::r,k,h=>fun j b hj=>by
  simp only [allUses,Bool.and_eq_true] at h
  cases j with
  | zero =>
   simp only [List.getElem?_cons_zero,Option.some.injEq] at hj
   subst hj
   exact h.1
  | succ j =>
   rw [show k+(j+1)=k+1+j by omega]
   exact allUses_all r (k+1) h.2 j b hj
theorem uses_w{f:Func}(h:usesM f (dsF f)=0):UsesW f:=by
 have ha:allUses (dsF f) (domM f).1 (domM f).2 0 f.blocks=true:=by
  unfold usesM at h
  split at h
  ·assumption
  simp at h
 have hb:∀(k:Nat) b,f.blocks[k]?=some b→blkUses (dsF f) (domM f).1 (domM f).2 k b=true:=fun k b hk=>by
  have:=allUses_all f.blocks 0 ha k b hk
  rwa [Nat.zero_add] at this
 have hu:∀(k:Nat) b,f.blocks[k]?=some b→usedM b.term (fineM (dsF f) (domM f).1 (domM f).2 k b.ins.length)=true:=fun k b hk=>by
  have:=hb k b hk
  simp only [blkUses,Bool.and_eq_true] at this
  exact this.2
 refine⟨fun k b hk n i hn a ha=>?_,fun k b hk h1 h4=>?_,fun k b hk e he a ha=>?_⟩
 ·have:=hb k b hk
  simp only [blkUses,Bool.and_eq_true] at this
  have:=insUses_all b.ins 0 this.1 n i hn a ha
  rw [Nat.zero_add] at this
  exact fine_of this
 ·have:=hu k b hk
  simp only [usedM,Bool.and_eq_true,Bool.or_eq_true,decide_eq_true_eq,h1,h4,false_or] at this
  exact fine_of this.1
 have:=hu k b hk
 simp only [usedM,Bool.and_eq_true,List.all_eq_true] at this
 exact fine_of (this.2 e he a ha)
structure FnV(f:Func):Prop where
 fn:FnW f
 dom:DomW f
 uses:UsesW f
 vals:ValsW f
 nodup:(valsF f).Nodup
 edges:∀b∈f.blocks,∀e∈b.term.to,1≤e.block∧e.block<f.blocks.length
theorem checkFunc_v{f:Func}(hfit:f.fit)(h:checkFuncM f=0):FnV f:=by
 have hw:=checkFunc_ok hfit h
 obtain⟨hd,hdw⟩:=FnW.ds hfit h
 have he:∀b∈f.blocks,∀e∈b.term.to,1≤e.block∧e.block<f.blocks.length:=fun b hb e hx=>by
  have:=((end_ok (hw.blk b hb).fin).edges e hx).1
  omega
 refine⟨hw,domM_w hw.ne hw.few he,uses_w (by rw [←hd];exact hw.uses),fun v hv=>?_,?_,he⟩
 ·rw [←dsF_fst] at hv
  obtain⟨e,h1,rfl⟩:=List.mem_map.1 hv
  exact hdw.range e h1
 rw [←dsF_fst]
 exact hdw.nodup
theorem lookD_no{ds:Defs}{v:Int}(h:v ∉ ds.map (·.1)):lookD ds v=none:=by
 cases hl:lookD ds v with
 | none=>rfl
 | some p=>exact absurd (List.mem_map.2 ⟨_,lookD_some hl,rfl⟩) h
theorem defineM_zero{ds:Defs}{v:Int}{p:Int×Int}(hv:0≤v∧v≤4095)(h:v ∉ ds.map (·.1)):(defineM ds v p).1=0:=by
 unfold defineM
 rw [lookD_no h]
 simp [within,hv]
theorem paramsM_zero(k:Int):∀(l:List Int) (ds:Defs),(∀v∈l,0≤v∧v≤4095)→(ds.map (·.1)++l).Nodup→(paramsM k ds l).1=0
 | [],_,_,_=>rfl
 | p::r,ds,hv,hn=>by
  have hp:p ∉ ds.map (·.1):=fun q=>by
   rw [List.nodup_append] at hn
   exact hn.2.2 p q p List.mem_cons_self rfl
  have h0:=defineM_zero (p:=(k,0)) (hv p List.mem_cons_self) hp
  simp only [paramsM]
  rw [if_neg (by rw [h0];simp),defineM_eq h0]
  refine paramsM_zero k r _ (fun v h=>hv v (List.mem_cons_of_mem _ h)) ?_
  rw [List.map_append,List.append_assoc]
  exact hn
theorem insM_zero(k:Int):∀(l:List Ins) (n:Int) (ds:Defs),(∀i∈l,0≤i.to∧i.to≤4095∧formE i=0)→(ds.map (·.1)++l.map Ins.to).Nodup→(insM k n ds l).1=0
 | [],_,_,_,_=>rfl
 | i::r,n,ds,hv,hn=>by
  have hp:i.to ∉ ds.map (·.1):=fun q=>by
   rw [List.nodup_append] at hn
   exact hn.2.2 _ q _ List.mem_cons_self rfl
  have hi:=hv i List.mem_cons_self
  have h0:=defineM_zero (p:=(k,n+1)) ⟨hi.1,hi.2.1⟩ hp
  simp only [insM]
  rw [if_neg (by rw [h0];simp),if_neg (by rw [hi.2.2];simp),defineM_eq h0]
  refine insM_zero k r _ _ (fun j h=>hv j (List.mem_cons_of_mem _ h)) ?_
  rw [List.map_append,List.append_assoc]
  exact hn
theorem blockM_zero{f:Func}{ds:Defs}{k:Int}{b:Block}(hb:blkOf f k=b)(hp:∀v∈b.params,0≤v∧v≤4095)(hi:∀i∈b.ins,0≤i.to∧i.to≤4095∧formE i=0)(he:endE f b.term=0)(hn:(ds.map (·.1)++blkVals b).Nodup):(blockM f ds k).1=0:=by
 unfold blockM
 rw [hb]
 unfold blkVals at hn
 rw [←List.append_assoc] at hn
 have h1:=paramsM_zero k b.params ds hp (by
  rw [List.nodup_append] at hn
  exact hn.1)
 rw [if_neg (by rw [h1];simp),paramsM_eq k b.params ds h1]
 have h2:=insM_zero k b.ins 0 (ds++parDefs k b.params) hi (by
  rw [List.map_append]
  have:(parDefs k b.params).map (·.1)=b.params:=by
   unfold parDefs
   rw [List.map_map]
   exact List.map_id' _
  rw [this]
  exact hn)
 rw [if_neg (by rw [h2];simp)]
 exact he
theorem blkDefs_fst(k:Int)(b:Block):(blkDefs k b).map (·.1)=blkVals b:=by
 rw [blkDefs,List.map_append,insDefs_fst,blkVals,parDefs,List.map_map]
 congr 1
 exact List.map_id' _
theorem blocksM_zero{f:Func}(hp:∀b∈f.blocks,(∀v∈b.params,0≤v∧v≤4095)∧(∀i∈b.ins,0≤i.to∧i.to≤4095∧formE i=0)∧endE f b.term=0) :
  ∀(n k:Nat) (ds:Defs),k+n=f.blocks.length→(ds.map (·.1)++(f.blocks.drop k).flatMap blkVals).Nodup→(blocksM f n k ds).1=0
 | 0,_,_,_,_=>rfl
 | n+1,k,ds,hk,hn=>by
  have hb:f.blocks[k]?=some f.blocks[k]:=List.getElem?_eq_getElem (by omega)
  have hbo:blkOf f (k:Int)=f.blocks[k]:=by simp [blkOf,hb]
  rw [drop_at hb,List.flatMap_cons,←List.append_assoc] at hn
  obtain⟨p1,p2,p3⟩:=hp _ (List.mem_of_getElem? hb)
  have h0:=blockM_zero (ds:=ds) hbo p1 p2 p3 (by
   rw [List.nodup_append] at hn
   exact hn.1)
  simp only [blocksM]
  rw [if_neg (by rw [h0];simp),blockM_eq h0,hbo]
  have e:(k:Int)+1=((k+1:Nat):Int):=by omega
  rw [e]
  refine blocksM_zero hp n (k+1) _ (by omega) ?_
  rw [List.map_append,blkDefs_fst]
  exact hn
theorem insUses_intro{ds:Defs}{over:List Bs}{seen:Bs}{k:Nat}:∀(l:List Ins) (n:Nat),(∀(j:Nat) i,l[j]?=some i→∀a∈i.args,fineM ds over seen k ((n+j:Nat):Int) a=true)→insUses ds over seen k n l=true
 | [],_,_=>rfl
 | x::r,n,h=>by
  simp only [insUses,Bool.and_eq_true,List.all_eq_true]
  refine⟨fun a ha=>h 0 x rfl a ha,insUses_intro r (n+1) fun j i hj a ha=>?_⟩
  rw [show n+1+j=n+(j+1) by omega]
  exact h (j+1) i (by simpa using hj) a ha
theorem allUses_intro{ds:Defs}{over:List Bs}{seen:Bs}:∀(l:List Block) (k:Nat),(∀(j:Nat) b,l[j]?=some b→blkUses ds over seen (k+j) b=true)→allUses ds over seen k l=true
 | [],_,_=>rfl
 | x::r,k,h=>by
  simp only [allUses,Bool.and_eq_true]
  refine⟨h 0 x rfl,allUses_intro r (k+1) fun j b hj=>?_⟩
  rw [show k+1+j=k+(j+1) by omega]
  exact h (j+1) b (by simpa using hj)
theorem fine_intro{f:Func}(hn:(valsF f).Nodup){k:Nat}{n v:Int}(h:Fine f k n v):fineM (dsF f) (domM f).1 (domM f).2 k n v=true:=by
 obtain⟨p,h1,h2⟩:=h
 have hl:lookD (dsF f) v=some p:=(lookD_mem (by rw [dsF_fst];exact hn)).2 (mem_dsF.2 h1)
 unfold fineM
 rw [hl]
 simp only [Bool.or_eq_true,Bool.and_eq_true,decide_eq_true_eq,Bool.not_eq_true',decide_eq_false_iff_not]
 cases hs:seenF f k with
 | false=>exact .inr (.inr hs)
 | true =>
  rcases h2 hs with q | q
  ·exact .inl q
  exact .inr (.inl q)
theorem uses_intro{f:Func}(hn:(valsF f).Nodup)(h:UsesW f):usesM f (dsF f)=0:=by
 unfold usesM
 rw [if_pos]
 refine allUses_intro f.blocks 0 fun j b hj=>?_
 rw [Nat.zero_add]
 unfold blkUses usedM
 simp only [Bool.and_eq_true,Bool.or_eq_true,decide_eq_true_eq,List.all_eq_true]
 refine⟨insUses_intro b.ins 0 fun n i hi a ha=>?_,?_,fun e he a ha=>fine_intro hn (h.args j b hj e he a ha)⟩
 ·rw [Nat.zero_add]
  exact fine_intro hn (h.ins j b hj n i hi a ha)
 by_cases h1:b.term.kind=1
 ·exact .inl (.inl h1)
 by_cases h4:b.term.kind=4
 ·exact .inl (.inr h4)
 exact .inr (fine_intro hn (h.arg j b hj h1 h4))
def sumI(bs:List Block):Nat:=(bs.map fun b=>b.ins.length).sum
theorem wsum_eq:∀(bs:List Block) (m:Nat),(∀b∈bs,b.ins.length≤1024)→m+bs.length * 1024≤1000000→wsum m bs=((m+sumI bs:Nat):Int)
 | [],m,_,_=>by simp [wsum,sumI]
 | b::r,m,h,hm=>by
  have h1:=h b List.mem_cons_self
  rw [List.length_cons] at hm
  have hw:IntKind.i64.wrap ((m:Int)+(b.ins.length:Int))=((m+b.ins.length:Nat):Int):=by
   rw [wrap_in .i64 _ (by show(-9223372036854775808:Int)≤_;omega) (by show _≤(9223372036854775807:Int);omega)]
   omega
  simp only [wsum]
  rw [hw,wsum_eq r (m+b.ins.length) (fun x hx=>h x (List.mem_cons_of_mem _ hx)) (by omega)]
  unfold sumI
  rw [List.map_cons,List.sum_cons,Nat.add_assoc]
theorem check_intro{f:Func}(hne:f.blocks≠[])(hfew:f.blocks.length≤128)(hname:-1≤f.name∧f.name≤1048575)(hins:∀b∈f.blocks,b.ins.length≤1024)(hsum:sumI f.blocks≤1024)(hpar:(blkOf f 0).params.length≤6)
  (hv:∀v∈valsF f,0≤v∧v≤4095) (hn:(valsF f).Nodup) (hb:∀b∈f.blocks,(∀i∈b.ins,formE i=0)∧endE f b.term=0) (hu:UsesW f):checkFuncM f=0:=by
 have hbv:∀b∈f.blocks,(∀v∈b.params,0≤v∧v≤4095)∧(∀i∈b.ins,0≤i.to∧i.to≤4095∧formE i=0)∧endE f b.term=0:=fun b h=>by
  have hin:∀v∈blkVals b,0≤v∧v≤4095:=fun v q=>hv v (List.mem_flatMap.2 ⟨b,h,q⟩)
  refine⟨fun v q=>hin v (List.mem_append_left _ q),fun i q=>?_,(hb b h).2⟩
  have:=hin i.to (List.mem_append_right _ (List.mem_map.2 ⟨i,q,rfl⟩))
  exact⟨this.1,this.2,(hb b h).1 i q⟩
 have h0:=blocksM_zero hbv f.blocks.length 0 [] (by omega) (by
  rw [List.drop_zero]
  exact hn)
 have h1:=blocksM_eq f.blocks.length 0 [] (by omega) h0
 rw [List.drop_zero,List.nil_append] at h1
 have hw:=wsum_eq f.blocks 0 hins (by omega)
 rw [Nat.zero_add] at hw
 have hl:=List.length_pos_iff.2 hne
 unfold checkFuncM
 have hww:wsum 0 f.blocks=((sumI f.blocks:Nat):Int):=hw
 rw [if_neg (by omega),if_neg (by rw [hww];omega),if_neg (by simp [within,hname]),if_neg (by
  have h0':(blocksM f f.blocks.length 0 []).1=0:=h0
  rw [h0']
  simp)]
 have h1':(blocksM f f.blocks.length 0 []).2=dsF f:=h1
 rw [h1']
 exact uses_intro hn hu
theorem sum_few{f:Func}(hfit:f.fit)(h:checkFuncM f=0):sumI f.blocks≤1024:=by
 have hw:=checkFunc_ok hfit h
 have he:=wsum_eq f.blocks 0 hw.ins (by have:=hw.few;omega)
 unfold checkFuncM at h
 split at h
 ·simp at h
 split at h
 ·simp at h
 rename_i h2
 rw [Nat.zero_add] at he
 have he':wsum 0 f.blocks=((sumI f.blocks:Nat):Int):=he
 rw [he'] at h2
 omega
theorem dmax_E{n k:Nat}{D:Nat→Nat→Prop}{R:Nat→Prop}{S:Ds}(hn:n≤128)(hl:S.over.length=n)(h1:∀i j,j<n→D i j→i<n∧(S.at_ j).has i=true)(h2:∀j,j<128→S.seen.has j=true→R j)(hk:k<n){e:Edge}(he:0≤e.block∧e.block.toNat<n)(hR:R k→R e.block.toNat)
  (hD:R k→∀i,D i e.block.toNat→i=e.block.toNat∨D i k) (hs:R k):(∀i j,j<n→D i j→i<n∧((domE k S e).at_ j).has i=true)∧(∀j,j<128→(domE k S e).seen.has j=true→R j)∧(domE k S e).over.length=n:=by
 unfold domE
 simp only
 split
 ·refine⟨fun i j hj hij=>?_,fun j hj hsj=>?_,by simp only;rw [List.length_set,hl]⟩
  ·refine⟨(h1 i j hj hij).1,?_⟩
   have hi:=(h1 i j hj hij).1
   unfold Ds.at_
   simp only
   rw [List.getElem?_set]
   split
   ·rename_i q
    rw [if_pos (by rw [hl];exact he.2),Option.getD_some,Bs.has_add _ _ _ (by omega) (by omega),Bs.has_meet]
    simp only [Bool.or_eq_true,Bool.and_eq_true,decide_eq_true_eq]
    rw [←q] at hij
    rcases hD hs i hij with r | r
    ·exact .inr r
    exact .inl ⟨(h1 i _ he.2 hij).2,(h1 i k hk r).2⟩
   exact(h1 i j hj hij).2
  simp only at hsj
  rw [Bs.has_add _ _ _ (by omega) hj] at hsj
  simp only [Bool.or_eq_true,decide_eq_true_eq] at hsj
  rcases hsj with q | q
  ·exact h2 j hj q
  rw [q]
  exact hR hs
 exact⟨h1,h2,hl⟩
structure DmX(n:Nat)(D:Nat→Nat→Prop)(R:Nat→Prop)(S:Ds):Prop where
 len:S.over.length=n
 dom:∀i j,j<n→D i j→i<n∧(S.at_ j).has i=true
 seen:∀j,j<128→S.seen.has j=true→R j
structure DmC(f:Func)(D:Nat→Nat→Prop)(R:Nat→Prop):Prop where
 few:f.blocks.length≤128
 edges:∀b∈f.blocks,∀e∈b.term.to,0≤e.block∧e.block.toNat<f.blocks.length
 next:∀(k:Nat) b,f.blocks[k]?=some b→R k→∀e∈b.term.to,R e.block.toNat∧∀i,D i e.block.toNat→i=e.block.toNat∨D i k
theorem dmx_F{f:Func}{D:Nat→Nat→Prop}{R:Nat→Prop}(hc:DmC f D R){k:Nat}{b:Block}(hb:f.blocks[k]?=some b)(hR:R k):∀(l:List Edge) {S:Ds},(∀e∈l,e∈b.term.to)→DmX f.blocks.length D R S→DmX f.blocks.length D R (l.foldl (domE k) S)
 | [],_,_,h=>h
 | e::r,S,hl,h=>by
  have hn:=hc.next k b hb hR e (hl e List.mem_cons_self)
  obtain⟨a1,a2,a3⟩:=dmax_E hc.few h.len h.dom h.seen (lt_of_getElem? hb) (hc.edges b (List.mem_of_getElem? hb) e (hl e List.mem_cons_self)) (fun _=>hn.1) (fun _=>hn.2) hR
  rw [List.foldl_cons]
  exact dmx_F hc hb hR r (fun x hx=>hl x (List.mem_cons_of_mem _ hx)) ⟨a3,a1,a2⟩
theorem dmx_R{f:Func}{D:Nat→Nat→Prop}{R:Nat→Prop}(hc:DmC f D R):∀(l:List Block) (k:Nat) {S:Ds},l=f.blocks.drop k→DmX f.blocks.length D R S→DmX f.blocks.length D R (domR k S l)
 | [],_,_,_,h=>h
 | b::r,k,S,hl,h=>by
  have hb:f.blocks[k]?=some b:=by
   have:=congrArg (fun l=>l[0]?) hl
   simpa using this.symm
  have hr:r=f.blocks.drop (k+1):=by
   rw [drop_at hb] at hl
   simpa using hl
  rw [domR]
  refine dmx_R hc r (k+1) hr ?_
  unfold domB
  split
  ·exact h
  rename_i hs
  have hk:=lt_of_getElem? hb
  exact dmx_F hc hb (h.seen k (by have:=hc.few;omega) (by simpa using hs)) _ (fun e he=>he) h
theorem dmx_I{f:Func}{D:Nat→Nat→Prop}{R:Nat→Prop}(hc:DmC f D R):∀(n:Nat) {S:Ds},DmX f.blocks.length D R S→DmX f.blocks.length D R (domI f n S)
 | 0,_,h=>h
 | n+1,S,h=>by
  simp only [domI]
  split
  ·exact dmx_I hc n (dmx_R hc f.blocks 0 (S:=⟨S.over,S.seen,false⟩) (by rw [List.drop_zero]) ⟨h.len,h.dom,h.seen⟩)
  exact h
theorem allB_in:∀(n j:Nat),n≤128→j<n→(allB n).has j=true
 | 0,_,_,h=>absurd h (Nat.not_lt_zero _)
 | n+1,j,hn,hj=>by
  rw [allB,Bs.has_add _ _ _ (by omega) (by omega)]
  by_cases e:j=n
  ·simp [e]
  rw [allB_in n j (by omega) (by omega)]
  rfl
theorem dom_max{f:Func}{D:Nat→Nat→Prop}{R:Nat→Prop}(hne:f.blocks≠[])(hc:DmC f D R)(h0:R 0)(hz:∀i,D i 0→i=0)(hlt:∀i j,D i j→i<f.blocks.length){i j:Nat}(hj:j<f.blocks.length)(h:D i j):(overF f j).has i=true:=by
 have hl:=List.length_pos_iff.2 hne
 have hs:DmX f.blocks.length D R (domS f):=by
  refine⟨by simp [domS],fun i j hj hij=>⟨hlt i j hij,?_⟩,fun j hj hsj=>?_⟩
  ·unfold Ds.at_ domS
   simp only
   rw [List.getElem?_set]
   split
   ·rename_i e
    subst e
    rw [if_pos (by simpa using hl),Option.getD_some,hz i hij]
    decide
   rw [List.getElem?_replicate,if_pos hj,Option.getD_some]
   exact allB_in _ _ hc.few (hlt i j hij)
  have:(Bs.none.add 0).has j=true:=hsj
  rw [Bs.has_add _ _ _ (by omega) hj] at this
  have hn:Bs.none.has j=false:=by unfold Bs.has Bs.none;simp
  rw [hn] at this
  simp only [Bool.false_or,decide_eq_true_eq] at this
  rw [this]
  exact h0
 exact((dmx_I hc 20000 hs).dom i j hj h).2
end Go.Proofs.Ytlclgfgmhnmnaaa
namespace Go.Av
def CertE(P:Program)(o:Oper)(σ0:St)(R:AVal→List AObj→Prop):Prop :=
 ∀(base:G) (σ:St) (a:Act) (g:G),Rel base σ a g→σ.n=σ0.n→(∀x∈o.op.operands,∀y,σ0.ev x=some y→σ.ev x=some y)→σ.objs=σ0.objs →
  ∀(K:Act→World→Prop) (Q:Exit→Act→World→Prop),(∀r u g',R r g'.objs→Rel base ⟨σ.n,putO o.dst r σ.slots,g'.objs⟩ (a.put o.dst u) g'→K (a.put o.dst u) g'.w)→o.wp P a g.w K Q
theorem cert_ecallE{P:Program}{o:Oper}{σ:St}{x:Operand}{args:Array Operand}{ats:Array TypeId}{f:FuncId}{fs cs ars:List AVal}{R:AVal→List AObj→Prop}
  (ho:o.op=.call ⟨.value x,args,ats⟩) (hd:∀d,o.dst=some d→d<σ.n) (hx:σ.ev x=some (.fn (.func f) fs cs)) (ha:σ.evs args.toList=some ars)
  (hcall:ECall P f σ.objs (fs++ars++cs) R):CertE P o σ R:=by
 intro base τ a g hrel hn hag hm K Q hK
 have hxe:σ.ev x=some (.fn (.func f) fs cs):=hx
 have h1:=hrel.eval (hag x (by simp [ho,Op.operands,Call.operands]) _ hx)
 obtain⟨us,vs,e1,l1,l2,r1,r2⟩:=h1.fn_inv
 have h2:=evs_rel (σ:=σ) (a:=a) (g:=g) (xs:=args.toList) (fun z hz y hy=>hrel.eval (hag z (by
  rw [ho]
  simp only [Op.operands,Call.operands,Array.mem_append]
  exact .inr (Array.mem_toList_iff.1 hz)) y hy)) ha
 have h2':RVs g ars (args.map a.eval):=by
  have e:args.map a.eval=(args.toList.map a.eval).toArray:=Array.ext' (by rw [Array.toList_map])
  rw [e]
  exact h2
 have hall:=(RVs.append_arr (RVs.append_arr ⟨l1,r1⟩ h2') ⟨l2,r2⟩)
 have hrun:=run_callv (P:=P) (w:=g.w) ho e1 hcall.1
 unfold Oper.wp
 rw [hrun,Oper.upon_enter]
 refine(hcall.2 g _ hrel.good (hrel.objs.trans hm) hall).mono ?_
 rintro e w' ⟨g',v,r',q1,q2,q3,q4,q5,q6⟩
 subst q1
 subst q2
 refine hK r' v g' q6 ?_
 cases hdst:o.dst with
 | none=>exact hrel.step q3 q4
 | some d=>exact hrel.put q3 q4 (d:=d) (by rw [hn];exact hd d hdst) q5
theorem wpOps_chain_app{P:Program}{ops:Array Oper}{base:G}{ρ:St}{Q:Exit→Act→World→Prop}{rest:List Nat}(hQ:∀a g,Rel base ρ a g→wpOps P ops Q rest a g.w) :
  ∀(l:List (Nat×Kind)) (σ:St) (a:Act) (g:G),Chain P ops l σ ρ→Rel base σ a g→wpOps P ops Q (l.map (·.1)++rest) a g.w
 | [],σ,a,g,hch,hrel=>hQ a g (Same.rel hch hrel)
 | (i,k)::r,σ,a,g,hch,hrel=>by
  obtain⟨σ',⟨o,ho,hstep⟩,hrest⟩:=hch
  simp only [List.map_cons,List.cons_append,wpOps,ho]
  rcases hstep with⟨hw,r',m,hcert,hk,hσ⟩ | ⟨hw,_,hσ⟩
  ·rw [if_pos (wantedA_spec hrel hw)]
   refine .inl (hcert.2 base σ a g hrel rfl (fun x _ y hy=>hy) (Mode.agree_of (.inr rfl)) _ _ fun u g' hrel'=>?_)
   subst hσ
   exact wpOps_chain_app hQ r _ _ _ hrest hrel'
  rw [if_neg (by rw [wantedA_spec hrel hw];simp)]
  subst hσ
  refine wpOps_chain_app hQ r _ _ g hrest ?_
  cases hdst:o.dst with
  | none=>exact hrel
  | some d=>exact hrel.skip d
theorem idx_map(ks:List Kind)(s:Nat):(((ks.zipIdx 0).map fun p=>(p.2,p.1)).map fun p=>(s+p.1,p.2)).map (·.1)=(List.range ks.length).map (s + ·):=by
 apply List.ext_getElem?
 intro i
 simp only [List.getElem?_map,List.getElem?_zipIdx]
 by_cases h:i<ks.length
 ·simp [h]
 rw [List.getElem?_eq_none (by omega),List.getElem?_eq_none (by simp;omega)]
 rfl
theorem range_mid{n k:Nat}(h:k<n):List.range n=(List.range k).map (0 + ·)++(k::(List.range (n - (k+1))).map (k+1 + ·)):=by
 apply List.ext_getElem?
 intro i
 by_cases h1:i<k
 ·rw [List.getElem?_append_left (by simpa using h1)]
  simp [h1,show i<n by omega]
 rw [List.getElem?_append_right (by simp;omega)]
 simp only [List.length_map,List.length_range]
 by_cases h2:i=k
 ·subst h2
  simp [h]
 rw [show i - k=(i - k - 1)+1 by omega,List.getElem?_cons_succ,List.getElem?_map]
 by_cases h3:i<n
 ·rw [List.getElem?_range h3,List.getElem?_range (by omega),Option.map_some]
  congr 1
  omega
 rw [List.getElem?_eq_none (by simp;omega),List.getElem?_eq_none (by simp;omega)]
 rfl
theorem awp_call_ex{P:Program}{kb:Nat}{tab:Tab}(md:Md)(hT:TabOK P tab){id:Nat}{l l1 l2:List Oper}{o:Oper}{Q:AEx→St→Prop}{σ:St}(k:Nat)(h1:l.take k=l1)(h2:l[k]?=some o)(h3:l.drop (k+1)=l2)(hg:∀o∈l,o.guard=none)
  (h:vcOps P tab md l1 0 [] σ [] fun τ _=>∃R,CertE P o τ R∧∀r O',R r O'→vcOps P tab md l2 0 [] ⟨τ.n,putO o.dst r τ.slots,O'⟩ [] fun ρ _=>At ρ (Q .norm)):AWP P kb (.region id l.toArray false) Q σ:=by
 have hlt:=lt_of_getElem? h2
 obtain⟨τ,ks1,c1,n1,R,hc,h⟩:=vcOps_sound (all:=l1.toArray) hT l1 0 [] σ [] (fun j=>by simp) (fun j t hj=>by simp [slotAt] at hj) h
 intro base a g hb hr
 have hgo:o.guard=none:=hg o (List.mem_of_getElem? h2)
 have l1n:l1.length=k:=by rw [←h1,List.length_take];omega
 have l2n:l2.length=l.length - (k+1):=by rw [←h3,List.length_drop]
 have d1:=chain_shift (all:=l.toArray) (k:=0) (fun i o' hi=>by
  have hi':l1[i]?=some o':=by simpa using hi
  have:=lt_of_getElem? hi'
  rw [←h1,List.getElem?_take] at hi'
  split at hi'
  ·simpa using hi'
  cases hi') (by simpa using hg) c1
 refine wp_region ?_
 rw [show l.toArray.size=l.length from List.size_toArray,range_mid hlt]
 have e1:=idx_map ks1 0
 rw [n1,l1n] at e1
 rw [←e1]
 refine wpOps_chain_app (ρ:=τ) (fun a g hr=>?_) _ _ _ _ d1 hr
 have ho:l.toArray[k]?=some o:=by simpa using h2
 simp only [wpOps,ho]
 have hw:wantedA l.toArray o τ=some true:=by simp [wantedA,hgo]
 rw [if_pos (wantedA_spec hr hw)]
 refine .inl (hc base τ a g hr rfl (fun x _ y hy=>hy) rfl _ _ fun r u g' hR hrel'=>?_)
 obtain⟨ρ,ks2,c2,n2,hQ⟩:=vcOps_sound (all:=l2.toArray) hT l2 0 [] _ [] (fun j=>by simp) (fun j t hj=>by simp [slotAt] at hj) (h r g'.objs hR)
 have d2:=chain_shift (all:=l.toArray) (k:=k+1) (fun i o' hi=>by
  have hi':l2[i]?=some o':=by simpa using hi
  rw [←h3,List.getElem?_drop] at hi'
  simpa using hi') (by simpa using hg) c2
 have e2:=idx_map ks2 (k+1)
 rw [n2,l2n] at e2
 rw [←e2]
 have:=wpOps_chain_app (rest:=[]) (Q:=Post base Q) (P:=P) (ops:=l.toArray) (base:=base) (ρ:=ρ) (fun a g hr=>⟨g,ρ,rfl,hr,hQ⟩) _ _ _ _ d2 hrel'
 rw [List.append_nil] at this
 exact this
def RetAll(tab:Tab)(rv:List ResultVar)(R:AVal→List AObj→Prop):AEx→St→Prop
 | .exit _,_=>False
 | _,σ=>on (retVals tab σ rv) fun rs=>R (mkRet rs) σ.objs
theorem ecall_all{P:Program}{tab:Tab}(hT:TabOK P tab){f:FuncId}{fn:Func}{c:Code}{O:List AObj}{args:List AVal}{R:AVal→List AObj→Prop}(hf:P.funcs[f]?=some fn)(hb:fn.body=some c)
  (hname : (fn.name == "runtime.NumGoroutine") = false) (hn : args.length ≤ fn.ntmps) (h : AWP P O.length c (RetAll tab fn.results.toList R) ⟨fn.ntmps, slotsOf 0 args, O⟩) : ECall P f O args R := by
 refine⟨⟨fn,hf,hname,by simp [hb]⟩,fun g vs hg ho ha=>?_⟩
 refine calls_of_wp hf hb ?_
 have hrel:Rel g ⟨fn.ntmps,slotsOf 0 args,O⟩ { tmps:=vs++Array.replicate (fn.ntmps - vs.size) undef,defers:=[] } g:={
  le:=Le.refl g
  good:=hg
  objs:=ho
  size:=by
   have:=ha.1
   simp only [Array.size_append,Array.size_replicate]
   omega
  defers:=rfl
  slot:=fun s x hx=>by
   obtain⟨_,h1⟩:=look_slotsOf args 0 s x hx
   simp only [Nat.sub_zero] at h1
   have hlt:=lt_of_getElem? h1
   have hlt':s<vs.size:=by rw [ha.1];exact hlt
   refine⟨vs[s],?_,ha.2 s x _ h1 (by simp [hlt'])⟩
   simp only
   rw [Array.getElem?_append,if_pos hlt']
   simp [hlt'] }
 refine wp_mono (h g _ g (by rw [ho];exact Nat.le_refl _) hrel) fun e a w hp=>?_
 have key:∀g' σ',g'.w=w→Rel g σ' a g'→(on (retVals tab σ' fn.results.toList) fun rs=>R (Av.mkRet rs) σ'.objs) →
   a.defers=[]∧∃v,(results fn a.tmps).run P w=.ok v w∧∃g' v' r,Ending.returned v=.returned v'∧g'.w=w∧Le g g'∧Good g'∧RV g' r v'∧R r g'.objs:=by
  intro g' σ' hw hr hq
  subst hw
  obtain⟨rs,hrs,h4⟩:=on_elim hq
  obtain⟨us,q1,q2⟩:=retVals_spec hT hr hrs
  have hO:g'.objs=σ'.objs:=hr.objs
  refine⟨hr.defers,(if h:us.toArray.size=1 then us.toArray[0] else .tuple us.toArray),?_,g',_,_,rfl,rfl,hr.le,hr.good,RV.mkRet q2,by rw [hO];exact h4⟩
  have hm:fn.results.mapM (retSem a)=Functor.map List.toArray (fn.results.toList.mapM (retSem a)):=Array.mapM_eq_mapM_toList
  have hres:results fn a.tmps=(do
   let vs ←fn.results.mapM (retSem a)
   pure (if h:vs.size=1 then vs[0] else .tuple vs)):=rfl
  rw [hres,hm]
  simp only [Sem.run_bind,Sem.run_map,q1,Result.andThen_ok,Sem.run_pure]
 cases e with
 | normal =>
  obtain⟨g',σ',h1,h2,h3⟩:=hp
  exact key g' σ' h1 h2 h3
 | ret =>
  obtain⟨g',σ',h1,h2,h3⟩:=hp
  exact key g' σ' h1 h2 h3
 | exit id =>
  obtain⟨g',σ',h1,h2,h3⟩:=hp
  exact h3.elim
 | goto l=>exact hp.elim
 | panic c=>exact hp.elim
 | outgrown=>exact hp.elim
theorem awp_nil2{P:Program}{kb:Nat}{c:Code}{Q:AEx→St→Prop}{n:Nat}{slots:List (Nat×AVal)}{O:List AObj}(s:Nat){sz:Nat}{xs:List AVal}{o:Own}(hs:look slots s=some (.lst sz xs o))
  (h1:xs=[]→AWP P kb c Q ⟨n,putS s (.v (.slice none 0 0)) slots,O⟩) (h2:AWP P kb c Q ⟨n,putS s (.lst sz xs .nn) slots,O⟩):AWP P kb c Q ⟨n,slots,O⟩:=by
 intro base a g hb hr
 obtain⟨u,e1,e2⟩:=hr.slot s _ hs
 have key:∀y,RV g y u→Rel base ⟨n,putS s y slots,O⟩ a g:=fun y hy =>
  {le:=hr.le,good:=hr.good,objs:=hr.objs,size:=hr.size,defers:=hr.defers,slot:=fun k x hx=>by
    simp only [St.get,look_putS] at hx
    split at hx
    ·rename_i e
     subst e
     simp only [Option.some.injEq] at hx
     subst hx
     exact⟨u,e1,hy⟩
    exact hr.slot k x hx }
 cases e2 with
 | nil ho hn=>exact h1 rfl base a g hb (key _ (.v trivial))
 | lst hsz hsc hcap hmax hs f hm hr ho=>exact h2 base a g hb (key _ (.lst hsz hsc hcap hmax hs f hm hr trivial))
theorem awp_retell2{P:Program}{kb:Nat}{c:Code}{Q:AEx→St→Prop}{n:Nat}{slots:List (Nat×AVal)}{O:List AObj}(k:Nat){cs:List AVal}(ds:List AVal)(hok:O[k]?=some (.cells cs))(hl:ds.length=cs.length)(hsc:∀d∈ds,d.scalar)
  (hs:∀(j:Nat) (c d:AVal),cs[j]?=some c→ds[j]?=some d→Sub O c d) (h:AWP P kb c Q ⟨n,slots,O.set k (.cells ds)⟩):AWP P kb c Q ⟨n,slots,O⟩ :=
 AWP.weaken h fun base a g hb hr=>by
  have hO:g.objs=O:=hr.objs
  have hok':g.objs[k]?=some (.cells cs):=by rw [hO];exact hok
  obtain⟨l,arr,t,e1,e2,e3,e4,e5,e6⟩:=hr.good.cells k cs hok'
  have ht:Turns g k (.cells cs) (some l) (.cells ds) g.w:={
   obj:=hok'
   os:=rfl
   tape:=rfl
   output:=rfl
   size:=Nat.le_refl _
   block:=fun _ _ _=>rfl
   cell:=fun b off x hx _=>hx
   place:=fun l1 h1 _=>by
    simp only [Option.some.injEq] at h1
    subst h1
    exact .inr ⟨l,e1,trivial,rfl,Nat.le_refl _⟩
   spare:=fun m h=>by cases h
   plain:=fun _=>⟨by simp [AObj.isSpare],e1⟩
   gone:=by simp }
  have hle:=Le.turn hr.good ht
  have hgood:=Good.turn hr.good ht ⟨l,arr,t,rfl,e2,e3,by omega,fun j d u hd hu=>by
   have hlt:=lt_of_getElem? hd
   have hc:cs[j]?=some cs[j]:=List.getElem?_eq_getElem (by omega)
   exact(hs j _ d hc hd g u hO (e5 j _ u hc hu)).mono hle,hsc,e6.2⟩ (fun l1 h1 _=>by
    simp only [Option.some.injEq] at h1
    subst h1
    exact lt_of_getElem?' e3)
  refine⟨g.turn k (some l) (.cells ds) g.w,rfl,{ le:=hr.le.trans hle,good:=hgood,objs:=by simp [G.turn,hO],size:=hr.size,defers:=hr.defers,slot:=fun s y hy=>?_ }⟩
  have hy':(St.mk n slots O).get s=some y:=hy
  obtain⟨u,h3,h4⟩:=hr.slot s y hy'
  exact⟨u,h3,h4.mono hle⟩
theorem Sub.nil_lst{O:List AObj}(sz:Nat):Sub O (.v (.slice none 0 0)) (.lst sz [] .ex):=fun g u _ h=>by
 obtain⟨e,_⟩:=h.v_inv
 rw [e]
 exact .nil (fun id q=>by cases q) (by simp)
end Go.Av
namespace Go.Proofs.Ytlclgfgmhnmnaaa
open Go.Av

end Go.Proofs.Ytlclgfgmhnmnaaa
namespace Go.Av
theorem cert_buildSlice_os{P:Program}{tab:Tab}(hT:TabOK P tab){o:Oper}{σ:St}{t e:TypeId}{len:Nat}{parts:Array (Nat×Operand)}{ti te:TInfo}{ps:List (Nat×AVal)}{xs:List AVal}
  (ho:o.op=.buildSlice t len parts) (hd:∀d,o.dst=some d→d<σ.n) (ht:tab t=some ti) (hdesc:ti.desc=.slice e) (he:tab e=some te) (hpos:0<te.size) (hev:σ.evParts parts.toList=some ps) (hfl:∀p∈ps,p.2.flat)
  (hseq:seqParts 0 ps=some xs) (hlen:xs.length=len) (hsz:∀x∈xs,x.cells.length=te.size) (hsm:len * te.size≤2 ^ 24) (hz:len≠0):Cert P o σ (.os σ.objs.length len te.size) (.write (σ.objs++[.cells (cellsAll xs)])) :=
 Cert.ofRun hd fun base σ' a g hrel h ho'=>by
  have hO:g.objs=σ.objs:=ho'.resolve_left (by simp)
  have hg:=hrel.good
  have hpr:=evParts_rel (a:=a) (g:=g) (fun x hx y hy=>h x (by simpa [ho,Op.operands] using hx) y hy) hev hfl
  have hu:=slice_desc hT ht hdesc
  obtain⟨⟨i,z,h1,h2,h3,h4,h5,h6,h7,h8,h9⟩,_⟩:=hT e te he
  have hps:=seqParts_eq hseq
  have hsc:∀x∈xs,∀c∈x.cells,c.scalar:=by
   have aux:∀{ps:List (Nat×AVal)} {vs:List (Nat×Value)},PRel g ps vs→∀p∈ps,∀c∈p.2.cells,c.scalar:=by
    intro ps vs hr
    induction hr with
    | nil=>intro p hp;cases hp
    | cons hx hf r ih =>
     intro p hp
     rcases List.mem_cons.1 hp with hp | hp
     ·subst hp
      exact hx.cells_scalar hf
     exact ih p hp
   intro x hx c hc
   have hmem:∃k,(k,x)∈ps:=by
    obtain⟨k,hk⟩:=List.getElem?_of_mem hx
    refine⟨0+k,?_⟩
    rw [hps,List.mem_map]
    refine⟨(x,0+k),?_,rfl⟩
    rw [List.mem_iff_getElem?]
    exact⟨k,by simp [hk]⟩
   obtain⟨k,hk⟩:=hmem
   exact aux hpr _ hk c hc
  have hne:¬len * i.size=0:=by
   rw [h2]
   intro e0
   rcases Nat.mul_eq_zero.1 e0 with q | q<;>omega
  obtain⟨zs,hzs⟩:∃zs:Array Value,zs=(Array.range (len * i.size)).map (z.cells[· % z.cells.size]!):=⟨_,rfl⟩
  have hzsz:zs.size=len * te.size:=by rw [hzs];simp [h2]
  obtain⟨zc,hzc,hzr,hzl⟩:∃zc:List AVal,(∀c∈zc,c.scalar)∧RVs g zc zs∧zc.length=len * te.size:=by
   refine⟨(List.range (len * te.size)).map fun j=>te.zero.getD (j % te.size) (.v (.bool false)),fun c hc=>?_,⟨by simp [hzsz],fun j c u hj hju=>?_⟩,by simp⟩
   ·rw [List.mem_map] at hc
    obtain⟨j,_,e⟩:=hc
    subst e
    have hlt:j % te.size<te.zero.length:=by rw [h6];exact Nat.mod_lt _ hpos
    rw [List.getD_eq_getElem?_getD,List.getElem?_eq_getElem hlt]
    exact h9 _ (List.getElem_mem hlt)
   have hj':=lt_of_getElem? hj
   simp only [List.length_map,List.length_range] at hj'
   rw [List.getElem?_map,List.getElem?_range hj'] at hj
   simp only [Option.map_some,Option.some.injEq] at hj
   subst hj
   have hlt:j % te.size<te.zero.length:=by rw [h6];exact Nat.mod_lt _ hpos
   have hlt':j % te.size<z.cells.size:=by rw [h5];exact hlt
   rw [hzs] at hju
   simp only [Array.getElem?_map,h2,Array.getElem?_range,if_pos hj',Option.map_some,Option.some.injEq] at hju
   subst hju
   rw [List.getD_eq_getElem?_getD,List.getElem?_eq_getElem hlt]
   refine h8 g (j % te.size) _ _ (List.getElem?_eq_getElem hlt) ?_
   rw [h5,h6]
   simp [hlt']
  have hfill:∃cs',fillA (fun i=>some (i * te.size,te.size)) zc ps=some cs':=by
   have aux:∀(ys:List AVal) (k:Nat) (cs:List AVal),(∀y∈ys,y.cells.length=te.size)→(k+ys.length) * te.size≤cs.length→∃cs',fillA (fun i=>some (i * te.size,te.size)) cs ((ys.zipIdx k).map fun p=>(p.2,p.1))=some cs':=by
    intro ys
    induction ys with
    | nil=>intro k cs _ _;exact⟨cs,rfl⟩
    | cons y ys ih =>
     intro k cs hy hl
     simp only [List.zipIdx_cons,List.map_cons,fillA]
     simp only [List.length_cons] at hl
     have hk1:(k+1) * te.size=k * te.size+te.size:=Nat.succ_mul k te.size
     have hmono:(k+1) * te.size≤(k+(ys.length+1)) * te.size:=Nat.mul_le_mul_right _ (by omega)
     have hc:y.cells.length=te.size∧k * te.size+te.size≤cs.length:=⟨hy y (by simp),by omega⟩
     rw [if_pos hc]
     refine ih (k+1) _ (fun z hz=>hy z (List.mem_cons_of_mem _ hz)) ?_
     rw [splice_length (by omega),show k+1+ys.length=k+(ys.length+1) by omega]
     exact hl
   rw [hps]
   exact aux xs 0 zc hsz (by rw [hzl,hlen,Nat.zero_add];exact Nat.le_refl _)
  obtain⟨cs',hcs'⟩:=hfill
  obtain⟨arr',q1,q2,_⟩:=fill_spec (fun i=>some (i * te.size,te.size)) hpr hzr hcs'
  obtain⟨e1,_⟩:=fillA_seq xs 0 zc cs' (by rw [←hps];exact hcs') (by rw [hzl,hlen,Nat.zero_add];exact Nat.le_refl _)
  have e2:cs'=cellsAll xs:=by
   rw [e1]
   simp only [Nat.zero_mul,List.take_zero,List.nil_append,Nat.zero_add]
   rw [List.drop_of_length_le (by rw [hzl,hlen];omega),List.append_nil]
  subst e2
  have hrun:(Instr.buildSlice t len (parts.map fun(i,x)=>(i,a.eval x))).run P g.w=.ok (.slice (some ⟨g.w.heap.size,0,none⟩) len len) (g.w.alloc (.cells arr' e)):=by
   have hbig:¬len * i.size > 2 ^ 24:=by rw [h2];omega
   rw [hzs,←h2] at q1
   have q1':Instr.fill (fun i_1=>some (i_1 * i.size,i.size)) ((Array.range (len * i.size)).map (z.cells[· % z.cells.size]!)) (parts.map fun(i,x)=>(i,a.eval x)).toList=some arr':=by
    rw [Array.toList_map]
    exact q1
   simp only [Instr.buildSlice,run_underlying hu,Go.sizeOf,typeInfo,Go.zeroValue,Sem.run_bind,run_program,Result.andThen_ok,h1,Sem.run_pure,Go.newRow]
   rw [if_neg hbig,if_neg hne]
   simp only [Sem.run_bind,Sem.run_pure,Result.andThen_ok,run_program,h1,h4,q1',run_newObj]
   rfl
  have hle:=Le.alloc hg (.cells arr' e) 0 (.cells (cellsAll xs))
  have hsize:arr'.size=len * te.size:=by
   rw [q2.1,←hlen]
   have:∀ys:List AVal,(∀y∈ys,y.cells.length=te.size)→(cellsAll ys).length=ys.length * te.size:=fun ys=>by
    induction ys with
    | nil=>intro _;simp [cellsAll]
    | cons y ys ih =>
     intro hy
     have h1:=ih fun z hz=>hy z (by simp [hz])
     have h2:=hy y (by simp)
     simp only [cellsAll,List.flatMap_cons,List.length_append,List.length_cons] at h1 ⊢
     rw [h1,h2,Nat.succ_mul]
     omega
   exact this xs hsz
  have hscA:∀c∈cellsAll xs,c.scalar:=fun c hc=>by
   simp only [cellsAll,List.mem_flatMap] at hc
   obtain⟨x,hx,hc⟩:=hc
   exact hsc x hx c hc
  refine⟨.slice (some ⟨g.w.heap.size,0,none⟩) len len,g.alloc (.cells arr' e) 0 (.cells (cellsAll xs)),.inl (by simp [execOp,ho,hrun,G.alloc]),hle,Good.alloc hg _ 0 _ (.inr rfl) ⟨_,e,rfl,by rw [q2.1];exact Nat.le_refl _,(q2.mono hle).2,hscA⟩,by simp [G.alloc,hO,Mode.post],?_⟩
  rw [←hO]
  exact .os (l:=⟨g.w.heap.size,0,arr'.size⟩) (env_new hg) objs_new (by simp [AObj.isSpare]) (Nat.le_refl _) (by rw [hsize];exact Nat.le_refl _) (by
   have:len≤len * te.size:=Nat.le_mul_of_pos_right _ hpos
   omega)
theorem FSub.os{O:List AObj}{id len sz:Nat}{cs xs:List AVal}(hid:O[id]?=some (.cells cs))(hsz:∀x∈xs,x.cells.length=sz)(hlen:xs.length=len)(hd:((cs.drop 0).take (len * sz)).map AVal.shareCell=cellsAll xs):FSub O id (.os id len sz) (.lst sz xs .sh):=fun g u l' hg hO he hle h=>by
 obtain⟨l,o1,cap',h1,h2,_,hlc,_,hmax,eu⟩:=h.os_inv
 subst eu
 rw [he] at h1
 simp only [Option.some.injEq] at h1
 subst h1
 have hid':g.objs[id]?=some (.cells cs):=by rw [hO];exact hid
 obtain⟨arr,t',hlo,hrow,hal,hcs,hcsc,_⟩:=hg.row hid' he
 subst hlen
 have key:∀(j:Nat) (c:AVal),(cellsAll xs)[j]?=some c→∃c',cs[0+j]?=some c'∧c'.shareCell=c:=fun j c hj=>by
  rw [←hd,List.getElem?_map,Option.map_eq_some_iff] at hj
  obtain⟨c',hj,e⟩:=hj
  have:=take_get hj
  rw [List.getElem?_drop] at this
  exact⟨c',this,e⟩
 refine .lst hsz (fun x hx c hc=>?_) hlc hmax (fun _=>rfl) (fun j=>arr.getD (0+j) undef) (fun j c hj=>?_) (fun j c hj=>?_) trivial
 ·have hmem:c∈cellsAll xs:=by
   simp only [cellsAll,List.mem_flatMap]
   exact⟨x,hx,hc⟩
  obtain⟨j,hj⟩:=List.getElem?_of_mem hmem
  obtain⟨c',hj',e⟩:=key j c hj
  subst e
  exact AVal.scalar_shareCell (hcsc c' (List.mem_of_getElem? hj'))
 ·obtain⟨c',hj',e⟩:=key j c hj
  have hlt:=lt_of_getElem? hj'
  refine⟨?_,freeze_own hg he hid' trivial _⟩
  show g.w.cell? _=_
  simp only
  rw [cell_of_row hrow]
  simp [Array.getD_eq_getD_getElem?,show j<arr.size by omega]
 obtain⟨c',hj',e⟩:=key j c hj
 have hlt:=lt_of_getElem? hj'
 subst e
 exact((hcs _ c' _ hj' (by simp [Array.getD_eq_getD_getElem?,show j<arr.size by omega])).mono hle).shareCell
theorem midOp_os{P:Program}{tab:Tab}{md:Md}(hT:TabOK P tab){o:Oper}{l2:List Oper}{Q:AEx→St→Prop}{σ:St}{t e:TypeId}{len d:Nat}{parts:Array (Nat×Operand)}{ti te:TInfo}{ps:List (Nat×AVal)}{xs:List AVal}
  (ho:o.op=.buildSlice t len parts) (hdst:o.dst=some d) (hd:d<σ.n) (ht:tab t=some ti) (hdesc:ti.desc=.slice e) (he:tab e=some te) (hpos:0<te.size) (hev:σ.evParts parts.toList=some ps) (hfl:∀p∈ps,p.2.flat)
  (hseq:seqParts 0 ps=some xs) (hlen:xs.length=len) (hsz:∀x∈xs,x.cells.length=te.size) (hsm:len * te.size≤2 ^ 24) (hz:len≠0)
  (h:vcOps P tab md l2 0 [] ⟨σ.n,putO o.dst (.os σ.objs.length len te.size) σ.slots,σ.objs++[.cells (cellsAll xs)]⟩ [] fun ρ _=>At ρ (Q .norm)):MidOp P tab md o l2 Q σ :=
 ⟨_,_,cert_buildSlice_os hT ho (fun d' e=>by rw [hdst] at e;cases e;exact hd) ht hdesc he hpos hev hfl hseq hlen hsz hsm hz,h⟩
end Go.Av
namespace Go.Proofs.Ytlclgfgmhnmnaaa
open Go.Av
def outV(oid:Nat)(l:List Int):AVal:=if l=[] then .lst 1 [] .ex else .os oid l.length 1
theorem cellsAll_v(x:Value):cellsAll [AVal.v x]=[AVal.v x]:=rfl
theorem cells_os'(id len sz:Nat):(AVal.os id len sz).cells=[AVal.os id len sz]:=rfl
theorem leave_nil{O:List AObj}(hup:∀o∈O,o.upto O.length)(h1:O[1]?=some (.cells [.lst 1 [] .ex]))(k:Int) :
  ECall Try.prog 84 O [aI k,.mp 1 0] (fun r O'=>r=.tup []∧O'=(O++[AObj.cells [aI k]]).set 1 (.cells [.os O.length 1 1])):=by
 have hl:=lt_of_getElem? h1
 have h1':∀X,(O++X)[1]?=some (.cells [.lst 1 [] .ex]):=fun X=>at_left h1
 have hkk:O.length≤O.length+1:=by omega
 refine ecall_of hT true (O.length+1) Try.func84 rfl (by kernel_rfl) (by simp [Try.ntmps84]) (by assumption) ?_
 show AWP Try.prog _ _ _ ⟨7,_,_⟩
 dsimp only [Tmp,TypeId,slotsOf]
 have htk:((O++[AObj.cells [AVal.v (.int .i64 k)]]).set 1 (.cells [.os O.length 1 1])).take (O.length+1)=(O++[AObj.cells [AVal.v (.int .i64 k)]]).set 1 (.cells [.os O.length 1 1]):=List.take_of_length_le (by simp)
 refine zs0 ?_
 simp -dsimp only [simprocAttr,↓vpre,zp,h1,h1',cellsAll_v,cells_os']
 refine⟨trivial,?_⟩
 refine at_intro ?_
 simp -dsimp only [simprocAttr,↓vpre,zp,zr,Try.results84,htk,List.length_set,List.length_append]
 exact⟨uptoO_set (uptoO_snoc (fun o ho=>AObj.upto_mono (by omega) (hup o ho)) ⟨trivial,trivial⟩) ⟨show _<_ by omega,trivial⟩,trivial⟩
theorem leave_os{O:List AObj}(hup:∀o∈O,o.upto O.length){oid:Nat}{l:List Int}(h1:O[1]?=some (.cells [.os oid l.length 1]))(h2:O[oid]?=some (.cells (l.map aI)))(ho:oid≠1)(hll:l.length≤1000)(k:Int) :
  ECall Try.prog 84 O [aI k,.mp 1 0] (fun r O'=>r=.tup []∧O'=(O.set oid .gone++[AObj.cells ((l++[k]).map aI)]).set 1 (.cells [.os O.length (l.length+1) 1])):=by
 have hl:=lt_of_getElem? h1
 have h1':∀X,(O.set oid .gone++X)[1]?=some (.cells [.os oid l.length 1]):=fun X=>at_left (at_set_ne h1 ho)
 have hkk:O.length≤O.length+1:=by omega
 refine ecall_of hT true (O.length+1) Try.func84 rfl (by kernel_rfl) (by simp [Try.ntmps84]) (by assumption) ?_
 show AWP Try.prog _ _ _ ⟨7,_,_⟩
 dsimp only [Tmp,TypeId,slotsOf]
 refine zs0 ?_
 simp -dsimp only [simprocAttr,↓vpre,zp,h1,h1',h2,cellsAll_v,cells_os']
 refine⟨by simp,by omega,by omega,?_⟩
 have hTT:(l.map aI).take (l.length * 1)=l.map aI:=List.take_of_length_le (by simp)
 have htk:((O.set oid .gone++[AObj.cells (l.map aI++[AVal.v (.int .i64 k)])]).set 1 (.cells [.os O.length (l.length+1) 1])).take (O.length+1)=(O.set oid .gone++[AObj.cells (l.map aI++[AVal.v (.int .i64 k)])]).set 1 (.cells [.os O.length (l.length+1) 1]):=List.take_of_length_le (by simp)
 refine⟨trivial,?_⟩
 refine at_intro ?_
 simp -dsimp only [simprocAttr,↓vpre,zp,zr,Try.results84,hTT,htk,List.length_set,List.length_append]
 refine⟨uptoO_set (uptoO_snoc (uptoO_set (fun o ho=>AObj.upto_mono (by omega) (hup o ho)) trivial) ?_) ⟨show _<_ by omega,trivial⟩,trivial,by simp⟩
 show uptoL _ _
 have:=aI_upto (O.length+1) (l++[k])
 simpa using this
end Go.Proofs.Ytlclgfgmhnmnaaa
namespace Go.Av

end Go.Av
namespace Go.Proofs.Ytlclgfgmhnmnaaa
open Go.Av
theorem eB_upto(n:Nat)(l:List Bool):uptoL n (l.map eB):=by
 rw [uptoL_iff]
 intro x hx
 obtain⟨b,_,rfl⟩:=List.mem_map.1 hx
 trivial
theorem falses_flat(n:Nat):(List.replicate n [AVal.v (.bool false)]).flatten=(List.replicate n false).map eB:=by
 induction n with
 | zero=>rfl
 | succ n ih=>rw [List.replicate_succ,List.flatten_cons,ih,List.replicate_succ];rfl
def putB(l:List Bool)(v:Int)(b:Bool):List Bool:=l.set v.toNat b
def putAll(l:List Bool)(vs:List Int):List Bool:=vs.foldl (fun s v=>putB s v true) l
def backI(i:Ins)(now:List Bool):List Bool:=putAll (putB now i.to false) i.args
def backM(l:List Ins)(now:List Bool):List Bool:=l.foldr backI now
structure Sr where
 seen:List Bool
 st:List (Int×Int)
 out:List Int
def toOf(f:Func)(b:Int):List Edge:=(blkOf f b).term.to
def nextOf(f:Func)(b e:Int):Int:=((toOf f b)[e.toNat]?.getD default).block
def srStep(f:Func)(S:Sr):Sr :=
 match S.st with
 | []=>S
 | (b,e)::r =>
  if e=(toOf f b).length then ⟨S.seen,r,S.out++[b]⟩
  else if S.seen[(nextOf f b e).toNat]?.getD false=true then ⟨S.seen,(b,e+1)::r,S.out⟩
  else ⟨S.seen.set (nextOf f b e).toNat true,(nextOf f b e,0)::(b,e+1)::r,S.out⟩
def srRun(f:Func):Nat→Sr→Sr
 | 0,S=>S
 | n+1,S=>if S.st.isEmpty then S else srRun f n (srStep f S)
def srStart(f:Func):Sr:=⟨(List.replicate f.blocks.length false).set 0 true,[(0,0)],[]⟩
def searchM(f:Func):List Int:=(srRun f 100000 (srStart f)).out
structure SrOK(f:Func)(S:Sr):Prop where
 len:S.seen.length=f.blocks.length
 blk:∀p∈S.st,0≤p.1∧p.1<f.blocks.length∧0≤p.2∧p.2≤(toOf f p.1).length
 few:S.out.length+S.st.length≤S.seen.countP id
 outs:∀b∈S.out,0≤b∧b<f.blocks.length
def stW:List (Int×Int)→Nat
 | []=>0
 | p::r=>(258 - p.2.toNat)+stW r
def srW(S:Sr):Nat:=300 * (S.seen.length - S.seen.countP id)+stW S.st
structure GrW(f:Func):Prop where
 ne:f.blocks≠[]
 few:f.blocks.length≤128
 to:∀b∈f.blocks,b.term.to.length≤257
 edges:∀b∈f.blocks,∀e∈b.term.to,1≤e.block∧e.block<f.blocks.length
theorem FnW.gr{f:Func}(h:FnW f):GrW f :=
 ⟨h.ne,h.few,fun b hb=>to_few (end_ok (h.blk b hb).fin),fun b hb e he=>by
  have:=((end_ok (h.blk b hb).fin).edges e he).1
  omega⟩
theorem GrW.next{f:Func}(h:GrW f){b e:Int}(hb:0≤b∧b<f.blocks.length)(h0:0≤e)(h1:e<(toOf f b).length):∃x,(toOf f b)[e.toNat]?=some x∧x.block=nextOf f b e∧1≤nextOf f b e∧nextOf f b e<f.blocks.length:=by
 have hlt:e.toNat<(toOf f b).length:=by omega
 have hx:(toOf f b)[e.toNat]?=some (toOf f b)[e.toNat]:=List.getElem?_eq_getElem hlt
 refine⟨_,hx,by rw [nextOf,hx];rfl,?_⟩
 have:=h.edges _ (blkOf_mem hb.1 hb.2) (toOf f b)[e.toNat] (List.getElem_mem hlt)
 rw [nextOf,hx]
 exact this
theorem countP_set_true{l:List Bool}{k:Nat}(hk:k<l.length)(h:l[k]?.getD false=false):(l.set k true).countP id=l.countP id+1:=by
 induction l generalizing k with
 | nil=>simp at hk
 | cons a r ih =>
  cases k with
  | zero =>
   simp only [List.getElem?_cons_zero,Option.getD_some] at h
   subst h
   simp
  | succ k =>
   simp only [List.getElem?_cons_succ] at h
   have:=ih (by simpa using hk) h
   simp only [List.set_cons_succ,List.countP_cons,this]
   omega
theorem srStep_ok{f:Func}(hg:GrW f){S:Sr}(h:SrOK f S)(hne:S.st≠[]):SrOK f (srStep f S)∧srW (srStep f S)<srW S:=by
 obtain⟨seen,st,out⟩:=S
 cases st with
 | nil=>exact absurd rfl hne
 | cons p r =>
  obtain⟨b,e⟩:=p
  obtain⟨h1,h2,h3,h4⟩:=h
  simp only at h1 h2 h3 h4
  have hp:=h2 (b,e) (by simp)
  simp only at hp
  have hto:(toOf f b).length≤257:=hg.to _ (blkOf_mem hp.1 hp.2.1)
  have hc:seen.countP id≤seen.length:=List.countP_le_length
  simp only [List.length_cons] at h3
  simp only [srStep]
  by_cases he:e=(toOf f b).length
  ·rw [if_pos he]
   refine⟨⟨h1,fun p hp=>h2 p (by simp [hp]),by simp only [List.length_append,List.length_cons,List.length_nil];omega,fun x hx=>?_⟩,?_⟩
   ·rcases List.mem_append.1 hx with q | q
    ·exact h4 x q
    simp only [List.mem_singleton] at q
    subst q
    exact⟨hp.1,hp.2.1⟩
   simp only [srW,stW]
   omega
  rw [if_neg he]
  obtain⟨x,hx,hxb,hn1,hn2⟩:=hg.next ⟨hp.1,hp.2.1⟩ hp.2.2.1 (by omega)
  by_cases hs:seen[(nextOf f b e).toNat]?.getD false=true
  ·rw [if_pos hs]
   refine⟨⟨h1,fun p hpm=>?_,by simpa using h3,h4⟩,?_⟩
   ·rcases List.mem_cons.1 hpm with q | q
    ·subst q
     exact⟨hp.1,hp.2.1,by simp only;omega,by simp only;omega⟩
    exact h2 p (by simp [q])
   simp only [srW,stW]
   omega
  rw [if_neg hs]
  have hs':seen[(nextOf f b e).toNat]?.getD false=false:=by simpa using hs
  have hk:(nextOf f b e).toNat<seen.length:=by omega
  have hcs:=countP_set_true hk hs'
  have hcl:(seen.set (nextOf f b e).toNat true).countP id≤(seen.set (nextOf f b e).toNat true).length:=List.countP_le_length
  rw [List.length_set] at hcl
  refine⟨⟨by simpa using h1,fun p hpm=>?_,by simp only [List.length_cons,hcs];omega,h4⟩,?_⟩
  ·rcases List.mem_cons.1 hpm with q | q
   ·subst q
    exact⟨by simp only;omega,hn2,by simp,by simp⟩
   rcases List.mem_cons.1 q with q | q
   ·subst q
    exact⟨hp.1,hp.2.1,by simp only;omega,by simp only;omega⟩
   exact h2 p (by simp [q])
  simp only [srW,stW,List.length_set,hcs]
  omega
theorem srRun_ok{f:Func}(hg:GrW f):∀(n:Nat) (S:Sr),SrOK f S→srW S<n→SrOK f (srRun f n S)∧(srRun f n S).st=[]
 | 0,S,_,h=>by omega
 | n+1,S,h,hw=>by
  simp only [srRun]
  cases hst:S.st with
  | nil=>simpa [hst] using h
  | cons p r =>
   simp only [List.isEmpty_cons,Bool.false_eq_true,if_false]
   have:=srStep_ok hg h (by rw [hst];simp)
   exact srRun_ok hg n _ this.1 (by omega)
theorem srStart_ok{f:Func}(hg:GrW f):SrOK f (srStart f)∧srW (srStart f)<100000:=by
 have hl:0<f.blocks.length:=by
  cases hb:f.blocks with
  | nil=>exact absurd hb hg.ne
  | cons=>simp
 have hfew:=hg.few
 have hc:((List.replicate f.blocks.length false).set 0 true).countP id=1:=by
  rw [countP_set_true (by simpa using hl) (by simp [hl])]
  simp [List.countP_replicate]
 refine⟨⟨by simp [srStart],fun p hp=>?_,by simp only [srStart,hc];simp,by simp [srStart]⟩,?_⟩
 ·simp only [srStart,List.mem_singleton] at hp
  subst hp
  exact⟨by simp,by simp;omega,by simp,by simp⟩
 simp only [srW,srStart,hc,List.length_set,List.length_replicate,stW]
 simp
 omega
def stkC:List (Int×Int)→List AVal
 | []=>[]
 | p::r=>stkC r++[aI p.1,aI p.2]
theorem stkC_len:∀l:List (Int×Int),(stkC l).length=l.length * 2
 | []=>rfl
 | p::r=>by
  simp only [stkC,List.length_append,stkC_len r,List.length_cons,List.length_nil]
  omega
theorem stkC_upto(n:Nat):∀l:List (Int×Int),uptoL n (stkC l)
 | []=>trivial
 | p::r=>by
  rw [uptoL_iff]
  intro x hx
  rcases List.mem_append.1 hx with q | q
  ·exact uptoL_iff.1 (stkC_upto n r) x q
  simp only [List.mem_cons,List.not_mem_nil,or_false] at q
  rcases q with rfl | rfl<;>trivial
structure So where
 S:Sr
 sid:Nat
 oid:Nat
 O:List AObj
def cellsAt(O:List AObj)(id:Nat):List AVal :=
 match O[id]? with
 | some (.cells cs)=>cs
 | _=>[]
def outPush(O:List AObj)(oid:Nat)(out:List Int)(b:Int):List AObj :=
 if out=[] then (O++[AObj.cells [aI b]]).set 1 (.cells [.os O.length 1 1])
 else (O.set oid .gone++[AObj.cells ((out++[b]).map aI)]).set 1 (.cells [.os O.length (out.length+1) 1])
def soStep(f:Func)(X:So):So :=
 match X.S.st with
 | []=>X
 | (b,e)::r =>
  if e=(toOf f b).length then ⟨srStep f X.S,X.sid,X.O.length,outPush X.O X.oid X.S.out b⟩
  else
   let cs:=(cellsAt X.O X.sid).set (r.length * 2+1) (aI (e+1))
   let O1:=X.O.set X.sid (.cells cs)
   if X.S.seen[(nextOf f b e).toNat]?.getD false=true then ⟨srStep f X.S,X.sid,X.oid,O1⟩
   else
    let O2:=O1.set 2 (.cells ((X.S.seen.set (nextOf f b e).toNat true).map eB))
    ⟨srStep f X.S,O2.length,X.oid,O2.set X.sid .gone++[AObj.cells (cs.take ((r.length+1) * 2)++[aI (nextOf f b e),aI 0])]⟩
def soRun(f:Func):Nat→So→So
 | 0,X=>X
 | n+1,X=>if X.S.st.isEmpty then X else soRun f n (soStep f X)
theorem soStep_S(f:Func)(X:So):(soStep f X).S=srStep f X.S:=by
 unfold soStep
 cases hst:X.S.st with
 | nil=>simp [srStep,hst]
 | cons p r =>
  simp only
  split
  ·rfl
  split<;>rfl
theorem soRun_S(f:Func):∀(n:Nat) (X:So),(soRun f n X).S=srRun f n X.S
 | 0,X=>rfl
 | n+1,X=>by
  simp only [soRun,srRun]
  split
  ·rfl
  rw [soRun_S f n,soStep_S]
structure SO(X:So):Prop where
 up:∀o∈X.O,o.upto X.O.length
 out:X.O[1]?=some (.cells [outV X.oid X.S.out])
 outs:X.S.out≠[]→X.O[X.oid]?=some (.cells (X.S.out.map aI))∧X.oid≠X.sid∧2<X.oid
 seen:X.O[2]?=some (.cells (X.S.seen.map eB))
 stk:∃junk,X.O[X.sid]?=some (.cells (stkC X.S.st++junk))
 sne:2<X.sid
theorem SO.step{f:Func}{X:So}(h:SO X):SO (soStep f X):=by
 obtain⟨⟨seen,st,out⟩,sid,oid,O⟩:=X
 obtain⟨h1,h2,h3,h4,⟨junk,h5⟩,h6⟩:=h
 simp only at h1 h2 h3 h4 h5 h6
 have l1:=lt_of_getElem? h2
 have l2:=lt_of_getElem? h4
 have l5:=lt_of_getElem? h5
 cases st with
 | nil=>exact⟨h1,h2,h3,h4,⟨junk,h5⟩,h6⟩
 | cons p r =>
  obtain⟨b,e⟩:=p
  simp only [soStep,srStep]
  by_cases he:e=(toOf f b).length
  ·rw [if_pos he,if_pos he]
   by_cases ho:out=[]
   ·subst ho
    simp only [outPush,if_true,List.nil_append]
    refine⟨?_,?_,fun _=>⟨?_,by simp only;omega,by simp only;omega⟩,?_,⟨[aI b,aI e]++junk,?_⟩,h6⟩
    ·have:=uptoO_set (n:=O.length+1) (k:=1) (x:=.cells [.os O.length 1 1]) (uptoO_snoc (fun o ho=>AObj.upto_mono (by omega) (h1 o ho)) (x:=.cells [aI b]) ⟨trivial,trivial⟩) ⟨show _<_ by omega,trivial⟩
     simpa using this
    ·simp only
     rw [List.getElem?_set_self (by simp;omega)]
     rfl
    ·simp only
     rw [List.getElem?_set_ne (by omega),List.getElem?_append_right (Nat.le_refl _)]
     simp
    ·simp only
     rw [List.getElem?_set_ne (by omega),List.getElem?_append_left l2]
     exact h4
    simp only
    rw [List.getElem?_set_ne (by omega),List.getElem?_append_left l5,h5]
    simp [stkC]
   obtain⟨k1,k2,k3⟩:=h3 ho
   have lo:=lt_of_getElem? k1
   simp only [outPush,if_neg ho]
   refine⟨?_,?_,fun _=>⟨?_,by simp only;omega,by simp only;omega⟩,?_,⟨[aI b,aI e]++junk,?_⟩,h6⟩
   ·have:=uptoO_set (n:=O.length+1) (k:=1) (x:=.cells [.os O.length (out.length+1) 1]) (uptoO_snoc (uptoO_set (k:=oid) (x:=.gone) (fun o ho=>AObj.upto_mono (by omega) (h1 o ho)) trivial) (x:=.cells ((out++[b]).map aI)) (aI_upto _ _)) ⟨show _<_ by omega,trivial⟩
    simpa using this
   ·simp only
    rw [List.getElem?_set_self (by simp;omega)]
    simp [outV]
   ·simp only
    rw [List.getElem?_set_ne (by omega),List.getElem?_append_right (by simp)]
    simp
   ·simp only
    rw [List.getElem?_set_ne (by omega),List.getElem?_append_left (by simpa using l2),List.getElem?_set_ne (by omega)]
    exact h4
   simp only
   rw [List.getElem?_set_ne (by omega),List.getElem?_append_left (by simpa using l5),List.getElem?_set_ne (by omega),h5]
   simp [stkC]
  rw [if_neg he,if_neg he]
  have hcs:(cellsAt O sid).set (r.length * 2+1) (aI (e+1))=stkC ((b,e+1)::r)++junk:=by
   simp only [cellsAt,h5,stkC]
   rw [List.append_assoc,List.set_append_right _ _ (by rw [stkC_len];omega),stkC_len,show r.length * 2+1 - r.length * 2=1 by omega]
   simp
  rw [hcs]
  have hju:uptoL O.length junk:=by
   rw [uptoL_iff]
   intro x hx
   have:=h1 _ (List.mem_of_getElem? h5)
   exact uptoL_iff.1 this x (List.mem_append.2 (.inr hx))
  have hcu:uptoL O.length (stkC ((b,e+1)::r)++junk):=by
   rw [uptoL_iff]
   intro x hx
   rcases List.mem_append.1 hx with q | q
   ·exact uptoL_iff.1 (stkC_upto _ _) x q
   exact uptoL_iff.1 hju x q
  by_cases hs:seen[(nextOf f b e).toNat]?.getD false=true
  ·rw [if_pos hs,if_pos hs]
   refine⟨?_,?_,fun ho=>?_,?_,⟨junk,?_⟩,h6⟩
   ·have:=uptoO_set (n:=O.length) (k:=sid) (x:=.cells (stkC ((b,e+1)::r)++junk)) h1 hcu
    simpa using this
   ·simp only
    rw [List.getElem?_set_ne (by omega)]
    exact h2
   ·obtain⟨k1,k2,k3⟩:=h3 ho
    refine⟨?_,k2,k3⟩
    simp only
    rw [List.getElem?_set_ne (fun q=>k2 q.symm)]
    exact k1
   ·simp only
    rw [List.getElem?_set_ne (by omega)]
    exact h4
   simp only
   rw [List.getElem?_set_self l5]
  rw [if_neg hs,if_neg hs]
  skip
  have htk:(stkC ((b,e+1)::r)++junk).take ((r.length+1) * 2)=stkC ((b,e+1)::r):=by
   rw [List.take_append_of_le_length (by rw [stkC_len];simp),List.take_of_length_le (by rw [stkC_len];simp)]
  rw [htk]
  refine⟨?_,?_,fun ho=>?_,?_,⟨[],?_⟩,?_⟩
  ·have a1:=uptoO_set (n:=O.length) (k:=sid) (x:=.cells (stkC ((b,e+1)::r)++junk)) h1 hcu
   have a2:=uptoO_set (k:=2) (x:=.cells ((seen.set (nextOf f b e).toNat true).map eB)) a1 (eB_upto _ _)
   have a3:=uptoO_set (k:=sid) (x:=.gone) a2 trivial
   have a4:=uptoO_snoc (n:=O.length+1) (x:=.cells (stkC ((b,e+1)::r)++[aI (nextOf f b e),aI 0])) (fun o ho=>AObj.upto_mono (by omega) (a3 o ho)) (by
    show uptoL _ _
    have:=stkC_upto (O.length+1) ((nextOf f b e,0)::(b,e+1)::r)
    exact this)
   simpa using a4
  ·simp only
   rw [List.getElem?_append_left (by simp;omega),List.getElem?_set_ne (by omega),List.getElem?_set_ne (by omega),List.getElem?_set_ne (by omega)]
   exact h2
  ·obtain⟨k1,k2,k3⟩:=h3 ho
   have lo:=lt_of_getElem? k1
   refine⟨?_,by simp;omega,k3⟩
   simp only
   rw [List.getElem?_append_left (by simpa using lo),List.getElem?_set_ne (fun q=>k2 q.symm),List.getElem?_set_ne (by omega),List.getElem?_set_ne (fun q=>k2 q.symm)]
   exact k1
  ·simp only
   rw [List.getElem?_append_left (by simpa using l2),List.getElem?_set_ne (by omega),List.getElem?_set_self (by simpa using l2)]
  ·simp only [List.length_set]
   rw [List.getElem?_append_right (by simp)]
   simp [stkC]
  simp
  omega
structure SmW(f:Func):Prop where
 few:f.blocks.length≤128
 params:∀b∈f.blocks,b.params.length≤4096
 ins:∀b∈f.blocks,b.ins.length≤1024
 iargs:∀b∈f.blocks,∀i∈b.ins,i.args.length≤16
 cases:∀b∈f.blocks,b.term.cases.length≤256
 to:∀b∈f.blocks,b.term.to.length≤257
 eargs:∀b∈f.blocks,∀e∈b.term.to,e.args.length≤4096
def edC(es:List Edge):List AVal:=es.flatMap fun e=>[aI e.block,eIs e.args]
def outX(id:Nat)(es:List Edge):AVal:=if es=[] then .lst 2 [] .ex else .os id es.length 2
def outE(id:Nat)(es:List Edge):AVal:=if es=[] then .lst 2 [] .sh else .os id es.length 2
def blC(id:Nat)(b:Block):List AVal:=[eIs b.params,eInss b.ins,aI b.term.kind,aI b.term.arg,aI b.term.n,eIs b.term.cases,outE id b.term.to]
def blsC(ids:List Nat)(bs:List Block):List AVal:=(List.zipWith blC ids bs).flatten
def outBl(id:Nat)(bs:List Block):AVal:=if bs=[] then .lst 7 [] .ex else .os id bs.length 7
theorem outX_share(id:Nat)(es:List Edge):(outX id es).shareCell=outE id es:=by
 unfold outX outE
 split<;>rfl
theorem outE_share(id:Nat)(es:List Edge):(outE id es).shareCell=outE id es:=by
 unfold outE
 split<;>rfl
theorem edC_snoc(es:List Edge)(e:Edge):edC (es++[e])=edC es++[aI e.block,eIs e.args]:=by simp [edC]
theorem edC_len(es:List Edge):(edC es).length=es.length * 2:=by
 induction es with
 | nil=>rfl
 | cons e r ih =>
  have:edC (e::r)=[aI e.block,eIs e.args]++edC r:=rfl
  rw [this,List.length_append,ih]
  simp only [List.length_cons,List.length_nil]
  omega
theorem edC_upto(n:Nat)(es:List Edge):uptoL n (edC es):=by
 rw [uptoL_iff]
 intro c hc
 simp only [edC,List.mem_flatMap] at hc
 obtain⟨e,_,hc⟩:=hc
 simp only [List.mem_cons,List.not_mem_nil,or_false] at hc
 rcases hc with rfl | rfl
 ·trivial
 exact⟨aI_upto _ _,trivial⟩
theorem edC_share(es:List Edge):(edC es).map AVal.shareCell=cellsAll (es.map Edge.enc):=by
 induction es with
 | nil=>rfl
 | cons e r ih =>
  have h1:edC (e::r)=[aI e.block,eIs e.args]++edC r:=rfl
  have h2:cellsAll ((e::r).map Edge.enc)=[aI e.block,eIs e.args]++cellsAll (r.map Edge.enc):=rfl
  rw [h1,h2,List.map_append,ih]
  rfl
theorem blsC_snoc{ids:List Nat}{bs:List Block}(h:ids.length=bs.length)(id:Nat)(b:Block):blsC (ids++[id]) (bs++[b])=blsC ids bs++blC id b:=by
 unfold blsC
 rw [List.zipWith_append h]
 simp
theorem blsC_len:∀{ids:List Nat} {bs:List Block},ids.length=bs.length→(blsC ids bs).length=bs.length * 7
 | [],[],_=>rfl
 | i::ids,b::bs,h=>by
  have e:blsC (i::ids) (b::bs)=blC i b++blsC ids bs:=rfl
  rw [e,List.length_append,blsC_len (by simpa using h)]
  simp only [blC,List.length_cons,List.length_nil]
  omega
 | [],b::bs,h=>by simp at h
 | i::ids,[],h=>by simp at h
theorem blC_upto{n id:Nat}(b:Block)(h:b.term.to≠[]→id<n):uptoL n (blC id b):=by
 refine⟨⟨aI_upto _ _,trivial⟩,⟨Ins.map_upto _ _,trivial⟩,trivial,trivial,trivial,⟨aI_upto _ _,trivial⟩,?_,trivial⟩
 unfold outE
 split
 ·exact⟨trivial,trivial⟩
 rename_i q
 exact h q
structure CpO(b0:Nat)(ids:List Nat)(bs:List Block)(O:List AObj):Prop where
 li:ids.length=bs.length
 own:∀(j id:Nat) (b:Block),ids[j]?=some id→bs[j]?=some b→b.term.to≠[]→b0≤id∧O[id]?=some (.cells (edC b.term.to))
 inj:∀(i j id:Nat) (b c:Block),ids[i]?=some id→ids[j]?=some id→bs[i]?=some b→bs[j]?=some c→b.term.to≠[]→c.term.to≠[]→i=j
structure CpS(f:Func)(done:List Block)(bid:Nat)(ids:List Nat)(O:List AObj):Prop where
 up:∀o∈O,o.upto O.length
 r0:O[0]?=some .gone
 r1:O[1]?=some (.cells [aI 0,.lst 7 [] .ex])
 r3:O[3]?=some (.cells [aI 0,.lst 7 [] .ex])
 out:O[4]?=some (.cells [aI f.name,outBl bid done])
 blk:done≠[]→5≤bid∧O[bid]?=some (.cells (blsC ids done))
 cp:CpO 5 ids done O
 ne:∀(j id:Nat) (b:Block),ids[j]?=some id→done[j]?=some b→b.term.to≠[]→id≠bid
theorem blsC_upto{n:Nat}:∀{ids:List Nat} {bs:List Block},(∀(j id:Nat) (b:Block),ids[j]?=some id→bs[j]?=some b→b.term.to≠[]→id<n)→uptoL n (blsC ids bs):=by
 intro ids bs h
 rw [uptoL_iff]
 intro c hc
 unfold blsC at hc
 obtain⟨l,hl,hc⟩:=List.mem_flatten.1 hc
 obtain⟨j,hj⟩:=List.mem_iff_getElem?.1 hl
 rw [List.getElem?_zipWith] at hj
 cases h1:ids[j]? with
 | none=>rw [h1] at hj;cases hj
 | some id =>
  cases h2:bs[j]? with
  | none=>rw [h1,h2] at hj;cases hj
  | some b =>
   rw [h1,h2] at hj
   simp only [Option.some.injEq] at hj
   subst hj
   exact uptoL_iff.1 (blC_upto b (h j id b h1 h2)) c hc
theorem CpS.snoc{f:Func}{done:List Block}{bid:Nat}{ids:List Nat}{O O1:List AObj}(h:CpS f done bid ids O){b:Block}{tid:Nat}(hlen:O.length≤O1.length)(hup:∀o∈O1,o.upto O1.length)
  (hsame:∀k,k<O.length→(done≠[]→k≠bid)→O1[k]?=O[k]?) (ht:b.term.to≠[]→O.length≤tid∧O1[tid]?=some (.cells (edC b.term.to))) {cs ar:List AVal} (hcs:cs=blsC (ids++[tid]) (done++[b])) (har:ar=[aI f.name,.os O1.length (done.length+1) 7]) :
  CpS f (done++[b]) O1.length (ids++[tid]) ((O1++[AObj.cells cs]).set 4 (.cells ar)):=by
 have h4:=lt_of_getElem? h.out
 have hli:=h.cp.li
 have hkeep:∀k,k<O.length→k≠4→(done≠[]→k≠bid)→((O1++[AObj.cells cs]).set 4 (.cells ar))[k]?=O[k]?:=fun k hk hk4 hkb=>by
  rw [List.getElem?_set_ne (Ne.symm hk4),List.getElem?_append_left (by omega),hsame k hk hkb]
 have hb5:done≠[]→5≤bid:=fun q=>(h.blk q).1
 have hids:∀(j id:Nat) (c:Block),(ids++[tid])[j]?=some id→(done++[b])[j]?=some c→(ids[j]?=some id∧done[j]?=some c)∨(j=ids.length∧id=tid∧c=b):=fun j id c h1 h2=>by
  by_cases hj:j<ids.length
  ·rw [List.getElem?_append_left hj] at h1
   rw [List.getElem?_append_left (by omega)] at h2
   exact .inl ⟨h1,h2⟩
  have hj1:=lt_of_getElem? h1
  rw [List.length_append,List.length_singleton] at hj1
  have hje:j=ids.length:=by omega
  subst hje
  rw [List.getElem?_append_right (Nat.le_refl _),Nat.sub_self] at h1
  rw [List.getElem?_append_right (by omega),←hli,Nat.sub_self] at h2
  simp only [List.getElem?_cons_zero,Option.some.injEq] at h1 h2
  exact .inr ⟨rfl,h1.symm,h2.symm⟩
 have hdn:∀(j id:Nat) (c:Block),ids[j]?=some id→done[j]?=some c→c.term.to≠[]→5≤id∧id<O.length∧O1[id]?=some (.cells (edC c.term.to)):=fun j id c h1 h2 h3=>by
  obtain⟨o1,o2⟩:=h.cp.own j id c h1 h2 h3
  have hl:=lt_of_getElem? o2
  refine⟨o1,hl,?_⟩
  rw [hsame id hl (fun _=>h.ne j id c h1 h2 h3)]
  exact o2
 have hown:∀(j id:Nat) (c:Block),(ids++[tid])[j]?=some id→(done++[b])[j]?=some c→c.term.to≠[]→5≤id∧id<O1.length∧O1[id]?=some (.cells (edC c.term.to)):=fun j id c h1 h2 h3=>by
  rcases hids j id c h1 h2 with⟨q1,q2⟩ | ⟨_,q2,q3⟩
  ·obtain⟨p1,p2,p3⟩:=hdn j id c q1 q2 h3
   exact⟨p1,by omega,p3⟩
  rw [q3] at h3 ⊢
  rw [q2]
  obtain⟨t1,t2⟩:=ht h3
  exact⟨by omega,lt_of_getElem? t2,t2⟩
 subst hcs
 subst har
 exact {
  up:=by
   intro o ho
   rw [List.length_set,List.length_append,List.length_singleton]
   rcases List.mem_or_eq_of_mem_set ho with q | q
   ·rcases List.mem_append.1 q with q | q
    ·exact AObj.upto_mono (by omega) (hup o q)
    rw [List.mem_singleton] at q
    subst q
    exact blsC_upto fun j id c h1 h2 h3=>by
     have:=(hown j id c h1 h2 h3).2.1
     omega
   subst q
   exact⟨trivial,show _<_ by omega,trivial⟩
  r0:=by rw [hkeep 0 (lt_of_getElem? h.r0) (by omega) (fun q=>by have:=hb5 q;omega)];exact h.r0
  r1:=by rw [hkeep 1 (lt_of_getElem? h.r1) (by omega) (fun q=>by have:=hb5 q;omega)];exact h.r1
  r3:=by rw [hkeep 3 (lt_of_getElem? h.r3) (by omega) (fun q=>by have:=hb5 q;omega)];exact h.r3
  out:=by
   rw [List.getElem?_set_self (by rw [List.length_append];omega)]
   have:outBl O1.length (done++[b])=.os O1.length (done.length+1) 7:=by
    unfold outBl
    rw [if_neg (by simp),List.length_append]
    rfl
   rw [this]
  blk:=fun _=>by
   refine⟨by omega,?_⟩
   rw [List.getElem?_set_ne (by omega),List.getElem?_append_right (Nat.le_refl _),Nat.sub_self]
   rfl
  cp:={
   li:=by rw [List.length_append,List.length_append,hli];rfl
   own:=fun j id c h1 h2 h3=>by
    obtain⟨p1,p2,p3⟩:=hown j id c h1 h2 h3
    refine⟨p1,?_⟩
    rw [List.getElem?_set_ne (by omega),List.getElem?_append_left p2]
    exact p3
   inj:=fun i j id c d h1 h2 h3 h4 h5 h6=>by
    rcases hids i id c h1 h3 with⟨p1,p2⟩ | ⟨p1,p2,p3⟩
    ·rcases hids j id d h2 h4 with⟨q1,q2⟩ | ⟨q1,q2,q3⟩
     ·exact h.cp.inj i j id c d p1 q1 p2 q2 h5 h6
     have:=(hdn i id c p1 p2 h5).2.1
     rw [q3] at h6
     have:=(ht h6).1
     omega
    rcases hids j id d h2 h4 with⟨q1,q2⟩ | ⟨q1,q2,q3⟩
    ·have:=(hdn j id d q1 q2 h6).2.1
     rw [p3] at h5
     have:=(ht h5).1
     omega
    omega }
  ne:=fun j id c h1 h2 h3=>by
   have:=(hown j id c h1 h2 h3).2.1
   omega }
structure CpI(O:List AObj)(cs:List AVal)(n:Nat)(O2:List AObj):Prop where
 len:O2.length=O.length+2
 up:∀o∈O2,o.upto O2.length
 keep:∀k,k<O.length→O2[k]?=O[k]?
 cell:O2[O.length]?=some (.cells cs)
 sp:O2[O.length+1]?=some (.spare n)
theorem CpI.start{O:List AObj}(hup:∀o∈O,o.upto O.length){cs:List AVal}(hcs:uptoL (O.length+2) cs):CpI O cs 0 (O++[.cells cs,.spare 0]) where
 len:=by simp
 up:=fun o ho=>by
  rw [List.length_append]
  rcases List.mem_append.1 ho with q | q
  ·exact AObj.upto_mono (by omega) (hup o q)
  simp only [List.mem_cons,List.not_mem_nil,or_false] at q
  rcases q with rfl | rfl
  ·exact hcs
  trivial
 keep:=fun k hk=>by rw [List.getElem?_append_left hk]
 cell:=by
  rw [List.getElem?_append_right (Nat.le_refl _),Nat.sub_self]
  rfl
 sp:=by
  rw [List.getElem?_append_right (by omega),show O.length+1 - O.length=1 by omega]
  rfl
theorem CpI.one{O:List AObj}{cs:List AVal}{n:Nat}{O2:List AObj}(h:CpI O cs n O2){cs':List AVal}(hcs:uptoL (O.length+2) cs'):CpI O cs' n (O2.set O.length (.cells cs')) where
 len:=by rw [List.length_set,h.len]
 up:=by
  rw [List.length_set]
  exact uptoO_set h.up (by rw [h.len];exact hcs)
 keep:=fun k hk=>by rw [List.getElem?_set_ne (by omega),h.keep k hk]
 cell:=by rw [List.getElem?_set_self (by rw [h.len];omega)]
 sp:=by rw [List.getElem?_set_ne (by omega),h.sp]
theorem CpI.room{O:List AObj}{cs:List AVal}{n:Nat}{O2:List AObj}(h:CpI O cs n O2)(m:Nat):CpI O cs m (O2.set (O.length+1) (.spare m)) where
 len:=by rw [List.length_set,h.len]
 up:=by
  rw [List.length_set]
  exact uptoO_set h.up trivial
 keep:=fun k hk=>by rw [List.getElem?_set_ne (by omega),h.keep k hk]
 cell:=by rw [List.getElem?_set_ne (by omega),h.cell]
 sp:=by rw [List.getElem?_set_self (by rw [h.len];omega)]
structure CpE(O:List AObj)(cs:AVal→List AVal)(tid:Nat)(es:List Edge)(O3:List AObj):Prop where
 len:O.length+2≤O3.length
 up:∀o∈O3,o.upto O3.length
 keep:∀k,k<O.length→O3[k]?=O[k]?
 cell:O3[O.length]?=some (.cells (cs (outX tid es)))
 own:es≠[]→O.length+2≤tid∧O3[tid]?=some (.cells (edC es))
theorem CpE.start{O:List AObj}{cs:AVal→List AVal}{n:Nat}{O2:List AObj}(h:CpI O (cs (.lst 2 [] .ex)) n O2):CpE O cs 0 [] O2 where
 len:=by rw [h.len];omega
 up:=h.up
 keep:=h.keep
 cell:=h.cell
 own:=fun q=>absurd rfl q
theorem CpE.push{O:List AObj}{cs:AVal→List AVal}{tid:Nat}{es:List Edge}{O3 O4:List AObj}(h:CpE O cs tid es O3)(e:Edge)(hcs:∀v n,v.upto n→O.length+2≤n→uptoL n (cs v))(hlen:O4.length=O3.length)(hup:∀o∈O4,o.upto O3.length)
  (hsame:∀k,(es≠[]→k≠tid)→O4[k]?=O3[k]?) {c a:List AVal} (hc:c=edC (es++[e])) (ha:a=cs (.os O3.length (es.length+1) 2)):CpE O cs O3.length (es++[e]) ((O4++[AObj.cells c]).set O.length (.cells a)):=by
 have hl:=h.len
 have hx:outX O3.length (es++[e])=.os O3.length (es.length+1) 2:=by
  unfold outX
  rw [if_neg (by simp),List.length_append]
  rfl
 subst hc
 subst ha
 exact {
  len:=by rw [List.length_set,List.length_append,hlen];omega
  up:=by
   intro o ho
   rw [List.length_set,List.length_append,List.length_singleton,hlen]
   rcases List.mem_or_eq_of_mem_set ho with q | q
   ·rcases List.mem_append.1 q with q | q
    ·exact AObj.upto_mono (by omega) (hup o q)
    rw [List.mem_singleton] at q
    subst q
    exact edC_upto _ _
   subst q
   exact hcs _ _ (show O3.length<O3.length+1 by omega) (by omega)
  keep:=fun k hk=>by
   rw [List.getElem?_set_ne (by omega),List.getElem?_append_left (by omega),hsame k (fun q=>by have:=(h.own q).1;omega),h.keep k hk]
  cell:=by
   rw [List.getElem?_set_self (by rw [List.length_append];omega),hx]
  own:=fun _=>by
   refine⟨by omega,?_⟩
   rw [List.getElem?_set_ne (by omega),List.getElem?_append_right (by omega),hlen,Nat.sub_self]
   rfl }
def CpR(f:Func)(r:AVal)(O:List AObj):Prop:=∃(ids:List Nat) (bid:Nat),r=.agg [aI f.name,.os bid f.blocks.length 7]∧(∀o∈O,o.upto O.length)∧O[0]?=some .gone∧O[1]?=some (.cells [aI 0,.lst 7 [] .ex]) ∧
 (5≤bid∧O[bid]?=some (.cells (blsC ids f.blocks)))∧CpO 5 ids f.blocks O∧∀(j id:Nat) (b:Block),ids[j]?=some id→f.blocks[j]?=some b→b.term.to≠[]→id≠bid
theorem copy_start(f:Func):CpS f [] 0 [] [.gone,.cells [aI 0,.lst 7 [] .ex],.gone,.cells [aI 0,.lst 7 [] .ex],.cells [aI f.name,.lst 7 [] .ex]] where
 up:=fun o ho=>by
  simp only [List.mem_cons,List.not_mem_nil,or_false] at ho
  rcases ho with rfl | rfl | rfl | rfl | rfl
  ·trivial
  ·exact⟨trivial,⟨trivial,trivial⟩,trivial⟩
  ·trivial
  ·exact⟨trivial,⟨trivial,trivial⟩,trivial⟩
  exact⟨trivial,⟨trivial,trivial⟩,trivial⟩
 r0:=rfl
 r1:=rfl
 r3:=rfl
 out:=rfl
 blk:=fun q=>absurd rfl q
 cp:=⟨rfl,fun j id b h=>by simp at h,fun i j id b c h=>by simp at h⟩
 ne:=fun j id b h=>by simp at h
theorem CpS.done{f:Func}{bid:Nat}{ids:List Nat}{O:List AObj}(h:CpS f f.blocks bid ids O)(hne:f.blocks≠[]){cs:List AVal}(hcs:uptoL O.length cs):CpR f (.agg [aI f.name,.os bid f.blocks.length 7]) (O.set 3 (.cells cs)):=by
 obtain⟨b1,b2⟩:=h.blk hne
 refine⟨ids,bid,rfl,?_,?_,?_,⟨b1,?_⟩,⟨h.cp.li,fun j id b q1 q2 q3=>?_,h.cp.inj⟩,h.ne⟩
 ·rw [List.length_set]
  exact uptoO_set h.up hcs
 ·rw [List.getElem?_set_ne (by omega)];exact h.r0
 ·rw [List.getElem?_set_ne (by omega)];exact h.r1
 ·rw [List.getElem?_set_ne (by omega)];exact b2
 obtain⟨o1,o2⟩:=h.cp.own j id b q1 q2 q3
 exact⟨o1,by rw [List.getElem?_set_ne (by omega)];exact o2⟩
def soStart(f:Func):So:=⟨srStart f,3,0,[.gone,.cells [.lst 1 [] .ex],.cells ((srStart f).seen.map eB),.cells [aI 0,aI 0]]⟩
theorem soStart_ok(f:Func):SO (soStart f) where
 up:=by
  intro o ho
  simp only [soStart,List.mem_cons,List.not_mem_nil,or_false] at ho
  rcases ho with rfl | rfl | rfl | rfl
  ·trivial
  ·exact⟨⟨trivial,trivial⟩,trivial⟩
  ·exact eB_upto _ _
  exact⟨trivial,trivial,trivial⟩
 out:=rfl
 outs:=fun h=>absurd rfl h
 seen:=rfl
 stk:=⟨[],rfl⟩
 sne:=by simp [soStart]
theorem search_spec(f:Func)(hg:GrW f) :
  ECall Try.prog 83 [.gone,.cells [.lst 1 [] .ex]] [f.enc,.fn (.func 84) [] [.mp 1 0]] (fun r O'=>r=.tup []∧O'=(soRun f 100000 (soStart f)).O):=by
 have hN128:=hg.few
 have hl:0<f.blocks.length:=by
  cases hb:f.blocks with
  | nil=>exact absurd hb hg.ne
  | cons=>simp
 obtain⟨N,hN⟩:∃N,N=f.blocks.length:=⟨_,rfl⟩
 obtain⟨F,hF⟩:∃F,F=soRun f 100000 (soStart f):=⟨_,rfl⟩
 rw [←hF]
 have hkk:[AObj.gone,AObj.cells [AVal.lst 1 [] .ex]].length≤F.O.length:=by
  have key:∀(n:Nat) (X:So),SO X→SO (soRun f n X):=fun n=>by
   induction n with
   | zero=>exact fun X h=>h
   | succ n ih =>
    intro X h
    simp only [soRun]
    split
    ·exact h
    exact ih _ h.step
  have:=lt_of_getElem? (key 100000 _ (soStart_ok f)).out
  rw [←hF] at this
  simp only [List.length_cons,List.length_nil]
  omega
 refine ecall_of hT true (F.O.length) Try.func83 rfl (by kernel_rfl) (by simp [Try.ntmps83]) (by assumption) ?_
 show AWP Try.prog _ _ _ ⟨81,_,_⟩
 dsimp only [Tmp,TypeId,slotsOf]
 refine zh1 (za0 ?_)
 refine awp_freeze1 2 2 (.ip none [aI f.name,eBlocks f.blocks]) rfl (by simp [AObj.isSpare]) trivial rfl ?_ ?_
 rotate_left
 simp -dsimp only [simprocAttr,↓vpre,zp]
 ·refine awp_trunc' 2 [(1,.fn (.func 84) [] [.mp 1 0]),(2,.ip none [aI f.name,eBlocks f.blocks])] (by simp) (by omega) [.gone,.cells [.lst 1 [] .ex]] ?_ ?_ ?_ ?_ ?_
  ·rfl
  ·simp [AObj.upto,uptoL,AVal.upto,aI_upto,Block.map_upto]
  ·simp [Says,St.get,putS,dropS,Go.Av.look,Sub.refl]
  ·simp [AObj.upto,uptoL,AVal.upto,aI_upto,Block.map_upto]
  refine zg1 ?_
  simp -dsimp only [simprocAttr,↓vpre,zp,falses_flat,←hN]
  refine⟨by omega,by omega,?_⟩
  refine za0 ?_
  refine zh1 ?_
  have hspl:splice ((List.replicate N false).map eB) 0 [.v (.bool true)]=(srStart f).seen.map eB:=by
   rw [splice_one _ (by simp;omega)]
   simp only [srStart,←hN,List.map_set]
   rfl
  refine⟨by omega,by simp;omega,?_⟩
  rw [hspl]
  refine za0 ?_
  refine awp_seq (awp_mid_op ⟨false,false⟩ hT 1 rfl rfl rfl (by simp) ?_)
  simp -dsimp only [simprocAttr,↓vpre,zp]
  refine midOp_os hT rfl rfl (by simp) rfl rfl rfl (by simp) rfl (by intro p hp;simp at hp;subst hp;trivial) rfl rfl (by intro x hx;simp at hx;subst hx;rfl) (by simp) (by simp) ?_
  simp -dsimp only [simprocAttr,↓vpre,zp]
  refine za0 ?_
  have hok0:=srStart_ok hg
  refine awp_block (awp_loop (ι:={X:So // SO X∧SrOK f X.S∧∃n,srW X.S<n∧F=soRun f n X}) (fun X=>⟨81,[(1,.fn (.func 84) [] [.mp 1 0]),(2,.ip none [aI f.name,eBlocks f.blocks]),(4,.ms 2 0 N N),(5,.os X.1.sid X.1.S.st.length 2)],X.1.O⟩) (fun X=>srW X.1.S) ⟨soStart f,soStart_ok f,hok0.1,100000,hok0.2,hF⟩ ?_ ?_)
  ·refine zq rfl ?_ ?_
   simp -dsimp only [simprocAttr,↓vpre,zp,zc]
   all_goals first | rfl | exact Sub.refl _
  rintro⟨X,hX,hS,n,hn,hnF⟩
  have hXs:=hX.step (f:=f)
  obtain⟨⟨seen,st,out⟩,sid,oid,O⟩:=X
  obtain⟨h1,h2,h3,h4,⟨junk,h5⟩,h6⟩:=id hX
  simp only at h1 h2 h3 h4 h5 h6 hn
  cases st with
  | nil =>
   refine zh2 (za0 ?_)
   refine zu0 rfl ?_
   refine awp_exit ?_
   simp -dsimp only [vend,ne_eq,Nat.reduceEqDiff,reduceCtorEq]
   have hFO:F.O=O:=by
    rw [hnF]
    cases n with
    | zero=>rfl
    | succ n=>rfl
   skip
   simp -dsimp only [simprocAttr,↓vpre,zp,zr,Try.results83]
   rw [hFO]
   exact⟨by simp,by rw [List.take_of_length_le (Nat.le_refl _)];exact h1,trivial,List.take_of_length_le (Nat.le_refl _)⟩
  | cons p r =>
   obtain⟨b,e⟩:=p
   have hstep:=srStep_ok hg hS (by simp)
   obtain⟨n,rfl⟩:∃n',n=n'+1:=⟨n - 1,by omega⟩
   have hnF':F=soRun f n (soStep f ⟨⟨seen,(b,e)::r,out⟩,sid,oid,O⟩):=hnF
   have hSs:=soStep_S f ⟨⟨seen,(b,e)::r,out⟩,sid,oid,O⟩
   have hp:=hS.blk (b,e) (by simp)
   simp only at hp
   have hstl:r.length≤128:=by
    have a1:=hS.few
    have a2:seen.countP id≤seen.length:=List.countP_le_length
    have a3:=hS.len
    simp only [List.length_cons] at a1 a3
    omega
   have hr2:((r.length+1:Nat):Int) - 1=(r.length:Nat):=by omega
   obtain⟨B,hB⟩:∃B,B=blkOf f b:=⟨_,rfl⟩
   have hBg:=blkOf_at hp.1 hp.2.1
   rw [←hB] at hBg
   have hto:toOf f b=B.term.to:=by rw [hB];rfl
   have hcb:(stkC ((b,e)::r)++junk)[r.length * 2]?=some (aI b):=by
    rw [stkC,List.append_assoc,List.getElem?_append_right (by rw [stkC_len];omega),stkC_len,Nat.sub_self]
    rfl
   have hce:(stkC ((b,e)::r)++junk)[r.length * 2+1]?=some (aI e):=by
    rw [stkC,List.append_assoc,List.getElem?_append_right (by rw [stkC_len];omega),stkC_len,show r.length * 2+1 - r.length * 2=1 by omega]
    rfl
   obtain⟨cs,hcs⟩:∃cs,cs=stkC ((b,e)::r)++junk:=⟨_,rfl⟩
   rw [←hcs] at hcb hce h5
   refine zh2 (za0 ?_)
   apply zk0 rfl<;>intro h
   ·refine zb0 ?_
    refine awp_block ?_
    refine zg1 ?_
    simp -dsimp only [simprocAttr,↓vpre,zp,hr2]
    repeat(refine⟨by omega,?_⟩)
    refine za0 ?_
    refine zg1 ?_
    simp -dsimp only [simprocAttr,↓vpre,zp,h5,hcb,hBg]
    repeat(refine⟨by omega,?_⟩)
    refine⟨ob (by kernel_rfl),?_⟩
    refine za0 ?_
    by_cases he:e=(toOf f b).length
    ·have hde:decide (e=(B.term.to.length:Int))=true:=decide_eq_true (by rw [he,hto])
     have hsr:srStep f ⟨seen,(b,e)::r,out⟩=⟨seen,r,out++[b]⟩:=by simp only [srStep];rw [if_pos he]
     have hso:soStep f ⟨⟨seen,(b,e)::r,out⟩,sid,oid,O⟩=⟨⟨seen,r,out++[b]⟩,sid,O.length,outPush O oid out b⟩:=by simp only [soStep];rw [if_pos he,hsr]
     rw [hso] at hXs hnF'
     simp only [hsr] at hstep
     have hlv:ECall Try.prog 84 O [aI b,.mp 1 0] (fun r' O'=>r'=.tup []∧O'=outPush O oid out b):=by
      unfold outPush
      by_cases ho:out=[]
      ·rw [if_pos ho]
       exact leave_nil h1 (by rw [h2,ho];rfl) b
      rw [if_neg ho]
      obtain⟨k1,k2,k3⟩:=h3 ho
      have a1:=hS.few
      have a2:seen.countP id≤seen.length:=List.countP_le_length
      have a3:=hS.len
      simp only at a1 a3
      exact leave_os h1 (by rw [h2,outV,if_neg ho]) k1 (by omega) (by omega) b
     refine zg2 ?_
     simp -dsimp only [simprocAttr,↓vpre,zp,h5,hce,hde]
     refine za0 ?_
     refine zw0 rfl ?_
     refine zg1 ?_
     simp -dsimp only [simprocAttr,↓vpre,zp,h5,hcb]
     refine .inr (.inl ⟨_,_,hlv,.inl (later_intro (zj ?_))⟩)
     refine za0 ?_
     refine zg1 ?_
     simp -dsimp only [simprocAttr,↓vpre,zp,hr2]
     repeat(refine⟨by omega,?_⟩)
     refine za0 ?_
     refine awp_exit ?_
     simp -dsimp only [vend,ne_eq,Nat.reduceEqDiff,reduceCtorEq]
     refine⟨⟨_,hXs,hstep.1,n,?_,hnF'⟩,?_,?_⟩
     ·have:=hstep.2
      simp only at this hn ⊢
      omega
     ·exact hstep.2
     refine zq rfl ?_ ?_
     simp -dsimp only [simprocAttr,↓vpre,zp,zc]
     all_goals rfl
    have hde:decide (e=(B.term.to.length:Int))=false:=decide_eq_false (by rw [←hto];exact he)
    obtain⟨x,hx,hxb,hn1,hn2⟩:=hg.next ⟨hp.1,hp.2.1⟩ hp.2.2.1 (by omega)
    rw [hto] at hx
    refine zg2 ?_
    simp -dsimp only [simprocAttr,↓vpre,zp,h5,hce,hde]
    refine za0 ?_
    refine zu0 rfl ?_
    refine zb0 ?_
    refine zg1 ?_
    simp -dsimp only [simprocAttr,↓vpre,zp,h5,hce,hx]
    repeat(refine⟨by omega,?_⟩)
    refine za0 ?_
    obtain⟨j,hj⟩:∃j:Nat,nextOf f b e=(j:Int):=⟨(nextOf f b e).toNat,by omega⟩
    have hjN:j<seen.length:=by
     have a3:=hS.len
     simp only at a3
     omega
    rw [hj] at hxb hn1 hn2
    obtain⟨sv,hsv⟩:∃sv,seen[j]?=some sv:=⟨seen[j],List.getElem?_eq_getElem hjN⟩
    have hsvm:(seen.map eB)[j]?=some (.v (.bool sv)):=by rw [List.getElem?_map,hsv];rfl
    have hcl:(r.length+1) * 2≤cs.length:=by
     rw [hcs,List.length_append,stkC_len]
     simp
    obtain⟨cs1,hcs1⟩:∃cs1,cs1=cs.set (r.length * 2+1) (aI (e+1)):=⟨_,rfl⟩
    have hspl:splice cs (r.length * 2+1) [.v (.int .i64 (e+1))]=cs1:=by rw [splice_one _ (by omega),hcs1]
    have hcl1:(r.length+1) * 2≤cs1.length:=by rw [hcs1,List.length_set];exact hcl
    obtain⟨O1,hO1⟩:∃O1,O1=O.set sid (.cells cs1):=⟨_,rfl⟩
    have g5:O1[sid]?=some (.cells cs1):=by rw [hO1];exact at_set h5
    have g4:O1[2]?=some (.cells (seen.map eB)):=by rw [hO1];exact at_set_ne h4 (by omega)
    have hcat:cellsAt O sid=cs:=by simp only [cellsAt,h5]
    have h257:(toOf f b).length≤257:=hg.to _ (blkOf_mem hp.1 hp.2.1)
    refine zg1 ?_
    simp -dsimp only [simprocAttr,↓vpre,zp,h5,hce]
    repeat(refine⟨by omega,?_⟩)
    refine za0 ?_
    rw [hspl,←hO1]
    cases sv with
    | true =>
     have hsr:srStep f ⟨seen,(b,e)::r,out⟩=⟨seen,(b,e+1)::r,out⟩:=by simp only [srStep];rw [if_neg he,hj,Int.toNat_natCast,hsv,if_pos (show(some true).getD false=true from rfl)]
     have hso:soStep f ⟨⟨seen,(b,e)::r,out⟩,sid,oid,O⟩=⟨⟨seen,(b,e+1)::r,out⟩,sid,oid,O1⟩:=by simp only [soStep];rw [if_neg he,hsr,hcat,hj,Int.toNat_natCast,hsv,if_pos (show(some true).getD false=true from rfl),←hcs1,hO1]
     rw [hso] at hXs hnF'
     simp only [hsr] at hstep
     refine zg1 ?_
     simp -dsimp only [simprocAttr,↓vpre,zp,g4,hxb,Int.toNat_natCast,hsvm,Nat.mul_one]
     repeat(refine⟨by omega,?_⟩)
     refine za0 ?_
     refine zu0 rfl ?_
     refine zn1 ?_
     refine⟨⟨_,hXs,hstep.1,n,?_,hnF'⟩,?_,?_⟩
     ·have:=hstep.2
      simp only at this hn ⊢
      omega
     ·exact hstep.2
     refine zq rfl ?_ ?_
     simp -dsimp only [simprocAttr,↓vpre,zp,zc]
     all_goals rfl
    | false =>
     have hsr:srStep f ⟨seen,(b,e)::r,out⟩=⟨seen.set j true,((j:Int),0)::(b,e+1)::r,out⟩:=by simp only [srStep];rw [if_neg he,hj,Int.toNat_natCast,hsv,if_neg (by simp)]
     obtain⟨O2,hO2⟩:∃O2,O2=O1.set 2 (.cells ((seen.set j true).map eB)):=⟨_,rfl⟩
     have k5:O2[sid]?=some (.cells cs1):=by rw [hO2];exact at_set_ne g5 (by omega)
     have hso:soStep f ⟨⟨seen,(b,e)::r,out⟩,sid,oid,O⟩=⟨⟨seen.set j true,((j:Int),0)::(b,e+1)::r,out⟩,O2.length,oid,O2.set sid .gone++[AObj.cells (cs1.take ((r.length+1) * 2)++[aI j,aI 0])]⟩:=by
      simp only [soStep]
      rw [if_neg he,hsr,hcat,hj,Int.toNat_natCast,hsv,if_neg (by simp),←hcs1,←hO1,←hO2]
     rw [hso] at hXs hnF'
     simp only [hsr] at hstep
     have hspl2:splice (seen.map eB) j [.v (.bool true)]=(seen.set j true).map eB:=by
      rw [splice_one _ (by simpa using hjN),List.map_set]
      rfl
     refine zg1 ?_
     simp -dsimp only [simprocAttr,↓vpre,zp,g4,hxb,Int.toNat_natCast,hsvm,Nat.mul_one]
     repeat(refine⟨by omega,?_⟩)
     refine za0 ?_
     refine zw0 rfl ?_
     refine zg1 ?_
     simp -dsimp only [simprocAttr,↓vpre,zp,g4,hxb,Int.toNat_natCast,Nat.mul_one]
     repeat(refine⟨by omega,?_⟩)
     refine za0 ?_
     rw [hspl2,←hO2]
     refine zg0 ?_
     simp -dsimp only [simprocAttr,↓vpre,zp,k5,hxb]
     repeat(refine⟨by omega,?_⟩)
     refine zl1 ?_
     refine⟨⟨_,hXs,hstep.1,n,?_,hnF'⟩,?_,?_⟩
     ·have:=hstep.2
      simp only at this hn ⊢
      omega
     ·exact hstep.2
     refine zq rfl ?_ ?_
     simp -dsimp only [simprocAttr,↓vpre,zp,zc]
     all_goals rfl
   exact af h (by omega)
 exact FSub.mp rfl rfl
def RevTo(l:List Int)(i:Nat)(m:List Int):Prop:=m.length=l.length∧∀k,k<l.length→m[k]?=if k<i∨l.length≤k+i then l[l.length - 1 - k]? else l[k]?
theorem revTo_zero(l:List Int):RevTo l 0 l:=⟨rfl,fun k hk=>by rw [if_neg (by omega)]⟩
theorem revTo_step{l m:List Int}{i:Nat}(h:RevTo l i m)(hi:2 * i+1<l.length){a b:Int}(ha:m[i]?=some a)(hb:m[l.length - 1 - i]?=some b):RevTo l (i+1) ((m.set i b).set (l.length - 1 - i) a):=by
 obtain⟨h1,h2⟩:=h
 refine⟨by simpa using h1,fun k hk=>?_⟩
 have e1:=h2 i (by omega)
 have e2:=h2 (l.length - 1 - i) (by omega)
 rw [if_neg (by omega)] at e1 e2
 rw [List.getElem?_set,List.getElem?_set]
 simp only [List.length_set]
 by_cases q1:l.length - 1 - i=k
 ·rw [if_pos q1,if_pos (by omega),if_pos (by omega),←ha,e1]
  congr 1
  omega
 rw [if_neg q1]
 by_cases q2:i=k
 ·rw [if_pos q2,if_pos (by omega),if_pos (by omega),←hb,e2,q2]
 rw [if_neg q2,h2 k hk]
 by_cases q3:k<i∨l.length≤k+i
 ·rw [if_pos q3,if_pos (by omega)]
 rw [if_neg q3,if_neg (by omega)]
theorem revTo_done{l m:List Int}{i:Nat}(h:RevTo l i m)(hi:l.length≤2 * i+1):m=l.reverse:=by
 obtain⟨h1,h2⟩:=h
 apply List.ext_getElem?
 intro k
 by_cases hk:k<l.length
 ·rw [h2 k hk,List.getElem?_reverse hk]
  split
  ·rfl
  congr 1
  omega
 rw [List.getElem?_eq_none (by omega),List.getElem?_eq_none (by simp;omega)]
theorem reverse_spec{O:List AObj}(hup:∀o∈O,o.upto O.length){oid:Nat}{l:List Int}(ho:O[oid]?=some (.cells (l.map aI)))(hll:l.length≤1000) :
  ECall Try.prog 85 O [.os oid l.length 1] (fun r O'=>r=.tup []∧O'=O.set oid (.cells (l.reverse.map aI))):=by
 have hol:=lt_of_getElem? ho
 have hsame:O.set oid (.cells (l.map aI))=O:=set_same ho
 have hgt:∀x,(O.set oid x)[oid]?=some x:=fun x=>List.getElem?_set_self hol
 have htk:∀m:List Int,(O.set oid (.cells (m.map aI))).take O.length=O.set oid (.cells (m.map aI)):=fun m=>take_set_len
 have hup2:∀m:List Int,∀o∈O.set oid (.cells (m.map aI)),o.upto O.length:=fun m=>uptoO_set hup (aI_upto _ _)
 refine zf true O.length Try.func85 Try.ntmps85 ?_
 dsimp only [Tmp,TypeId,slotsOf]
 refine zh1 ?_
 repeat(refine⟨by omega,?_⟩)
 refine za0 ?_
 refine awp_block (awp_loop (ι:={x:Nat×List Int // x.1≤l.length∧RevTo l x.1 x.2}) (fun x=>⟨28,[(0,.os oid l.length 1),(2,aI x.1.1),(3,aI ((l.length:Int) - 1 - x.1.1))],O.set oid (.cells (x.1.2.map aI))⟩) (fun x=>l.length - x.1.1) ⟨(0,l),by simp,revTo_zero l⟩ ?_ ?_)
 ·refine zq rfl ?_ ?_
  simp -dsimp only [simprocAttr,↓vpre,zp,zc]
  exact hsame.symm
 rintro⟨⟨i,m⟩,hi,hr⟩
 simp only at hi hr
 have hml:=hr.1
 refine zh2 (za0 ?_)
 apply zk0 rfl<;>intro h
 ·refine zb0 ?_
  have hlt:2 * i+1<l.length:=by
   have:=of_decide_eq_true h
   omega
  obtain⟨j,hj⟩:∃j,j=l.length - 1 - i:=⟨_,rfl⟩
  have hji:(l.length:Int) - 1 - i=(j:Nat):=by omega
  obtain⟨a,ha⟩:∃a,m[i]?=some a:=⟨m[i]'(by omega),List.getElem?_eq_getElem _⟩
  obtain⟨b,hb⟩:∃b,m[j]?=some b:=⟨m[j]'(by omega),List.getElem?_eq_getElem _⟩
  have hnext:=revTo_step hr hlt ha (by rw [←hj];exact hb)
  rw [←hj] at hnext
  have hma:(m.map aI)[i]?=some (aI a):=by rw [List.getElem?_map,ha];rfl
  have hmb:(m.map aI)[j]?=some (aI b):=by rw [List.getElem?_map,hb];rfl
  have hs1:splice (m.map aI) i [.v (.int .i64 b)]=(m.set i b).map aI:=by
   rw [splice_one _ (by simp;omega),List.map_set]
  have hs2:splice ((m.set i b).map aI) j [.v (.int .i64 a)]=((m.set i b).set j a).map aI:=by
   rw [splice_one _ (by simp;omega)]
   simp only [List.map_set]
  refine awp_seq (awp_block ?_)
  refine zg0 ?_
  simp -dsimp only [simprocAttr,↓vpre,zp,hgt,hji,hma,hmb,Int.toNat_natCast,Nat.mul_one,hs1,hs2,List.set_set,List.length_set]
  refine⟨by omega,by omega,by omega,by omega,by omega,by omega,?_⟩
  refine⟨orderB_ren [oid] O.length [.pure,.pure,.pure,.pure,.pure,.pure,.pure,.rd 0,.pure,.pure,.pure,.rd 0,.pure,.wr 1 [0],.pure,.wr 1 [0]] (by simp) (by simp;omega) rfl rfl (by kernel_rfl),at_intro ?_⟩
  simp -dsimp only [vend,ne_eq,Nat.reduceEqDiff,reduceCtorEq]
  refine zh0 ?_
  repeat(refine⟨by omega,?_⟩)
  refine zl0 ?_
  refine⟨⟨(i+1,_),by simp only;omega,hnext⟩,by simp;omega,?_⟩
  refine zq rfl ?_ ?_
  simp -dsimp only [simprocAttr,↓vpre,zp,zc]
  ·exact⟨Sub.int (by simp),Sub.int (by omega)⟩
  rfl
 refine awp_exit ?_
 simp -dsimp only [vend,ne_eq,Nat.reduceEqDiff,reduceCtorEq]
 have hge:l.length≤2 * i+1:=by
  have:=of_decide_eq_false h
  omega
 rw [revTo_done hr hge]
 skip
 simp -dsimp only [simprocAttr,↓vpre,zp,zr,Try.results85,htk,List.length_set]
 exact⟨hup2 _,trivial⟩
def orderM(f:Func):List Int:=(searchM f).reverse
def orderR(f:Func):AVal:=if checkFuncM f=0 then .tup [eIs (orderM f),aI 0] else .tup [eIs [],aI (checkFuncM f)]
theorem sr_out{f:Func}:∀(n:Nat) (S:Sr),(S.st=[]→S.out≠[])→(srRun f n S).st=[]→(srRun f n S).out≠[]
 | 0,S,h,he=>h he
 | n+1,S,h,he=>by
  simp only [srRun] at he ⊢
  cases hst:S.st with
  | nil =>
   rw [hst] at he
   simp only [List.isEmpty_nil,if_true] at he ⊢
   exact h hst
  | cons p r =>
   rw [hst] at he
   simp only [List.isEmpty_cons,Bool.false_eq_true,if_false] at he ⊢
   refine sr_out n _ (fun q=>?_) he
   obtain⟨b,e⟩:=p
   simp only [srStep,hst] at q ⊢
   split
   ·simp
   rename_i hne
   rw [if_neg hne] at q
   split at q<;>simp at q
theorem soRun_ok{f:Func}:∀(n:Nat) (X:So),SO X→SO (soRun f n X)
 | 0,X,h=>h
 | n+1,X,h=>by
  simp only [soRun]
  split
  ·exact h
  exact soRun_ok n _ h.step
theorem searchM_few{f:Func}(hg:GrW f):searchM f≠[]∧(searchM f).length≤128∧∀b∈searchM f,0≤b∧b<f.blocks.length:=by
 have h0:=srStart_ok hg
 have h1:=srRun_ok hg 100000 _ h0.1 h0.2
 have h2:=sr_out 100000 (srStart f) (fun q=>by simp [srStart] at q) h1.2
 have a1:=h1.1.few
 have a2:(srRun f 100000 (srStart f)).seen.countP id≤(srRun f 100000 (srStart f)).seen.length:=List.countP_le_length
 have a3:=h1.1.len
 have a4:=hg.few
 exact⟨h2,by unfold searchM;omega,h1.1.outs⟩
theorem aI_cellsAll(l:List Int):(l.map aI).map AVal.shareCell=cellsAll (l.map aI):=by
 induction l with
 | nil=>rfl
 | cons a r ih =>
  simp only [List.map_cons,cellsAll,List.flatMap_cons] at ih ⊢
  rw [ih]
  rfl
theorem order_spec(f:Func)(hfit:f.fit):PCall Try.prog 56 [f.enc] (orderR f):=by
 have hck:=checkFunc_spec f hfit
 unfold orderR
 by_cases hc:checkFuncM f=0
 ·rw [if_pos hc]
  rw [hc] at hck
  have hg:=(checkFunc_ok hfit hc).gr
  have hsr:=search_spec f hg
  obtain⟨f1,f2,_⟩:=searchM_few hg
  have hXS:(soRun f 100000 (soStart f)).S=srRun f 100000 (srStart f):=soRun_S f 100000 (soStart f)
  have hX:=soRun_ok (f:=f) 100000 _ (soStart_ok f)
  obtain⟨X,hXe⟩:∃X,X=soRun f 100000 (soStart f):=⟨_,rfl⟩
  rw [←hXe] at hsr hX hXS
  have hout:X.S.out=searchM f:=by rw [hXS];rfl
  unfold orderM
  obtain⟨l,hl⟩:∃l,l=searchM f:=⟨_,rfl⟩
  rw [←hl] at f1 f2 hout ⊢
  have h1:=hX.out
  rw [hout,outV,if_neg f1] at h1
  obtain⟨h2,h3,h4⟩:=hX.outs (by rw [hout];exact f1)
  rw [hout] at h2
  have hup:=hX.up
  obtain⟨S,sid,oid,O⟩:=X
  simp only at h1 h2 h3 h4 hup hsr
  have hrev:=reverse_spec hup h2 (by omega)
  have h1':(O.set oid (.cells (l.reverse.map aI)))[1]?=some (.cells [.os oid l.length 1]):=at_set_ne h1 (by omega)
  have h2':(O.set oid (.cells (l.reverse.map aI)))[oid]?=some (.cells (l.reverse.map aI)):=at_set h2
  refine zf true 0 Try.func56 Try.ntmps56 ?_
  dsimp only [Tmp,TypeId,slotsOf]
  refine zh1 (za0 ?_)
  refine awp_freeze1 1 0 (.ip none [aI f.name,eBlocks f.blocks]) rfl (by simp [AObj.isSpare]) trivial rfl ?_ ?_
  rotate_left
  simp -dsimp only [simprocAttr,↓vpre,zp]
  ·refine zh2 ?_
   refine zi hck ?_
   refine za0 ?_
   refine zh1 (za0 ?_)
   refine zu0 rfl ?_
   refine zb0 ?_
   refine zh1 (za0 ?_)
   refine zh1 ?_
   refine .inr (.inl ⟨_,_,hsr,.inl (later_intro (zj ?_))⟩)
   refine za0 ?_
   refine zg1 ?_
   simp -dsimp only [simprocAttr,↓vpre,zp,h1]
   refine .inr (.inl ⟨_,_,hrev,.inl (later_intro (zj ?_))⟩)
   refine za0 ?_
   refine zg1 ?_
   simp -dsimp only [simprocAttr,↓vpre,zp,h1']
   refine za0 ?_
   refine awp_freeze1 2 oid (o:=.cells (l.reverse.map aI)) (eIs l.reverse) h2' (by simp [AObj.isSpare]) trivial rfl (FSub.os (cs:=l.reverse.map aI) h2' ?_ ?_ ?_) ?_
   ·intro x hx
    obtain⟨c,_,rfl⟩:=List.mem_map.1 hx
    rfl
   ·simp
   ·rw [List.drop_zero,List.take_of_length_le (by simp)]
    exact aI_cellsAll _
   simp -dsimp only [simprocAttr,↓vpre,zp]
   refine awp_ret ?_
   simp -dsimp only [simprocAttr,↓vpre,zp,zr,Try.results56]
   exact⟨⟨aI_upto _ _,trivial⟩,trivial,trivial⟩
  exact FSub.mp rfl rfl
 rw [if_neg hc]
 obtain⟨e,he⟩:∃e,e=checkFuncM f:=⟨_,rfl⟩
 rw [←he] at hc hck ⊢
 have hde:decide (e=0)=false:=decide_eq_false hc
 refine zf true 0 Try.func56 Try.ntmps56 ?_
 dsimp only [Tmp,TypeId,slotsOf]
 refine zh1 (za0 ?_)
 refine awp_freeze1 1 0 (.ip none [aI f.name,eBlocks f.blocks]) rfl (by simp [AObj.isSpare]) trivial rfl ?_ ?_
 rotate_left
 simp -dsimp only [simprocAttr,↓vpre,zp]
 ·refine zh2 ?_
  refine zi hck ?_
  refine za0 ?_
  refine zg1 ?_
  simp -dsimp only [simprocAttr,↓vpre,zp,hde]
  refine za0 ?_
  refine zw0 rfl ?_
  refine zh1 (za0 ?_)
  refine awp_ret ?_
  simp -dsimp only [simprocAttr,↓vpre,zp,zr,Try.results56]
  simp [uptoL,AVal.upto]
 exact FSub.mp rfl rfl

def Edg(f:Func)(a b:Int):Prop:=∃x∈toOf f a,x.block=b
def StC(f:Func):List (Int×Int)→Prop
 | []=>True
 | [p]=>p.1=0
 | p::q::r=>Edg f q.1 p.1∧p.1≠0∧StC f (q::r)
theorem StC.tail{f:Func}{p:Int×Int}{r:List (Int×Int)}(h:StC f (p::r)):StC f r:=by
 cases r with
 | nil=>trivial
 | cons q r=>exact h.2.2
theorem StC.head{f:Func}{b e e':Int}{r:List (Int×Int)}(h:StC f ((b,e)::r)):StC f ((b,e')::r):=by
 cases r with
 | nil=>exact h
 | cons q r=>exact h
structure Jn(f:Func)(S:Sr):Prop where
 st:StC f S.st
 out:∀i v,S.out[i]?=some v→(v≠0∧∃a,Edg f a v∧((∃j,i<j∧S.out[j]?=some a)∨∃e,(a,e)∈S.st))∨(v=0∧S.st=[]∧i+1=S.out.length)
theorem Jn.step{f:Func}(hg:GrW f){S:Sr}(hS:SrOK f S)(h:Jn f S):Jn f (srStep f S):=by
 obtain⟨seen,st,out⟩:=S
 obtain⟨h1,h2⟩:=h
 simp only at h1 h2
 cases st with
 | nil=>exact⟨h1,h2⟩
 | cons p r =>
  obtain⟨b,e⟩:=p
  have hp:=hS.blk (b,e) (by simp)
  simp only at hp
  have hold:∀i v,out[i]?=some v→v≠0∧∃a,Edg f a v∧((∃j,i<j∧out[j]?=some a)∨∃e',(a,e')∈(b,e)::r):=fun i v hi=>by
   rcases h2 i v hi with q | ⟨_,q,_⟩
   ·exact q
   cases q
  simp only [srStep]
  split
  ·refine⟨h1.tail,fun i v hi=>?_⟩
   simp only at hi ⊢
   by_cases hlt:i<out.length
   ·rw [List.getElem?_append_left hlt] at hi
    obtain⟨q0,a,q1,q2⟩:=hold i v hi
    refine .inl ⟨q0,a,q1,?_⟩
    rcases q2 with⟨j,q2,q3⟩ | ⟨e',q2⟩
    ·exact .inl ⟨j,q2,by rw [List.getElem?_append_left (lt_of_getElem? q3)];exact q3⟩
    rcases List.mem_cons.1 q2 with q | q
    ·simp only [Prod.mk.injEq] at q
     exact .inl ⟨out.length,hlt,by rw [q.1];simp⟩
    exact .inr ⟨e',q⟩
   have hi':=lt_of_getElem? hi
   simp only [List.length_append,List.length_cons,List.length_nil] at hi'
   have:i=out.length:=by omega
   subst this
   simp at hi
   subst hi
   cases r with
   | nil=>exact .inr ⟨h1,rfl,by simp⟩
   | cons q r=>exact .inl ⟨h1.2.1,q.1,h1.1,.inr ⟨q.2,by simp⟩⟩
  rename_i he
  obtain⟨x,hx,hxb,hn1,hn2⟩:=hg.next ⟨hp.1,hp.2.1⟩ hp.2.2.1 (by omega)
  split
  ·refine⟨h1.head,fun i v hi=>.inl ?_⟩
   obtain⟨q0,a,q1,q2⟩:=hold i v hi
   refine⟨q0,a,q1,?_⟩
   rcases q2 with q2 | ⟨e',q2⟩
   ·exact .inl q2
   rcases List.mem_cons.1 q2 with q | q
   ·simp only [Prod.mk.injEq] at q
    exact .inr ⟨e+1,by simp [q.1]⟩
   exact .inr ⟨e',by simp [q]⟩
  refine⟨⟨⟨x,List.mem_of_getElem? hx,hxb⟩,by simp only;omega,h1.head⟩,fun i v hi=>.inl ?_⟩
  obtain⟨q0,a,q1,q2⟩:=hold i v hi
  refine⟨q0,a,q1,?_⟩
  rcases q2 with q2 | ⟨e',q2⟩
  ·exact .inl q2
  rcases List.mem_cons.1 q2 with q | q
  ·simp only [Prod.mk.injEq] at q
   exact .inr ⟨e+1,by simp [q.1]⟩
  exact .inr ⟨e',by simp [q]⟩
theorem Jn.run{f:Func}(hg:GrW f):∀(n:Nat) (S:Sr),SrOK f S→Jn f S→Jn f (srRun f n S)
 | 0,S,_,h=>h
 | n+1,S,hS,h=>by
  simp only [srRun]
  cases hst:S.st with
  | nil=>simpa [hst] using h
  | cons p r =>
   simp only [List.isEmpty_cons,Bool.false_eq_true,if_false]
   exact Jn.run hg n _ (srStep_ok hg hS (by rw [hst];simp)).1 (h.step hg hS)
theorem Jn.start(f:Func):Jn f (srStart f):=⟨rfl,fun i v h=>by simp [srStart] at h⟩
theorem order_law{f:Func}(hg:GrW f){n:Nat}{v:Int}(h:(orderM f)[n]?=some v):(n=0∧v=0)∨∃a,Edg f a v∧a∈(orderM f).take n:=by
 have h0:=srStart_ok hg
 have h1:=srRun_ok hg 100000 _ h0.1 h0.2
 have hJ:=Jn.run hg 100000 _ h0.1 (Jn.start f)
 have hn:=lt_of_getElem? h
 unfold orderM searchM at *
 generalize srRun f 100000 (srStart f)=S at *
 have hl:n<S.out.length:=by simpa using hn
 rw [List.getElem?_reverse hl] at h
 rcases hJ.out _ _ h with⟨_,a,q1,q2⟩ | ⟨q1,_,q3⟩
 ·rcases q2 with⟨j,q3,q4⟩ | ⟨e,q3⟩
  ·refine .inr ⟨a,q1,?_⟩
   have hj:=lt_of_getElem? q4
   have:(S.out.reverse)[S.out.length - 1 - j]?=some a:=by
    rw [List.getElem?_reverse (by omega),←q4]
    congr 1
    omega
   exact List.mem_of_getElem? (i:=S.out.length - 1 - j) (by rw [List.getElem?_take,if_pos (by omega)];exact this)
  rw [h1.2] at q3
  cases q3
 exact .inl ⟨by omega,q1⟩
structure Nd(f:Func)(S:Sr):Prop where
 nd:(S.out++S.st.map (·.1)).Nodup
 seen:∀v,v∈S.out++S.st.map (·.1)↔(0≤v∧S.seen[v.toNat]?.getD false=true)
 outs:∀v∈S.out,∀x∈toOf f v,S.seen[x.block.toNat]?.getD false=true
 st:∀p∈S.st,∀(j:Nat) x,(j:Int)<p.2→(toOf f p.1)[j]?=some x→S.seen[x.block.toNat]?.getD false=true
theorem getD_set_mono{l:List Bool}{k j:Nat}(h:l[j]?.getD false=true):(l.set k true)[j]?.getD false=true:=by
 have hj:j<l.length:=by
  refine Classical.byContradiction fun q=>?_
  rw [List.getElem?_eq_none (by omega)] at h
  cases h
 by_cases e:k=j
 ·subst e
  rw [List.getElem?_set_self hj]
  rfl
 rw [List.getElem?_set_ne e]
 exact h
theorem Nd.step{f:Func}(hg:GrW f){S:Sr}(hS:SrOK f S)(h:Nd f S):Nd f (srStep f S):=by
 obtain⟨seen,st,out⟩:=S
 obtain⟨h1,h2,h3,h4⟩:=h
 simp only at h1 h2 h3 h4
 cases st with
 | nil=>exact⟨h1,h2,h3,h4⟩
 | cons p r =>
  obtain⟨b,e⟩:=p
  have hp:=hS.blk (b,e) (by simp)
  simp only at hp
  have hlen:=hS.len
  simp only at hlen
  simp only [srStep]
  split
  ·rename_i he
   refine⟨?_,fun v=>?_,fun v hv x hx=>?_,fun q hq=>h4 q (by simp [hq])⟩
   ·simp only [List.append_assoc,List.cons_append,List.nil_append]
    simpa using h1
   ·rw [←h2 v]
    simp only [List.append_assoc,List.cons_append,List.nil_append,List.map_cons]
   simp only at hv ⊢
   rcases List.mem_append.1 hv with q | q
   ·exact h3 v q x hx
   rw [List.mem_singleton.1 q] at hx
   obtain⟨j,hj⟩:=List.getElem?_of_mem hx
   have:=lt_of_getElem? hj
   exact h4 (b,e) (by simp) j x (by simp only;omega) hj
  rename_i he
  obtain⟨x,hx,hxb,hn1,hn2⟩:=hg.next ⟨hp.1,hp.2.1⟩ hp.2.2.1 (by omega)
  split
  ·rename_i hs
   refine⟨by simpa using h1,fun v=>by simpa using h2 v,h3,fun q hq j y hj hy=>?_⟩
   simp only at hq ⊢
   rcases List.mem_cons.1 hq with q' | q'
   ·subst q'
    simp only at hj hy
    by_cases hje:(j:Int)<e
    ·exact h4 (b,e) (by simp) j y hje hy
    have:j=e.toNat:=by omega
    subst this
    rw [hx] at hy
    simp only [Option.some.injEq] at hy
    subst hy
    rw [hxb]
    exact hs
   exact h4 q (by simp [q']) j y hj hy
  rename_i hs
  have hnw:nextOf f b e ∉ out++(b::r.map (·.1)):=fun hm=>by
   have:=(h2 (nextOf f b e)).1 (by simpa using hm)
   exact hs this.2
  have hk:(nextOf f b e).toNat<seen.length:=by omega
  refine⟨?_,fun v=>?_,fun v hv y hy=>getD_set_mono (h3 v hv y hy),fun q hq j y hj hy=>?_⟩
  ·simp only [List.map_cons] at h1 ⊢
   rw [List.nodup_append] at h1 ⊢
   simp only [List.mem_append,not_or] at hnw
   refine⟨h1.1,List.nodup_cons.2 ⟨hnw.2,h1.2.1⟩,fun a ha c hc=>?_⟩
   rcases List.mem_cons.1 hc with q | q
   ·subst q
    exact fun e=>hnw.1 (e ▸ ha)
   exact h1.2.2 a ha c q
  ·simp only [List.map_cons]
   have h2':=h2 v
   simp only [List.map_cons] at h2'
   by_cases e1:v=nextOf f b e
   ·subst e1
    rw [List.getElem?_set_self hk]
    simp
    omega
   have:v∈out++nextOf f b e::b::r.map (·.1)↔v∈out++(b::r.map (·.1)):=by
    simp only [List.mem_append,List.mem_cons,e1,false_or]
   rw [this,h2']
   by_cases h0:0≤v
   ·rw [List.getElem?_set_ne (by omega)]
   simp [h0]
  simp only at hq ⊢
  rcases List.mem_cons.1 hq with q' | q'
  ·subst q'
   simp only at hj
   omega
  rcases List.mem_cons.1 q' with q' | q'
  ·subst q'
   simp only at hj hy
   by_cases hje:(j:Int)<e
   ·exact getD_set_mono (h4 (b,e) (by simp) j y hje hy)
   have:j=e.toNat:=by omega
   subst this
   rw [hx] at hy
   simp only [Option.some.injEq] at hy
   subst hy
   rw [hxb,List.getElem?_set_self hk]
   rfl
  exact getD_set_mono (h4 q (by simp [q']) j y hj hy)
theorem Nd.run{f:Func}(hg:GrW f):∀(n:Nat) (S:Sr),SrOK f S→Nd f S→Nd f (srRun f n S)
 | 0,S,_,h=>h
 | n+1,S,hS,h=>by
  simp only [srRun]
  cases hst:S.st with
  | nil=>simpa [hst] using h
  | cons p r =>
   simp only [List.isEmpty_cons,Bool.false_eq_true,if_false]
   exact Nd.run hg n _ (srStep_ok hg hS (by rw [hst];simp)).1 (h.step hg hS)
theorem Nd.start{f:Func}(hg:GrW f):Nd f (srStart f):=by
 have hl:=List.length_pos_iff.2 hg.ne
 refine⟨by simp [srStart],fun v=>?_,fun v hv=>by simp [srStart] at hv,fun p hp j x hj=>?_⟩
 ·simp only [srStart,List.nil_append,List.map_cons,List.map_nil,List.mem_singleton]
  constructor
  ·intro e
   subst e
   refine⟨by omega,?_⟩
   rw [Int.toNat_zero,List.getElem?_set_self (by simpa using hl)]
   rfl
  rintro⟨h0,h⟩
  refine Classical.byContradiction fun q=>?_
  rw [List.getElem?_set_ne (by omega),List.getElem?_replicate] at h
  split at h<;>simp at h
 simp only [srStart,List.mem_singleton] at hp
 subst hp
 simp only at hj
 omega
theorem idxI_mem{l:List Int}{n:Int}:(0≤idxI l n↔n∈l)∧(0≤idxI l n→l[(idxI l n).toNat]?=some n):=by
 unfold idxI
 have hm:l.findIdx (· == n)<l.length↔n∈l:=by
  rw [List.findIdx_lt_length]
  simp
 by_cases h:l.findIdx (· == n)<l.length
 ·rw [if_pos h]
  refine⟨⟨fun _=>hm.1 h,fun _=>by omega⟩,fun _=>?_⟩
  have:=List.findIdx_getElem (w:=h)
  simp only [beq_iff_eq] at this
  rw [Int.toNat_natCast,List.getElem?_eq_getElem h,this]
 rw [if_neg h]
 exact⟨⟨fun q=>absurd q (by omega),fun q=>absurd (hm.2 q) h⟩,fun q=>absurd q (by omega)⟩
def plF(f:Func)(k:Int):Int:=idxI (orderM f) k
structure OrdW(f:Func):Prop where
 inj:∀a b,0≤plF f a→plF f a=plF f b→a=b
 zero:plF f 0=0
 at_:∀(i:Nat) v,(orderM f)[i]?=some v→plF f v=i
 get:∀v,0≤plF f v→(orderM f)[(plF f v).toNat]?=some v
 low:∀v,-1≤plF f v∧plF f v<(orderM f).length
 fwd:∀v,1≤plF f v→∃a,Edg f a v∧0≤plF f a∧plF f a<plF f v
 next:∀a b,0≤plF f a→Edg f a b→0≤plF f b
 range:∀v,0≤plF f v→0≤v∧v<f.blocks.length
 few:(orderM f).length≤128
 pos:0<(orderM f).length
theorem ord_w{f:Func}(hg:GrW f):OrdW f:=by
 obtain⟨g1,g2,g3⟩:=searchM_few hg
 have h0:=srStart_ok hg
 have h1:=srRun_ok hg 100000 _ h0.1 h0.2
 have hN:=Nd.run hg 100000 _ h0.1 (Nd.start hg)
 have hnd:(orderM f).Nodup:=by
  have:=hN.nd
  rw [h1.2] at this
  simp only [List.map_nil,List.append_nil] at this
  unfold orderM List.Nodup
  rw [List.pairwise_reverse]
  exact List.Pairwise.imp (fun h=>Ne.symm h) this
 have hmem:∀v,v∈orderM f↔v∈searchM f:=fun v=>by simp [orderM]
 have hne:0<(orderM f).length:=by
  have:orderM f≠[]:=by simpa [orderM] using g1
  exact List.length_pos_iff.2 this
 have hget:∀v,0≤plF f v→(orderM f)[(plF f v).toNat]?=some v:=fun v hv=>idxI_mem.2 hv
 have hat:∀(i:Nat) v,(orderM f)[i]?=some v→plF f v=i:=fun i v hi=>by
  have hm:v∈orderM f:=List.mem_of_getElem? hi
  have h2:=hget v (idxI_mem.1.2 hm)
  have h3:0≤plF f v:=idxI_mem.1.2 hm
  have:=(List.getElem?_inj (lt_of_getElem? h2) hnd).1 (h2.trans hi.symm)
  omega
 have hlow:∀v,-1≤plF f v∧plF f v<(orderM f).length:=fun v=>by
  unfold plF idxI
  split
  ·omega
  omega
 refine⟨fun a b ha e=>?_,?_,hat,hget,hlow,fun v hv=>?_,fun a b ha e=>?_,fun v hv=>?_,by simpa [orderM] using g2,hne⟩
 ·have h2:=hget a ha
  have h3:=hget b (by omega)
  rw [e,h3] at h2
  simpa using h2.symm
 ·have:(orderM f)[0]?=some (orderM f)[0]:=List.getElem?_eq_getElem hne
  rcases order_law hg this with⟨_,q⟩ | ⟨a,_,q⟩
  ·have:=hat 0 _ this
   rw [q] at this
   simpa using this
  simp at q
 ·have h2:=hget v (by omega)
  rcases order_law hg h2 with⟨q,_⟩ | ⟨a,q1,q2⟩
  ·omega
  obtain⟨j,hj⟩:=List.getElem?_of_mem q2
  rw [List.getElem?_take] at hj
  split at hj
  ·have:=hat j a hj
   exact⟨a,q1,by omega,by omega⟩
  cases hj
 ·have hm:a∈searchM f:=(hmem a).1 (idxI_mem.1.1 ha)
  obtain⟨x,hx,hxb⟩:=e
  have:=hN.outs a hm x hx
  rw [hxb] at this
  have hb:0≤b:=by
   have hra:=g3 a hm
   have:=hg.edges _ (blkOf_mem hra.1 hra.2) x hx
   omega
  have h3:=(hN.seen b).2 ⟨hb,this⟩
  rw [h1.2] at h3
  simp only [List.map_nil,List.append_nil] at h3
  exact idxI_mem.1.2 ((hmem b).2 h3)
 exact g3 v ((hmem v).1 (idxI_mem.1.1 hv))
def atI(l:List Int)(k:Int):Int:=l[k.toNat]?.getD (-1)

end Go.Proofs.Ytlclgfgmhnmnaaa
namespace Go.Proofs.Ytlclgfgmhnmnaaa
open Go.Av Go.Sort
def sortI(l:List Int):List Int:=l.mergeSort fun x y=>decide (x≤y)
theorem sortI_perm(l:List Int):(sortI l).Perm l:=List.mergeSort_perm _ _
theorem sortI_sorted(l:List Int):(sortI l).Pairwise (fun x y=>x≤y):=by
 have h:=List.pairwise_mergeSort (le:=fun x y:Int=>decide (x≤y)) (fun a b c h1 h2=>by simp only [decide_eq_true_eq] at h1 h2 ⊢;omega) (fun a b=>by simp only [Bool.or_eq_true,decide_eq_true_eq];omega) l
 exact h.imp fun q=>by simpa using q
def SortCalls(P:Program)(f:FuncId):Prop:=∀(blk off cap:Nat) (zs:List Int) (w:World),Go.Sort.Holds (Value.int .i64) w blk off zs.toArray→blk<w.heap.size→zs.length<4611686018427387904 →
 Calls P f #[.slice (some ⟨blk,off,none⟩) zs.length cap] w fun e w' =>
  e=.returned (.tuple #[])∧∃n os,w'=grow (putRow (Value.int .i64) (Sort.ahead w n) blk off (zs.mergeSort fun x y=>decide (x≤y)).toArray) os
theorem sort_bridge{P:Program}{f:FuncId}(hen:Go.Av.Enters P f)(hc:SortCalls P f){O:List AObj}{id:Nat}{zs:List Int}(ho:O[id]?=some (.cells (zs.map aI)))(hl:zs.length≤1000) :
  ECall P f O [.os id zs.length 1] (fun r O'=>r=.tup []∧O'=O.set id (.cells ((sortI zs).map aI))):=by
 refine⟨hen,fun g vs hg hgo hvs=>?_⟩
 subst hgo
 obtain⟨h1,h2⟩:=hvs
 simp only [List.length_singleton] at h1
 have hv0:vs[0]?=some (vs[0]'(by omega)):=Array.getElem?_eq_getElem _
 obtain⟨l,o,cap,he,hobj,hns,hcap,hb,hmax,hve⟩:=(h2 0 _ _ rfl hv0).os_inv
 have hvs:vs = #[.slice (some ⟨l.block,0,none⟩) zs.length cap]:=by
  apply Array.ext
  ·simpa using h1
  intro i hi1 hi2
  have:i=0:=by omega
  subst this
  exact hve
 subst hvs
 obtain⟨arr,t,hlo,hrow,hlen,hcs,hcsc,hlsz⟩:=hg.row ho he
 rw [List.length_map] at hlen
 have hcell:∀(j:Nat) x,zs[j]?=some x→arr[j]?=some (.int .i64 x)∧flatOK (.int .i64 x):=fun j x hj=>by
  have hjl:=lt_of_getElem? hj
  have hja:arr[j]?=some (arr[j]'(by omega)):=Array.getElem?_eq_getElem _
  obtain⟨e,hf⟩:=(hcs j (aI x) _ (by simp [hj]) hja).v_inv
  exact⟨by rw [hja,e],hf⟩
 have hH:Go.Sort.Holds (Value.int .i64) g.w l.block 0 zs.toArray:=fun j hj=>by
  have hj':j<zs.length:=by simpa using hj
  refine⟨?_,by simp [World.frozen?,hrow]⟩
  rw [show g.w.cell? ⟨l.block,0+j,none⟩=arr[0+j]? from Go.Av.cell_of_row hrow (0+j),Nat.zero_add,(hcell j _ (List.getElem?_eq_getElem hj')).1]
  simp [hj']
 refine(hc l.block 0 cap zs g.w hH (lt_of_getElem?' hrow) (by omega)).mono ?_
 rintro e w' ⟨rfl,n,os,hw'⟩
 have hss:(zs.mergeSort fun x y=>decide (x≤y))=sortI zs:=rfl
 rw [hss] at hw'
 have hp:=sortI_perm zs
 obtain⟨ss,hse⟩:∃ss,ss=sortI zs:=⟨_,rfl⟩
 rw [←hse] at hw' hp ⊢
 have hsl:=hp.length_eq
 have hblt:=lt_of_getElem?' hrow
 have hsame:∀k,k<g.w.heap.size→w'.heap[k]?=(g.w.heap.modify l.block (onCells (putCells (Value.int .i64) 0 ss.toArray)))[k]?:=fun k hk=>by
  subst hw'
  simp only [grow,putRow,mapBlock,Sort.ahead]
  rw [Array.getElem?_append_left (by simpa using hk)]
 have hrow':w'.heap[l.block]?=some (.cells (putCells (Value.int .i64) 0 ss.toArray arr) t (0,0)):=by
  rw [hsame _ hblt,Array.getElem?_modify,if_pos rfl,hrow]
  rfl
 have hoth:∀k,k<g.w.heap.size→k≠l.block→w'.heap[k]?=g.w.heap[k]?:=fun k hk hne=>by
  rw [hsame k hk,Array.getElem?_modify,if_neg (fun q=>hne q.symm)]
 have hput:∀(j:Nat) x,ss[j]?=some x→(putCells (Value.int .i64) 0 ss.toArray arr)[j]?=some (.int .i64 x):=fun j x hj=>by
  have hjl:=lt_of_getElem? hj
  have hja:arr[j]?=some (arr[j]'(by omega)):=Array.getElem?_eq_getElem _
  simp only [putCells,Array.getElem?_mapIdx,hja,Option.map_some,Nat.zero_add,Nat.zero_le,true_and,Nat.sub_zero,List.size_toArray]
  rw [if_pos hjl]
  simp [hj]
 have hturn:Turns g id (.cells (zs.map aI)) (some l) (.cells (ss.map aI)) w' :=
  {obj:=ho
   os:=by rw [hw'];rfl
   tape:=by rw [hw'];rfl
   output:=by rw [hw'];rfl
   size:=by rw [hw'];simp [grow,putRow,mapBlock,Sort.ahead]
   block:=fun k hk hne=>hoth k hk fun e=>hne l he trivial e.symm
   cell:=fun b off x hx hb=>by
    by_cases e:b=l.block
    ·have:=hb l he trivial e.symm
     omega
    rw [cell_congr (hoth b (cell_lt hx) e)]
    exact hx
   place:=fun l1 h1 _=>by
    simp only [Option.some.injEq] at h1
    subst h1
    exact .inr ⟨l,he,trivial,rfl,Nat.le_refl _⟩
   spare:=fun m h=>by cases h
   plain:=fun _=>⟨by simp [AObj.isSpare],he⟩
   gone:=by simp }
 refine⟨g.turn id (some l) (.cells (ss.map aI)) w',.tuple #[],.tup [],rfl,rfl,Le.turn hg hturn,Good.turn hg hturn ?_ ?_,.tup rfl (by simp),rfl,rfl⟩
 ·refine⟨l,_,t,rfl,hlo,hrow',by simp [putCells,hsl];omega,fun j c u hj hu=>?_,fun c hc=>?_,by simpa [putCells] using hlsz⟩
  ·rw [List.getElem?_map] at hj
   obtain⟨x,hx,rfl⟩:=Option.map_eq_some_iff.1 hj
   rw [hput j x hx] at hu
   simp only [Option.some.injEq] at hu
   subst hu
   have hm:x∈zs:=hp.subset (List.mem_of_getElem? hx)
   obtain⟨i,hi⟩:=List.getElem?_of_mem hm
   exact .v (hcell i x hi).2
  obtain⟨x,_,rfl⟩:=List.mem_map.1 hc
  trivial
 intro l1 h1 _
 simp only [Option.some.injEq] at h1
 subst h1
 rw [hw']
 simp [grow,putRow,mapBlock,Sort.ahead]
 omega
end Go.Proofs.Ytlclgfgmhnmnaaa
namespace Go.Proofs.Ytlclgfgmhnmnaaa
open Go.Av
def rchS(f:Func):List Int:=sortI (orderM f)
theorem mem_rchS{f:Func}{k:Int}:k∈rchS f↔0≤plF f k:=by
 unfold rchS plF
 rw [(sortI_perm _).mem_iff]
 exact idxI_mem.1.symm
theorem rchS_len(f:Func):(rchS f).length=(orderM f).length:=(sortI_perm _).length_eq
end Go.Proofs.Ytlclgfgmhnmnaaa
namespace Go.Av
theorem awp_frzp{P:Program}{kb:Nat}{c:Code}{Q:AEx→St→Prop}{n:Nat}{slots:List (Nat×AVal)}{A:Nat}{C:Nat→List AVal}{N M:Nat}(pos:Nat→Nat)
  (hsc:∀i,∀d∈C i,d.scalar) (hl:∀i,(C i).length=M) (F:Nat→List AObj→Prop)
  (hF:∀i O,i<N→O[A]?=some (.cells (C i))→F i O→(C (i+1)=C i∧F (i+1) O) ∨
   ∃id o x y,id≠A∧O[id]?=some o∧¬o.isSpare∧o.live∧(C i)[pos i]?=some x∧(C (i+1))=(C i).set (pos i) y∧FSub O id x y∧F (i+1) ((O.set id .gone).set A (.cells (C (i+1))))) :
  ∀(m i:Nat) (O:List AObj),i+m=N→O[A]?=some (.cells (C i))→F i O→(∀O',O'.length=O.length→O'[A]?=some (.cells (C N))→F N O'→AWP P kb c Q ⟨n,slots,O'⟩)→AWP P kb c Q ⟨n,slots,O⟩
 | 0,i,O,hi,hA,hf,h=>by
  have:i=N:=by omega
  subst this
  exact h O rfl hA hf
 | m+1,i,O,hi,hA,hf,h=>by
  rcases hF i O (by omega) hA hf with⟨e,hf'⟩ | ⟨id,o,x,y,h1,h2,h3,h4,h5,h6,h7,hf'⟩
  ·exact awp_frzp pos hsc hl F hF m (i+1) O (by omega) (by rw [e];exact hA) hf' h
  have hAl:=lt_of_getElem? hA
  refine awp_freeze_in id h2 h3 h4 slots (fun s z hz=>⟨z,hz,.refl z⟩) A (Ne.symm h1) (C i) (C (i+1)) hA (by rw [hl,hl]) (hsc (i+1)) (fun j a b ha hb=>?_) (awp_frzp pos hsc hl F hF m (i+1) _ (by omega) (by rw [List.getElem?_set_self (by rw [List.length_set];exact hAl)]) hf' fun O' hO'=>h O' (by rw [hO',List.length_set,List.length_set]))
  rw [h6,List.getElem?_set] at hb
  split at hb
  ·rename_i e
   rw [←e,h5] at ha
   rw [if_pos (lt_of_getElem? h5)] at hb
   simp only [Option.some.injEq] at ha hb
   subst ha
   subst hb
   exact h7
  rw [ha] at hb
  simp only [Option.some.injEq] at hb
  subst hb
  exact .refl _
end Go.Av
namespace Go.Proofs.Ytlclgfgmhnmnaaa
open Go.Av
def renE(A:List Int)(e:Edge):Edge:=⟨atI A e.block,e.args⟩
def renB(A:List Int)(b:Block):Block:=⟨b.params,b.ins,⟨b.term.kind,b.term.arg,b.term.n,b.term.cases,b.term.to.map (renE A)⟩⟩
def atM(f:Func):List Int:=(List.range f.blocks.length).map fun(k:Nat)=>idxI (rchS f) (k:Int)
def pruneM(f:Func):Func:=⟨f.name,(rchS f).map fun k=>renB (atM f) (blkOf f k)⟩
theorem rchS_nodup{f:Func}(hw:OrdW f):(rchS f).Nodup:=by
 refine(sortI_perm _).nodup_iff.2 ?_
 unfold List.Nodup
 rw [List.pairwise_iff_getElem]
 intro i j hi hj hij e
 have h1:=hw.at_ i _ (List.getElem?_eq_getElem hi)
 have h2:=hw.at_ j _ (List.getElem?_eq_getElem hj)
 rw [e,h2] at h1
 omega
theorem edC_append(a b:List Edge):edC (a++b)=edC a++edC b:=by simp [edC]
def mixE(A:List Int)(es:List Edge)(n:Nat):List Edge:=(es.take n).map (renE A)++es.drop n
theorem mixE_zero(A:List Int)(es:List Edge):mixE A es 0=es:=by simp [mixE]
theorem mixE_all(A:List Int){es:List Edge}{n:Nat}(h:es.length≤n):mixE A es n=es.map (renE A):=by
 unfold mixE
 rw [List.take_of_length_le h,List.drop_of_length_le h,List.append_nil]
theorem mixE_len(A:List Int)(es:List Edge)(n:Nat):(mixE A es n).length=es.length:=by
 unfold mixE
 rw [List.length_append,List.length_map,List.length_take,List.length_drop]
 omega
theorem edC_at{es:List Edge}{n:Nat}{e:Edge}(h:es[n]?=some e):(edC es)[n * 2]?=some (aI e.block)∧(edC es)[n * 2+1]?=some (eIs e.args):=by
 have hl:=lt_of_getElem? h
 have e1:es=es.take n++e::es.drop (n+1):=by
  rw [←drop_at h,List.take_append_drop]
 have hlen:(edC (es.take n)).length=n * 2:=by rw [edC_len,List.length_take];omega
 have e2:edC es=edC (es.take n)++(aI e.block::eIs e.args::edC (es.drop (n+1))):=by
  conv=>lhs;rw [e1]
  rw [edC_append]
  rfl
 rw [e2]
 refine⟨?_,?_⟩
 ·rw [List.getElem?_append_right (by omega),hlen,Nat.sub_self]
  rfl
 rw [List.getElem?_append_right (by omega),hlen,show n * 2+1 - n * 2=1 by omega]
 rfl
theorem mixE_at(A:List Int){es:List Edge}{n:Nat}{e:Edge}(h:es[n]?=some e):(mixE A es n)[n]?=some e:=by
 have hl:=lt_of_getElem? h
 unfold mixE
 rw [List.getElem?_append_right (by rw [List.length_map,List.length_take];omega),List.length_map,List.length_take,show n - min n es.length=0 by omega,List.getElem?_drop,Nat.add_zero,h]
theorem mixE_step(A:List Int){es:List Edge}{n:Nat}{e:Edge}(h:es[n]?=some e):splice (edC (mixE A es n)) (n * 2) [.v (.int .i64 (atI A e.block))]=edC (mixE A es (n+1)):=by
 have hl:=lt_of_getElem? h
 have hlen:(edC ((es.take n).map (renE A))).length=n * 2:=by rw [edC_len,List.length_map,List.length_take];omega
 have h1:edC (mixE A es n)=edC ((es.take n).map (renE A))++(aI e.block::eIs e.args::edC (es.drop (n+1))):=by
  unfold mixE
  rw [edC_append,drop_at h]
  rfl
 have h2:edC (mixE A es (n+1))=edC ((es.take n).map (renE A))++(aI (atI A e.block)::eIs e.args::edC (es.drop (n+1))):=by
  unfold mixE
  rw [edC_append,List.take_add_one,h,List.map_append,edC_append,List.append_assoc]
  rfl
 rw [splice_one _ (by rw [edC_len,mixE_len];omega),h1,h2,List.set_append_right _ _ (by omega),hlen,Nat.sub_self,List.set_cons_zero]
def prI(ids:List Nat)(l:List Int):List Nat:=l.map fun k=>ids[k.toNat]?.getD 0
def prB(f:Func)(A:List Int)(l:List Int):List Block:=l.map fun k=>renB A (blkOf f k)
structure PrS(f:Func)(A:List Int)(ids:List Nat)(bid X:Nat)(l:List Int)(oid:Nat)(O:List AObj):Prop where
 up:∀o∈O,o.upto O.length
 r1:O[1]?=some (.cells [aI 0,.lst 7 [] .ex])
 x5:5≤X
 xb:bid≠X
 bl:5≤bid∧O[bid]?=some (.cells (blsC ids f.blocks))
 li:ids.length=f.blocks.length
 own:∀(j id:Nat) (b:Block),ids[j]?=some id→f.blocks[j]?=some b→b.term.to≠[]→5≤id∧id≠bid∧id≠X∧(l≠[]→id≠oid)∧O[id]?=some (.cells (edC (if (j:Int)∈l then b.term.to.map (renE A) else b.term.to)))
 inj:∀(i j id:Nat) (b c:Block),ids[i]?=some id→ids[j]?=some id→f.blocks[i]?=some b→f.blocks[j]?=some c→b.term.to≠[]→c.term.to≠[]→i=j
 out:O[X]?=some (.cells [aI f.name,outBl oid (prB f A l)])
 lst:l≠[]→5≤oid∧oid≠X∧oid≠bid∧O[oid]?=some (.cells (blsC (prI ids l) (prB f A l)))
theorem renB_to(A:List Int)(b:Block):(renB A b).term.to=b.term.to.map (renE A):=rfl
theorem outE_ren(A:List Int)(id:Nat)(b:Block):outE id (b.term.to.map (renE A))=outE id b.term.to:=by
 unfold outE
 by_cases h:b.term.to=[]
 ·rw [if_pos h,if_pos (by rw [h];rfl)]
 rw [if_neg h,if_neg (by simpa using h),List.length_map]
theorem PrS.snoc{f:Func}{A:List Int}{ids:List Nat}{bid X:Nat}{l:List Int}{oid:Nat}{O O1:List AObj}(h:PrS f A ids bid X l oid O){k:Nat}{b:Block}{id:Nat}(hb:f.blocks[k]?=some b)(hid:ids[k]?=some id)(hk:(k:Int) ∉ l)
  (hlen:O1.length=O.length) (hup:∀o∈O1,o.upto O.length) (hsame:∀j,(b.term.to≠[]→j≠id)→(l≠[]→j≠oid)→O1[j]?=O[j]?) (hnew:b.term.to≠[]→O1[id]?=some (.cells (edC (b.term.to.map (renE A))))) {cs ar:List AVal}
  (hcs:cs=blsC (prI ids (l++[(k:Int)])) (prB f A (l++[(k:Int)]))) (har:ar=[aI f.name,.os O.length (l.length+1) 7]):PrS f A ids bid X (l++[(k:Int)]) O.length ((O1++[AObj.cells cs]).set X (.cells ar)):=by
 have hXl:=lt_of_getElem? h.out
 have hbl:=lt_of_getElem? h.bl.2
 have hlo:l≠[]→oid≠X∧oid≠bid∧5≤oid:=fun q=>by obtain⟨a,b,c,_⟩:=h.lst q;exact⟨b,c,a⟩
 have hin:∀(j id:Nat) (c:Block),ids[j]?=some id→f.blocks[j]?=some c→c.term.to≠[]→id<O.length:=fun j id c h1 h2 h3=>lt_of_getElem? (h.own j id c h1 h2 h3).2.2.2.2
 have hkeep:∀j,j<O.length→j≠X→(b.term.to≠[]→j≠id)→(l≠[]→j≠oid)→((O1++[AObj.cells cs]).set X (.cells ar))[j]?=O[j]?:=fun j hj hjX h1 h2=>by
  rw [List.getElem?_set_ne (Ne.symm hjX),List.getElem?_append_left (by omega),hsame j h1 h2]
 have hidw:=h.own k id b hid hb
 subst hcs
 subst har
 exact {
  up:=by
   intro o ho
   rw [List.length_set,List.length_append,List.length_singleton,hlen]
   rcases List.mem_or_eq_of_mem_set ho with q | q
   ·rcases List.mem_append.1 q with q | q
    ·exact AObj.upto_mono (by omega) (hup o q)
    rw [List.mem_singleton] at q
    subst q
    refine blsC_upto fun j id' c h1 h2 h3=>?_
    unfold prI at h1
    unfold prB at h2
    rw [List.getElem?_map,Option.map_eq_some_iff] at h1 h2
    obtain⟨k1,e1,e2⟩:=h1
    obtain⟨k2,e3,e4⟩:=h2
    rw [e1] at e3
    simp only [Option.some.injEq] at e3
    subst e3
    subst e4
    rw [renB_to] at h3
    have hto:(blkOf f k1).term.to≠[]:=fun q=>h3 (by rw [q];rfl)
    have hk1:k1.toNat<f.blocks.length:=by
     refine Classical.byContradiction fun q=>hto ?_
     unfold blkOf
     rw [List.getElem?_eq_none (by omega)]
     rfl
    have hbk:f.blocks[k1.toNat]?=some (blkOf f k1):=by
     unfold blkOf
     rw [List.getElem?_eq_getElem hk1]
     rfl
    have hik:ids[k1.toNat]?=some id':=by
     rw [List.getElem?_eq_getElem (by rw [h.li];exact hk1)] at e2 ⊢
     exact congrArg some e2
    have:=hin _ _ _ hik hbk hto
    omega
   subst q
   exact⟨trivial,show _<_ by omega,trivial⟩
  r1:=by
   rw [hkeep 1 (lt_of_getElem? h.r1) (by have:=h.x5;omega) (fun q=>by have:=(hidw q).1;omega) (fun q=>by have:=(hlo q).2.2;omega)]
   exact h.r1
  x5:=h.x5
  xb:=h.xb
  bl:=by
   refine⟨h.bl.1,?_⟩
   rw [hkeep bid hbl h.xb (fun q=>Ne.symm (hidw q).2.1) (fun q=>Ne.symm (hlo q).2.1)]
   exact h.bl.2
  li:=h.li
  own:=fun j id' c h1 h2 h3=>by
   obtain⟨o1,o2,o3,o4,o5⟩:=h.own j id' c h1 h2 h3
   have hil:=lt_of_getElem? o5
   refine⟨o1,o2,o3,fun _=>by omega,?_⟩
   rw [List.getElem?_set_ne (Ne.symm o3),List.getElem?_append_left (by omega)]
   by_cases e:j=k
   ·subst e
    rw [hid] at h1
    rw [hb] at h2
    simp only [Option.some.injEq] at h1 h2
    subst h1
    subst h2
    rw [if_pos (by simp)]
    exact hnew h3
   rw [hsame id' (fun q e2=>by
    subst e2
    exact e (h.inj j k id' c b h1 hid h2 hb h3 q)) o4,o5]
   have hjk:((j:Int)∈l++[(k:Int)])=((j:Int)∈l):=by
    apply propext
    rw [List.mem_append,List.mem_singleton]
    exact⟨fun q=>q.resolve_right (by omega),.inl⟩
   simp only [hjk]
  inj:=h.inj
  out:=by
   rw [List.getElem?_set_self (by rw [List.length_append];omega)]
   have:outBl O.length (prB f A (l++[(k:Int)]))=.os O.length (l.length+1) 7:=by
    unfold outBl prB
    rw [if_neg (by simp),List.length_map,List.length_append]
    rfl
   rw [this]
  lst:=fun _=>by
   have h5:=h.x5
   refine⟨by omega,by omega,by omega,?_⟩
   rw [List.getElem?_set_ne (by omega),List.getElem?_append_right (by omega),hlen,Nat.sub_self]
   rfl }
end Go.Proofs.Ytlclgfgmhnmnaaa
namespace Go.Proofs.Ytlclgfgmhnmnaaa
open Go.Av
theorem blocks_range(f:Func):((List.range f.blocks.length).map fun k:Nat=>blkOf f (k:Int))=f.blocks:=by
 apply List.ext_getElem?
 intro i
 rw [List.getElem?_map]
 by_cases h:i<f.blocks.length
 ·rw [List.getElem?_range h,List.getElem?_eq_getElem h]
  simp [blkOf,h]
 rw [List.getElem?_eq_none (by simp;omega),List.getElem?_eq_none (by omega)]
 rfl
theorem rch_eq{f:Func}(hw:OrdW f):rchS f=((List.range f.blocks.length).map fun k:Nat=>(k:Int)).filter fun k=>decide (0≤plF f k):=by
 have hp:((List.range f.blocks.length).map fun k:Nat=>(k:Int)).Pairwise (fun a b=>a<b):=by
  rw [List.pairwise_map]
  exact List.Pairwise.imp (fun h=>by omega) List.pairwise_lt_range
 have hp2:=hp.filter (fun k=>decide (0≤plF f k))
 refine List.Perm.eq_of_pairwise (le:=fun a b=>a≤b) (fun a b _ _ h1 h2=>by omega) (sortI_sorted _) (hp2.imp fun h=>by omega) ?_
 rw [List.perm_ext_iff_of_nodup (rchS_nodup hw) (hp2.imp fun h=>by omega)]
 intro k
 rw [mem_rchS,List.mem_filter,decide_eq_true_eq]
 constructor
 ·intro h
  have hr:=hw.range k h
  exact⟨List.mem_map.2 ⟨k.toNat,List.mem_range.2 (by omega),by omega⟩,h⟩
 exact fun h=>h.2
theorem sub_flat{α β:Type}(F:α→List β){l m:List α}(h:l.Sublist m):(l.flatMap F).Sublist (m.flatMap F):=by
 induction h with
 | slnil=>exact List.Sublist.refl _
 | cons a _ ih =>
  rw [List.flatMap_cons]
  exact List.sublist_append_of_sublist_right ih
 | cons_cons a _ ih =>
  rw [List.flatMap_cons,List.flatMap_cons]
  exact(List.Sublist.refl _).append ih
theorem sub_sum{α:Type}(F:α→Nat){l m:List α}(h:l.Sublist m):(l.map F).sum≤(m.map F).sum:=by
 induction h with
 | slnil=>exact Nat.le_refl _
 | cons a _ ih =>
  rw [List.map_cons,List.sum_cons]
  omega
 | cons_cons a _ ih =>
  rw [List.map_cons,List.map_cons,List.sum_cons,List.sum_cons]
  omega
theorem rch_sub{f:Func}(hw:OrdW f):(rchS f).Sublist ((List.range f.blocks.length).map fun k:Nat=>(k:Int)):=by
 rw [rch_eq hw]
 exact List.filter_sublist
theorem prune_vals{f:Func}(hw:OrdW f):(valsF (pruneM f)).Sublist (valsF f):=by
 have h1:valsF (pruneM f)=(rchS f).flatMap fun k=>blkVals (blkOf f k):=by
  unfold valsF pruneM
  rw [List.flatMap_map]
  rfl
 have h2:valsF f=((List.range f.blocks.length).map fun k:Nat=>(k:Int)).flatMap fun k=>blkVals (blkOf f k):=by
  unfold valsF
  conv=>lhs;rw [←blocks_range f]
  rw [List.flatMap_map,List.flatMap_map]
 rw [h1,h2]
 exact sub_flat _ (rch_sub hw)
theorem prune_sum{f:Func}(hw:OrdW f):sumI (pruneM f).blocks≤sumI f.blocks:=by
 have h1:sumI (pruneM f).blocks=((rchS f).map fun k=>(blkOf f k).ins.length).sum:=by
  unfold sumI pruneM
  rw [List.map_map]
  rfl
 have h2:sumI f.blocks=(((List.range f.blocks.length).map fun k:Nat=>(k:Int)).map fun k=>(blkOf f k).ins.length).sum:=by
  unfold sumI
  conv=>lhs;rw [←blocks_range f]
  rw [List.map_map,List.map_map]
  rfl
 rw [h1,h2]
 exact sub_sum _ (rch_sub hw)
def posM(f:Func)(k:Int):Int:=idxI (rchS f) k
section
variable {f:Func}
theorem pos_at{k:Int}(h:0≤plF f k):0≤posM f k∧(rchS f)[(posM f k).toNat]?=some k:=by
 have h1:=(idxI_mem (l:=rchS f) (n:=k)).1.2 (mem_rchS.2 h)
 exact⟨h1,(idxI_mem (l:=rchS f) (n:=k)).2 h1⟩
theorem rch_inj(hw:OrdW f){i j:Nat}{k:Int}(h1:(rchS f)[i]?=some k)(h2:(rchS f)[j]?=some k):i=j:=by
 have hn:=List.pairwise_iff_getElem.1 (rchS_nodup hw)
 obtain⟨p1,e1⟩:=List.getElem?_eq_some_iff.1 h1
 obtain⟨p2,e2⟩:=List.getElem?_eq_some_iff.1 h2
 refine Classical.byContradiction fun q=>?_
 rcases Nat.lt_or_gt_of_ne q with q | q
 ·exact hn i j p1 p2 q (e1.trans e2.symm)
 exact hn j i p2 p1 q (e2.trans e1.symm)
theorem pos_of(hw:OrdW f){j:Nat}{k:Int}(h:(rchS f)[j]?=some k):posM f k=j:=by
 obtain⟨h1,h2⟩:=pos_at (mem_rchS.1 (List.mem_of_getElem? h))
 have:=rch_inj hw h h2
 omega
theorem rch_zero(hw:OrdW f):(rchS f)[0]?=some 0:=by
 obtain⟨h1,h2⟩:=pos_at (f:=f) (k:=0) (by rw [hw.zero];omega)
 have hs:=List.pairwise_iff_getElem.1 (sortI_sorted (orderM f))
 have hl:=lt_of_getElem? h2
 have h0:(rchS f)[0]?=some ((rchS f)[0]'(by omega)):=List.getElem?_eq_getElem _
 rw [h0]
 congr 1
 by_cases e:(posM f 0).toNat=0
 ·rw [e,h0] at h2
  simpa using h2
 have h3:=hs 0 (posM f 0).toNat (by show 0<(rchS f).length;omega) hl (by omega)
 have h4:=(List.getElem?_eq_some_iff.1 h2).2
 have h5:=(hw.range _ (mem_rchS.1 (List.mem_of_getElem? h0))).1
 have h6:(rchS f)[0]'(by omega)≤(rchS f)[(posM f 0).toNat]:=h3
 rw [h4] at h6
 omega
theorem at_pos{k:Int}(h0:0≤k)(h1:k<f.blocks.length):atI (atM f) k=posM f k:=by
 unfold atI atM
 rw [List.getElem?_map,List.getElem?_range (by omega),Option.map_some,Option.getD_some]
 show idxI (rchS f) ((k.toNat:Nat):Int)=_
 rw [show((k.toNat:Nat):Int)=k by omega]
 rfl
theorem prune_blk{j:Nat}{c:Block}:(pruneM f).blocks[j]?=some c↔∃k,(rchS f)[j]?=some k∧c=renB (atM f) (blkOf f k):=by
 unfold pruneM
 simp only [List.getElem?_map,Option.map_eq_some_iff]
 constructor
 ·rintro⟨k,h1,h2⟩
  exact⟨k,h1,h2.symm⟩
 rintro⟨k,h1,h2⟩
 exact⟨k,h1,h2.symm⟩
theorem prune_len:(pruneM f).blocks.length=(rchS f).length:=List.length_map ..
theorem prune_of{k:Int}(h:0≤plF f k):blkOf (pruneM f) (posM f k)=renB (atM f) (blkOf f k):=by
 have:=(prune_blk (f:=f)).2 ⟨k,(pos_at h).2,rfl⟩
 unfold blkOf
 rw [this]
 rfl
theorem blk_at{k:Int}(h0:0≤k)(h1:k<f.blocks.length):f.blocks[k.toNat]?=some (blkOf f k):=by
 unfold blkOf
 rw [List.getElem?_eq_getElem (by omega)]
 rfl
end
theorem shape_same{t t':Term}(h1:t.kind=t'.kind)(h2:t.arg=t'.arg)(h3:t.n=t'.n)(h4:t.cases=t'.cases)(h5:t.to.length=t'.to.length):shapeM t=shapeM t':=by
 unfold shapeM edgesM argM
 rw [h1,h2,h3,h4,h5]
theorem DefAt.range{f:Func}{v:Int}{p:Int×Int}(h:DefAt f v p):0≤p.1∧p.1<f.blocks.length:=by
 obtain⟨k,b,h1,h2,_⟩:=h
 have:=lt_of_getElem? h1
 omega
theorem end_intro{f:Func}{t:Term}(h1:shapeM t=true)(h2:t.cases.length≤256)(h3:t.kind=4→1≤t.n∧t.n≤6)(h4:casesE t.cases t.cases.length=0)(h5:∀e∈t.to,(1≤e.block∧e.block≤(f.blocks.length:Int) - 1)∧e.args.length=(blkOf f e.block).params.length):endE f t=0:=by
 unfold endE
 rw [if_neg (by simp [h1]),if_neg (by omega),if_neg (fun q=>by
  have:=h3 q.1
  have q2:=q.2
  simp [within,this] at q2),if_neg (by rw [h4];simp)]
 generalize t.to=l at h5
 induction l with
 | nil=>rfl
 | cons e r ih =>
  have he:=h5 e List.mem_cons_self
  simp only [edgesE]
  rw [if_neg (by simp [within,he.1]),if_neg (by rw [he.2];simp)]
  exact ih fun x hx=>h5 x (List.mem_cons_of_mem _ hx)
theorem end_cases{f:Func}{t:Term}(h:endE f t=0):casesE t.cases t.cases.length=0:=by
 unfold endE at h
 split at h
 ·simp at h
 split at h
 ·simp at h
 split at h
 ·simp at h
 split at h
 ·rename_i q
  exact absurd h q
 rename_i q
 simpa using q
theorem seen_rch{f:Func}(hd:DomW f)(hw:OrdW f):∀(n:Nat) (k:Int),0≤plF f k→plF f k<n→seenF f k.toNat=true∧∀d,d<128→(overF f k.toNat).has d=true→0≤plF f (d:Int)
 | 0,k,h,hn=>by omega
 | n+1,k,h,hn=>by
  by_cases h0:plF f k=0
  ·have hk:k=0:=hw.inj k 0 h (by rw [hw.zero,h0])
   subst hk
   refine⟨hd.seen,fun d hdl q=>?_⟩
   rw [(hd.zero d hdl).1 q]
   show 0≤plF f 0
   rw [hw.zero]
   omega
  obtain⟨p,⟨e,he,he2⟩,hp0,hp1⟩:=hw.fwd k (by omega)
  obtain⟨i1,i2⟩:=seen_rch hd hw n p hp0 (by omega)
  have hpr:=hw.range p hp0
  obtain⟨s1,s2⟩:=hd.step p.toNat (blkOf f p) (blk_at hpr.1 hpr.2) i1 e he
  rw [he2] at s1 s2
  refine⟨s1,fun d hdl q=>?_⟩
  rcases s2 d hdl q with r | r
  ·have hkr:=hw.range k h
   rw [r,show((k.toNat:Nat):Int)=k by omega]
   exact h
  exact i2 d hdl r
theorem rch_seen{f:Func}(hd:DomW f)(hw:OrdW f){k:Int}(h:0≤plF f k):seenF f k.toNat=true∧∀d,d<128→(overF f k.toNat).has d=true→0≤plF f (d:Int):=seen_rch hd hw 300 k h (by
 have h1:=(hw.low k).2
 have h2:=hw.few
 omega)
theorem def_prune{f:Func}(hw:OrdW f){v:Int}{p:Int×Int}(h:DefAt f v p)(hr:0≤plF f p.1):DefAt (pruneM f) v (posM f p.1,p.2):=by
 obtain⟨k,b,h1,h2,h3⟩:=h
 obtain⟨q1,q2⟩:=pos_at hr
 have hb:blkOf f p.1=b:=by
  rw [h2]
  unfold blkOf
  rw [Int.toNat_natCast,h1]
  rfl
 refine⟨(posM f p.1).toNat,renB (atM f) b,prune_blk.2 ⟨p.1,q2,by rw [hb]⟩,by simp only;omega,h3⟩
theorem prune_check{f:Func}(hfit:f.fit)(hc:checkFuncM f=0):checkFuncM (pruneM f)=0:=by
 have hv:=checkFunc_v hfit hc
 have hf:=hv.fn
 have hg:=hf.gr
 have hw:=ord_w hg
 have hd:=hv.dom
 have hsub:=prune_vals hw
 have hr0:=rch_zero hw
 have hlen:(rchS f).length≤f.blocks.length:=by
  have:=(rch_sub hw).length_le
  simpa using this
 have hrl:=lt_of_getElem? hr0
 have hfew:=hg.few
 have hb0:blkOf (pruneM f) 0=renB (atM f) (blkOf f 0):=by
  have:=prune_of (f:=f) (k:=0) (by rw [hw.zero];omega)
  rwa [pos_of hw hr0] at this
 have hmem:∀c∈(pruneM f).blocks,∃k,0≤plF f k∧c=renB (atM f) (blkOf f k)∧blkOf f k∈f.blocks:=fun c hcm=>by
  obtain⟨j,hj⟩:=List.mem_iff_getElem?.1 hcm
  obtain⟨k,h1,h2⟩:=prune_blk.1 hj
  have hk:=mem_rchS.1 (List.mem_of_getElem? h1)
  have hkr:=hw.range k hk
  exact⟨k,hk,h2,List.mem_of_getElem? (blk_at hkr.1 hkr.2)⟩
 have hedge:∀{k:Int},0≤plF f k→∀e∈(blkOf f k).term.to,0≤plF f e.block∧1≤e.block∧e.block<f.blocks.length:=fun {k} hk e he=>by
  have hkr:=hw.range k hk
  have:=hg.edges _ (List.mem_of_getElem? (blk_at hkr.1 hkr.2)) e he
  exact⟨hw.next k e.block hk ⟨e,he,rfl⟩,this⟩
 have hfine:∀{k:Int} {n v:Int},0≤plF f k→Fine f k.toNat n v→Fine (pruneM f) (posM f k).toNat n v:=fun {k n v} hk h=>by
  obtain⟨⟨pa,pb⟩,h1,h2⟩:=h
  obtain⟨p,hpe⟩:∃p:Int×Int,p=(pa,pb):=⟨_,rfl⟩
  rw [←hpe] at h1 h2
  obtain⟨s1,s2⟩:=rch_seen hd hw hk
  have hkr:=hw.range k hk
  obtain⟨q1,q2⟩:=pos_at hk
  rcases h2 s1 with⟨e1,e2⟩ | ⟨e1,e2⟩
  ·have e3:p.1=k:=by omega
   refine⟨(posM f k,p.2),by rw [←e3];exact def_prune hw h1 (by rw [e3];exact hk),fun _=>.inl ⟨by simp only;omega,e2⟩⟩
  have hdl:=h1.range
  have hpn:((p.1.toNat:Nat):Int)=p.1:=by omega
  have hpd:0≤plF f p.1:=by
   have:=s2 p.1.toNat (by omega) e2
   rwa [hpn] at this
  obtain⟨r1,r2⟩:=pos_at hpd
  refine⟨(posM f p.1,p.2),def_prune hw h1 hpd,fun _=>.inr ⟨fun q=>?_,?_⟩⟩
  ·have q':(posM f p.1).toNat=(posM f k).toNat:=by
    have:posM f p.1=((posM f k).toNat:Int):=q
    omega
   rw [q',q2] at r2
   simp only [Option.some.injEq] at r2
   omega
  show(overF (pruneM f) (posM f k).toNat).has (posM f p.1).toNat=true
  refine dom_max (D:=fun i j=>∃ki kj,(rchS f)[i]?=some ki∧(rchS f)[j]?=some kj∧(overF f kj.toNat).has ki.toNat=true) (R:=fun _=>True) (by
   intro q
   have:=congrArg List.length q
   rw [prune_len] at this
   simp only [List.length_nil] at this
   omega) ?_ trivial ?_ ?_ (by rw [prune_len];exact lt_of_getElem? q2) ⟨p.1,k,r2,q2,e2⟩
  ·refine⟨by rw [prune_len];omega,fun c hcm e he=>?_,fun j c hj _ e he=>⟨trivial,fun i hi=>?_⟩⟩
   ·obtain⟨kc,hkc,e3,_⟩:=hmem c hcm
    rw [e3,renB_to] at he
    obtain⟨x,hx,rfl⟩:=List.mem_map.1 he
    obtain⟨x1,x2,x3⟩:=hedge hkc x hx
    obtain⟨y1,y2⟩:=pos_at x1
    show 0≤atI (atM f) x.block∧(atI (atM f) x.block).toNat<_
    rw [at_pos (by omega) x3,prune_len]
    exact⟨y1,lt_of_getElem? y2⟩
   obtain⟨kc,h3,h4⟩:=prune_blk.1 hj
   have hkc:=mem_rchS.1 (List.mem_of_getElem? h3)
   rw [h4,renB_to] at he
   obtain⟨x,hx,rfl⟩:=List.mem_map.1 he
   obtain⟨x1,x2,x3⟩:=hedge hkc x hx
   obtain⟨y1,y2⟩:=pos_at x1
   have hat:(renE (atM f) x).block=posM f x.block:=at_pos (by omega) x3
   rw [hat] at hi ⊢
   obtain⟨ki,kj,i1,i2,i3⟩:=hi
   rw [y2] at i2
   simp only [Option.some.injEq] at i2
   subst i2
   have hkcr:=hw.range kc hkc
   have hki:=hw.range ki (mem_rchS.1 (List.mem_of_getElem? i1))
   obtain⟨t1,t2⟩:=hd.step kc.toNat _ (blk_at hkcr.1 hkcr.2) (rch_seen hd hw hkc).1 x hx
   rcases t2 ki.toNat (by omega) i3 with u | u
   ·refine .inl ?_
    have:ki=x.block:=by omega
    rw [this] at i1
    exact rch_inj hw i1 y2
   exact .inr ⟨ki,kc,i1,h3,u⟩
  ·rintro i ⟨ki,kj,i1,i2,i3⟩
   rw [hr0] at i2
   simp only [Option.some.injEq] at i2
   subst i2
   have hki:=hw.range ki (mem_rchS.1 (List.mem_of_getElem? i1))
   have:=(hd.zero ki.toNat (by omega)).1 i3
   have hk0:ki=0:=by omega
   rw [hk0] at i1
   exact rch_inj hw i1 hr0
  rintro i j ⟨ki,kj,i1,_,_⟩
  rw [prune_len]
  exact lt_of_getElem? i1
 refine check_intro (fun q=>?_) (by rw [prune_len];omega) hf.name (fun c hcm=>?_) (Nat.le_trans (prune_sum hw) (sum_few hfit hc)) (by rw [hb0];exact hf.args) (fun v h=>hv.vals v (hsub.subset h)) (hsub.nodup hv.nodup) (fun c hcm=>?_) ?_
 ·have:=congrArg List.length q
  rw [prune_len] at this
  simp only [List.length_nil] at this
  omega
 ·obtain⟨k,_,e1,e2⟩:=hmem c hcm
  rw [e1]
  exact hf.ins (blkOf f k) e2
 ·obtain⟨k,hk,e1,e2⟩:=hmem c hcm
  have hbw:=hf.blk _ e2
  rw [e1]
  refine⟨hbw.forms,?_⟩
  obtain⟨m1,m2,m3,m4⟩:=edges_of_end hbw.fin
  refine end_intro ?_ m2 m3 (end_cases (f:=f) (t:=(blkOf f k).term) hbw.fin) fun e he=>?_
  ·have hs:shapeM (renB (atM f) (blkOf f k)).term=shapeM (blkOf f k).term:=shape_same rfl rfl rfl rfl (List.length_map ..)
   rw [hs]
   exact m1
  rw [renB_to] at he
  obtain⟨x,hx,rfl⟩:=List.mem_map.1 he
  obtain⟨x1,x2,x3⟩:=hedge hk x hx
  obtain⟨y1,y2⟩:=pos_at x1
  have hat:(renE (atM f) x).block=posM f x.block:=at_pos (by omega) x3
  rw [hat,prune_of x1,prune_len]
  have hyl:=lt_of_getElem? y2
  refine⟨⟨?_,by omega⟩,(m4 x hx).2⟩
  refine Classical.byContradiction fun q=>?_
  have h0:(posM f x.block).toNat=0:=by omega
  rw [h0,hr0] at y2
  simp only [Option.some.injEq] at y2
  omega
 have hget:∀{j:Nat} {c:Block},(pruneM f).blocks[j]?=some c→∃k,0≤plF f k∧c=renB (atM f) (blkOf f k)∧f.blocks[k.toNat]?=some (blkOf f k)∧j=(posM f k).toNat:=fun {j c} hj=>by
  obtain⟨k,h1,h2⟩:=prune_blk.1 hj
  have hk:=mem_rchS.1 (List.mem_of_getElem? h1)
  have hkr:=hw.range k hk
  have:=pos_of hw h1
  exact⟨k,hk,h2,blk_at hkr.1 hkr.2,by omega⟩
 refine⟨fun j c hj n i hi a ha=>?_,fun j c hj h1 h4=>?_,fun j c hj e he a ha=>?_⟩
 ·obtain⟨k,hk,e1,e2,e3⟩:=hget hj
  rw [e3]
  rw [e1] at hi
  exact hfine hk (hv.uses.ins _ _ e2 n i hi a ha)
 ·obtain⟨k,hk,e1,e2,e3⟩:=hget hj
  rw [e3]
  rw [e1] at h1 h4 ⊢
  exact hfine hk (hv.uses.arg _ (blkOf f k) e2 h1 h4)
 obtain⟨k,hk,e1,e2,e3⟩:=hget hj
 rw [e3]
 rw [e1] at he ⊢
 rw [renB_to] at he
 obtain⟨x,hx,rfl⟩:=List.mem_map.1 he
 exact hfine hk (hv.uses.args _ _ e2 x hx a ha)
end Go.Proofs.Ytlclgfgmhnmnaaa
namespace Go.Proofs.Ytlclgfgmhnmnaaa
open Go.Av

end Go.Proofs.Ytlclgfgmhnmnaaa
namespace Go.Proofs.Ytlclgfgmhnmnaaa
open Go.Av
theorem prune_fit{f:Func}(hfit:f.fit)(hg:GrW f):(pruneM f).fit:=by
 have hw:=ord_w hg
 have hl:(rchS f).length≤128:=by rw [rchS_len];exact hw.few
 refine⟨hfit.1,by rw [prune_len];omega,fun c hcm=>?_⟩
 obtain⟨j,hj⟩:=List.mem_iff_getElem?.1 hcm
 obtain⟨k,h1,h2⟩:=prune_blk.1 hj
 have hkr:=hw.range k (mem_rchS.1 (List.mem_of_getElem? h1))
 obtain⟨b1,b2,b3,b4,t1,t2,t3,t4,t5,t6,t7⟩:=hfit.2.2 _ (List.mem_of_getElem? (blk_at hkr.1 hkr.2))
 rw [h2]
 refine⟨b1,b2,b3,b4,t1,t2,t3,t4,t5,by rw [renB_to,List.length_map];exact t6,fun e he=>?_⟩
 rw [renB_to] at he
 obtain⟨x,hx,rfl⟩:=List.mem_map.1 he
 obtain⟨x1,x2,x3⟩:=t7 x hx
 refine⟨?_,x2,x3⟩
 show fitI (atI (atM f) x.block)
 have hb:-1≤atI (atM f) x.block∧atI (atM f) x.block≤128:=by
  unfold atI atM
  rw [List.getElem?_map]
  by_cases q:x.block.toNat<f.blocks.length
  ·rw [List.getElem?_range q,Option.map_some,Option.getD_some]
   by_cases r:0≤idxI (rchS f) ((x.block.toNat:Nat):Int)
   ·have:=lt_of_getElem? ((idxI_mem (l:=rchS f) (n:=((x.block.toNat:Nat):Int))).2 r)
    omega
   have:idxI (rchS f) ((x.block.toNat:Nat):Int)=-1:=by
    unfold idxI at r ⊢
    split
    ·rename_i s
     rw [if_pos s] at r
     omega
    rfl
   omega
  rw [List.getElem?_eq_none (by simp;omega)]
  simp
 unfold fitI
 omega
section
variable {f:Func}
theorem pos_zero(hw:OrdW f):posM f 0=0:=pos_of hw (rch_zero hw)
theorem prune_edg(hg:GrW f){p k:Int}(hp:0≤plF f p)(h:Edg f p k):Edg (pruneM f) (posM f p) (posM f k):=by
 have hw:=ord_w hg
 obtain⟨x,hx,e⟩:=h
 have hpr:=hw.range p hp
 have hxr:=hg.edges _ (List.mem_of_getElem? (blk_at hpr.1 hpr.2)) x hx
 refine⟨renE (atM f) x,?_,?_⟩
 ·unfold toOf
  rw [prune_of hp,renB_to]
  exact List.mem_map.2 ⟨x,hx,rfl⟩
 show atI (atM f) x.block=_
 rw [at_pos (by omega) hxr.2,e]
theorem prune_rch(hg:GrW f)(hw':OrdW (pruneM f)):∀(n:Nat) (k:Int),0≤plF f k→plF f k<n→0≤plF (pruneM f) (posM f k)
 | 0,k,h,hn=>by omega
 | n+1,k,h,hn=>by
  have hw:=ord_w hg
  by_cases h0:plF f k=0
  ·have hk:k=0:=hw.inj k 0 h (by rw [hw.zero,h0])
   rw [hk,pos_zero hw,hw'.zero]
   omega
  obtain⟨p,he,hp0,hp1⟩:=hw.fwd k (by omega)
  exact hw'.next _ _ (prune_rch hg hw' n p hp0 (by omega)) (prune_edg hg hp0 he)
theorem rch_prune(hg:GrW f)(hw':OrdW (pruneM f)){k:Int}(h:0≤plF f k):0≤plF (pruneM f) (posM f k):=prune_rch hg hw' 300 k h (by
 have hw:=ord_w hg
 have h1:=(hw.low k).2
 have h2:=hw.few
 omega)
end
end Go.Proofs.Ytlclgfgmhnmnaaa
namespace Go.Proofs.Ytlclgfgmhnmnaaa
open Go.Av
theorem funcsE_intro:∀{l:List Func},(∀f∈l,checkFuncM f=0)→funcsE l=0
 | [],_=>rfl
 | g::r,h=>by
  unfold funcsE
  rw [orE_zero (h g List.mem_cons_self)]
  exact funcsE_intro fun f hf=>h f (List.mem_cons_of_mem _ hf)
theorem callsI_intro{u:Unt}:∀{l:List Ins},(∀i∈l,callsE u i=0)→callsI u l=0
 | [],_=>rfl
 | g::r,h=>by
  unfold callsI
  rw [orE_zero (h g List.mem_cons_self)]
  exact callsI_intro fun f hf=>h f (List.mem_cons_of_mem _ hf)
theorem callsB_intro{u:Unt}:∀{l:List Block},(∀b∈l,∀i∈b.ins,callsE u i=0)→callsB u l=0
 | [],_=>rfl
 | g::r,h=>by
  unfold callsB
  rw [orE_zero (callsI_intro (h g List.mem_cons_self))]
  exact callsB_intro fun f hf=>h f (List.mem_cons_of_mem _ hf)
theorem callsF_intro{u:Unt}:∀{l:List Func},(∀f∈l,∀b∈f.blocks,∀i∈b.ins,callsE u i=0)→callsF u l=0
 | [],_=>rfl
 | g::r,h=>by
  unfold callsF
  rw [orE_zero (callsB_intro (h g List.mem_cons_self))]
  exact callsF_intro fun f hf=>h f (List.mem_cons_of_mem _ hf)
theorem check_parts{u:Unt}(h:checkM u=0):u.fns.length≠0∧u.fns.length≤256∧within u.main 0 ((u.fns.length:Int) - 1)=true∧(∀f∈u.fns,checkFuncM f=0)∧(blkOf (fnOf u u.main) 0).params.length=0∧callsF u u.fns=0:=by
 unfold checkM at h
 split at h
 ·simp at h
 rename_i h1
 split at h
 ·simp at h
 rename_i h2
 split at h
 ·simp at h
 rename_i h3
 obtain⟨h4,h5⟩:=orE_eq h
 split at h5
 ·simp at h5
 rename_i h6
 exact⟨h1,by omega,by simpa using h3,funcsE_all h4,by omega,h5⟩
theorem check_unit{u:Unt}(h1:u.fns.length≠0)(h2:u.fns.length≤256)(h3:within u.main 0 ((u.fns.length:Int) - 1)=true)(h4:∀f∈u.fns,checkFuncM f=0)(h5:(blkOf (fnOf u u.main) 0).params.length=0)(h6:callsF u u.fns=0):checkM u=0:=by
 unfold checkM
 rw [if_neg h1,if_neg (by omega),if_neg (by simp [h3]),orE_zero (funcsE_intro h4),if_neg (by omega)]
 exact h6
theorem calls_same{u v:Unt}(h1:v.fns.length=u.fns.length)(h2:∀k:Int,0≤k→k<u.fns.length→(blkOf (fnOf v k) 0).params.length=(blkOf (fnOf u k) 0).params.length){i j:Ins}(ho:j.op=i.op)(hn:j.n=i.n)(hl:j.args.length=i.args.length)(h0:i.op=13∨i.op=9→0≤i.n):callsE v j=callsE u i:=by
 unfold callsE
 rw [ho,hn,hl,h1]
 split
 ·rfl
 split
 ·rfl
 rw [h2 i.n (h0 (by omega)) (by omega)]
def pruneU(u:Unt):Unt:=⟨u.fns.map pruneM,u.main⟩
theorem pruneU_fn{u:Unt}{k:Int}(h0:0≤k)(h1:k<u.fns.length):fnOf (pruneU u) k=pruneM (fnOf u k):=by
 unfold fnOf pruneU
 rw [List.getElem?_map,List.getElem?_eq_getElem (by omega)]
 rfl
theorem pruneU_zero{f:Func}(hw:OrdW f):posM f 0=0∧blkOf (pruneM f) 0=renB (atM f) (blkOf f 0):=by
 have h0:=pos_of hw (rch_zero hw)
 have:=prune_of (f:=f) (k:=0) (by rw [hw.zero];omega)
 rw [h0] at this
 exact⟨h0,this⟩
theorem prune_all{f:Func}(hg:GrW f)(hw':OrdW (pruneM f)):(rchS (pruneM f)).length=(pruneM f).blocks.length:=by
 have hw:=ord_w hg
 rw [rch_eq hw',List.filter_eq_self.2,List.length_map,List.length_range]
 intro k hk
 obtain⟨j,hj,rfl⟩:=List.mem_map.1 hk
 have hj:=List.mem_range.1 hj
 rw [prune_len] at hj
 have hb:(rchS f)[j]?=some ((rchS f)[j]'hj):=List.getElem?_eq_getElem _
 have:=rch_prune hg hw' (mem_rchS.1 (List.mem_of_getElem? hb))
 rw [pos_of hw hb] at this
 exact decide_eq_true this
theorem trI_id(i:Ins):trI (fun k=>k) i=i:=by
 unfold trI
 rw [List.map_id']
section
variable {u:Unt} (hfit:u.fit) (hc:checkM u=0)
include hfit hc
theorem pruneU_gr{f:Func}(hf:f∈u.fns):GrW f:=(checkFunc_ok (hfit.2.2 f hf) ((check_parts hc).2.2.2.1 f hf)).gr
theorem pruneU_fit:(pruneU u).fit:=by
 refine⟨hfit.1,by unfold pruneU;rw [List.length_map];exact hfit.2.1,fun g hg=>?_⟩
 obtain⟨f,hf,rfl⟩:=List.mem_map.1 hg
 exact prune_fit (hfit.2.2 f hf) (pruneU_gr hfit hc hf)
theorem pruneU_params{k:Int}(h0:0≤k)(h1:k<u.fns.length):(blkOf (fnOf (pruneU u) k) 0).params=(blkOf (fnOf u k) 0).params:=by
 rw [pruneU_fn h0 h1,(pruneU_zero (ord_w (pruneU_gr hfit hc (fnOf_mem h0 h1)))).2]
 rfl
theorem pruneU_check:checkM (pruneU u)=0:=by
 obtain⟨c1,c2,c3,c4,c5,c6⟩:=check_parts hc
 have hl:(pruneU u).fns.length=u.fns.length:=List.length_map ..
 have hmr:=within_iff.1 c3
 refine check_unit (by rw [hl];exact c1) (by rw [hl];exact c2) (by rw [hl];exact c3) (fun g hg=>?_) (by
  have:=pruneU_params hfit hc (k:=u.main) (by omega) (by omega)
  rw [show(pruneU u).main=u.main from rfl,this]
  exact c5) (callsF_intro fun g hg b hb i hi=>?_)
 ·obtain⟨f,hf,rfl⟩:=List.mem_map.1 hg
  exact prune_check (hfit.2.2 f hf) (c4 f hf)
 obtain⟨f,hf,rfl⟩:=List.mem_map.1 hg
 obtain⟨k,hk,rfl⟩:=List.mem_map.1 hb
 have hw:=ord_w (pruneU_gr hfit hc hf)
 have hkr:=hw.range k (mem_rchS.1 hk)
 have hbm:=List.mem_of_getElem? (blk_at hkr.1 hkr.2)
 have hi':i∈(blkOf f k).ins:=hi
 have hform:=form_ok (((checkFunc_ok (hfit.2.2 f hf) (c4 f hf)).blk _ hbm).forms i hi')
 rw [calls_same (u:=u) hl (fun k h0 h1=>by rw [pruneU_params hfit hc h0 h1]) (i:=i) rfl rfl rfl (fun q=>(hform.call (by omega)).1)]
 exact callsF_all c6 f hf _ hbm i hi'
theorem pruneU_tr:UntTr u (pruneU u) (fun k=>k) (fun _ _=>True) (fun fn b=>0≤plF (fnOf u fn) b) (fun fn b=>posM (fnOf u fn) b) (fun _ _=>[]) 1:=by
 refine⟨List.length_map ..,rfl,fun _ _ _ _ _ h=>h,fun fn h0 h1=>?_,fun fn b h0 h1 hL=>?_⟩
 ·have hw:=ord_w (pruneU_gr hfit hc (fnOf_mem h0 h1))
  exact⟨by rw [hw.zero];omega,(pruneU_zero hw).1,by simp⟩
 have hf:=fnOf_mem h0 h1
 have hg:=pruneU_gr hfit hc hf
 have hw:=ord_w hg
 rw [pruneU_fn h0 h1,prune_of hL]
 generalize fnOf u fn=f at *
 refine⟨⟨by rw [List.map_id'];rfl,fun _ _=>trivial⟩,?_,fun _ _=>⟨trivial,fun _ _=>trivial⟩,fun i hi=>by simp at hi,⟨rfl,rfl,rfl,List.length_map ..⟩,fun _ _=>⟨rfl,trivial⟩,fun k e e' he he'=>?_⟩
 ·show(blkOf f b).ins=[]++(blkOf f b).ins.map (trI fun k=>k)
  rw [List.nil_append]
  conv=>lhs;rw [←List.map_id (blkOf f b).ins]
  exact List.map_congr_left fun i _=>(trI_id i).symm
 rw [renB_to,List.getElem?_map,he] at he'
 simp only [Option.map_some,Option.some.injEq] at he'
 subst he'
 have hem:=List.mem_of_getElem? he
 have hbr:=hw.range b hL
 have hrg:=hg.edges _ (List.mem_of_getElem? (blk_at hbr.1 hbr.2)) e hem
 refine⟨hw.next b e.block hL ⟨e,hem,rfl⟩,fun _ _=>trivial,.inl ⟨at_pos (by omega) hrg.2,by rw [List.map_id'];rfl,by simp⟩⟩
theorem pruneU_law{F:Int}(hF:0≤F∧F≤1000000)(he:(performM u F).e=0):performM (pruneU u) F=performM u F:=by
 have hu:=unit_ok hfit hc
 have hv:=unit_ok (pruneU_fit hfit hc) (pruneU_check hfit hc)
 obtain⟨q1,q2,q3,q4,q5,q6⟩:=perform_rel (pruneU_tr hfit hc) hu hv (Int.le_refl 1) hF hF.2 (by omega) he
 have hn:(performM (pruneU u) F).n=(performM u F).n:=by
  simp only [List.length_nil] at q6
  omega
 generalize performM (pruneU u) F=A at *
 generalize performM u F=B at *
 obtain⟨a1,a2,a3,a4,a5⟩:=A
 obtain⟨b1,b2,b3,b4,b5⟩:=B
 simp only at *
 subst q2 q3 q4 hn
 rw [q1,he]
end
end Go.Proofs.Ytlclgfgmhnmnaaa
namespace Go.Proofs.Ytlclgfgmhnmnaaa
open Go.Av
theorem blC_ren(A:List Int)(id:Nat)(b:Block):blC id (renB A b)=blC id b:=by
 unfold blC
 rw [renB_to,outE_ren]
 rfl
theorem blsC_at:∀{ids:List Nat} {bs:List Block} {k id:Nat} {b:Block},ids[k]?=some id→bs[k]?=some b→((blsC ids bs).drop (k * 7)).take 7=blC id b
 | i::ids,c::bs,0,id,b,h1,h2=>by
  simp only [List.getElem?_cons_zero,Option.some.injEq] at h1 h2
  subst h1
  subst h2
  rfl
 | i::ids,c::bs,k+1,id,b,h1,h2=>by
  have ih:=blsC_at (ids:=ids) (bs:=bs) (k:=k) (by simpa using h1) (by simpa using h2)
  have e:blsC (i::ids) (c::bs)=blC i c++blsC ids bs:=rfl
  have hl:(blC i c).length=7:=rfl
  rw [e,List.drop_append,List.drop_of_length_le (by rw [hl];omega),hl,List.nil_append,show(k+1) * 7 - 7=k * 7 by omega]
  exact ih
 | [],_,k,id,b,h1,_=>by simp at h1
 | i::ids,[],k,id,b,_,h2=>by simp at h2
theorem prC_snoc{f:Func}{A:List Int}{ids:List Nat}{l:List Int}{k id:Nat}{b:Block}(h1:ids[k]?=some id)(h2:f.blocks[k]?=some b) :
  blsC (prI ids (l++[(k:Int)])) (prB f A (l++[(k:Int)]))=blsC (prI ids l) (prB f A l)++blC id b:=by
 have hb:blkOf f (k:Int)=b:=by
  unfold blkOf
  rw [Int.toNat_natCast,h2]
  rfl
 unfold prI prB
 rw [List.map_append,List.map_append]
 simp only [List.map_cons,List.map_nil,Int.toNat_natCast,h1,Option.getD_some,hb]
 rw [blsC_snoc (by simp),blC_ren]
theorem prI_len(ids:List Nat)(l:List Int):(prI ids l).length=l.length:=List.length_map ..
theorem prB_len(f:Func)(A:List Int)(l:List Int):(prB f A l).length=l.length:=List.length_map ..
theorem PrS.start{f:Func}(A:List Int){ids:List Nat}{bid:Nat}{O:List AObj}(hup:∀o∈O,o.upto O.length)(h1:O[1]?=some (.cells [aI 0,.lst 7 [] .ex]))(hb:5≤bid∧O[bid]?=some (.cells (blsC ids f.blocks)))(hc:CpO 5 ids f.blocks O)
  (hne:∀(j id:Nat) (b:Block),ids[j]?=some id→f.blocks[j]?=some b→b.term.to≠[]→id≠bid):PrS f A ids bid O.length [] 0 (O++[AObj.cells [aI f.name,.lst 7 [] .ex]]) where
 up:=fun o ho=>by
  rw [List.length_append,List.length_singleton]
  rcases List.mem_append.1 ho with q | q
  ·exact AObj.upto_mono (by omega) (hup o q)
  rw [List.mem_singleton] at q
  subst q
  exact⟨trivial,⟨trivial,trivial⟩,trivial⟩
 r1:=at_left h1
 x5:=by
  have:=lt_of_getElem? hb.2
  omega
 xb:=by
  have:=lt_of_getElem? hb.2
  omega
 bl:=⟨hb.1,at_left hb.2⟩
 li:=hc.li
 own:=fun j id b q1 q2 q3=>by
  obtain⟨o1,o2⟩:=hc.own j id b q1 q2 q3
  have:=lt_of_getElem? o2
  refine⟨o1,hne j id b q1 q2 q3,by omega,fun q=>absurd rfl q,?_⟩
  rw [if_neg (by simp)]
  exact at_left o2
 inj:=hc.inj
 out:=snoc_get _ _
 lst:=fun q=>absurd rfl q
def mixB:Nat→List Nat→List Block→List AVal
 | 0,ids,bs=>blsC ids bs
 | i+1,_::ids,b::bs=>b.enc.cells++mixB i ids bs
 | _+1,_,_=>[]
theorem mixB_len:∀(i:Nat) {ids:List Nat} {bs:List Block},ids.length=bs.length→(mixB i ids bs).length=bs.length * 7
 | 0,ids,bs,h=>blsC_len h
 | i+1,_::ids,b::bs,h=>by
  have hb:b.enc.cells.length=7:=rfl
  rw [mixB,List.length_append,mixB_len i (by simpa using h),hb,List.length_cons]
  omega
 | i+1,[],[],_=>rfl
 | i+1,[],b::bs,h=>by simp at h
 | i+1,x::ids,[],h=>by simp at h
theorem blC_scalar(id:Nat)(b:Block):∀d∈blC id b,d.scalar:=fun d hd=>by
 simp only [blC,List.mem_cons,List.not_mem_nil,or_false] at hd
 rcases hd with rfl | rfl | rfl | rfl | rfl | rfl | rfl
 ·trivial
 ·trivial
 ·trivial
 ·trivial
 ·trivial
 ·trivial
 unfold outE
 split<;>trivial
theorem mixB_scalar:∀(i:Nat) (ids:List Nat) (bs:List Block),∀d∈mixB i ids bs,d.scalar
 | 0,ids,bs=>fun d hd=>by
  unfold mixB blsC at hd
  obtain⟨l,hl,hd⟩:=List.mem_flatten.1 hd
  obtain⟨j,hj⟩:=List.mem_iff_getElem?.1 hl
  rw [List.getElem?_zipWith] at hj
  cases h1:ids[j]? with
  | none=>rw [h1] at hj;cases hj
  | some id =>
   cases h2:bs[j]? with
   | none=>rw [h1,h2] at hj;cases hj
   | some b =>
    rw [h1,h2] at hj
    simp only [Option.some.injEq] at hj
    subst hj
    exact blC_scalar id b d hd
 | i+1,x::ids,b::bs=>fun d hd=>by
  rw [mixB] at hd
  rcases List.mem_append.1 hd with q | q
  ·simp only [Block.enc,AVal.cells,List.mem_cons,List.not_mem_nil,or_false] at q
   rcases q with rfl | rfl | rfl | rfl | rfl | rfl | rfl<;>trivial
  exact mixB_scalar i ids bs d q
 | i+1,[],[]=>fun d hd=>by cases hd
 | i+1,[],b::bs=>fun d hd=>by cases hd
 | i+1,x::ids,[]=>fun d hd=>by cases hd
theorem mixB_at:∀(i:Nat) {ids:List Nat} {bs:List Block} {id:Nat} {b:Block},ids[i]?=some id→bs[i]?=some b →
  (mixB i ids bs)[i * 7+6]?=some (outE id b.term.to)∧mixB (i+1) ids bs=(mixB i ids bs).set (i * 7+6) (eEdges b.term.to)
 | 0,x::ids,c::bs,id,b,h1,h2=>by
  simp only [List.getElem?_cons_zero,Option.some.injEq] at h1 h2
  subst h1
  subst h2
  exact⟨rfl,rfl⟩
 | i+1,x::ids,c::bs,id,b,h1,h2=>by
  obtain⟨i1,i2⟩:=mixB_at i (ids:=ids) (bs:=bs) (id:=id) (b:=b) (by simpa using h1) (by simpa using h2)
  have hb:c.enc.cells.length=7:=rfl
  have e:mixB (i+1) (x::ids) (c::bs)=c.enc.cells++mixB i ids bs:=rfl
  have e2:mixB (i+1+1) (x::ids) (c::bs)=c.enc.cells++mixB (i+1) ids bs:=rfl
  rw [e,e2,i2]
  refine⟨?_,?_⟩
  ·rw [List.getElem?_append_right (by omega),hb,show(i+1) * 7+6 - 7=i * 7+6 by omega]
   exact i1
  rw [List.set_append_right _ _ (by omega),hb,show(i+1) * 7+6 - 7=i * 7+6 by omega]
 | 0,[],_,id,b,h1,_=>by simp at h1
 | 0,_::_,[],id,b,_,h2=>by simp at h2
 | i+1,[],_,id,b,h1,_=>by simp at h1
 | i+1,_::_,[],id,b,_,h2=>by simp at h2
theorem mixB_all:∀{ids:List Nat} {bs:List Block},ids.length=bs.length→mixB bs.length ids bs=cellsAll (bs.map Block.enc)
 | [],[],_=>rfl
 | x::ids,b::bs,h=>by
  have e:cellsAll ((b::bs).map Block.enc)=b.enc.cells++cellsAll (bs.map Block.enc):=rfl
  rw [e,←mixB_all (ids:=ids) (by simpa using h)]
  rfl
 | [],b::bs,h=>by simp at h
 | x::ids,[],h=>by simp at h
theorem blocks_share(bs:List Block):(cellsAll (bs.map Block.enc)).map AVal.shareCell=cellsAll (bs.map Block.enc):=by
 induction bs with
 | nil=>rfl
 | cons b r ih =>
  have e:cellsAll ((b::r).map Block.enc)=b.enc.cells++cellsAll (r.map Block.enc):=rfl
  rw [e,List.map_append,ih]
  rfl
theorem awp_blocks{P:Program}{kb:Nat}{c:Code}{Q:AEx→St→Prop}{n:Nat}{slots:List (Nat×AVal)}{O:List AObj}{ids:List Nat}{bs:List Block}{X oid:Nat}{name:Int}
  (hl:ids.length=bs.length) (hX:oid≠X) (hout:O[X]?=some (.cells [aI name,.os oid bs.length 7])) (hlst:O[oid]?=some (.cells (blsC ids bs)))
  (hown:∀(j id:Nat) (b:Block),ids[j]?=some id→bs[j]?=some b→b.term.to≠[]→id≠oid∧id≠X∧O[id]?=some (.cells (edC b.term.to)))
  (hinj:∀(i j id:Nat) (b d:Block),ids[i]?=some id→ids[j]?=some id→bs[i]?=some b→bs[j]?=some d→b.term.to≠[]→d.term.to≠[]→i=j)
  (h:∀O',O'.length=O.length→O'[X]?=some (.cells [aI name,eBlocks bs])→AWP P kb c Q ⟨n,slots,O'⟩):AWP P kb c Q ⟨n,slots,O⟩:=by
 refine awp_frzp (A:=oid) (C:=fun i=>mixB i ids bs) (N:=bs.length) (M:=bs.length * 7) (fun i=>i * 7+6) (fun i=>mixB_scalar i ids bs) (fun i=>mixB_len i hl)
  (fun i O=>O[X]?=some (.cells [aI name,.os oid bs.length 7])∧∀(j id:Nat) (b:Block),i≤j→ids[j]?=some id→bs[j]?=some b→b.term.to≠[]→id≠oid∧id≠X∧O[id]?=some (.cells (edC b.term.to)))
  (fun i O hi hA hf=>?_) bs.length 0 O (by omega) hlst ⟨hout,fun j id b _=>hown j id b⟩ (fun O1 hO1 hA hf=>?_)
 ·have hid:ids[i]?=some (ids[i]'(by omega)):=List.getElem?_eq_getElem _
  have hb:bs[i]?=some (bs[i]'hi):=List.getElem?_eq_getElem _
  generalize ids[i]'(by omega)=id at hid
  generalize bs[i]'hi=b at hb
  obtain⟨m1,m2⟩:=mixB_at i hid hb
  by_cases ht:b.term.to=[]
  ·refine .inl ⟨?_,hf.1,fun j id b hij=>hf.2 j id b (by omega)⟩
   have he:eEdges b.term.to=outE id b.term.to:=by
    rw [ht]
    rfl
   show mixB (i+1) ids bs=mixB i ids bs
   rw [m2,he]
   apply List.ext_getElem?
   intro j
   rw [List.getElem?_set]
   split
   ·rename_i e
    rw [←e,if_pos (lt_of_getElem? m1),m1]
   rfl
  obtain⟨o1,o2,o3⟩:=hf.2 i id b (Nat.le_refl _) hid hb ht
  refine .inr ⟨id,.cells (edC b.term.to),.os id b.term.to.length 2,eEdges b.term.to,o1,o3,by simp [AObj.isSpare],trivial,?_,m2,FSub.os (cs:=edC b.term.to) o3 (fun x hx=>by obtain⟨e,_,rfl⟩:=List.mem_map.1 hx;rfl) (by simp) (by rw [List.drop_zero,List.take_of_length_le (by rw [edC_len];omega)];exact edC_share _),?_,fun j id' b' hij h1 h2 h3=>?_⟩
  ·show(mixB i ids bs)[i * 7+6]?=_
   rw [m1]
   exact congrArg some (if_neg ht)
  ·rw [List.getElem?_set_ne (fun e=>hX e),List.getElem?_set_ne (fun e=>o2 e)]
   exact hf.1
  obtain⟨p1,p2,p3⟩:=hf.2 j id' b' (by omega) h1 h2 h3
  refine⟨p1,p2,?_⟩
  rw [List.getElem?_set_ne (fun e=>p1 e.symm),List.getElem?_set_ne (fun e=>?_)]
  ·exact p3
  subst e
  have:=hinj i j id b b' hid h1 hb h2 ht h3
  omega
 rw [mixB_all hl] at hA
 refine awp_freeze_in oid hA (by simp [AObj.isSpare]) trivial slots (fun s z hz=>⟨z,hz,.refl z⟩) X (Ne.symm hX) [aI name,.os oid bs.length 7] [aI name,eBlocks bs] hf.1 rfl (fun d hd=>?_) (fun j a d ha hd=>?_) (h _ (by rw [List.length_set,List.length_set,hO1]) ?_)
 ·simp only [List.mem_cons,List.not_mem_nil,or_false] at hd
  rcases hd with rfl | rfl<;>trivial
 ·match j,ha,hd with
  | 0,ha,hd =>
   simp only [List.getElem?_cons_zero,Option.some.injEq] at ha hd
   subst ha
   subst hd
   exact .refl _
  | 1,ha,hd =>
   simp only [List.getElem?_cons_succ,List.getElem?_cons_zero,Option.some.injEq] at ha hd
   subst ha
   subst hd
   refine FSub.os hA (fun x hx=>?_) (by simp) ?_
   ·obtain⟨b,_,rfl⟩:=List.mem_map.1 hx
    rfl
   have hml:=mixB_len bs.length hl
   rw [mixB_all hl] at hml
   rw [List.drop_zero,List.take_of_length_le (by omega)]
   exact blocks_share bs
  | j+2,ha,hd=>simp at ha
 rw [List.getElem?_set_self (by rw [List.length_set];exact lt_of_getElem? hf.1)]
theorem aI_shares(l:List Int):(l.map aI).map AVal.share=l.map aI:=by
 rw [List.map_map]
 rfl
theorem clone_spec(l:List Int)(hl:l.length≤2 ^ 43):PCall Try.prog 66 [eIs l] (eIs l):=by
 have hs:=aI_shares l
 refine zf true 0 Try.func66 Try.ntmps66 ?_
 dsimp only [Tmp,TypeId,slotsOf]
 refine zh1 (za0 ?_)
 refine awp_nil2 0 rfl (fun hn=>?_) ?_
 ·simp -dsimp only [simprocAttr,↓vpre,zp]
  refine zh2 (za0 ?_)
  refine zw0 rfl ?_
  refine zh1 (za0 ?_)
  refine awp_ret ?_
  simp -dsimp only [simprocAttr,↓vpre,zp,zr,Try.results66]
  exact⟨trivial,by show AVal.lst 1 [] Own.sh=.lst 1 (l.map aI) .sh;rw [hn]⟩
 simp -dsimp only [simprocAttr,↓vpre,zp]
 refine zh2 (za0 ?_)
 refine zu0 rfl ?_
 refine zb0 ?_
 refine zg1 ?_
 simp -dsimp only [simprocAttr,↓vpre,zp,hs]
 repeat(refine⟨by omega,?_⟩)
 refine za0 ?_
 refine awp_ret ?_
 simp -dsimp only [simprocAttr,↓vpre,zp,zr,Try.results66]
structure Cx where
 k:Nat
 bid:Nat
 ids:List Nat
 O:List AObj
structure Ci where
 j:Nat
 O:List AObj
structure Ce where
 z:Nat
 tid:Nat
 O:List AObj
theorem ins_take{l:List Ins}{j:Nat}{i:Ins}(h:l[j]?=some i):(l.take (j+1)).map Ins.enc=(l.take j).map Ins.enc++[i.enc]:=by
 rw [List.take_add_one,h,List.map_append]
 rfl
theorem own_norm(O:List AObj)(C0:List AVal):(O++[AObj.cells C0]++[AObj.spare 0]).set O.length (.cells (C0.set 1 (.lst 4 [] (.tok (O++[AObj.cells C0]).length))))=O++[.cells (C0.set 1 (.lst 4 [] (.tok (O.length+1)))),.spare 0]:=by simp
abbrev bcC0(id:Nat)(b:Block)(l:List AVal)(t:AVal):List AVal:=[eIs b.params,.lst 4 l (.tok id),aI b.term.kind,aI b.term.arg,aI b.term.n,eIs b.term.cases,t]
abbrev bcC(id:Nat)(b:Block)(l:List Ins)(t:AVal):List AVal:=[eIs b.params,.lst 4 (l.map Ins.enc) (.tok id),aI b.term.kind,aI b.term.arg,aI b.term.n,eIs b.term.cases,t]
theorem bcC_upto{n id:Nat}(b:Block)(l:List Ins){t:AVal}(h:id<n)(ht:t.upto n):uptoL n (bcC id b l t):=⟨⟨aI_upto _ _,trivial⟩,⟨Ins.map_upto _ _,h⟩,trivial,trivial,trivial,⟨aI_upto _ _,trivial⟩,ht,trivial⟩
theorem copy_spec(f:Func)(hs:SmW f)(hne:f.blocks≠[]):ECall Try.prog 39 [.gone,.cells [aI 0,.lst 7 [] .ex]] [f.enc] (CpR f):=by
 have hcl:=fun(l:List Int) (h:l.length≤4096)=>clone_spec l (by omega)
 have hS0:=copy_start f
 have hn:=hs.few
 obtain⟨N,hN⟩:∃N,N=f.blocks.length:=⟨_,rfl⟩
 rw [←hN] at hn
 refine ecall_all hT Try.func39 rfl (by kernel_rfl) (by simp [Try.ntmps39]) ?_
 show AWP Try.prog _ _ _ ⟨83,_,_⟩
 dsimp only [Tmp,TypeId,slotsOf]
 refine zh1 (za0 ?_)
 refine awp_freeze1 1 2 (.ip none [aI f.name,eBlocks f.blocks]) rfl (by simp [AObj.isSpare]) trivial rfl ?_ ?_
 rotate_left
 simp -dsimp only [simprocAttr,↓vpre,zp]
 ·refine zh1 (za0 ?_)
  refine zg2 ?_
  simp -dsimp only [simprocAttr,↓vpre,zp,←hN]
  refine za0 ?_
  show AWP Try.prog _ _ _ ⟨_,_,[.gone,.cells [aI 0,.lst 7 [] .ex],.gone,.cells [aI 0,.lst 7 [] .ex],.cells [aI f.name,.lst 7 [] .ex]]⟩
  generalize [AObj.gone,.cells [aI 0,.lst 7 [] .ex],.gone,.cells [aI 0,.lst 7 [] .ex],.cells [aI f.name,.lst 7 [] .ex]]=O0 at *
  refine awp_block (awp_loop (ι:={X:Cx // X.k≤N∧CpS f (f.blocks.take X.k) X.bid X.ids X.O}) (fun X=>⟨83,[(1,.ip none [aI f.name,eBlocks f.blocks]),(2,.mp 3 0),(3,.mp 4 0),(15,eBlocks f.blocks),(16,aI N),(17,aI X.1.k)],X.1.O⟩) (fun X=>N - X.1.k) ⟨⟨0,0,[],O0⟩,by simp,hS0⟩ ?_ ?_)
  ·refine zq rfl ?_ ?_
   simp -dsimp only [simprocAttr,↓vpre,zp,zc]
   all_goals rfl
  rintro⟨⟨k,bid,ids,O⟩,hk,hS⟩
  simp only at hk hS
  refine zh1 (za0 ?_)
  apply zk1 rfl<;>intro h
  ·refine zb0 ?_
   have hlt:k<N:=by simpa using h
   obtain⟨b,hb⟩:∃b,f.blocks[k]?=some b:=⟨f.blocks[k]'(by omega),List.getElem?_eq_getElem _⟩
   have hbm:=List.mem_of_getElem? hb
   have htk:f.blocks.take (k+1)=f.blocks.take k++[b]:=by rw [List.take_add_one,hb];rfl
   have hbp:=hs.params b hbm
   have hbi:=hs.ins b hbm
   have hba:=hs.iargs b hbm
   have hbc:=hs.cases b hbm
   have hbt:=hs.to b hbm
   have hbe:=hs.eargs b hbm
   have hcp:=hcl b.params (by omega)
   have hcc:=hcl b.term.cases (by omega)
   have h3l:=lt_of_getElem? hS.r3
   have h4l:=lt_of_getElem? hS.out
   refine awp_seq (awp_block ?_)
   refine zg1 ?_
   simp -dsimp only [simprocAttr,↓vpre,zp,hb]
   refine za0 ?_
   refine awp_local 5 ([eIs b.params,eInss b.ins,aI b.term.kind,aI b.term.arg,aI b.term.n,eIs b.term.cases,eEdges b.term.to]) [(1,.ip none [aI f.name,eBlocks f.blocks]),(2,.mp 3 0),(3,.mp 4 0),(15,eBlocks f.blocks),(16,aI N),(17,aI k),(5,.ip none [eIs b.params,eInss b.ins,aI b.term.kind,aI b.term.arg,aI b.term.n,eIs b.term.cases,eEdges b.term.to])] (by simp [putS,dropS,Go.Av.look]) (by rfl) (by omega) (by simp [putS,dropS,Go.Av.look]) ?_ ?_ ?_
   ·exact hS.up
   ·simp [AVal.upto,uptoL,aI_upto,Edge.map_upto,Ins.map_upto,Block.map_upto,h3l,h4l]
   refine zh1 ?_
   refine zi hcp ?_
   refine⟨ob (by kernel_rfl),?_⟩
   refine za0 ?_
   refine awp_ownCell O.length 1 (sz:=4) (xs:=[]) (snoc_get _ _) rfl ?_
   show AWP Try.prog _ _ _ ⟨_,_,(O++[AObj.cells [eIs b.params,.lst 4 [] .ex,aI b.term.kind,aI b.term.arg,aI b.term.n,eIs b.term.cases,eEdges b.term.to]]++[AObj.spare 0]).set O.length (.cells ([eIs b.params,.lst 4 [] .ex,aI b.term.kind,aI b.term.arg,aI b.term.n,eIs b.term.cases,eEdges b.term.to].set 1 (.lst 4 [] (.tok (O++[AObj.cells [eIs b.params,.lst 4 [] .ex,aI b.term.kind,aI b.term.arg,aI b.term.n,eIs b.term.cases,eEdges b.term.to]]).length))))⟩
   rw [own_norm]
   have hI:=CpI.start hS.up (cs:=bcC (O.length+1) b [] (eEdges b.term.to)) (bcC_upto b [] (by omega) ⟨Edge.map_upto _ _,trivial⟩)
   show AWP Try.prog _ _ _ ⟨_,_,O++[AObj.cells (bcC (O.length+1) b [] (eEdges b.term.to)),.spare 0]⟩
   generalize O++[AObj.cells (bcC (O.length+1) b [] (eEdges b.term.to)),.spare 0]=O2 at *
   refine zh2 (za0 ?_)
   refine awp_block (awp_loop (ι:={X:Ci // X.j≤b.ins.length∧CpI O (bcC (O.length+1) b (b.ins.take X.j) (eEdges b.term.to)) X.j X.O}) (fun X=>⟨83,[(1,.ip none [aI f.name,eBlocks f.blocks]),(2,.mp 3 0),(3,.mp 4 0),(15,eBlocks f.blocks),(16,aI N),(17,aI k),(5,.ip none [eIs b.params,eInss b.ins,aI b.term.kind,aI b.term.arg,aI b.term.n,eIs b.term.cases,eEdges b.term.to]),(6,.mp O.length 0),(28,eInss b.ins),(29,aI b.ins.length),(30,aI X.1.j)],X.1.O⟩) (fun X=>b.ins.length - X.1.j) ⟨⟨0,O2⟩,by simp,hI⟩ ?_ ?_)
   ·refine zq rfl ?_ ?_
    simp -dsimp only [simprocAttr,↓vpre,zp,zc]
    all_goals rfl
   rintro⟨⟨j,O2⟩,hj,hI⟩
   simp only at hj hI
   have hI2:=hI.len
   refine zh1 (za0 ?_)
   apply zk1 rfl<;>intro h
   ·refine zb0 ?_
    have hlj:j<b.ins.length:=by simpa using h
    obtain⟨i,hi⟩:∃i,b.ins[j]?=some i:=⟨b.ins[j],by simp [hlj]⟩
    have hci:=hcl i.args (by have:=hba i (List.mem_of_getElem? hi);omega)
    have hcell:=hI.cell
    have hsp:=hI.sp
    have htl:(b.ins.take j).length=j:=by rw [List.length_take];omega
    refine awp_seq (awp_block ?_)
    refine zg1 ?_
    simp -dsimp only [simprocAttr,↓vpre,zp,hi]
    refine za0 ?_
    refine zh1 ?_
    refine zi hci ?_
    refine za0 ?_
    refine awp_local 8 ([aI i.to,aI i.op,aI i.n,eIs i.args]) [(1,.ip none [aI f.name,eBlocks f.blocks]),(2,.mp 3 0),(3,.mp 4 0),(15,eBlocks f.blocks),(16,aI N),(17,aI k),(5,.ip none [eIs b.params,eInss b.ins,aI b.term.kind,aI b.term.arg,aI b.term.n,eIs b.term.cases,eEdges b.term.to]),(6,.mp O.length 0),(28,eInss b.ins),(29,aI b.ins.length),(30,aI j),(8,.ip none [aI i.to,aI i.op,aI i.n,eIs i.args])] (by simp [putS,dropS,Go.Av.look]) (by rfl) (by omega) (by simp [putS,dropS,Go.Av.look]) ?_ ?_ ?_
    ·exact hI.up
    ·have h6l:=lt_of_getElem? hcell
     simp [AVal.upto,uptoL,aI_upto,Edge.map_upto,Ins.map_upto,Block.map_upto,h6l,show 3<O2.length by omega,show 4<O2.length by omega]
    have hcell':∀y,(O2.set (O.length+1) y)[O.length]?=some (.cells (bcC (O.length+1) b (b.ins.take j) (eEdges b.term.to))):=fun y=>by rw [List.getElem?_set_ne (by omega)];exact hcell
    refine zg0 ?_
    simp -dsimp only [simprocAttr,↓vpre,zp,hcell,hcell',hsp,bcC,List.length_map,htl]
    repeat(refine⟨by omega,?_⟩)
    refine za0 ?_
    have hIn:=(hI.room (j+1)).one (cs':=bcC (O.length+1) b (b.ins.take (j+1)) (eEdges b.term.to)) (bcC_upto b _ (by omega) ⟨Edge.map_upto _ _,trivial⟩)
    show AWP Try.prog _ _ _ ⟨_,_,(O2.set (O.length+1) (AObj.spare (j+1))).set O.length (.cells (bcC0 (O.length+1) b ((b.ins.take j).map Ins.enc++[i.enc]) (eEdges b.term.to)))⟩
    rw [←ins_take hi]
    have hIn:CpI O _ _ ((O2.set (O.length+1) (AObj.spare (j+1))).set O.length (.cells (bcC0 (O.length+1) b ((b.ins.take (j+1)).map Ins.enc) (eEdges b.term.to)))):=hIn
    generalize (O2.set (O.length+1) (AObj.spare (j+1))).set O.length (.cells (bcC0 (O.length+1) b ((b.ins.take (j+1)).map Ins.enc) (eEdges b.term.to)))=O5 at *
    refine zh0 ?_
    repeat(refine⟨by omega,?_⟩)
    refine zl0 ?_
    refine⟨⟨⟨j+1,O5⟩,hlj,hIn⟩,by simp;omega,?_⟩
    refine zq rfl ?_ ?_
    simp -dsimp only [simprocAttr,↓vpre,zp,zc]
    ·exact Sub.int (by simp)
    rfl
   refine awp_exit ?_
   simp -dsimp only [vend,ne_eq,Nat.reduceEqDiff,reduceCtorEq]
   have hjl:b.ins.length≤j:=by
    have:=of_decide_eq_false h
    omega
   rw [List.take_of_length_le hjl] at hI
   have hcell:=hI.cell
   refine zg1 ?_
   simp -dsimp only [simprocAttr,↓vpre,zp,hcell]
   refine .inl ⟨_,hcc,by simp only [uptoL,AVal.upto,zt,zu,aI_upto],later_intro ?_⟩
   simp -dsimp only [simprocAttr,↓vpre,zp,hcell]
   refine za0 ?_
   have hIn:=hI.one (cs':=bcC (O.length+1) b b.ins (eEdges b.term.to)) (bcC_upto b _ (by omega) ⟨Edge.map_upto _ _,trivial⟩)
   show AWP Try.prog _ _ _ ⟨_,_,O2.set O.length (.cells (bcC (O.length+1) b b.ins (eEdges b.term.to)))⟩
   generalize O2.set O.length (.cells (bcC (O.length+1) b b.ins (eEdges b.term.to)))=O5 at *
   have hcell:=hIn.cell
   refine zg1 ?_
   simp -dsimp only [simprocAttr,↓vpre,zp,hcell]
   refine za0 ?_
   have h2l:=hIn.len
   have hnil:bcC (O.length+1) b b.ins (.lst 2 [] .ex)=[eIs b.params,.lst 4 (b.ins.map Ins.enc) (.tok (O.length+1)),aI b.term.kind,aI b.term.arg,aI b.term.n,eIs b.term.cases,.lst 2 [] .ex]:=rfl
   refine awp_retell2 O.length (bcC (O.length+1) b b.ins (.lst 2 [] .ex)) (List.getElem?_set_self (by omega)) rfl (fun d hd=>?_) (fun j c d hc hd=>?_) ?_
   ·simp only [bcC,bcC0,List.mem_cons,List.not_mem_nil,or_false] at hd
    rcases hd with rfl | rfl | rfl | rfl | rfl | rfl | rfl<;>trivial
   ·match j,hc,hd with
    | 0,hc,hd=>exact Sub.of_eq (by simpa [bcC,bcC0] using hc.symm.trans hd)
    | 1,hc,hd=>exact Sub.of_eq (by simpa [bcC,bcC0] using hc.symm.trans hd)
    | 2,hc,hd=>exact Sub.of_eq (by simpa [bcC,bcC0] using hc.symm.trans hd)
    | 3,hc,hd=>exact Sub.of_eq (by simpa [bcC,bcC0] using hc.symm.trans hd)
    | 4,hc,hd=>exact Sub.of_eq (by simpa [bcC,bcC0] using hc.symm.trans hd)
    | 5,hc,hd=>exact Sub.of_eq (by simpa [bcC,bcC0] using hc.symm.trans hd)
    | 6,hc,hd =>
     simp only [bcC,bcC0,List.getElem?_cons_succ,List.getElem?_cons_zero,Option.some.injEq] at hc hd
     subst hc
     subst hd
     exact Sub.nil_lst 2
    | j+7,hc,hd=>simp at hc
   rw [List.set_set]
   have hE:=CpE.start (cs:=bcC (O.length+1) b b.ins) (hIn.one (cs':=bcC (O.length+1) b b.ins (.lst 2 [] .ex)) (bcC_upto b _ (by omega) ⟨trivial,trivial⟩))
   generalize O5.set O.length (.cells (bcC (O.length+1) b b.ins (.lst 2 [] .ex)))=O6 at *
   refine zh2 (za0 ?_)
   refine awp_block (awp_loop (ι:={X:Ce // X.z≤b.term.to.length∧CpE O (bcC (O.length+1) b b.ins) X.tid (b.term.to.take X.z) X.O}) (fun X=>⟨83,[(1,.ip none [aI f.name,eBlocks f.blocks]),(2,.mp 3 0),(3,.mp 4 0),(15,eBlocks f.blocks),(16,aI N),(17,aI k),(5,.ip none [eIs b.params,eInss b.ins,aI b.term.kind,aI b.term.arg,aI b.term.n,eIs b.term.cases,eEdges b.term.to]),(6,.mp O.length 0),(55,eEdges b.term.to),(56,aI b.term.to.length),(57,aI X.1.z)],X.1.O⟩) (fun X=>b.term.to.length - X.1.z) ⟨⟨0,0,O6⟩,by simp,hE⟩ ?_ ?_)
   ·refine zq rfl ?_ ?_
    simp -dsimp only [simprocAttr,↓vpre,zp,zc]
    all_goals rfl
   rintro⟨⟨z,tid,O3⟩,hz,hE⟩
   simp only at hz hE
   have hE2:=hE.len
   refine zh1 (za0 ?_)
   apply zk1 rfl<;>intro h
   ·refine zb0 ?_
    have hlz:z<b.term.to.length:=by simpa using h
    obtain⟨e,he⟩:∃e,b.term.to[z]?=some e:=⟨b.term.to[z],by simp [hlz]⟩
    have hce:=hcl e.args (hbe e (List.mem_of_getElem? he))
    have hcell:=hE.cell
    have hti:b.term.to.take (z+1)=b.term.to.take z++[e]:=by rw [List.take_add_one,he];rfl
    have htl:(b.term.to.take z).length=z:=by rw [List.length_take];omega
    have h6l:=lt_of_getElem? hcell
    refine awp_seq (awp_block ?_)
    refine zg1 ?_
    simp -dsimp only [simprocAttr,↓vpre,zp,he]
    refine za0 ?_
    refine awp_local 10 ([aI e.block,eIs e.args]) [(1,.ip none [aI f.name,eBlocks f.blocks]),(2,.mp 3 0),(3,.mp 4 0),(15,eBlocks f.blocks),(16,aI N),(17,aI k),(5,.ip none [eIs b.params,eInss b.ins,aI b.term.kind,aI b.term.arg,aI b.term.n,eIs b.term.cases,eEdges b.term.to]),(6,.mp O.length 0),(55,eEdges b.term.to),(56,aI b.term.to.length),(57,aI z),(10,.ip none [aI e.block,eIs e.args])] (by simp [putS,dropS,Go.Av.look]) (by rfl) (by omega) (by simp [putS,dropS,Go.Av.look]) ?_ ?_ ?_
    ·exact hE.up
    ·simp [AVal.upto,uptoL,aI_upto,Edge.map_upto,Ins.map_upto,Block.map_upto,h6l,show 3<O3.length by omega,show 4<O3.length by omega]
    by_cases hzn:b.term.to.take z=[]
    ·have hox:outX tid (b.term.to.take z)=.lst 2 [] .ex:=if_pos hzn
     rw [hox] at hcell
     have hcell':∀X,(O3++X)[O.length]?=some (.cells (bcC (O.length+1) b b.ins (.lst 2 [] .ex))):=fun X=>at_left hcell
     refine zs0 ?_
     simp -dsimp only [simprocAttr,↓vpre,zp,hcell,hcell',bcC,cellsAll_v,cells_os']
     repeat(refine⟨by omega,?_⟩)
     refine .inl ⟨_,hce,by simp only [uptoL,AVal.upto,zt,zu,aI_upto],later_intro ?_⟩
     simp -dsimp only [simprocAttr,↓vpre,zp,hcell,hcell',bcC,cellsAll_v,cells_os']
     repeat(refine⟨by omega,?_⟩)
     refine⟨trivial,?_⟩
     refine⟨ob (by kernel_rfl),?_⟩
     refine za0 ?_
     have hput:CpE O (bcC (O.length+1) b b.ins) O3.length (b.term.to.take z++[e]) ((O3++[AObj.cells [aI e.block,eIs e.args]]).set O.length (.cells (bcC (O.length+1) b b.ins (.os O3.length 1 2)))):=hE.push e (fun v n hv hn=>bcC_upto b _ (by omega) hv) rfl hE.up (fun _ _=>rfl) (by rw [hzn];rfl) (by rw [hzn];rfl)
     show AWP Try.prog _ _ _ ⟨_,_,(O3++[AObj.cells [aI e.block,eIs e.args]]).set O.length (.cells (bcC (O.length+1) b b.ins (.os O3.length 1 2)))⟩
     generalize (O3++[AObj.cells [aI e.block,eIs e.args]]).set O.length (.cells (bcC (O.length+1) b b.ins (.os O3.length 1 2)))=O7 at *
     refine zh0 ?_
     repeat(refine⟨by omega,?_⟩)
     refine zl0 ?_
     refine⟨⟨⟨z+1,O3.length,O7⟩,hlz,by rw [hti];exact hput⟩,by simp;omega,?_⟩
     refine zq rfl ?_ ?_
     simp -dsimp only [simprocAttr,↓vpre,zp,zc]
     ·exact Sub.int (by simp)
     rfl
    obtain⟨o1,o2⟩:=hE.own hzn
    have hox:outX tid (b.term.to.take z)=.os tid z 2:=by
     unfold outX
     rw [if_neg hzn,htl]
    rw [hox] at hcell
    have hcell':∀X,(O3.set tid .gone++X)[O.length]?=some (.cells (bcC (O.length+1) b b.ins (.os tid z 2))):=fun X=>at_left (at_set_ne hcell (by omega))
    have hTT:(edC (b.term.to.take z)).take (z * 2)=edC (b.term.to.take z):=List.take_of_length_le (by rw [edC_len];omega)
    have hel:=edC_len (b.term.to.take z)
    rw [htl] at hel
    refine zg0 ?_
    simp -dsimp only [simprocAttr,↓vpre,zp,hcell,hcell',bcC,o2,hTT,hel,cellsAll_v,cells_os']
    repeat(refine⟨by omega,?_⟩)
    refine .inl ⟨_,hce,by simp only [uptoL,AVal.upto,zt,zu,aI_upto],later_intro ?_⟩
    simp -dsimp only [simprocAttr,↓vpre,zp,hcell,hcell',bcC,o2,hTT,hel,cellsAll_v,cells_os']
    repeat(refine⟨by omega,?_⟩)
    refine⟨trivial,?_⟩
    refine⟨ob (by kernel_rfl),?_⟩
    refine za0 ?_
    have hput:CpE O (bcC (O.length+1) b b.ins) O3.length (b.term.to.take z++[e]) ((O3.set tid .gone++[AObj.cells (edC (b.term.to.take z)++[aI e.block,eIs e.args])]).set O.length (.cells (bcC (O.length+1) b b.ins (.os O3.length (z+1) 2)))):=hE.push (O4:=O3.set tid .gone) e (fun v n hv hn=>bcC_upto b _ (by omega) hv) (List.length_set) (uptoO_set hE.up trivial) (fun k hk=>by rw [List.getElem?_set_ne (Ne.symm (hk hzn))]) (by rw [edC_snoc]) (by rw [htl])
    show AWP Try.prog _ _ _ ⟨_,_,(O3.set tid .gone++[AObj.cells (edC (b.term.to.take z)++[aI e.block,eIs e.args])]).set O.length (.cells (bcC (O.length+1) b b.ins (.os O3.length (z+1) 2)))⟩
    generalize (O3.set tid .gone++[AObj.cells (edC (b.term.to.take z)++[aI e.block,eIs e.args])]).set O.length (.cells (bcC (O.length+1) b b.ins (.os O3.length (z+1) 2)))=O7 at *
    refine zh0 ?_
    repeat(refine⟨by omega,?_⟩)
    refine zl0 ?_
    refine⟨⟨⟨z+1,O3.length,O7⟩,hlz,by rw [hti];exact hput⟩,by simp;omega,?_⟩
    refine zq rfl ?_ ?_
    simp -dsimp only [simprocAttr,↓vpre,zp,zc]
    ·exact Sub.int (by simp)
    rfl
   refine awp_exit ?_
   simp -dsimp only [vend,ne_eq,Nat.reduceEqDiff,reduceCtorEq]
   have hzl:b.term.to.length≤z:=by
    have:=of_decide_eq_false h
    omega
   rw [List.take_of_length_le hzl] at hE
   have hcell:=hE.cell
   have hout:=hS.out
   have ho4:=hE.keep 4 (by omega)
   rw [hout] at ho4
   have htkl:(f.blocks.take k).length=k:=by rw [List.length_take];omega
   have hown:=hE.own
   have h6l:=lt_of_getElem? hcell
   by_cases hdn:f.blocks.take k=[]
   ·have hob:outBl bid (f.blocks.take k)=.lst 7 [] .ex:=if_pos hdn
    rw [hob] at ho4
    have ho4':∀X,(O3++X)[4]?=some (.cells [aI f.name,.lst 7 [] .ex]):=fun X=>at_left ho4
    refine zs0 ?_
    simp -dsimp only [simprocAttr,↓vpre,zp,hcell,bcC,ho4,ho4',cellsAll_v,cells_os',outX_share,outE_share]
    repeat(refine⟨by omega,?_⟩)
    refine⟨trivial,?_⟩
    refine za0 ?_
    have hput:CpS f (f.blocks.take k++[b]) O3.length (ids++[tid]) ((O3++[AObj.cells (blC tid b)]).set 4 (.cells [aI f.name,.os O3.length 1 7])):=hS.snoc (by omega) hE.up (fun k hk _=>hE.keep k hk) (fun q=>⟨by have:=(hown q).1;omega,(hown q).2⟩) (by rw [blsC_snoc hS.cp.li,hdn];simp [blsC]) (by rw [hdn];rfl)
    show AWP Try.prog _ _ _ ⟨_,_,(O3++[AObj.cells (blC tid b)]).set 4 (.cells [aI f.name,.os O3.length 1 7])⟩
    generalize (O3++[AObj.cells (blC tid b)]).set 4 (.cells [aI f.name,.os O3.length 1 7])=O7 at *
    refine zh0 ?_
    repeat(refine⟨by omega,?_⟩)
    refine zl0 ?_
    refine⟨⟨⟨k+1,O3.length,ids++[tid],O7⟩,hlt,by rw [htk];exact hput⟩,by simp;omega,?_⟩
    refine zq rfl ?_ ?_
    simp -dsimp only [simprocAttr,↓vpre,zp,zc]
    ·exact Sub.int (by simp)
    rfl
   obtain⟨b1,b2⟩:=hS.blk hdn
   have hbl:=lt_of_getElem? b2
   have b3:=hE.keep bid hbl
   rw [b2] at b3
   have hob:outBl bid (f.blocks.take k)=.os bid k 7:=by
    unfold outBl
    rw [if_neg hdn,htkl]
   rw [hob] at ho4
   have ho4':∀X,(O3.set bid .gone++X)[4]?=some (.cells [aI f.name,.os bid k 7]):=fun X=>at_left (at_set_ne ho4 (by omega))
   have hbll:=blsC_len hS.cp.li
   rw [htkl] at hbll
   have hTT:(blsC ids (f.blocks.take k)).take (k * 7)=blsC ids (f.blocks.take k):=List.take_of_length_le (by omega)
   refine zg0 ?_
   simp -dsimp only [simprocAttr,↓vpre,zp,hcell,bcC,ho4,ho4',b3,hTT,hbll,cellsAll_v,cells_os',outX_share,outE_share]
   repeat(refine⟨by omega,?_⟩)
   refine⟨trivial,?_⟩
   refine za0 ?_
   have hput:CpS f (f.blocks.take k++[b]) O3.length (ids++[tid]) ((O3.set bid .gone++[AObj.cells (blsC ids (f.blocks.take k)++blC tid b)]).set 4 (.cells [aI f.name,.os O3.length (k+1) 7])):=by
    have:=hS.snoc (O1:=O3.set bid .gone) (b:=b) (tid:=tid) (by rw [List.length_set];omega) (by rw [List.length_set];exact uptoO_set hE.up trivial) (fun k hk hkb=>by rw [List.getElem?_set_ne (Ne.symm (hkb hdn))];exact hE.keep k hk) (fun q=>⟨by have:=(hown q).1;omega,by rw [List.getElem?_set_ne (by have:=(hown q).1;omega)];exact(hown q).2⟩) (blsC_snoc hS.cp.li tid b).symm rfl
    rw [List.length_set,htkl] at this
    exact this
   show AWP Try.prog _ _ _ ⟨_,_,(O3.set bid .gone++[AObj.cells (blsC ids (f.blocks.take k)++blC tid b)]).set 4 (.cells [aI f.name,.os O3.length (k+1) 7])⟩
   generalize (O3.set bid .gone++[AObj.cells (blsC ids (f.blocks.take k)++blC tid b)]).set 4 (.cells [aI f.name,.os O3.length (k+1) 7])=O7 at *
   refine zh0 ?_
   repeat(refine⟨by omega,?_⟩)
   refine zl0 ?_
   refine⟨⟨⟨k+1,O3.length,ids++[tid],O7⟩,hlt,by rw [htk];exact hput⟩,by simp;omega,?_⟩
   refine zq rfl ?_ ?_
   simp -dsimp only [simprocAttr,↓vpre,zp,zc]
   ·exact Sub.int (by simp)
   rfl
  refine awp_exit ?_
  simp -dsimp only [vend,ne_eq,Nat.reduceEqDiff,reduceCtorEq]
  have hkN:k=N:=by
   have:=of_decide_eq_false h
   omega
  subst hkN
  rw [List.take_of_length_le (by omega)] at hS
  have hout:=hS.out
  have hr3:=hS.r3
  have hob:outBl bid f.blocks=.os bid f.blocks.length 7:=if_neg hne
  rw [hob] at hout
  have hbl:=lt_of_getElem? (hS.blk hne).2
  have hR:=hS.done hne (cs:=[aI f.name,.os bid f.blocks.length 7]) ⟨trivial,hbl,trivial⟩
  have h3l:=lt_of_getElem? hr3
  have hr3':(O.set 3 (.cells [aI f.name,.os bid f.blocks.length 7]))[3]?=some (.cells [aI f.name,.os bid f.blocks.length 7]):=List.getElem?_set_self h3l
  refine zg1 ?_
  simp -dsimp only [simprocAttr,↓vpre,zp,hout,hr3]
  refine za0 ?_
  refine awp_ret ?_
  simp -dsimp only [simprocAttr,↓vpre,zp,RetAll,Try.results39,retVals,retVal,mkRet,seqPost_ret,blockPost_ret,loopPost_ret,hr3']
  exact hR
 exact FSub.mp rfl rfl
end Go.Proofs.Ytlclgfgmhnmnaaa
namespace Go.Proofs.Ytlclgfgmhnmnaaa
open Go.Av Go.Sort
def lays189_ren:Go.Shelf.Ren:=⟨fun | 125=>87 | 128=>115 | 129=>116 | 189=>57 | 215=>123 | 216=>96 | 257=>86 | 294=>107 | 295=>108 | 296=>109 | 297=>110 | 298=>111 | 299=>112 | 300=>113 | 301=>114 | 328=>133 | 329=>134 | 330=>135 | 331=>136 | 332=>137 | 343=>145 | n=>n,fun | 0=>0 | 3=>3 | 4=>4 | 5=>5 | 9=>9 | 28=>45 | 46=>144 | 51=>186 | 53=>151 | 131=>115 | 182=>180 | 183=>181 | 218=>198 | 222=>202 | 228=>207 | 229=>208 | n=>n,fun n=>n⟩
theorem lays189:Go.Proofs.Lays.n189 Try.prog lays189_ren:={
 mixed:=by kernel_rfl,
 f125:=Try.func87.trans (congrArg some (by kernel_rfl)),
 f128:=Try.func115.trans (congrArg some (by kernel_rfl)),
 f129:=Try.func116.trans (congrArg some (by kernel_rfl)),
 f189:=Try.func57.trans (congrArg some (by kernel_rfl)),
 f215:=Try.func123.trans (congrArg some (by kernel_rfl)),
 f216:=Try.func96.trans (congrArg some (by kernel_rfl)),
 f257:=Try.func86.trans (congrArg some (by kernel_rfl)),
 f294:=Try.func107.trans (congrArg some (by kernel_rfl)),
 f295:=Try.func108.trans (congrArg some (by kernel_rfl)),
 f296:=Try.func109.trans (congrArg some (by kernel_rfl)),
 f297:=Try.func110.trans (congrArg some (by kernel_rfl)),
 f298:=Try.func111.trans (congrArg some (by kernel_rfl)),
 f299:=Try.func112.trans (congrArg some (by kernel_rfl)),
 f300:=Try.func113.trans (congrArg some (by kernel_rfl)),
 f301:=Try.func114.trans (congrArg some (by kernel_rfl)),
 f328:=Try.func133.trans (congrArg some (by kernel_rfl)),
 f329:=Try.func134.trans (congrArg some (by kernel_rfl)),
 f330:=Try.func135.trans (congrArg some (by kernel_rfl)),
 f331:=Try.func136.trans (congrArg some (by kernel_rfl)),
 f332:=Try.func137.trans (congrArg some (by kernel_rfl)),
 f343:=Try.func145.trans (congrArg some (by kernel_rfl)),
 t0:=Try.underlying0,
 a0:=Try.isAgg0,
 z0:=Try.sizeOf0,
 v0:=Try.zeroValue0,
 t3:=Try.underlying3,
 a3:=Try.isAgg3,
 z3:=Try.sizeOf3,
 v3:=Try.zeroValue3,
 t4:=Try.underlying4,
 a4:=Try.isAgg4,
 z4:=Try.sizeOf4,
 v4:=Try.zeroValue4,
 t5:=Try.underlying5,
 a5:=Try.isAgg5,
 z5:=Try.sizeOf5,
 v5:=Try.zeroValue5,
 t9:=Try.underlying9,
 a9:=Try.isAgg9,
 z9:=Try.sizeOf9,
 v9:=Try.zeroValue9,
 t28:=Try.underlying45,
 a28:=Try.isAgg45,
 z28:=Try.sizeOf45,
 v28:=Try.zeroValue45,
 t46:=Try.underlying144,
 a46:=Try.isAgg144,
 z46:=Try.sizeOf144,
 v46:=Try.zeroValue144,
 t51:=Try.underlying186,
 a51:=Try.isAgg186,
 z51:=Try.sizeOf186,
 v51:=Try.zeroValue186,
 t53:=Try.underlying151,
 a53:=Try.isAgg151,
 z53:=Try.sizeOf151,
 v53:=Try.zeroValue151,
 t131:=Try.underlying115,
 a131:=Try.isAgg115,
 z131:=Try.sizeOf115,
 v131:=Try.zeroValue115,
 t182:=Try.underlying180,
 a182:=Try.isAgg180,
 z182:=Try.sizeOf180,
 v182:=Try.zeroValue180,
 t183:=Try.underlying181,
 a183:=Try.isAgg181,
 z183:=Try.sizeOf181,
 v183:=Try.zeroValue181,
 t218:=Try.underlying198,
 a218:=Try.isAgg198,
 z218:=Try.sizeOf198,
 v218:=Try.zeroValue198,
 t222:=Try.underlying202,
 a222:=Try.isAgg202,
 z222:=Try.sizeOf202,
 v222:=Try.zeroValue202,
 t228:=Try.underlying207,
 a228:=Try.isAgg207,
 z228:=Try.sizeOf207,
 v228:=Try.zeroValue207,
 t229:=Try.underlying208,
 a229:=Try.isAgg208,
 z229:=Try.sizeOf208,
 v229:=Try.zeroValue208 }
theorem sort_calls:SortCalls Try.prog 57:=fun blk off cap zs w h1 h2 h3=>Any.slices_Sort_int lays189 blk off cap zs w h1 h2 h3
theorem sort_enters:Go.Av.Enters Try.prog 57:=⟨_,Try.func57,by kernel_rfl,by kernel_rfl⟩
theorem sort_spec{O:List AObj}{id:Nat}{zs:List Int}(ho:O[id]?=some (.cells (zs.map aI)))(hl:zs.length≤1000) :
  ECall Try.prog 57 O [.os id zs.length 1] (fun r O'=>r=.tup []∧O'=O.set id (.cells ((sortI zs).map aI))):=sort_bridge sort_enters sort_calls ho hl
theorem sort_nil_calls(p:Option Addr)(cap:Nat)(w:World):Calls Try.prog 57 #[.slice p 0 cap] w fun e w'=>e=.returned (.tuple #[])∧w'=w:=Any.slices_Sort_int_none lays189 p cap w
theorem sort_nil(O:List AObj):ECall Try.prog 57 O [.lst 1 [] .sh] (fun r O'=>r=.tup []∧O'=O):=by
 refine⟨sort_enters,fun g vs hg hgo hvs=>?_⟩
 obtain⟨h1,h2⟩:=hvs
 simp only [List.length_singleton] at h1
 have hv0:vs[0]?=some (vs[0]'(by omega)):=Array.getElem?_eq_getElem _
 have hr:=h2 0 _ _ rfl hv0
 have hv:∃p cap,vs = #[.slice p 0 cap]:=by
  have:∃p cap,vs[0]'(by omega)=.slice p 0 cap:=by
   generalize vs[0]'(by omega)=u at hr
   cases hr with
   | nil=>exact⟨_,_,rfl⟩
   | lst=>exact⟨_,_,rfl⟩
  obtain⟨p,cap,e⟩:=this
  refine⟨p,cap,?_⟩
  apply Array.ext
  ·simpa using h1
  intro i hi1 hi2
  have:i=0:=by omega
  subst this
  exact e
 obtain⟨p,cap,rfl⟩:=hv
 refine(sort_nil_calls p cap g.w).mono ?_
 rintro e w' ⟨rfl,rfl⟩
 exact⟨g,_,.tup [],rfl,rfl,Le.refl g,hg,.tup rfl (by simp),rfl,hgo⟩
end Go.Proofs.Ytlclgfgmhnmnaaa
namespace Go.Proofs.Ytlclgfgmhnmnaaa
open Go.Av


end Go.Proofs.Ytlclgfgmhnmnaaa
namespace Go.Av

end Go.Av
namespace Go.Proofs.Ytlclgfgmhnmnaaa
open Go.Av
def backRun{X:Type}(step:X→Nat→List Bool→X)(l:List Ins):Nat→X→List Bool→X
 | 0,x,s=>step x 0 s
 | n+1,x,s=>match l[n]? with
  | none=>x
  | some i=>backRun step l n (step x (n+1) s) (backI i s)






theorem backRun_ind{X:Type}{step:X→Nat→List Bool→X}{l:List Ins}{J:Nat→X→List Bool→Prop}(hs:∀n x s i,l[n]?=some i→J (n+1) x s→J n (step x (n+1) s) (backI i s)):∀n x s,n≤l.length→J n x s→∃x' s',J 0 x' s'∧backRun step l n x s=step x' 0 s'
 | 0,x,s,_,h=>⟨x,s,h,rfl⟩
 | n+1,x,s,hn,h=>by
  obtain⟨i,hi⟩:∃i,l[n]?=some i:=⟨l[n],List.getElem?_eq_getElem _⟩
  obtain⟨x',s',h1,h2⟩:=backRun_ind hs n _ _ (by omega) (hs n x s i hi h)
  refine⟨x',s',h1,?_⟩
  simp only [backRun,hi]
  exact h2
def setAt(f:Func)(S:List (List Bool))(k n:Nat):List Bool:=backM ((blkOf f k).ins.drop n) (S[k]?.getD [])
theorem setAt_step{f:Func}{S:List (List Bool)}{k n:Nat}{i:Ins}(h:(blkOf f k).ins[n]?=some i):setAt f S k n=backI i (setAt f S k (n+1)):=by
 unfold setAt
 rw [drop_at h]
 rfl
def twoIn(v w:Nat)(s:List Bool):Bool:=s[v]?.getD false&&s[w]?.getD false
def inStep(v w:Nat)(x:Bool)(_:Nat)(s:List Bool):Bool:=x || twoIn v w s
theorem inBlock{f:Func}{S:List (List Bool)}{k v w:Nat}{s0:List Bool}(hs0:S[k]?=some s0)(x0:Bool) :
  backRun (inStep v w) (blkOf f k).ins (blkOf f k).ins.length x0 s0=true↔x0=true∨∃n,n≤(blkOf f k).ins.length∧twoIn v w (setAt f S k n)=true:=by
 obtain⟨x',s',⟨j1,j2,j3⟩,he⟩:=backRun_ind (step:=inStep v w) (l:=(blkOf f k).ins) (J:=fun n x s=>s=setAt f S k n∧n≤(blkOf f k).ins.length∧(x=true↔x0=true∨∃m,n<m∧m≤(blkOf f k).ins.length∧twoIn v w (setAt f S k m)=true)) (fun n x s i hi ⟨j1,j2,j3⟩=>by
   subst j1
   refine⟨(setAt_step hi).symm,by omega,?_⟩
   rw [inStep,Bool.or_eq_true,j3]
   constructor
   ·rintro((q | ⟨m,q1,q2,q3⟩) | q)
    ·exact .inl q
    ·exact .inr ⟨m,by omega,q2,q3⟩
    exact .inr ⟨n+1,by omega,j2,q⟩
   rintro(q | ⟨m,q1,q2,q3⟩)
   ·exact .inl (.inl q)
   by_cases e:m=n+1
   ·subst e
    exact .inr q3
   exact .inl (.inr ⟨m,by omega,q2,q3⟩))
  (blkOf f k).ins.length x0 s0 (Nat.le_refl _) ⟨by simp [setAt,hs0,backM],Nat.le_refl _,⟨fun q=>.inl q,fun q=>by
   rcases q with q | ⟨m,q1,q2,_⟩
   ·exact q
   omega⟩⟩
 subst j1
 rw [he,inStep,Bool.or_eq_true,j3]
 constructor
 ·rintro((q | ⟨m,q1,q2,q3⟩) | q)
  ·exact .inl q
  ·exact .inr ⟨m,q2,q3⟩
  exact .inr ⟨0,by omega,q⟩
 rintro(q | ⟨m,q2,q3⟩)
 ·exact .inl (.inl q)
 by_cases e:m=0
 ·subst e
  exact .inr q3
 exact .inl (.inr ⟨m,by omega,q2,q3⟩)



theorem order_own(f:Func)(hfit:f.fit)(hc:checkFuncM f=0):∃(O:List AObj) (oid:Nat),O[oid]?=some (.cells ((orderM f).map aI))∧(∀o∈O,o.upto O.length) ∧
  ECall Try.prog 56 [] [f.enc] (fun r O'=>r=.tup [.os oid (orderM f).length 1,aI 0]∧O'=O):=by
 have hck:=checkFunc_spec f hfit
 rw [hc] at hck
 have hg:=(checkFunc_ok hfit hc).gr
 have hsr:=search_spec f hg
 obtain⟨f1,f2,_⟩:=searchM_few hg
 have hXS:(soRun f 100000 (soStart f)).S=srRun f 100000 (srStart f):=soRun_S f 100000 (soStart f)
 have hX:=soRun_ok (f:=f) 100000 _ (soStart_ok f)
 obtain⟨X,hXe⟩:∃X,X=soRun f 100000 (soStart f):=⟨_,rfl⟩
 rw [←hXe] at hsr hX hXS
 have hout:X.S.out=searchM f:=by rw [hXS];rfl
 unfold orderM
 obtain⟨l,hl⟩:∃l,l=searchM f:=⟨_,rfl⟩
 rw [←hl] at f1 f2 hout ⊢
 have h1:=hX.out
 rw [hout,outV,if_neg f1] at h1
 obtain⟨h2,h3,h4⟩:=hX.outs (by rw [hout];exact f1)
 rw [hout] at h2
 have hup:=hX.up
 obtain⟨S,sid,oid,O⟩:=X
 simp only at h1 h2 h3 h4 hup hsr
 have hol:=lt_of_getElem? h2
 have hrev:=reverse_spec hup h2 (by omega)
 have h1':(O.set oid (.cells (l.reverse.map aI)))[1]?=some (.cells [.os oid l.length 1]):=at_set_ne h1 (by omega)
 have h2':(O.set oid (.cells (l.reverse.map aI)))[oid]?=some (.cells (l.reverse.map aI)):=at_set h2
 have hup2:∀o∈O.set oid (.cells (l.reverse.map aI)),o.upto O.length:=uptoO_set hup (aI_upto _ _)
 have hll:(O.set oid (.cells (l.reverse.map aI))).length=O.length:=by simp
 have htk:(O.set oid (.cells (l.reverse.map aI))).take O.length=O.set oid (.cells (l.reverse.map aI)):=take_set_len
 refine⟨O.set oid (.cells (l.reverse.map aI)),oid,h2',by rw [hll];exact hup2,?_⟩
 rw [List.length_reverse]
 generalize O.set oid (.cells (l.reverse.map aI))=O2 at *
 have hkk:([]:List AObj).length≤O.length:=Nat.zero_le _
 refine ecall_of hT true (O.length) Try.func56 rfl (by kernel_rfl) (by simp [Try.ntmps56]) (by assumption) ?_
 show AWP Try.prog _ _ _ ⟨17,_,_⟩
 dsimp only [Tmp,TypeId,slotsOf]
 refine zh1 (za0 ?_)
 refine awp_freeze1 1 0 (.ip none [aI f.name,eBlocks f.blocks]) rfl (by simp [AObj.isSpare]) trivial rfl ?_ ?_
 rotate_left
 simp -dsimp only [simprocAttr,↓vpre,zp]
 ·refine zh2 ?_
  refine zi hck ?_
  refine za0 ?_
  refine zh1 (za0 ?_)
  refine zu0 rfl ?_
  refine zb0 ?_
  refine zh1 (za0 ?_)
  refine zh1 ?_
  refine .inr (.inl ⟨_,_,hsr,.inl (later_intro (zj ?_))⟩)
  refine za0 ?_
  refine zg1 ?_
  simp -dsimp only [simprocAttr,↓vpre,zp,h1]
  refine .inr (.inl ⟨_,_,hrev,.inl (later_intro (zj ?_))⟩)
  refine za0 ?_
  refine zg1 ?_
  simp -dsimp only [simprocAttr,↓vpre,zp,h1']
  refine za0 ?_
  refine awp_ret ?_
  simp -dsimp only [simprocAttr,↓vpre,zp,zr,Try.results56,htk,hll]
  exact⟨hup2,⟨hol,trivial,trivial⟩,rfl⟩
 exact FSub.mp rfl rfl
def rchR(f:Func):AVal:=if checkFuncM f=0 then .tup [eIs (rchS f),aI 0] else .tup [eIs [],aI (checkFuncM f)]
theorem reachable_spec(f:Func)(hfit:f.fit):PCall Try.prog 24 [f.enc] (rchR f):=by
 unfold rchR
 by_cases hc:checkFuncM f=0
 ·rw [if_pos hc]
  obtain⟨O,oid,h1,h2,hor⟩:=order_own f hfit hc
  have hfew:=(ord_w (checkFunc_ok hfit hc).gr).few
  have hso:=sort_spec (O:=O) (id:=oid) (zs:=orderM f) h1 (by omega)
  have h3:(O.set oid (.cells ((sortI (orderM f)).map aI)))[oid]?=some (.cells ((sortI (orderM f)).map aI)):=at_set h1
  have hsl:=(sortI_perm (orderM f)).length_eq
  unfold rchS
  generalize O.set oid (.cells ((sortI (orderM f)).map aI))=O2 at *
  obtain⟨l,hl⟩:∃l,l=sortI (orderM f):=⟨_,rfl⟩
  rw [←hl] at h3 hsl ⊢
  rw [←hsl] at hso hor
  refine zf true 0 Try.func24 Try.ntmps24 ?_
  dsimp only [Tmp,TypeId,slotsOf]
  refine zh1 (za0 ?_)
  refine awp_freeze1 1 0 (.ip none [aI f.name,eBlocks f.blocks]) rfl (by simp [AObj.isSpare]) trivial rfl ?_ ?_
  rotate_left
  simp -dsimp only [simprocAttr,↓vpre,zp]
  ·refine awp_trunc' 0 [(1,.ip none [aI f.name,eBlocks f.blocks])] (by omega) (by omega) [] ?_ ?_ ?_ ?_ ?_
   ·rfl
   ·simp [AObj.upto]
   ·simp [Says,St.get,putS,dropS,Go.Av.look,Sub.refl]
   ·simp [AObj.upto,uptoL,AVal.upto,aI_upto,Func.map_upto,Block.map_upto,Edge.map_upto,Ins.map_upto]
   refine zh1 ?_
   refine .inr (.inl ⟨_,_,hor,.inl (later_intro (zj ?_))⟩)
   refine za0 ?_
   refine zh1 ?_
   refine .inr (.inl ⟨_,_,hso,.inl (later_intro (zj ?_))⟩)
   refine za0 ?_
   refine zh1 (za0 ?_)
   refine awp_freeze1 2 oid (o:=.cells (l.map aI)) (eIs l) h3 (by simp [AObj.isSpare]) trivial rfl (FSub.os (cs:=l.map aI) h3 ?_ ?_ ?_) ?_
   ·intro x hx
    obtain⟨c,_,rfl⟩:=List.mem_map.1 hx
    rfl
   ·simp
   ·rw [List.drop_zero,List.take_of_length_le (by simp)]
    exact aI_cellsAll _
   simp -dsimp only [simprocAttr,↓vpre,zp]
   refine awp_ret ?_
   simp -dsimp only [simprocAttr,↓vpre,zp,zr,Try.results24]
   exact⟨⟨aI_upto _ _,trivial⟩,trivial,trivial⟩
  exact FSub.mp rfl rfl
 rw [if_neg hc]
 have hor:=order_spec f hfit
 unfold orderR at hor
 rw [if_neg hc] at hor
 generalize checkFuncM f=e at *
 refine zf true 0 Try.func24 Try.ntmps24 ?_
 dsimp only [Tmp,TypeId,slotsOf]
 refine zh1 (za0 ?_)
 refine awp_freeze1 1 0 (.ip none [aI f.name,eBlocks f.blocks]) rfl (by simp [AObj.isSpare]) trivial rfl ?_ ?_
 rotate_left
 simp -dsimp only [simprocAttr,↓vpre,zp]
 ·refine zh1 ?_
  refine zi hor ?_
  refine za0 ?_
  refine zh1 ?_
  refine .inr (.inl ⟨_,_,(sort_nil _),.inl (later_intro (zj ?_))⟩)
  refine za0 ?_
  refine zh1 (za0 ?_)
  refine awp_ret ?_
  simp -dsimp only [simprocAttr,↓vpre,zp,zr,Try.results24]
  simp [uptoL,AVal.upto]
 exact FSub.mp rfl rfl

end Go.Proofs.Ytlclgfgmhnmnaaa
namespace Go.Av

end Go.Av
namespace Go.Proofs.Ytlclgfgmhnmnaaa
open Go.Av
theorem zerosI_flat(n:Nat):(List.replicate n [AVal.v (.int .i64 0)]).flatten=(List.replicate n 0).map aI:=by
 induction n with
 | zero=>rfl
 | succ n ih=>rw [List.replicate_succ,List.flatten_cons,ih,List.replicate_succ];rfl
theorem aI_put{l:List Int}{j:Nat}(h:j<l.length)(b:Int):splice (l.map aI) j [.v (.int .i64 b)]=(l.set j b).map aI:=by
 rw [splice_one _ (by simpa using h),List.map_set]
theorem fill_set{k n:Nat}{l:List Int}{x y:Int}(hl:l.length=k)(hk:k<n):(l++List.replicate (n - k) x).set k y=(l++[y])++List.replicate (n - (k+1)) x:=by
 rw [List.set_append_right _ _ (by omega),hl,Nat.sub_self,show n - k=(n - (k+1))+1 by omega,List.replicate_succ,List.set_cons_zero,List.append_assoc]
 rfl
theorem sm_w{f:Func}(hfit:f.fit)(hc:checkFuncM f=0):SmW f:=by
 have hw:=checkFunc_ok hfit hc
 have hg:=hw.gr
 have hpar:∀b∈f.blocks,b.params.length≤4096:=fun b hb=>by
  have:=(hw.blk b hb).few
  omega
 exact {
  few:=hw.few
  params:=hpar
  ins:=hw.ins
  iargs:=fun b hb i hi=>(form_ok ((hw.blk b hb).forms i hi)).len
  cases:=fun b hb=>(end_ok (hw.blk b hb).fin).cases
  to:=fun b hb=>hg.to b hb
  eargs:=fun b hb e he=>by
   have h1:=(end_ok (hw.blk b hb).fin).edges e he
   rw [h1.2]
   have hr:=hg.edges b hb e he
   have hx:f.blocks[e.block.toNat]?=some (f.blocks[e.block.toNat]'(by omega)):=List.getElem?_eq_getElem _
   have:blkOf f e.block=f.blocks[e.block.toNat]'(by omega):=by simp [blkOf,hx]
   rw [this]
   exact hpar _ (List.getElem_mem _) }
def pruneR(f:Func):AVal:=if checkFuncM f=0 then .tup [(pruneM f).enc,eIs (atM f),aI 0] else .tup [.agg [aI 0,.lst 7 [] .sh],.lst 1 [] .sh,aI (checkFuncM f)]
structure Px where
 i:Nat
 oid:Nat
 O:List AObj
theorem prune_spec(f:Func)(hfit:f.fit):PCall Try.prog 23 [f.enc] (pruneR f):=by
 have hrr:=reachable_spec f hfit
 unfold rchR at hrr
 unfold pruneR
 by_cases hc:checkFuncM f=0
 ·rw [if_pos hc] at hrr ⊢
  have hg:=(checkFunc_ok hfit hc).gr
  have hw:=ord_w hg
  have hsm:=sm_w hfit hc
  have hn:f.blocks.length≤128:=hg.few
  have hcp:=copy_spec f hsm hg.ne
  have hLl:(rchS f).length≤128:=by rw [rchS_len];exact hw.few
  have hLn:=rchS_nodup hw
  have hL0:rchS f≠[]:=List.ne_nil_of_mem (mem_rchS.2 (by rw [hw.zero];omega:0≤plF f 0))
  have hLr:∀k∈rchS f,0≤k∧k<f.blocks.length:=fun k hk=>hw.range k (mem_rchS.1 hk)
  obtain⟨N,hN⟩:∃N,N=f.blocks.length:=⟨_,rfl⟩
  obtain⟨L,hL⟩:∃L,L=rchS f:=⟨_,rfl⟩
  obtain⟨A,hA⟩:∃A,A=atM f:=⟨_,rfl⟩
  have hpm:(pruneM f).enc=.agg [aI f.name,eBlocks (prB f A L)]:=by rw [hA,hL];rfl
  rw [hpm,←hA]
  unfold atM at hA
  rw [←hL] at hrr hLl hLn hL0 hLr hA
  rw [←hN] at hn hA hLr
  have hAl:A.length=N:=by rw [hA];simp
  refine zf true 0 Try.func23 Try.ntmps23 ?_
  dsimp only [Tmp,TypeId,slotsOf]
  refine zh1 (za0 ?_)
  refine awp_freeze1 1 0 (.ip none [aI f.name,eBlocks f.blocks]) rfl (by simp [AObj.isSpare]) trivial rfl ?_ ?_
  rotate_left
  simp -dsimp only [simprocAttr,↓vpre,zp]
  ·refine zh1 ?_
   refine zi hrr ?_
   refine za0 ?_
   refine zh2 (za0 ?_)
   apply zk0 rfl<;>intro h
   ·cases h
   refine zb0 ?_
   refine zg1 ?_
   simp -dsimp only [simprocAttr,↓vpre,zp,zerosI_flat,←hN]
   repeat(refine⟨by omega,?_⟩)
   refine za0 ?_
   refine zh2 (za0 ?_)
   refine awp_block (awp_loop (ι:={k:Nat // k≤N}) (fun k=>⟨89,[(1,.ip none [aI f.name,eBlocks f.blocks]),(2,.mp 1 0),(5,eIs L),(7,.ms 2 0 N N),(29,aI N),(30,aI k.1)],[.gone,.cells [aI 0,.lst 7 [] .ex],.cells ((A.take k.1++List.replicate (N - k.1) 0).map aI)]⟩) (fun k=>N - k.1) ⟨0,by omega⟩ ?_ ?_)
   ·refine zq rfl ?_ ?_
    simp -dsimp only [simprocAttr,↓vpre,zp,zc]
    all_goals rfl
   rintro⟨k,hk⟩
   refine zh1 (za0 ?_)
   apply zk1 rfl<;>intro h
   ·refine zb0 ?_
    have hlt:k<N:=by simpa using h
    have hix:=index_spec L (k:Int)
    have hAk:A[k]?=some (idxI L (k:Int)):=by
     rw [hA,List.getElem?_map,List.getElem?_range hlt]
     rfl
    have htl:(A.take k).length=k:=by rw [List.length_take];omega
    have hput:splice ((A.take k++List.replicate (N - k) 0).map aI) k [.v (.int .i64 (idxI L (k:Int)))]=(A.take (k+1)++List.replicate (N - (k+1)) 0).map aI:=by
     rw [aI_put (by rw [List.length_append,htl,List.length_replicate];omega),fill_set htl hlt,List.take_add_one,hAk]
     rfl
    refine awp_seq (awp_block ?_)
    refine zh1 (za0 ?_)
    refine zh0 ?_
    refine .inl ⟨_,hix,by simp only [uptoL,AVal.upto,zt,zu,aI_upto],later_intro ?_⟩
    simp -dsimp only [simprocAttr,↓vpre,zp,hput,Int.toNat_natCast,Nat.mul_one]
    repeat(refine⟨by omega,?_⟩)
    refine⟨by rw [htl,List.length_replicate];omega,?_⟩
    refine za0 ?_
    refine zh0 ?_
    repeat(refine⟨by omega,?_⟩)
    refine zl0 ?_
    refine⟨⟨k+1,hlt⟩,by simp;omega,?_⟩
    refine zq rfl ?_ ?_
    simp -dsimp only [simprocAttr,↓vpre,zp,zc]
    ·exact Sub.int (by simp)
    rfl
   refine awp_exit ?_
   simp -dsimp only [vend,ne_eq,Nat.reduceEqDiff,reduceCtorEq]
   have hkN:N=k:=by
    have:=of_decide_eq_false h
    omega
   subst hkN
   rw [Nat.sub_self,List.replicate_zero,List.append_nil,List.take_of_length_le (by omega)]
   refine awp_freeze1 7 2 (o:=.cells (A.map aI)) (eIs A) rfl (by simp [AObj.isSpare]) trivial rfl (FSub.ms (cs:=A.map aI) rfl (fun x hx=>by obtain⟨v,_,rfl⟩:=List.mem_map.1 hx;rfl) (by simpa using hAl) (by rw [List.drop_zero,List.take_of_length_le (by simp;omega),aI_cellsAll])) ?_
   simp -dsimp only [simprocAttr,↓vpre,zp]
   refine awp_trunc' 2 [(1,.ip none [aI f.name,eBlocks f.blocks]),(2,.mp 1 0),(5,eIs L),(7,eIs A)] (by simp) (by omega) [.gone,.cells [aI 0,.lst 7 [] .ex]] ?_ ?_ ?_ ?_ ?_
   ·rfl
   ·simp [AObj.upto,uptoL,AVal.upto]
   ·simp [Says,St.get,putS,dropS,Go.Av.look,Sub.refl]
   ·simp [AObj.upto,uptoL,AVal.upto,aI_upto,Block.map_upto]
   refine awp_seq (awp_call_ex ⟨false,false⟩ hT 1 rfl rfl rfl (by simp) ?_)
   simp -dsimp only [simprocAttr,↓vpre,zp]
   refine⟨CpR f,cert_ecallE rfl (by simp) rfl rfl hcp,fun r O' hR=>?_⟩
   obtain⟨ids,bid,hr,hup,hg0,hg1,⟨hb5,hbO⟩,hco,hne⟩:=hR
   subst hr
   simp -dsimp only [simprocAttr,↓vpre,zp]
   refine za0 ?_
   rw [←hN]
   have hbl:=lt_of_getElem? hbO
   refine awp_local 9 ([aI f.name,.os bid N 7]) [(1,.ip none [aI f.name,eBlocks f.blocks]),(2,.mp 1 0),(5,eIs L),(7,eIs A),(9,.ip none [aI f.name,.os bid N 7])] (by simp [putS,dropS,Go.Av.look]) (by rfl) (by omega) (by simp [putS,dropS,Go.Av.look]) ?_ ?_ ?_
   ·exact hup
   ·simp [AVal.upto,uptoL,aI_upto,Edge.map_upto,Ins.map_upto,Block.map_upto,hbl,lt_of_getElem? hg1]
   have hP0:=PrS.start A hup hg1 ⟨hb5,hbO⟩ hco hne
   refine zh1 (za0 ?_)
   generalize O'++[AObj.cells [aI f.name,.lst 7 [] .ex]]=O0 at *
   generalize O'.length=X0 at *
   refine zh2 (za0 ?_)
   refine awp_block (awp_loop (ι:={X:Px // X.i≤L.length∧PrS f A ids bid X0 (L.take X.i) X.oid X.O}) (fun X=>⟨89,[(1,.ip none [aI f.name,eBlocks f.blocks]),(2,.mp 1 0),(5,eIs L),(7,eIs A),(9,.ip none [aI f.name,.os bid N 7]),(10,.mp X0 0),(45,eIs L),(46,aI L.length),(47,aI X.1.i)],X.1.O⟩) (fun X=>L.length - X.1.i) ⟨⟨0,0,O0⟩,by simp,hP0⟩ ?_ ?_)
   ·refine zq rfl ?_ ?_
    simp -dsimp only [simprocAttr,↓vpre,zp,zc]
    all_goals rfl
   rintro⟨⟨i,oid,O⟩,hi,hP⟩
   simp only at hi hP
   refine zh1 (za0 ?_)
   apply zk1 rfl<;>intro h
   ·refine zb0 ?_
    have hlt:i<L.length:=by simpa using h
    obtain⟨kk,hkk⟩:∃kk,L[i]?=some kk:=⟨L[i],by simp [hlt]⟩
    have hkr:=hLr kk (List.mem_of_getElem? hkk)
    obtain⟨k,hk⟩:∃k:Nat,kk=(k:Int):=⟨kk.toNat,by omega⟩
    subst hk
    have htk:L.take (i+1)=L.take i++[(k:Int)]:=by rw [List.take_add_one,hkk];rfl
    have htkl:(L.take i).length=i:=by rw [List.length_take];omega
    have hkn:(k:Int) ∉ L.take i:=fun q=>by
     have h1:(L.take i++[(k:Int)]).Nodup:=by
      rw [←htk]
      exact(List.take_sublist _ _).nodup hLn
     rw [List.nodup_append] at h1
     exact h1.2.2 _ q _ (by simp) rfl
    obtain⟨b,hb⟩:∃b,f.blocks[k]?=some b:=⟨f.blocks[k]'(by omega),List.getElem?_eq_getElem _⟩
    obtain⟨id,hid⟩:∃id,ids[k]?=some id:=⟨ids[k]'(by rw [hP.li];omega),List.getElem?_eq_getElem _⟩
    have hbt:=hg.to b (List.mem_of_getElem? hb)
    have hbe:=hg.edges b (List.mem_of_getElem? hb)
    have hbl:=hP.bl.2
    have hat:=blsC_at hid hb
    have hbsl:=blsC_len hP.li
    have hXl:=lt_of_getElem? hP.out
    have hBl:=lt_of_getElem? hbl
    have h1l:=lt_of_getElem? hP.r1
    refine awp_seq (awp_block ?_)
    refine zg1 ?_
    simp -dsimp only [simprocAttr,↓vpre,zp,hkk]
    refine za0 ?_
    by_cases hto:b.term.to=[]
    ·have hblc:blC id b=[eIs b.params,eInss b.ins,aI b.term.kind,aI b.term.arg,aI b.term.n,eIs b.term.cases,.lst 2 [] .sh]:=by
      unfold blC outE
      rw [if_pos hto]
     rw [hblc] at hat
     refine zg1 ?_
     simp -dsimp only [simprocAttr,↓vpre,zp,hbl,hat,Int.toNat_natCast]
     repeat(refine⟨by omega,?_⟩)
     refine za0 ?_
     refine awp_local 13 ([eIs b.params,eInss b.ins,aI b.term.kind,aI b.term.arg,aI b.term.n,eIs b.term.cases,.lst 2 [] .sh]) [(1,.ip none [aI f.name,eBlocks f.blocks]),(2,.mp 1 0),(5,eIs L),(7,eIs A),(9,.ip none [aI f.name,.os bid N 7]),(10,.mp X0 0),(45,eIs L),(46,aI L.length),(47,aI i),(12,aI k),(13,.ip none [eIs b.params,eInss b.ins,aI b.term.kind,aI b.term.arg,aI b.term.n,eIs b.term.cases,.lst 2 [] .sh])] (by simp [putS,dropS,Go.Av.look]) (by rfl) (by omega) (by simp [putS,dropS,Go.Av.look]) ?_ ?_ ?_
     ·exact hP.up
     ·simp [AVal.upto,uptoL,aI_upto,Edge.map_upto,Ins.map_upto,Block.map_upto,hXl,hBl,h1l]
     refine zh2 (za0 ?_)
     refine awp_block (awp_loop (ι:=Unit) (fun _=>⟨89,[(1,.ip none [aI f.name,eBlocks f.blocks]),(2,.mp 1 0),(5,eIs L),(7,eIs A),(9,.ip none [aI f.name,.os bid N 7]),(10,.mp X0 0),(45,eIs L),(46,aI L.length),(47,aI i),(13,.ip none [eIs b.params,eInss b.ins,aI b.term.kind,aI b.term.arg,aI b.term.n,eIs b.term.cases,.lst 2 [] .sh]),(59,aI 0),(60,aI 0)],O⟩) (fun _=>0) () ?_ ?_)
     ·refine zq rfl ?_ ?_
      simp -dsimp only [simprocAttr,↓vpre,zp,zc]
      all_goals rfl
     rintro⟨⟩
     refine zh1 (za0 ?_)
     refine zu1 rfl ?_
     refine awp_exit ?_
     simp -dsimp only [vend,ne_eq,Nat.reduceEqDiff,reduceCtorEq]
     by_cases hdn:L.take i=[]
     ·have hob:outBl oid (prB f A (L.take i))=.lst 7 [] .ex:=by
       rw [hdn]
       rfl
      have hout:=hP.out
      rw [hob] at hout
      have ho1:(O)[X0]?=some (.cells [aI f.name,.lst 7 [] .ex]):=hout
      have ho1':∀Y,(O++Y)[X0]?=some (.cells [aI f.name,.lst 7 [] .ex]):=fun Y=>at_left ho1
      have hO1l:(O).length=O.length:=rfl
      refine zs0 ?_
      simp -dsimp only [simprocAttr,↓vpre,zp,ho1,ho1',cellsAll_v,cells_os',hblc]
      repeat(refine⟨by omega,?_⟩)
      refine⟨trivial,?_⟩
      refine za0 ?_
      have hput:PrS f A ids bid X0 (L.take i++[(k:Int)]) O.length ((O++[AObj.cells ([eIs b.params,eInss b.ins,aI b.term.kind,aI b.term.arg,aI b.term.n,eIs b.term.cases,.lst 2 [] .sh])]).set X0 (.cells [aI f.name,.os O.length 1 7])):=hP.snoc hb hid hkn hO1l (hP.up) (fun _ _ _=>rfl) (fun q=>absurd hto q) (by rw [prC_snoc hid hb,hdn,←hblc];rfl) (by rw [hdn];rfl)
      show AWP Try.prog _ _ _ ⟨_,_,(O++[AObj.cells ([eIs b.params,eInss b.ins,aI b.term.kind,aI b.term.arg,aI b.term.n,eIs b.term.cases,.lst 2 [] .sh])]).set X0 (.cells [aI f.name,.os (O).length 1 7])⟩
      rw [hO1l]
      generalize (O++[AObj.cells ([eIs b.params,eInss b.ins,aI b.term.kind,aI b.term.arg,aI b.term.n,eIs b.term.cases,.lst 2 [] .sh])]).set X0 (.cells [aI f.name,.os O.length 1 7])=O7 at *
      refine zh0 ?_
      repeat(refine⟨by omega,?_⟩)
      refine zl0 ?_
      refine⟨⟨⟨i+1,O.length,O7⟩,hlt,by rw [htk];exact hput⟩,by simp;omega,?_⟩
      refine zq rfl ?_ ?_
      simp -dsimp only [simprocAttr,↓vpre,zp,zc]
      ·exact Sub.int (by simp)
      rfl
     obtain⟨l1,l2,l3,l4⟩:=hP.lst hdn
     have hob:outBl oid (prB f A (L.take i))=.os oid i 7:=by
      unfold outBl
      rw [if_neg (by simpa [prB] using hdn),prB_len,htkl]
     have hout:=hP.out
     rw [hob] at hout
     have ho1:(O)[X0]?=some (.cells [aI f.name,.os oid i 7]):=hout
     have l5:(O)[oid]?=some (.cells (blsC (prI ids (L.take i)) (prB f A (L.take i)))):=l4
     have ho1':∀Y,((O).set oid .gone++Y)[X0]?=some (.cells [aI f.name,.os oid i 7]):=fun Y=>at_left (at_set_ne ho1 (by omega))
     have hO1l:((O).set oid .gone).length=O.length:=List.length_set
     have hO1l':(O).length=O.length:=rfl
     have hbll:=blsC_len (ids:=prI ids (L.take i)) (bs:=prB f A (L.take i)) (by rw [prI_len,prB_len])
     rw [prB_len,htkl] at hbll
     have hTT:(blsC (prI ids (L.take i)) (prB f A (L.take i))).take (i * 7)=blsC (prI ids (L.take i)) (prB f A (L.take i)):=List.take_of_length_le (by omega)
     refine zg0 ?_
     simp -dsimp only [simprocAttr,↓vpre,zp,ho1,ho1',l5,hTT,hbll,cellsAll_v,cells_os',hblc]
     repeat(refine⟨by omega,?_⟩)
     refine⟨trivial,?_⟩
     refine za0 ?_
     have hput:PrS f A ids bid X0 (L.take i++[(k:Int)]) O.length (((O).set oid .gone++[AObj.cells (blsC (prI ids (L.take i)) (prB f A (L.take i))++([eIs b.params,eInss b.ins,aI b.term.kind,aI b.term.arg,aI b.term.n,eIs b.term.cases,.lst 2 [] .sh]))]).set X0 (.cells [aI f.name,.os O.length (i+1) 7])):=hP.snoc hb hid hkn hO1l (uptoO_set (hP.up) trivial) (fun j h1 h2=>by rw [List.getElem?_set_ne (Ne.symm (h2 hdn))];skip) (fun q=>absurd hto q) (by rw [prC_snoc hid hb,hblc]) (by rw [htkl])
     show AWP Try.prog _ _ _ ⟨_,_,((O).set oid .gone++[AObj.cells (blsC (prI ids (L.take i)) (prB f A (L.take i))++([eIs b.params,eInss b.ins,aI b.term.kind,aI b.term.arg,aI b.term.n,eIs b.term.cases,.lst 2 [] .sh]))]).set X0 (.cells [aI f.name,.os (O).length (i+1) 7])⟩
     rw [hO1l']
     generalize ((O).set oid .gone++[AObj.cells (blsC (prI ids (L.take i)) (prB f A (L.take i))++([eIs b.params,eInss b.ins,aI b.term.kind,aI b.term.arg,aI b.term.n,eIs b.term.cases,.lst 2 [] .sh]))]).set X0 (.cells [aI f.name,.os O.length (i+1) 7])=O7 at *
     refine zh0 ?_
     repeat(refine⟨by omega,?_⟩)
     refine zl0 ?_
     refine⟨⟨⟨i+1,O.length,O7⟩,hlt,by rw [htk];exact hput⟩,by simp;omega,?_⟩
     refine zq rfl ?_ ?_
     simp -dsimp only [simprocAttr,↓vpre,zp,zc]
     ·exact Sub.int (by simp)
     rfl
    obtain⟨o1,o2,o3,o4,o5⟩:=hP.own k id b hid hb hto
    rw [if_neg hkn] at o5
    have hblc:blC id b=[eIs b.params,eInss b.ins,aI b.term.kind,aI b.term.arg,aI b.term.n,eIs b.term.cases,.os id b.term.to.length 2]:=by
     unfold blC outE
     rw [if_neg hto]
    rw [hblc] at hat
    have hil:=lt_of_getElem? o5
    refine zg1 ?_
    simp -dsimp only [simprocAttr,↓vpre,zp,hbl,hat,Int.toNat_natCast]
    repeat(refine⟨by omega,?_⟩)
    refine za0 ?_
    refine awp_local 13 ([eIs b.params,eInss b.ins,aI b.term.kind,aI b.term.arg,aI b.term.n,eIs b.term.cases,.os id b.term.to.length 2]) [(1,.ip none [aI f.name,eBlocks f.blocks]),(2,.mp 1 0),(5,eIs L),(7,eIs A),(9,.ip none [aI f.name,.os bid N 7]),(10,.mp X0 0),(45,eIs L),(46,aI L.length),(47,aI i),(12,aI k),(13,.ip none [eIs b.params,eInss b.ins,aI b.term.kind,aI b.term.arg,aI b.term.n,eIs b.term.cases,.os id b.term.to.length 2])] (by simp [putS,dropS,Go.Av.look]) (by rfl) (by omega) (by simp [putS,dropS,Go.Av.look]) ?_ ?_ ?_
    ·exact hP.up
    ·simp [AVal.upto,uptoL,aI_upto,Edge.map_upto,Ins.map_upto,Block.map_upto,hXl,hBl,h1l,hil]
    have hO0:O.set id (.cells (edC (mixE A b.term.to 0)))=O:=by
     rw [mixE_zero]
     apply List.ext_getElem?
     intro j
     rw [List.getElem?_set]
     split
     ·rename_i e
      rw [←e,o5]
     rfl
    refine zh2 (za0 ?_)
    refine awp_block (awp_loop (ι:={n:Nat // n≤b.term.to.length}) (fun n=>⟨89,[(1,.ip none [aI f.name,eBlocks f.blocks]),(2,.mp 1 0),(5,eIs L),(7,eIs A),(9,.ip none [aI f.name,.os bid N 7]),(10,.mp X0 0),(45,eIs L),(46,aI L.length),(47,aI i),(13,.ip none [eIs b.params,eInss b.ins,aI b.term.kind,aI b.term.arg,aI b.term.n,eIs b.term.cases,.os id b.term.to.length 2]),(59,aI b.term.to.length),(60,aI n.1)],O.set id (.cells (edC (mixE A b.term.to n.1)))⟩) (fun n=>b.term.to.length - n.1) ⟨0,by omega⟩ ?_ ?_)
    ·refine zq rfl ?_ ?_
     simp -dsimp only [simprocAttr,↓vpre,zp,zc]
     all_goals exact hO0.symm
    rintro⟨z,hz⟩
    refine zh1 (za0 ?_)
    apply zk1 rfl<;>intro h
    ·refine zb0 ?_
     have hlz:z<b.term.to.length:=by simpa using h
     obtain⟨e,he⟩:∃e,b.term.to[z]?=some e:=⟨b.term.to[z],by simp [hlz]⟩
     have her:=hbe e (List.mem_of_getElem? he)
     have hge:(O.set id (.cells (edC (mixE A b.term.to z))))[id]?=some (.cells (edC (mixE A b.term.to z))):=List.getElem?_set_self hil
     obtain⟨c1,c2⟩:=edC_at (mixE_at A he)
     have hmst:=mixE_step A he
     have hmel:(edC (mixE A b.term.to z)).length=b.term.to.length * 2:=by rw [edC_len,mixE_len]
     obtain⟨x,hx⟩:∃x:Nat,e.block=(x:Int):=⟨e.block.toNat,by omega⟩
     have hAx:A[x]?=some (atI A e.block):=by
      unfold atI
      rw [hx,Int.toNat_natCast,List.getElem?_eq_getElem (by omega)]
      rfl
     refine awp_seq (awp_block ?_)
     refine zh1 (za0 ?_)
     refine zg0 ?_
     simp -dsimp only [simprocAttr,↓vpre,zp,hge,c1,hx,hAx,hmel,Int.toNat_natCast]
     repeat(refine⟨by omega,?_⟩)
     refine⟨ob (by kernel_rfl),?_⟩
     refine za0 ?_
     rw [←hx,hmst,List.set_set]
     refine zh0 ?_
     repeat(refine⟨by omega,?_⟩)
     refine zl0 ?_
     refine⟨⟨z+1,hlz⟩,by simp;omega,?_⟩
     refine zq rfl ?_ ?_
     simp -dsimp only [simprocAttr,↓vpre,zp,zc]
     ·exact Sub.int (by simp)
     rfl
    refine awp_exit ?_
    simp -dsimp only [vend,ne_eq,Nat.reduceEqDiff,reduceCtorEq]
    have hzl:b.term.to.length≤z:=by
     have:=of_decide_eq_false h
     omega
    rw [mixE_all A hzl]
    by_cases hdn:L.take i=[]
    ·have hob:outBl oid (prB f A (L.take i))=.lst 7 [] .ex:=by
      rw [hdn]
      rfl
     have hout:=hP.out
     rw [hob] at hout
     have ho1:(O.set id (.cells (edC (b.term.to.map (renE A)))))[X0]?=some (.cells [aI f.name,.lst 7 [] .ex]):=at_set_ne hout o3
     have ho1':∀Y,(O.set id (.cells (edC (b.term.to.map (renE A))))++Y)[X0]?=some (.cells [aI f.name,.lst 7 [] .ex]):=fun Y=>at_left ho1
     have hO1l:(O.set id (.cells (edC (b.term.to.map (renE A))))).length=O.length:=List.length_set
     refine zs0 ?_
     simp -dsimp only [simprocAttr,↓vpre,zp,ho1,ho1',cellsAll_v,cells_os',hblc]
     repeat(refine⟨by omega,?_⟩)
     refine⟨trivial,?_⟩
     refine za0 ?_
     have hput:PrS f A ids bid X0 (L.take i++[(k:Int)]) O.length ((O.set id (.cells (edC (b.term.to.map (renE A))))++[AObj.cells ([eIs b.params,eInss b.ins,aI b.term.kind,aI b.term.arg,aI b.term.n,eIs b.term.cases,.os id b.term.to.length 2])]).set X0 (.cells [aI f.name,.os O.length 1 7])):=hP.snoc hb hid hkn hO1l (uptoO_set hP.up (show AObj.upto O.length (.cells (edC (b.term.to.map (renE A)))) from edC_upto _ _)) (fun j h1 _=>by rw [List.getElem?_set_ne (Ne.symm (h1 hto))]) (fun _=>List.getElem?_set_self (lt_of_getElem? o5)) (by rw [prC_snoc hid hb,hdn,←hblc];rfl) (by rw [hdn];rfl)
     show AWP Try.prog _ _ _ ⟨_,_,(O.set id (.cells (edC (b.term.to.map (renE A))))++[AObj.cells ([eIs b.params,eInss b.ins,aI b.term.kind,aI b.term.arg,aI b.term.n,eIs b.term.cases,.os id b.term.to.length 2])]).set X0 (.cells [aI f.name,.os (O.set id (.cells (edC (b.term.to.map (renE A))))).length 1 7])⟩
     rw [hO1l]
     generalize (O.set id (.cells (edC (b.term.to.map (renE A))))++[AObj.cells ([eIs b.params,eInss b.ins,aI b.term.kind,aI b.term.arg,aI b.term.n,eIs b.term.cases,.os id b.term.to.length 2])]).set X0 (.cells [aI f.name,.os O.length 1 7])=O7 at *
     refine zh0 ?_
     repeat(refine⟨by omega,?_⟩)
     refine zl0 ?_
     refine⟨⟨⟨i+1,O.length,O7⟩,hlt,by rw [htk];exact hput⟩,by simp;omega,?_⟩
     refine zq rfl ?_ ?_
     simp -dsimp only [simprocAttr,↓vpre,zp,zc]
     ·exact Sub.int (by simp)
     rfl
    obtain⟨l1,l2,l3,l4⟩:=hP.lst hdn
    have hob:outBl oid (prB f A (L.take i))=.os oid i 7:=by
     unfold outBl
     rw [if_neg (by simpa [prB] using hdn),prB_len,htkl]
    have hout:=hP.out
    rw [hob] at hout
    have ho1:(O.set id (.cells (edC (b.term.to.map (renE A)))))[X0]?=some (.cells [aI f.name,.os oid i 7]):=at_set_ne hout o3
    have l5:(O.set id (.cells (edC (b.term.to.map (renE A)))))[oid]?=some (.cells (blsC (prI ids (L.take i)) (prB f A (L.take i)))):=at_set_ne l4 (o4 hdn)
    have ho1':∀Y,((O.set id (.cells (edC (b.term.to.map (renE A))))).set oid .gone++Y)[X0]?=some (.cells [aI f.name,.os oid i 7]):=fun Y=>at_left (at_set_ne ho1 (by omega))
    have hO1l:((O.set id (.cells (edC (b.term.to.map (renE A))))).set oid .gone).length=O.length:=by rw [List.length_set];exact List.length_set
    have hO1l':(O.set id (.cells (edC (b.term.to.map (renE A))))).length=O.length:=List.length_set
    have hbll:=blsC_len (ids:=prI ids (L.take i)) (bs:=prB f A (L.take i)) (by rw [prI_len,prB_len])
    rw [prB_len,htkl] at hbll
    have hTT:(blsC (prI ids (L.take i)) (prB f A (L.take i))).take (i * 7)=blsC (prI ids (L.take i)) (prB f A (L.take i)):=List.take_of_length_le (by omega)
    refine zg0 ?_
    simp -dsimp only [simprocAttr,↓vpre,zp,ho1,ho1',l5,hTT,hbll,cellsAll_v,cells_os',hblc]
    repeat(refine⟨by omega,?_⟩)
    refine⟨trivial,?_⟩
    refine za0 ?_
    have hput:PrS f A ids bid X0 (L.take i++[(k:Int)]) O.length (((O.set id (.cells (edC (b.term.to.map (renE A))))).set oid .gone++[AObj.cells (blsC (prI ids (L.take i)) (prB f A (L.take i))++([eIs b.params,eInss b.ins,aI b.term.kind,aI b.term.arg,aI b.term.n,eIs b.term.cases,.os id b.term.to.length 2]))]).set X0 (.cells [aI f.name,.os O.length (i+1) 7])):=hP.snoc hb hid hkn hO1l (uptoO_set (uptoO_set hP.up (show AObj.upto O.length (.cells (edC (b.term.to.map (renE A)))) from edC_upto _ _)) trivial) (fun j h1 h2=>by rw [List.getElem?_set_ne (Ne.symm (h2 hdn))];exact(fun j h1 _=>by rw [List.getElem?_set_ne (Ne.symm (h1 hto))]) j h1 h2) (fun q=>by rw [List.getElem?_set_ne (Ne.symm (o4 hdn))];exact(fun _=>List.getElem?_set_self (lt_of_getElem? o5)) q) (by rw [prC_snoc hid hb,hblc]) (by rw [htkl])
    show AWP Try.prog _ _ _ ⟨_,_,((O.set id (.cells (edC (b.term.to.map (renE A))))).set oid .gone++[AObj.cells (blsC (prI ids (L.take i)) (prB f A (L.take i))++([eIs b.params,eInss b.ins,aI b.term.kind,aI b.term.arg,aI b.term.n,eIs b.term.cases,.os id b.term.to.length 2]))]).set X0 (.cells [aI f.name,.os (O.set id (.cells (edC (b.term.to.map (renE A))))).length (i+1) 7])⟩
    rw [hO1l']
    generalize ((O.set id (.cells (edC (b.term.to.map (renE A))))).set oid .gone++[AObj.cells (blsC (prI ids (L.take i)) (prB f A (L.take i))++([eIs b.params,eInss b.ins,aI b.term.kind,aI b.term.arg,aI b.term.n,eIs b.term.cases,.os id b.term.to.length 2]))]).set X0 (.cells [aI f.name,.os O.length (i+1) 7])=O7 at *
    refine zh0 ?_
    repeat(refine⟨by omega,?_⟩)
    refine zl0 ?_
    refine⟨⟨⟨i+1,O.length,O7⟩,hlt,by rw [htk];exact hput⟩,by simp;omega,?_⟩
    refine zq rfl ?_ ?_
    simp -dsimp only [simprocAttr,↓vpre,zp,zc]
    ·exact Sub.int (by simp)
    rfl
   refine awp_exit ?_
   simp -dsimp only [vend,ne_eq,Nat.reduceEqDiff,reduceCtorEq]
   have hiL:L.length≤i:=by
    have:=of_decide_eq_false h
    omega
   rw [List.take_of_length_le hiL] at hP
   obtain⟨l1,l2,l3,l4⟩:=hP.lst hL0
   have hob:outBl oid (prB f A L)=.os oid L.length 7:=by
    unfold outBl
    rw [if_neg (by simpa [prB] using hL0),prB_len]
   have hout:=hP.out
   have hr1:=hP.r1
   have h1l:=lt_of_getElem? hr1
   have hx5:=hP.x5
   rw [hob] at hout
   refine zg1 ?_
   simp -dsimp only [simprocAttr,↓vpre,zp,hout,hr1]
   refine za0 ?_
   have hlen:(prI ids L).length=(prB f A L).length:=by rw [prI_len,prB_len]
   have hel:∀(j id:Nat) (c:Block),(prI ids L)[j]?=some id→(prB f A L)[j]?=some c→c.term.to≠[]→∃(k:Nat) (b:Block),L[j]?=some (k:Int)∧f.blocks[k]?=some b∧ids[k]?=some id∧c=renB A b∧b.term.to≠[]:=fun j id c h1 h2 h3=>by
    unfold prI at h1
    unfold prB at h2
    rw [List.getElem?_map,Option.map_eq_some_iff] at h1 h2
    obtain⟨kk,e1,e2⟩:=h1
    obtain⟨k2,e3,e4⟩:=h2
    rw [e1] at e3
    simp only [Option.some.injEq] at e3
    subst e3
    have hkr:=hLr kk (List.mem_of_getElem? e1)
    have hbk:f.blocks[kk.toNat]?=some (f.blocks[kk.toNat]'(by omega)):=List.getElem?_eq_getElem _
    have hbo:blkOf f kk=f.blocks[kk.toNat]'(by omega):=by
     unfold blkOf
     rw [hbk]
     rfl
    have hik:ids[kk.toNat]?=some id:=by
     rw [List.getElem?_eq_getElem (by rw [hP.li];omega)] at e2 ⊢
     exact congrArg some e2
    refine⟨kk.toNat,blkOf f kk,by rw [e1];congr 1;omega,by rw [hbo];exact hbk,hik,e4.symm,fun q=>h3 ?_⟩
    rw [←e4,renB_to,q]
    rfl
   refine awp_blocks (ids:=prI ids L) (bs:=prB f A L) (X:=1) (oid:=oid) (name:=f.name) hlen (by omega) (by rw [prB_len];exact List.getElem?_set_self h1l) (by rw [List.getElem?_set_ne (by omega)];exact l4) (fun j id c h1 h2 h3=>?_) (fun i j id c d h1 h2 h3 h4 h5 h6=>?_) fun O1 hO1 hO11=>?_
   ·obtain⟨k,b,q1,q2,q3,q4,q5⟩:=hel j id c h1 h2 h3
    obtain⟨o1,o2,o3,o4,o5⟩:=hP.own k id b q3 q2 q5
    rw [if_pos (List.mem_of_getElem? q1)] at o5
    exact⟨o4 hL0,by omega,by rw [List.getElem?_set_ne (by omega),q4];exact o5⟩
   ·obtain⟨k,b,q1,q2,q3,q4,q5⟩:=hel i id c h1 h3 h5
    obtain⟨k',b',r1,r2,r3,r4,r5⟩:=hel j id d h2 h4 h6
    have hkk:=hP.inj k k' id b b' q3 r3 q2 r2 q5 r5
    subst hkk
    have hij:=List.pairwise_iff_getElem.1 hLn
    have e1:=List.getElem?_eq_some_iff.1 q1
    have e2:=List.getElem?_eq_some_iff.1 r1
    obtain⟨p1,p2⟩:=e1
    obtain⟨p3,p4⟩:=e2
    refine Classical.byContradiction fun q=>?_
    rcases Nat.lt_or_gt_of_ne q with q | q
    ·exact hij i j p1 p3 q (p2.trans p4.symm)
    exact hij j i p3 p1 q (p4.trans p2.symm)
   refine awp_ret ?_
   simp -dsimp only [simprocAttr,↓vpre,zp,zr,Try.results23,hO11]
   simp [uptoL,AVal.upto,aI_upto,Block.map_upto]
  exact FSub.mp rfl rfl
 rw [if_neg hc] at hrr ⊢
 obtain⟨e,he⟩:∃e,e=checkFuncM f:=⟨_,rfl⟩
 rw [←he] at hc hrr ⊢
 have hde:decide (e=0)=false:=decide_eq_false hc
 refine zf true 0 Try.func23 Try.ntmps23 ?_
 dsimp only [Tmp,TypeId,slotsOf]
 refine zh1 (za0 ?_)
 refine awp_freeze1 1 0 (.ip none [aI f.name,eBlocks f.blocks]) rfl (by simp [AObj.isSpare]) trivial rfl ?_ ?_
 rotate_left
 simp -dsimp only [simprocAttr,↓vpre,zp]
 ·refine zh1 ?_
  refine zi hrr ?_
  refine za0 ?_
  refine zg2 ?_
  simp -dsimp only [simprocAttr,↓vpre,zp,hde]
  refine za0 ?_
  refine zw0 rfl ?_
  refine zh1 (za0 ?_)
  refine awp_ret ?_
  simp -dsimp only [simprocAttr,↓vpre,zp,zr,Try.results23]
  simp [uptoL,AVal.upto]
 exact FSub.mp rfl rfl
def nxM(f:Func)(i:Nat):Nat:=(((List.range i).map fun k:Nat=>(k:Int)).filter fun k=>decide (0≤plF f k)).length
theorem nxM_le(f:Func)(i:Nat):nxM f i≤i:=by
 have:=(List.filter_sublist (l:=(List.range i).map fun k:Nat=>(k:Int)) (p:=fun k=>decide (0≤plF f k))).length_le
 simpa [nxM] using this
theorem nxM_succ(f:Func)(i:Nat):nxM f (i+1)=nxM f i+if 0≤posM f (i:Int) then 1 else 0:=by
 have hp:0≤posM f (i:Int)↔0≤plF f (i:Int):=⟨fun h=>mem_rchS.1 ((idxI_mem (l:=rchS f) (n:=(i:Int))).1.1 h),fun h=>(pos_at h).1⟩
 unfold nxM
 rw [List.range_succ,List.map_append,List.filter_append,List.length_append]
 congr 1
 by_cases h:0≤plF f (i:Int)
 ·rw [if_pos (hp.2 h)]
  simp [h]
 rw [if_neg (fun q=>h (hp.1 q))]
 simp [h]
theorem pos_nx{f:Func}(hw:OrdW f){i:Nat}(h:0≤posM f (i:Int)):posM f (i:Int)=nxM f i:=by
 have hp:=mem_rchS.1 ((idxI_mem (l:=rchS f) (n:=(i:Int))).1.1 h)
 have hr:=hw.range _ hp
 refine pos_of hw ?_
 rw [rch_eq hw]
 obtain⟨n,hn⟩:∃n,f.blocks.length=i+1+n:=⟨f.blocks.length - (i+1),by omega⟩
 rw [hn,List.range_add,List.range_succ,List.append_assoc,List.map_append,List.filter_append]
 unfold nxM
 rw [List.getElem?_append_right (Nat.le_refl _),Nat.sub_self,List.map_append,List.filter_append]
 simp [hp]
theorem cfgPrunes_law(u:Unt)(hfit:u.fit):PCall Try.prog 5 [u.enc] (.v (.bool true)):=by
 have hwk:=works_spec
 have hrun:=run_spec u hfit 1500
 by_cases he:(runM u 1500).e=0
 ·have hc:checkM u=0:=Classical.byContradiction fun q=>by
   unfold runM at he
   rw [if_pos q] at he
   exact q he
  obtain⟨k1,k2,k3,k4,k5,k6⟩:=check_parts hc
  have hfit':=pruneU_fit hfit hc
  have hrun2:=run_spec (pruneU u) hfit' 1500
  have hA:runM u 1500=performM u 1500:=by
   unfold runM
   rw [if_neg (by simp [hc]),if_neg (by decide)]
  have hB:runM (pruneU u) 1500=runM u 1500:=by
   rw [hA] at he ⊢
   unfold runM
   rw [if_neg (by simp [pruneU_check hfit hc]),if_neg (by decide)]
   exact pruneU_law hfit hc (by omega) he
  rw [hB] at hrun2
  generalize runM u 1500=A at *
  obtain⟨out,fin,val,n,e⟩:=A
  simp only at he
  subst he
  unfold Ans.enc at hrun hrun2
  simp only at hrun hrun2
  have hsr:=sameResult_spec out out fin fin val val
  unfold eRes at hsr
  simp only [decide_true,Bool.and_self] at hsr
  have hfew:u.fns.length≤256:=k2
  have hfns:∀f∈u.fns,f.fit∧checkFuncM f=0:=fun f hf=>⟨hfit.2.2 f hf,k4 f hf⟩
  have hU:(pruneU u).enc=.agg [.lst 2 ((u.fns.map pruneM).map Func.enc) .sh,aI u.main]:=rfl
  rw [hU] at hrun2
  clear hB hA hfit'
  refine zf true 0 Try.func5 Try.ntmps5 ?_
  dsimp only [Tmp,TypeId,slotsOf]
  refine zh1 (za0 ?_)
  refine awp_freeze1 1 0 (.ip none [eFuncs u.fns,aI u.main]) rfl (by simp [AObj.isSpare]) trivial rfl ?_ ?_
  rotate_left
  simp -dsimp only [simprocAttr,↓vpre,zp]
  ·refine zh2 ?_
   refine zi hwk ?_
   refine za0 ?_
   apply zk0 rfl<;>intro h
   ·cases h
   refine zb0 ?_
   refine zh1 ?_
   refine zi hrun ?_
   refine za0 ?_
   refine awp_freeze1 3 1 (.ip none [.lst 1 (out.map aI) .sh,aI fin,aI val]) rfl (by simp [AObj.isSpare]) trivial rfl ?_ ?_
   rotate_left
   simp -dsimp only [simprocAttr,↓vpre,zp]
   ·refine zh2 (za0 ?_)
    apply zk0 rfl<;>intro h
    ·cases h
    refine zb0 ?_
    refine zh1 (za0 ?_)
    refine awp_ownCell 2 0 rfl rfl ?_
    simp -dsimp only [simprocAttr,↓vpre,zp]
    refine zh2 (za0 ?_)
    refine awp_block (awp_loop (ι:={k:Nat // k≤u.fns.length}) (fun k=>⟨113,[(3,.ip none [.lst 1 (out.map aI) .sh,aI fin,aI val]),(4,aI n),(6,.mp 2 0),(33,eFuncs u.fns),(34,aI u.fns.length),(35,aI k.1)],[.gone,.gone,.cells [.lst 2 (((u.fns.take k.1).map pruneM).map Func.enc) (.tok 3),aI u.main],.spare k.1]⟩) (fun k=>u.fns.length - k.1) ⟨0,by omega⟩ ?_ ?_)
    ·refine zq rfl ?_ ?_
     simp -dsimp only [simprocAttr,↓vpre,zp,zc]
     all_goals rfl
    rintro⟨k,hk⟩
    refine zh1 (za0 ?_)
    apply zk1 rfl<;>intro h
    ·refine zb0 ?_
     have hlt:k<u.fns.length:=by simpa using h
     obtain⟨f,hf⟩:∃f,u.fns[k]?=some f:=⟨u.fns[k],by simp [hlt]⟩
     obtain⟨ff,fc⟩:=hfns f (List.mem_of_getElem? hf)
     have hg:=(checkFunc_ok ff fc).gr
     have hw:=ord_w hg
     have hpr:=prune_spec f ff
     unfold pruneR at hpr
     rw [if_pos fc] at hpr
     have hc':=prune_check ff fc
     have hff':=prune_fit ff hg
     have hrr:=reachable_spec (pruneM f) hff'
     unfold rchR at hrr
     rw [if_pos hc'] at hrr
     have hAl:(atM f).length=f.blocks.length:=by simp [atM]
     have hAt:∀k:Nat,k<f.blocks.length→(atM f)[k]?=some (posM f k):=fun k hk=>by
      unfold atM
      rw [List.getElem?_map,List.getElem?_range hk]
      rfl
     have hrl:=prune_all hg (ord_w (checkFunc_ok hff' hc').gr)
     have hpx:∀i:Nat,0≤posM f (i:Int)→posM f (i:Int)=nxM f i:=fun i h=>pos_nx hw h
     have hns:=nxM_succ f
     have hnl:=nxM_le f
     have hn128:f.blocks.length≤128:=hg.few
     have htk:(((u.fns.take (k+1)).map pruneM).map Func.enc)=((u.fns.take k).map pruneM).map Func.enc++[(pruneM f).enc]:=by
      rw [List.take_add_one,hf]
      simp
     have hTu:∀n,uptoL n (((u.fns.take k).map pruneM).map Func.enc):=fun n=>Func.map_upto n _
     have htl:(((u.fns.take k).map pruneM).map Func.enc).length=k:=by
      simp
      omega
     obtain⟨g,hge⟩:∃g,g=pruneM f:=⟨_,rfl⟩
     rw [←hge] at hpr hrr hrl htk
     generalize rchS g=G at *
     have hge2:g.enc=.agg [aI g.name,eBlocks g.blocks]:=rfl
     rw [hge2] at hpr hrr htk
     obtain⟨P,hP⟩:∃P:Nat→Int,P=fun k:Nat=>posM f (k:Int):=⟨_,rfl⟩
     have hP2:∀k:Nat,posM f (k:Int)=P k:=fun k=>by rw [hP]
     simp only [hP2] at hAt hpx hns
     generalize atM f=A at *
     generalize nxM f=X at *
     generalize ((u.fns.take k).map pruneM).map Func.enc=T at *
     have hx0:X 0=0:=by
      have:=hnl 0
      omega
     clear hff' hc' hP hP2 hw hg hge hge2
     refine awp_seq (awp_block ?_)
     refine zg1 ?_
     simp -dsimp only [simprocAttr,↓vpre,zp,hf]
     refine za0 ?_
     refine awp_freeze1 8 4 (.ip none [aI f.name,eBlocks f.blocks]) rfl (by simp [AObj.isSpare]) trivial rfl ?_ ?_
     rotate_left
     simp -dsimp only [simprocAttr,↓vpre,zp]
     ·refine zh1 ?_
      refine zi hpr ?_
      refine za0 ?_
      refine awp_freeze1 9 5 (.ip none [aI g.name,eBlocks g.blocks]) rfl (by simp [AObj.isSpare]) trivial rfl ?_ ?_
      rotate_left
      simp -dsimp only [simprocAttr,↓vpre,zp]
      ·refine zg2 ?_
       simp -dsimp only [simprocAttr,↓vpre,zp,hAl]
       refine za0 ?_
       apply zk0 rfl<;>intro h
       ·cases h
       refine zb0 ?_
       refine zh1 ?_
       refine zi hrr ?_
       refine za0 ?_
       refine zg2 ?_
       simp -dsimp only [simprocAttr,↓vpre,zp,hrl]
       refine za0 ?_
       apply zk0 rfl<;>intro h
       ·cases h
       refine zb0 ?_
       refine zh1 (za0 ?_)
       refine awp_trunc' 4 [(3,.ip none [.lst 1 (out.map aI) .sh,aI fin,aI val]),(4,aI n),(6,.mp 2 0),(33,eFuncs u.fns),(34,aI u.fns.length),(35,aI k),(9,.ip none [aI g.name,eBlocks g.blocks]),(10,eIs A),(13,aI 0)] (by simp) (by omega) [.gone,.gone,.cells [.lst 2 T (.tok 3),aI u.main],.spare k] ?_ ?_ ?_ ?_ ?_
       ·rfl
       ·simp [AObj.upto,uptoL,AVal.upto,aI_upto,Func.map_upto,Block.map_upto,Edge.map_upto,Ins.map_upto,hTu]
       ·simp [Says,St.get,putS,dropS,Go.Av.look,Sub.refl]
       ·simp [AObj.upto,uptoL,AVal.upto,aI_upto,Func.map_upto,Block.map_upto,Edge.map_upto,Ins.map_upto,hTu]
       refine zg2 ?_
       simp -dsimp only [simprocAttr,↓vpre,zp,hAl]
       refine za0 ?_
       refine awp_block (awp_loop (ι:={i:Nat // i≤f.blocks.length}) (fun i=>⟨113,[(3,.ip none [.lst 1 (out.map aI) .sh,aI fin,aI val]),(4,aI n),(6,.mp 2 0),(33,eFuncs u.fns),(34,aI u.fns.length),(35,aI k),(9,.ip none [aI g.name,eBlocks g.blocks]),(13,aI (X i.1)),(70,eIs A),(71,aI f.blocks.length),(72,aI i.1)],[.gone,.gone,.cells [.lst 2 T (.tok 3),aI u.main],.spare k]⟩) (fun i=>f.blocks.length - i.1) ⟨0,by omega⟩ ?_ ?_)
       ·refine zq rfl ?_ ?_
        simp -dsimp only [simprocAttr,↓vpre,zp,zc,hx0]
        all_goals rfl
       rintro⟨i,hi⟩
       refine zh1 (za0 ?_)
       apply zk1 rfl<;>intro h
       ·refine zb0 ?_
        have hli:i<f.blocks.length:=by simpa using h
        have hAi:=hAt i hli
        have hXi:=hns i
        have hXl:=hnl i
        have hPi:=hpx i
        refine awp_seq (awp_block ?_)
        refine zg1 ?_
        simp -dsimp only [simprocAttr,↓vpre,zp,hAi]
        refine za0 ?_
        by_cases hp:0≤P i
        ·have g1:decide (0≤P i)=true:=decide_eq_true hp
         have g2:decide (P i=(X i:Int))=true:=decide_eq_true (hPi hp)
         rw [if_pos hp] at hXi
         refine zg2 ?_
         simp -dsimp only [simprocAttr,↓vpre,zp,g1,g2]
         refine za0 ?_
         refine zu0 rfl ?_
         refine zb0 ?_
         refine zg1 ?_
         simp -dsimp only [simprocAttr,↓vpre,zp,g1]
         refine za0 ?_
         refine zw0 rfl ?_
         refine zh0 ?_
         repeat(refine⟨by omega,?_⟩)
         refine za0 ?_
         refine zh0 ?_
         repeat(refine⟨by omega,?_⟩)
         refine zl0 ?_
         refine⟨⟨i+1,hli⟩,by simp;omega,?_⟩
         refine zq rfl ?_ ?_
         simp -dsimp only [simprocAttr,↓vpre,zp,zc]
         ·exact⟨Sub.int (by rw [hXi];simp),Sub.int (by simp)⟩
         rfl
        have g1:decide (0≤P i)=false:=decide_eq_false hp
        rw [if_neg hp] at hXi
        refine zg2 ?_
        simp -dsimp only [simprocAttr,↓vpre,zp,g1]
        refine za0 ?_
        refine zu0 rfl ?_
        refine zb0 ?_
        refine zg1 ?_
        simp -dsimp only [simprocAttr,↓vpre,zp,g1]
        refine za0 ?_
        refine zu0 rfl ?_
        refine zb1 ?_
        refine zh0 ?_
        repeat(refine⟨by omega,?_⟩)
        refine zl0 ?_
        refine⟨⟨i+1,hli⟩,by simp;omega,?_⟩
        refine zq rfl ?_ ?_
        simp -dsimp only [simprocAttr,↓vpre,zp,zc]
        ·exact⟨Sub.int (by rw [hXi];simp),Sub.int (by simp)⟩
        rfl
       refine awp_exit ?_
       simp -dsimp only [vend,ne_eq,Nat.reduceEqDiff,reduceCtorEq]
       refine zg0 ?_
       simp -dsimp only [simprocAttr,↓vpre,zp,htl]
       repeat(refine⟨by omega,?_⟩)
       refine za0 ?_
       refine zh0 ?_
       repeat(refine⟨by omega,?_⟩)
       refine zl0 ?_
       refine⟨⟨k+1,hlt⟩,by simp;omega,?_⟩
       dsimp only
       rw [htk]
       refine zq rfl ?_ ?_
       simp -dsimp only [simprocAttr,↓vpre,zp,zc]
       ·exact Sub.int (by simp)
       rfl
      exact FSub.mp rfl rfl
     exact FSub.mp rfl rfl
    refine awp_exit ?_
    simp -dsimp only [vend,ne_eq,Nat.reduceEqDiff,reduceCtorEq]
    have hkk:k=u.fns.length:=by simp at h;omega
    subst hkk
    rw [List.take_length]
    refine zh1 ?_
    refine zi hrun2 ?_
    refine za0 ?_
    refine zg1 ?_
    simp -dsimp only [simprocAttr,↓vpre,zp,decide_true]
    refine .inl ⟨_,hsr,by simp only [uptoL,AVal.upto,zt,zu,aI_upto],later_intro ?_⟩
    simp -dsimp only [simprocAttr,↓vpre,zp,decide_true]
    refine za0 ?_
    refine awp_ret ?_
    simp -dsimp only [simprocAttr,↓vpre,zp,zr,Try.results5]
   exact FSub.mp rfl rfl
  exact FSub.mp rfl rfl
 generalize runM u 1500=A at *
 obtain⟨out,fin,val,n,e⟩:=A
 simp only at he
 unfold Ans.enc at hrun
 have de:decide (e=0)=false:=decide_eq_false he
 refine zf true 0 Try.func5 Try.ntmps5 ?_
 dsimp only [Tmp,TypeId,slotsOf]
 refine zh1 (za0 ?_)
 refine awp_freeze1 1 0 (.ip none [eFuncs u.fns,aI u.main]) rfl (by simp [AObj.isSpare]) trivial rfl ?_ ?_
 rotate_left
 simp -dsimp only [simprocAttr,↓vpre,zp]
 ·refine zh2 ?_
  refine zi hwk ?_
  refine za0 ?_
  refine zu0 rfl ?_
  refine zb0 ?_
  refine zh1 ?_
  refine zi hrun ?_
  refine za0 ?_
  refine zg2 ?_
  simp -dsimp only [simprocAttr,↓vpre,zp,de]
  refine za0 ?_
  refine zw0 rfl ?_
  refine zh1 (za0 ?_)
  refine awp_ret ?_
  simp -dsimp only [simprocAttr,↓vpre,zp,zr,Try.results5]
 exact FSub.mp rfl rfl
end Go.Proofs.Ytlclgfgmhnmnaaa
