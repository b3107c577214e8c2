/-
  Texts bound together by a program of mine: YtlclgfgmhnmnaaaT107, YtlclgfgmhnmnaaaT55, YtakdmelemfnmdaaAvv, YtlclgfgmhnmnaaaT56, YtlclgfgmhnmnaaaT123, YtlclgfgmhnmnaaaT126, YtlclgfgmhnmnaaaPue, YtlclgfgmhnmnaaaPuf, YtlclgfgmhnmnaaaT63, YtlclgfgmhnmnaaaT57, YtlclgfgmhnmnaaaT111, YtlclgfgmhnmnaaaT112, YtlclgfgmhnmnaaaT113, YtlclgfgmhnmnaaaT128.
-/
import Derived.Test.YtlclgfgmhnmnaaaH1
import Derived.Test.YtlclgfgmhnmnaaaChecked
import Derived.KernelRfl
import Derived.Shelf.Slices.SearchI
set_option linter.all false
set_option maxRecDepth 100000
set_option maxHeartbeats 4000000

namespace Go.Proofs.Ytlclgfgmhnmnaaa
open Go.Av
theorem order_own(f:Func)(hfit:f.fit)(hc:checkFuncM f=0):∃(O:List AObj) (oid:Nat),O[oid]?=some (.cells ((orderM f).map aI))∧(∀o∈O,o.upto O.length) ∧
  ECall Try.prog 56 [] [f.enc] (fun r O'=>r=.tup [.os oid (orderM f).length 1,aI 0]∧O'=O):=by
 have hck:=checkFunc_spec f hfit
 rw [hc] at hck
 have hg:=(checkFunc_ok hfit hc).gr
 have hsr:=search_spec f hg
 obtain⟨f1,f2,_⟩:=searchM_few hg
 have hXS:(soRun f 100000 (soStart f)).S=srRun f 100000 (srStart f):=soRun_S f 100000 (soStart f)
 have hX:=soRun_ok (f:=f) 100000 _ (soStart_ok f)
 obtain⟨X,hXe⟩:∃X,X=soRun f 100000 (soStart f):=⟨_,rfl⟩
 rw [←hXe] at hsr hX hXS
 have hout:X.S.out=searchM f:=by rw [hXS];rfl
 unfold orderM
 obtain⟨l,hl⟩:∃l,l=searchM f:=⟨_,rfl⟩
 rw [←hl] at f1 f2 hout ⊢
 have h1:=hX.out
 rw [hout,outV,if_neg f1] at h1
 obtain⟨h2,h3,h4⟩:=hX.outs (by rw [hout];exact f1)
 rw [hout] at h2
 have hup:=hX.up
 obtain⟨S,sid,oid,O⟩:=X
 simp only at h1 h2 h3 h4 hup hsr
 have hol:=lt_of_getElem? h2
 have hrev:=reverse_spec hup h2 (by omega)
 have h1':(O.set oid (.cells (l.reverse.map aI)))[1]?=some (.cells [.os oid l.length 1]):=at_set_ne h1 (by omega)
 have h2':(O.set oid (.cells (l.reverse.map aI)))[oid]?=some (.cells (l.reverse.map aI)):=at_set h2
 have hup2:∀o∈O.set oid (.cells (l.reverse.map aI)),o.upto O.length:=uptoO_set hup (aI_upto _ _)
 have hll:(O.set oid (.cells (l.reverse.map aI))).length=O.length:=by simp
 have htk:(O.set oid (.cells (l.reverse.map aI))).take O.length=O.set oid (.cells (l.reverse.map aI)):=take_set_len
 refine⟨O.set oid (.cells (l.reverse.map aI)),oid,h2',by rw [hll];exact hup2,?_⟩
 rw [List.length_reverse]
 generalize O.set oid (.cells (l.reverse.map aI))=O2 at *
 have hkk:([]:List AObj).length≤O.length:=Nat.zero_le _
 refine ecall_of hT true (O.length) Try.func56 rfl (by kernel_rfl) (by simp [Try.ntmps56]) (by assumption) ?_
 show AWP Try.prog _ _ _ ⟨17,_,_⟩
 dsimp only [Tmp,TypeId,slotsOf]
 refine zh1 (za0 ?_)
 refine awp_freeze1 1 0 (.ip none [aI f.name,eBlocks f.blocks]) rfl (by simp [AObj.isSpare]) trivial rfl ?_ ?_
 rotate_left
 simp -dsimp only [simprocAttr,↓vpre,zp]
 ·refine zh2 ?_
  refine zi hck ?_
  refine za0 ?_
  refine zh1 (za0 ?_)
  refine zu0 rfl ?_
  refine zb0 ?_
  refine zh1 (za0 ?_)
  refine zh1 ?_
  refine .inr (.inl ⟨_,_,hsr,.inl (later_intro (zj ?_))⟩)
  refine za0 ?_
  refine zg1 ?_
  simp -dsimp only [simprocAttr,↓vpre,zp,h1]
  refine .inr (.inl ⟨_,_,hrev,.inl (later_intro (zj ?_))⟩)
  refine za0 ?_
  refine zg1 ?_
  simp -dsimp only [simprocAttr,↓vpre,zp,h1']
  refine za0 ?_
  refine awp_ret ?_
  simp -dsimp only [simprocAttr,↓vpre,zp,zr,Try.results56,htk,hll]
  exact⟨hup2,⟨hol,trivial,trivial⟩,rfl⟩
 exact FSub.mp rfl rfl
def rchR(f:Func):AVal:=if checkFuncM f=0 then .tup [eIs (rchS f),aI 0] else .tup [eIs [],aI (checkFuncM f)]
theorem reachable_spec(f:Func)(hfit:f.fit):PCall Try.prog 24 [f.enc] (rchR f):=by
 unfold rchR
 by_cases hc:checkFuncM f=0
 ·rw [if_pos hc]
  obtain⟨O,oid,h1,h2,hor⟩:=order_own f hfit hc
  have hfew:=(ord_w (checkFunc_ok hfit hc).gr).few
  have hso:=sort_spec (O:=O) (id:=oid) (zs:=orderM f) h1 (by omega)
  have h3:(O.set oid (.cells ((sortI (orderM f)).map aI)))[oid]?=some (.cells ((sortI (orderM f)).map aI)):=at_set h1
  have hsl:=(sortI_perm (orderM f)).length_eq
  unfold rchS
  generalize O.set oid (.cells ((sortI (orderM f)).map aI))=O2 at *
  obtain⟨l,hl⟩:∃l,l=sortI (orderM f):=⟨_,rfl⟩
  rw [←hl] at h3 hsl ⊢
  rw [←hsl] at hso hor
  refine zf true 0 Try.func24 Try.ntmps24 ?_
  dsimp only [Tmp,TypeId,slotsOf]
  refine zh1 (za0 ?_)
  refine awp_freeze1 1 0 (.ip none [aI f.name,eBlocks f.blocks]) rfl (by simp [AObj.isSpare]) trivial rfl ?_ ?_
  rotate_left
  simp -dsimp only [simprocAttr,↓vpre,zp]
  ·refine awp_trunc' 0 [(1,.ip none [aI f.name,eBlocks f.blocks])] (by omega) (by omega) [] ?_ ?_ ?_ ?_ ?_
   ·rfl
   ·simp [AObj.upto]
   ·simp [Says,St.get,putS,dropS,Go.Av.look,Sub.refl]
   ·simp [AObj.upto,uptoL,AVal.upto,aI_upto,Func.map_upto,Block.map_upto,Edge.map_upto,Ins.map_upto]
   refine zh1 ?_
   refine .inr (.inl ⟨_,_,hor,.inl (later_intro (zj ?_))⟩)
   refine za0 ?_
   refine zh1 ?_
   refine .inr (.inl ⟨_,_,hso,.inl (later_intro (zj ?_))⟩)
   refine za0 ?_
   refine zh1 (za0 ?_)
   refine awp_freeze1 2 oid (o:=.cells (l.map aI)) (eIs l) h3 (by simp [AObj.isSpare]) trivial rfl (FSub.os (cs:=l.map aI) h3 ?_ ?_ ?_) ?_
   ·intro x hx
    obtain⟨c,_,rfl⟩:=List.mem_map.1 hx
    rfl
   ·simp
   ·rw [List.drop_zero,List.take_of_length_le (by simp)]
    exact aI_cellsAll _
   simp -dsimp only [simprocAttr,↓vpre,zp]
   refine awp_ret ?_
   simp -dsimp only [simprocAttr,↓vpre,zp,zr,Try.results24]
   exact⟨⟨aI_upto _ _,trivial⟩,trivial,trivial⟩
  exact FSub.mp rfl rfl
 rw [if_neg hc]
 have hor:=order_spec f hfit
 unfold orderR at hor
 rw [if_neg hc] at hor
 generalize checkFuncM f=e at *
 refine zf true 0 Try.func24 Try.ntmps24 ?_
 dsimp only [Tmp,TypeId,slotsOf]
 refine zh1 (za0 ?_)
 refine awp_freeze1 1 0 (.ip none [aI f.name,eBlocks f.blocks]) rfl (by simp [AObj.isSpare]) trivial rfl ?_ ?_
 rotate_left
 simp -dsimp only [simprocAttr,↓vpre,zp]
 ·refine zh1 ?_
  refine zi hor ?_
  refine za0 ?_
  refine zh1 ?_
  refine .inr (.inl ⟨_,_,(sort_nil _),.inl (later_intro (zj ?_))⟩)
  refine za0 ?_
  refine zh1 (za0 ?_)
  refine awp_ret ?_
  simp -dsimp only [simprocAttr,↓vpre,zp,zr,Try.results24]
  simp [uptoL,AVal.upto]
 exact FSub.mp rfl rfl
theorem aI_at{l:List Int}{k:Nat}{x:Int}(h:l[k]?=some x):(l.map aI)[k]?=some (aI x):=by
 rw [List.getElem?_map,h]
 rfl
theorem meet_spec{O:List AObj}(hup:∀o∈O,o.upto O.length){A B N:Nat}{f:Func}(hw:OrdW f){ov:List Int}(hA:O[A]?=some (.cells (ov.map aI)))(hB:O[B]?=some (.cells ((plL f).map aI)))(hN:N=f.blocks.length)(ht:Tr f ov){a b:Int}(ha:Asg ov a)(hb:Asg ov b) :
  ECall Try.prog 67 O [.agg [.ms A 0 N N,.ms B 0 N N],aI a,aI b] (fun r O'=>r=aI (meetM (plL f) ov 300 a b)∧O'=O):=by
 have hAl:=lt_of_getElem? hA
 have hBl:=lt_of_getElem? hB
 obtain⟨R,hR⟩:∃R,R=meetM (plL f) ov 300 a b:=⟨_,rfl⟩
 rw [←hR]
 have hfew:=hw.few
 have hst:plF f a+plF f b<(300:Nat):=by
  have:=(hw.low a).2
  have:=(hw.low b).2
  omega
 refine zf true O.length Try.func67 Try.ntmps67 ?_
 dsimp only [Tmp,TypeId,slotsOf]
 refine zh1 (za0 ?_)
 refine awp_local 3 ([.ms A 0 N N,.ms B 0 N N]) [(1,aI a),(2,aI b),(3,.ip none [.ms A 0 N N,.ms B 0 N N])] (by simp [putS,dropS,Go.Av.look]) (by rfl) (by omega) (by simp [putS,dropS,Go.Av.look]) ?_ ?_ ?_
 ·exact hup
 ·simp [AVal.upto,uptoL,hAl,hBl]
 refine awp_seq (awp_block (awp_loop (ι:={x:Nat×Int×Int // R=meetM (plL f) ov x.1 x.2.1 x.2.2∧Asg ov x.2.1∧Asg ov x.2.2∧plF f x.2.1+plF f x.2.2<x.1}) (fun x=>⟨32,[(1,aI x.1.2.1),(2,aI x.1.2.2),(3,.ip none [.ms A 0 N N,.ms B 0 N N])],O⟩) (fun x=>x.1.1) ⟨(300,a,b),hR,ha,hb,hst⟩ ?_ ?_))
 ·refine zq rfl ?_ ?_
  simp -dsimp only [simprocAttr,↓vpre,zp,zc]
  rfl
 rintro⟨⟨n,a,b⟩,hRe,ha,hb,hlt⟩
 simp only at hRe ha hb hlt
 have pa:=ht.asg hw ha
 have pb:=ht.asg hw hb
 have ra:=hw.range a pa
 have rb:=hw.range b pb
 obtain⟨n,rfl⟩:∃n',n=n'+1:=⟨n - 1,by omega⟩
 have ea:=plL_at ra.1 ra.2
 have eb:=plL_at rb.1 rb.2
 have hpa:atI (plL f) a=plF f a:=by unfold atI;rw [ea];rfl
 have hpb:atI (plL f) b=plF f b:=by unfold atI;rw [eb];rfl
 have hea:=aI_at ea
 have heb:=aI_at eb
 by_cases hab:a=b
 ·have hd:decide (a=b)=true:=decide_eq_true hab
  refine zg2 ?_
  simp -dsimp only [simprocAttr,↓vpre,zp,hd]
  refine za0 ?_
  refine zu0 rfl ?_
  refine awp_exit ?_
  simp -dsimp only [vend,ne_eq,Nat.reduceEqDiff,reduceCtorEq]
  subst hab
  have:R=a:=by rw [hRe];simp [meetM]
  rw [this]
  refine zh1 (za0 ?_)
  refine awp_ret ?_
  simp -dsimp only [simprocAttr,↓vpre,zp,zr,Try.results67]
  exact hup
 have hd:decide (a=b)=false:=decide_eq_false hab
 simp only [meetM,if_neg hab,hpa,hpb] at hRe
 refine zg2 ?_
 simp -dsimp only [simprocAttr,↓vpre,zp,hd]
 refine za0 ?_
 apply zk0 rfl<;>intro h
 ·refine zb0 ?_
  refine awp_block ?_
  refine zg1 ?_
  simp -dsimp only [simprocAttr,↓vpre,zp,hB,hea,heb,Nat.mul_one]
  repeat(refine⟨by omega,?_⟩)
  refine⟨orderB_ren [B] O.length [.pure,.pure,.pure,.pure,.rd 0,.pure,.pure,.pure,.pure,.rd 0,.pure] (by simp) (by simp;omega) rfl rfl (by kernel_rfl),?_⟩
  refine za0 ?_
  by_cases hlp:plF f b<plF f a
  ·rw [if_pos hlp] at hRe
   have hu:0≤atI ov a:=by
    rcases ha with q | q
    ·rw [q,hw.zero] at hlp
     omega
    exact q
   obtain⟨u1,u2,u3⟩:=ht.up a hu
   obtain⟨x,hx⟩:∃x,ov[a.toNat]?=some x:=⟨ov[a.toNat]'(by rw [ht.len];omega),List.getElem?_eq_getElem _⟩
   have hxe:atI ov a=x:=by simp [atI,hx]
   rw [hxe] at hRe u1 u2 u3
   have hxx:=aI_at hx
   apply zk0 rfl<;>intro h
   ·refine zg0 ?_
    simp -dsimp only [simprocAttr,↓vpre,zp,hA,hxx,Nat.mul_one]
    repeat(refine⟨by omega,?_⟩)
    refine zl1 ?_
    refine⟨⟨(n,x,b),hRe,u3,hb,by simp only;omega⟩,by simp,?_⟩
    refine zq rfl ?_ ?_
    simp -dsimp only [simprocAttr,↓vpre,zp,zc]
    rfl
   exact absurd hlp (of_decide_eq_false h)
  rw [if_neg hlp] at hRe
  have hu:0≤atI ov b:=by
   rcases hb with q | q
   ·rw [q,hw.zero] at hlp
    have:a=0:=hw.inj a 0 pa (by rw [hw.zero];omega)
    exact absurd (this.trans q.symm) hab
   exact q
  obtain⟨u1,u2,u3⟩:=ht.up b hu
  obtain⟨x,hx⟩:∃x,ov[b.toNat]?=some x:=⟨ov[b.toNat]'(by rw [ht.len];omega),List.getElem?_eq_getElem _⟩
  have hxe:atI ov b=x:=by simp [atI,hx]
  rw [hxe] at hRe u1 u2 u3
  have hxx:=aI_at hx
  apply zk0 rfl<;>intro h
  ·exact absurd (of_decide_eq_true h) hlp
  refine zg0 ?_
  simp -dsimp only [simprocAttr,↓vpre,zp,hA,hxx,Nat.mul_one]
  repeat(refine⟨by omega,?_⟩)
  refine zl1 ?_
  refine⟨⟨(n,a,x),hRe,ha,u3,by simp only;omega⟩,by simp,?_⟩
  refine zq rfl ?_ ?_
  simp -dsimp only [simprocAttr,↓vpre,zp,zc]
  rfl
 cases h
end Go.Proofs.Ytlclgfgmhnmnaaa
namespace Go.Av
theorem turn_new{g:G}(hg:Good g){id m:Nat}(h:g.objs[id]?=some (.spare m))(arr:Array Value)(t:TypeId)(cs:List AVal)(hlen:cs.length≤arr.size)
  (hrv:∀(g':G) (j:Nat) (c:AVal) (u:Value),cs[j]?=some c→arr[j]?=some u→RV g' c u) (hsc:∀c∈cs,c.scalar) :
  Le g (g.turn id (some ⟨g.w.heap.size,0,arr.size⟩) (.cells cs) (g.w.alloc (.cells arr t)))∧Good (g.turn id (some ⟨g.w.heap.size,0,arr.size⟩) (.cells cs) (g.w.alloc (.cells arr t))):=by
 have hturn:Turns g id (.spare m) (some ⟨g.w.heap.size,0,arr.size⟩) (.cells cs) (g.w.alloc (.cells arr t)):={
  obj:=h
  os:=rfl
  tape:=rfl
  output:=rfl
  size:=by show g.w.heap.size≤(g.w.heap.push _).size;rw [Array.size_push];omega
  block:=fun k hk _=>heap_push_lt g.w _ hk
  cell:=fun b off x hx _=>by
   have:=cell_lt hx
   rw [cell_congr (heap_push_lt g.w (.cells arr t) this)]
   exact hx
  place:=fun l1 h1 _=>by
   simp only [Option.some.injEq] at h1
   subst h1
   exact .inl (Nat.le_refl _)
  spare:=fun _ _=>.inr (by simp [AObj.isSpare])
  plain:=fun h=>absurd trivial h
  gone:=by simp }
 exact⟨Le.turn hg hturn,Good.turn hg hturn ⟨_,arr,t,rfl,rfl,heap_push_new g.w _,hlen,fun j c u hj hu=>hrv _ j c u hj hu,hsc,Nat.le_refl _⟩ (fun l1 h1 _=>by
  simp only [Option.some.injEq] at h1
  subst h1
  exact lt_of_getElem?' (heap_push_new g.w (.cells arr t)))⟩
theorem cert_alloc_at{P:Program}{tab:Tab}(hT:TabOK P tab){o:Oper}{σ:St}{t:TypeId}{ti:TInfo}{id m:Nat}(ho:o.op=.alloc t)(hd:∀d,o.dst=some d→d<σ.n)(ht:tab t=some ti)(hid:σ.objs[id]?=some (.spare m)) :
  Cert P o σ (.mp id 0) (.new id (.cells ti.zero)) :=
 Cert.ofAgree trivial hd fun base σ' a g hrel h ho'=>by
  have hg:=hrel.good
  obtain⟨z,hz,h5,_,_,h8,h9⟩:=(hT t ti ht).zeroValue
  have hid':g.objs[id]?=some (.spare m):=Eq.trans ho' hid
  obtain⟨hle,hgood⟩:=turn_new hg hid' z.cells t ti.zero (by rw [h5];exact Nat.le_refl _) (fun g' j c u a b=>h8 g' j c u a b) h9
  refine⟨.pointer (some ⟨g.w.heap.size,0,none⟩),_,.inl ?_,hle,hgood,?_,?_⟩
  ·simp [execOp,ho,Instr.alloc,hz,Go.newVar,Go.newRow,G.turn]
  ·simp [G.turn,Mode.post]
  exact .mp (l:=⟨g.w.heap.size,0,z.cells.size⟩) (o:=.cells ti.zero) (by simp only [G.turn];rw [List.getElem?_set_self (env_lt hg hid')]) (by simp only [G.turn];rw [List.getElem?_set_self (lt_of_getElem? hid')]) (by simp [AObj.isSpare])
theorem cert_makeSlice_at{P:Program}{tab:Tab}(hT:TabOK P tab){o:Oper}{σ:St}{t e:TypeId}{x y:Operand}{ti te:TInfo}{k k':IntKind}{n:Int}{id m':Nat}
  (ho:o.op=.makeSlice t x y) (hd:∀d,o.dst=some d→d<σ.n) (ht:tab t=some ti) (hdesc:ti.desc=.slice e) (he:tab e=some te) (hx:σ.ev x=some (.v (.int k n))) (hy:σ.ev y=some (.v (.int k' n)))
  (h0:0≤n) (hb:te.bytes * n.toNat≤2 ^ 48) (h62:n.toNat≤2 ^ 62) (hs:0<te.size) (hid:σ.objs[id]?=some (.spare m')) :
  Cert P o σ (.ms id 0 n.toNat n.toNat) (.new id (.cells (List.replicate n.toNat te.zero).flatten)) :=
 Cert.ofAgree trivial hd fun base σ' a g hrel h ho'=>by
  have hg:=hrel.good
  have hid':g.objs[id]?=some (.spare m'):=Eq.trans ho' hid
  have ex:=(h x (by simp [ho,Op.operands]) _ hx).v_inv.1
  have ey:=(h y (by simp [ho,Op.operands]) _ hy).v_inv.1
  have hu:=slice_desc hT ht hdesc
  obtain⟨⟨i,z,h1,h2,h3,h4,h5,h6,h7,h8,h9⟩,_⟩:=hT e te he
  obtain⟨m,rfl⟩:=Int.eq_ofNat_of_zero_le h0
  simp only [Int.toNat_natCast] at *
  have hb':(i.bytes:Int) * (m:Int)≤281474976710656:=by
   rw [h3,←Int.natCast_mul]
   omega
  have hrun:=run_make (P:=P) g.w t e i z hu h1 h4 k k' m m (by omega) (Int.le_refl _) hb' (by omega)
  simp only [Int.toNat_natCast] at hrun
  have hlen:(List.replicate m te.zero).flatten.length=m * te.size:=by simp [h6]
  have hget:∀(j:Nat) (c:AVal),(List.replicate m te.zero).flatten[j]?=some c→te.zero[j % te.size]?=some c:=fun j c=>h6 ▸ rep_get te.zero (by omega) m j c
  obtain⟨hle,hgood⟩:=turn_new hg hid' (madeCells z.cells (m * i.size)) e (List.replicate m te.zero).flatten (by rw [hlen,size_madeCells,h2];exact Nat.le_refl _) (fun g' j c u hj hu'=>by
   have hj':=hget j c hj
   have hlt:=lt_of_getElem? hj
   rw [hlen] at hlt
   have hlt':j % te.size<z.cells.size:=by rw [h5];exact lt_of_getElem? hj'
   refine h8 _ _ _ _ hj' ?_
   simp only [madeCells,Array.getElem?_map,h2,Array.getElem?_range,if_pos hlt,Option.map_some,Option.some.injEq] at hu'
   subst hu'
   rw [h5,h6]
   simp [hlt']) (fun c hc=>by
   rw [List.mem_flatten] at hc
   obtain⟨l,hl,hc⟩:=hc
   rw [List.mem_replicate] at hl
   exact h9 c (hl.2 ▸ hc))
  refine⟨.slice (some ⟨g.w.heap.size,0,none⟩) m m,_,.inl ?_,hle,hgood,?_,?_⟩
  ·simp [execOp,ho,ex,ey,hrun,G.turn]
  ·simp [G.turn,Mode.post]
  exact .ms (l:=⟨g.w.heap.size,0,(madeCells z.cells (m * i.size)).size⟩) (o:=.cells (List.replicate m te.zero).flatten) (by simp only [G.turn];rw [List.getElem?_set_self (env_lt hg hid')]) (by simp only [G.turn];rw [List.getElem?_set_self (lt_of_getElem? hid')]) (by simp [AObj.isSpare]) (Nat.le_refl _) (Nat.le_refl _) h62
theorem awp_keep{P:Program}{kb:Nat}{c:Code}{Q:AEx→St→Prop}{n:Nat}{slots:List (Nat×AVal)}:∀(k:Nat) {O:List AObj},AWP P kb c Q ⟨n,slots,O++List.replicate k (.spare 0)⟩→AWP P kb c Q ⟨n,slots,O⟩
 | 0,O,h=>by simpa using h
 | k+1,O,h=>by
  have h2:AWP P kb c Q ⟨n,slots,O++[.spare 0]⟩:=awp_keep k (by simpa [List.replicate_succ] using h)
  exact h2.weaken fun base a g hb hr=>by
   have hO:g.objs=O:=hr.objs
   refine⟨g.mark (.spare 0),rfl,?_⟩
   have hle:=Le.mark hr.good (.spare 0)
   refine { le:=hr.le.trans hle,good:=Good.mark hr.good _,objs:=by simp [G.mark,hO],size:=hr.size,defers:=hr.defers,slot:=fun s x hx=>?_ }
   obtain⟨u,e1,e2⟩:=hr.slot s x hx
   exact⟨u,e1,e2.mono hle⟩
def ChP(P:Program)(all:List Oper)(k:Nat)(σ:St)(ks:List Kind)(R:St→List Kind→Prop):Prop :=
 ∃(ρ:St) (ks':List Kind),ks'.length+k=all.length∧Chain P all.toArray ((ks'.zipIdx k).map fun p=>(p.2,p.1)) σ ρ∧R ρ (ks++ks')
theorem ChP.fin{P:Program}{all:List Oper}{k:Nat}{σ:St}{ks:List Kind}{R:St→List Kind→Prop}(hk:k=all.length)(h:R σ ks):ChP P all k σ ks R :=
 ⟨σ,[],by simpa using hk,Same.refl σ,by simpa using h⟩
theorem ChP.op{P:Program}{all:List Oper}{k:Nat}{σ:St}{ks:List Kind}{R:St→List Kind→Prop}{o:Oper}{x:AVal}{m:Mode}(ho:all[k]?=some o)(hg:o.guard=none)(hc:Cert P o σ x m)
  (h:ChP P all (k+1) ⟨σ.n,putO o.dst x σ.slots,m.post σ.objs⟩ (ks++[m.kind]) R):ChP P all k σ ks R:=by
 obtain⟨ρ,ks',h1,h2,h3⟩:=h
 refine⟨ρ,m.kind::ks',by simp only [List.length_cons];omega,?_,by simpa using h3⟩
 rw [List.zipIdx_cons,List.map_cons]
 exact⟨_,⟨o,by simpa using ho,.inl ⟨by simp [wantedA,hg],x,m,hc,rfl,rfl⟩⟩,h2⟩
theorem chain_app{P:Program}{ops:Array Oper}:∀{l1 l2:List (Nat×Kind)} {σ τ ρ:St},Chain P ops l1 σ τ→Chain P ops l2 τ ρ→Chain P ops (l1++l2) σ ρ
 | [],_,_,_,_,h1,h2=>h2.same h1.symm
 | _::_,_,_,_,_,⟨σ',h,h1⟩,h2=>⟨σ',h,chain_app h1 h2⟩
theorem chain_off{P:Program}{ops all:Array Oper}{k:Nat}(hk:∀i o,ops[i]?=some o→all[k+i]?=some o)(hg:∀o∈all.toList,o.guard=none):∀{l:List (Nat×Kind)} {σ τ:St},Chain P ops l σ τ→Chain P all (l.map fun p=>(k+p.1,p.2)) σ τ
 | [],_,_,h=>h
 | (i,q)::r,_,_,h=>by
  obtain⟨σ',⟨o,ho,h1⟩,h2⟩:=h
  refine⟨σ',⟨o,hk i o ho,?_⟩,chain_off hk hg h2⟩
  have ho':=hk i o ho
  have hgo:o.guard=none:=hg o (by
   rw [←Array.getElem?_toList] at ho'
   exact List.mem_of_getElem? ho')
  have w1:∀(a:Array Oper) (σ:St),wantedA a o σ=some true:=fun a σ=>by simp [wantedA,hgo]
  rcases h1 with⟨_,h1⟩ | ⟨h1,_⟩
  ·exact .inl ⟨w1 _ _,h1⟩
  rw [w1] at h1
  cases h1
theorem ChP.seg{P:Program}{tab:Tab}(md:Md)(hT:TabOK P tab){all l1:List Oper}{k:Nat}{σ:St}{ks:List Kind}{R:St→List Kind→Prop}(n:Nat)(h1:(all.drop k).take n=l1)(hn:l1.length=n)(hg:∀o∈all,o.guard=none)
  (h:vcOps P tab md l1 0 [] σ [] fun τ ks1=>ChP P all (k+n) τ (ks++ks1.reverse) R):ChP P all k σ ks R:=by
 obtain⟨τ,ks1,c1,n1,ρ,ks2,h3,c2,hR⟩:=vcOps_sound (all:=l1.toArray) hT l1 0 [] σ [] (fun j=>by simp) (fun j t hj=>by simp [slotAt] at hj) h
 have hl:k+n≤all.length:=by
  have:l1.length≤all.length - k:=by rw [←h1,List.length_take,List.length_drop];omega
  by_cases hz:n=0
  ·omega
  omega
 have d1:=chain_off (all:=all.toArray) (k:=k) (fun i o hi=>by
  have hi':l1[i]?=some o:=by simpa using hi
  rw [←h1,List.getElem?_take] at hi'
  split at hi'
  ·rw [List.getElem?_drop] at hi'
   simpa using hi'
  cases hi') (by simpa using hg) c1
 refine⟨ρ,ks1++ks2,by rw [List.length_append];omega,?_,by simpa using hR⟩
 rw [List.zipIdx_append,List.map_append]
 have e1:(ks1.zipIdx k).map (fun p=>(p.2,p.1))=((ks1.zipIdx 0).map fun p=>(p.2,p.1)).map fun p=>(k+p.1,p.2):=by
  apply List.ext_getElem?
  intro i
  simp only [List.getElem?_map,List.getElem?_zipIdx]
  cases ks1[i]?<;>simp
 rw [e1]
 refine chain_app d1 ?_
 rw [show k+ks1.length=k+n by omega]
 exact c2
theorem awp_pieces{P:Program}{kb:Nat}(hm:P.follows .mixedOrders=true){id:Nat}{l:List Oper}{draw:Bool}{Q:AEx→St→Prop}{σ:St}
  (h:ChP P l 0 σ [] fun τ ks=>Draws draw (fun _=>OrderOK l.toArray ks)∧At τ (Q .norm)):AWP P kb (.region id l.toArray draw) Q σ:=by
 obtain⟨τ,ks,h1,h2,h3,h4⟩:=h
 intro base a g hb hr
 have hch:Chain P l.toArray ((List.range l.toArray.size).map fun i=>(i,ks.getD i .write)) σ τ:=by
  have e:(ks.zipIdx 0).map (fun p=>(p.2,p.1))=(List.range l.toArray.size).map fun i=>(i,ks.getD i .write):=by
   apply List.ext_getElem?
   intro i
   simp only [List.getElem?_map]
   have hlen:ks.length=l.toArray.size:=by simpa using h1
   by_cases hi:i<l.toArray.size
   ·have hi':i<ks.length:=by omega
    rw [List.getElem?_range hi]
    simp [hi']
   rw [List.getElem?_eq_none (by simp only [List.length_zipIdx];omega),List.getElem?_eq_none (by simp only [List.length_range];omega)]
   rfl
  rw [←e]
  exact h2
 cases draw with
 | false=>exact wp_region_lex hch hr fun a g hr'=>⟨g,τ,rfl,hr',h4⟩
 | true =>
  have hB:=h3 rfl
  simp only [List.nil_append] at hB
  exact wp_region_chain hm hB hch hr fun a g hr'=>⟨g,τ,rfl,hr',h4⟩
end Go.Av
namespace Go.Proofs.Ytlclgfgmhnmnaaa
open Go.Av
def dmO(f:Func)(O:List Int)(N:Nat)(r:List AVal):List AObj:=[.gone,.gone,.cells r,.cells (O.map aI),.cells ((plL f).map aI),.cells [.ms 3 0 N N,.ms 4 0 N N]]
theorem dmO_upto(f:Func)(O:List Int)(N:Nat)(r:List AVal)(hr:uptoL 6 r):∀o∈dmO f O N r,o.upto 6:=by
 intro o ho
 simp only [dmO,List.mem_cons,List.not_mem_nil,or_false] at ho
 rcases ho with rfl | rfl | rfl | rfl | rfl | rfl
 ·trivial
 ·trivial
 ·exact hr
 ·exact aI_upto _ _
 ·exact aI_upto _ _
 exact⟨show 3<6 by omega,show 4<6 by omega,trivial⟩
theorem zerosI_flat(n:Nat):(List.replicate n [AVal.v (.int .i64 0)]).flatten=(List.replicate n 0).map aI:=by
 induction n with
 | zero=>rfl
 | succ n ih=>rw [List.replicate_succ,List.flatten_cons,ih,List.replicate_succ];rfl
theorem aI_put{l:List Int}{j:Nat}(h:j<l.length)(b:Int):splice (l.map aI) j [.v (.int .i64 b)]=(l.set j b).map aI:=by
 rw [splice_one _ (by simpa using h),List.map_set]
theorem fill_set{k n:Nat}{l:List Int}{x y:Int}(hl:l.length=k)(hk:k<n):(l++List.replicate (n - k) x).set k y=(l++[y])++List.replicate (n - (k+1)) x:=by
 rw [List.set_append_right _ _ (by omega),hl,Nat.sub_self,show n - k=(n - (k+1))+1 by omega,List.replicate_succ,List.set_cons_zero,List.append_assoc]
 rfl
theorem dbuild_spec(f:Func)(hfit:f.fit)(hc:checkFuncM f=0) :
  ECall Try.prog 40 [.gone] [f.enc] (fun r O'=>r=.tup [.agg [.ms 3 0 f.blocks.length f.blocks.length,.ms 4 0 f.blocks.length f.blocks.length],aI 0]∧O'=dmO f (treeM f) f.blocks.length [.ms 3 0 f.blocks.length f.blocks.length,.ms 4 0 f.blocks.length f.blocks.length]):=by
 have hor:=order_spec f hfit
 have hpr:=preds_spec f hfit
 unfold orderR at hor
 unfold predsR at hpr
 rw [if_pos hc] at hor hpr
 have hg:=(checkFunc_ok hfit hc).gr
 have hw:=ord_w hg
 have hn:f.blocks.length≤128:=hg.few
 obtain⟨R,hR⟩:∃R,R=treeM f:=⟨_,rfl⟩
 rw [←hR]
 unfold treeM at hR
 obtain⟨N,hN⟩:∃N,N=f.blocks.length:=⟨_,rfl⟩
 have hkk:[AObj.gone].length≤6:=by simp
 have hpl:=hw.pos
 have hpf:=hw.few
 have hL0:((orderM f).length:Int) ≥ 1:=by omega
 rw [←hN]
 have hplen:(plL f).length=N:=by simp [plL,hN]
 refine ecall_of hT true (6) Try.func40 rfl (by kernel_rfl) (by simp [Try.ntmps40]) (by assumption) ?_
 show AWP Try.prog _ _ _ ⟨116,_,_⟩
 dsimp only [Tmp,TypeId,slotsOf]
 refine zh1 (za0 ?_)
 refine awp_freeze1 1 1 (.ip none [aI f.name,eBlocks f.blocks]) rfl (by simp [AObj.isSpare]) trivial rfl ?_ ?_
 rotate_left
 simp -dsimp only [simprocAttr,↓vpre,zp]
 ·refine zh1 ?_
  refine zi hor ?_
  refine za0 ?_
  refine zh2 (za0 ?_)
  apply zk0 rfl<;>intro h
  ·cases h
  refine zb0 ?_
  refine zh1 ?_
  refine zi hpr ?_
  refine za0 ?_
  refine awp_keep 3 ?_
  show AWP Try.prog _ _ _ ⟨_,_,[.gone,.gone,.cells [.lst 1 [] .ex,.lst 1 [] .ex],.spare 0,.spare 0,.spare 0]⟩
  refine awp_seq (awp_pieces hm (ChP.seg ⟨false,false⟩ hT 3 rfl rfl (by simp) ?_))
  simp -dsimp only [simprocAttr,↓vpre,zp,←hN]
  refine ChP.op rfl rfl (cert_makeSlice_at hT (id:=3) rfl (by simp) tab_45 rfl tab_3 rfl rfl (by omega) (by simp;omega) (by omega) (by decide) rfl) ?_
  simp -dsimp only [simprocAttr,↓vpre,zp,zerosI_flat]
  refine ChP.seg ⟨false,false⟩ hT 3 rfl rfl (by simp) ?_
  simp -dsimp only [simprocAttr,↓vpre,zp,←hN]
  refine ChP.op rfl rfl (cert_makeSlice_at hT (id:=4) rfl (by simp) tab_45 rfl tab_3 rfl rfl (by omega) (by simp;omega) (by omega) (by decide) rfl) ?_
  simp -dsimp only [simprocAttr,↓vpre,zp,zerosI_flat]
  refine ChP.seg ⟨false,false⟩ hT 1 rfl rfl (by simp) ?_
  simp -dsimp only [simprocAttr,↓vpre,zp]
  refine ChP.op rfl rfl (cert_alloc_at hT (id:=5) rfl (by simp) tab_84 rfl) ?_
  simp -dsimp only [simprocAttr,↓vpre,zp]
  refine ChP.seg ⟨false,false⟩ hT 1 rfl rfl (by simp) ?_
  simp -dsimp only [simprocAttr,↓vpre,zp]
  refine ChP.fin rfl ⟨ob (by kernel_rfl),?_⟩
  refine za0 ?_
  refine zh2 (za0 ?_)
  refine awp_block (awp_loop (ι:={k:Nat // k≤N}) (fun k=>⟨116,[(1,.ip none [aI f.name,eBlocks f.blocks]),(2,.mp 2 0),(4,eIs (orderM f)),(6,.lst 1 ((predsM f).map eIs) .sh),(8,.mp 5 0),(41,aI N),(42,aI k.1)],[.gone,.gone,.cells [.lst 1 [] .ex,.lst 1 [] .ex],.cells ((List.replicate k.1 (-1)++List.replicate (N - k.1) 0).map aI),.cells (((plL f).take k.1++List.replicate (N - k.1) 0).map aI),.cells [.ms 3 0 N N,.ms 4 0 N N]]⟩) (fun k=>N - k.1) ⟨0,by omega⟩ ?_ ?_)
  ·refine zq rfl ?_ ?_
   simp -dsimp only [simprocAttr,↓vpre,zp,zc]
   all_goals rfl
  rintro⟨k,hk⟩
  refine zh1 (za0 ?_)
  apply zk1 rfl<;>intro h
  ·refine zb0 ?_
   have hlt:k<N:=by simpa using h
   have hix:=index_spec (orderM f) (k:Int)
   have hs1:splice ((List.replicate k (-1)++List.replicate (N - k) 0).map aI) k [.v (.int .i64 (-1))]=(List.replicate (k+1) (-1)++List.replicate (N - (k+1)) 0).map aI:=by
    rw [aI_put (by simp;omega),fill_set (by simp) hlt,←List.replicate_succ']
   have htl:((plL f).take k).length=k:=by rw [List.length_take];omega
   have hpk:=plL_at (f:=f) (k:=(k:Int)) (by omega) (by omega)
   rw [Int.toNat_natCast] at hpk
   have hs2:splice (((plL f).take k++List.replicate (N - k) 0).map aI) k [.v (.int .i64 (idxI (orderM f) k))]=((plL f).take (k+1)++List.replicate (N - (k+1)) 0).map aI:=by
    rw [aI_put (by simp;omega),fill_set htl hlt,List.take_add_one,hpk]
    rfl
   refine awp_seq (awp_block ?_)
   refine zh1 (za0 ?_)
   refine zh0 ?_
   refine .inl ⟨_,hix,by simp only [uptoL,AVal.upto,zt,zu,aI_upto],later_intro ?_⟩
   simp -dsimp only [simprocAttr,↓vpre,zp,hs1,hs2,Int.toNat_natCast,Nat.mul_one]
   refine⟨by omega,by simp;omega,by omega,by simp;omega,?_⟩
   refine⟨ob (by kernel_rfl),?_⟩
   refine za0 ?_
   refine zh0 ?_
   repeat(refine⟨by omega,?_⟩)
   refine zl0 ?_
   refine⟨⟨k+1,hlt⟩,by simp;omega,?_⟩
   refine zq rfl ?_ ?_
   simp -dsimp only [simprocAttr,↓vpre,zp,zc]
   ·exact Sub.int (by simp)
   rfl
  refine awp_exit ?_
  simp -dsimp only [vend,ne_eq,Nat.reduceEqDiff,reduceCtorEq]
  have hkk:k=N:=by simp at h;omega
  subst hkk
  have e1:List.replicate k (-1:Int)++List.replicate (k - k) 0=(dmS f).over:=by simp [dmS,hN]
  have e2:(plL f).take k++List.replicate (k - k) 0=plL f:=by
   rw [List.take_of_length_le (by omega),Nat.sub_self,List.replicate_zero,List.append_nil]
  rw [e1,e2]
  have hS0:=dmS_ok hw
  have hW0:=dmS_weight hn
  have hL1:((orderM f).map aI).drop 1=((orderM f).drop 1).map aI:=by rw [List.map_drop]
  have hat:∀(j:Nat) z,((orderM f).drop 1)[j]?=some z→plF f z=((1+j:Nat):Int):=fun j z hj=>by
   rw [List.getElem?_drop] at hj
   exact hw.at_ _ _ hj
  obtain⟨L1,hL1e⟩:∃L1,L1=(orderM f).drop 1:=⟨_,rfl⟩
  have hL1l:L1.length≤128:=by rw [hL1e,List.length_drop];omega
  rw [←hL1e] at hL1 hat
  refine zh2 (za0 ?_)
  refine awp_block (awp_loop (ι:={x:Dm×Nat // Dinv f 1 x.1.over∧R=(dmI f x.2 x.1).over∧(x.1.again=true→x.1.weight f<x.2)}) (fun x=>⟨116,[(1,.ip none [aI f.name,eBlocks f.blocks]),(2,.mp 2 0),(4,eIs (orderM f)),(6,.lst 1 ((predsM f).map eIs) .sh),(8,.mp 5 0),(10,.v (.bool x.1.1.again))],[.gone,.gone,.cells [.lst 1 [] .ex,.lst 1 [] .ex],.cells (x.1.1.over.map aI),.cells ((plL f).map aI),.cells [.ms 3 0 k k,.ms 4 0 k k]]⟩) (fun x=>x.1.1.weight f+if x.1.1.again then 1 else 0) ⟨(dmS f,30000),hS0,hR,fun _=>by simp only;omega⟩ ?_ ?_)
  ·refine zq rfl ?_ ?_
   simp -dsimp only [simprocAttr,↓vpre,zp,zc]
   all_goals first | rfl | exact Sub.refl _
  rintro⟨⟨S,q⟩,hSo,hRq,hwq⟩
  simp only at hSo hRq hwq
  refine zh2 (za0 ?_)
  apply zk0 rfl<;>intro h
  ·refine zb0 ?_
   have hag:S.again=true:=h
   have hwq:=hwq hag
   obtain⟨q,rfl⟩:∃q',q=q'+1:=⟨q - 1,by omega⟩
   have hRq':R=(dmI f q (dmR f ⟨S.over,false⟩)).over:=by
    rw [hRq]
    simp [dmI,hag]
   have hro:=dmR_ok hg hw (S:=⟨S.over,false⟩) hSo
   obtain⟨S1,hS1⟩:∃S1,S1=dmR f ⟨S.over,false⟩:=⟨_,rfl⟩
   rw [←hS1] at hRq' hro
   obtain⟨ro1,ro2,ro3,_⟩:=hro
   have hwS:(⟨S.over,false⟩:Dm).weight f=S.weight f:=rfl
   rw [hwS] at ro2 ro3
   unfold dmR at hS1
   rw [←hL1e] at hS1
   refine awp_block ?_
   refine zh1 (za0 ?_)
   refine zg1 ?_
   simp -dsimp only [simprocAttr,↓vpre,zp,hL1]
   repeat(refine⟨by omega,?_⟩)
   refine za0 ?_
   refine awp_block (awp_loop (ι:={y:Nat×Dm // y.1≤L1.length∧Dinv f (1+y.1:Nat) y.2.over∧S1=(L1.drop y.1).foldl (dmStep f) y.2}) (fun y=>⟨116,[(1,.ip none [aI f.name,eBlocks f.blocks]),(2,.mp 2 0),(4,eIs (orderM f)),(6,.lst 1 ((predsM f).map eIs) .sh),(8,.mp 5 0),(10,.v (.bool y.1.2.again)),(59,eIs L1),(60,aI L1.length),(61,aI y.1.1)],[.gone,.gone,.cells [.lst 1 [] .ex,.lst 1 [] .ex],.cells (y.1.2.over.map aI),.cells ((plL f).map aI),.cells [.ms 3 0 k k,.ms 4 0 k k]]⟩) (fun y=>L1.length - y.1.1) ⟨(0,⟨S.over,false⟩),by simp,hSo,hS1⟩ ?_ ?_)
   ·refine zq rfl ?_ ?_
    simp -dsimp only [simprocAttr,↓vpre,zp,zc]
    all_goals rfl
   rintro⟨⟨y,T⟩,hy,hTo,hTe⟩
   simp only at hy hTo hTe
   refine zh1 (za0 ?_)
   apply zk1 rfl<;>intro h
   ·refine zb0 ?_
    have hlt:y<L1.length:=by simpa using h
    obtain⟨z,hz⟩:∃z,L1[y]?=some z:=⟨L1[y],by simp [hlt]⟩
    have hpz:=hat y z hz
    have hzr:=hw.range z (by omega)
    have hst:=dmStep_ok hg hw hTo hpz (by omega)
    rw [drop_at hz,List.foldl_cons] at hTe
    have hTl:=hTo.tr.len
    obtain⟨ps,hps⟩:∃ps,(predsM f)[z.toNat]?=some ps:=⟨(predsM f)[z.toNat]'(by rw [preds_len];omega),List.getElem?_eq_getElem _⟩
    have hpa:predsAt f z=ps:=by simp [predsAt,hps]
    have hpr2:∀p∈ps,0≤p∧p<f.blocks.length:=fun p hp=>(preds_edg hg hzr.1 (by rw [hpa];exact hp)).1
    obtain⟨o,ho⟩:∃o,T.over[z.toNat]?=some o:=⟨T.over[z.toNat]'(by omega),List.getElem?_eq_getElem _⟩
    have hoz:atI T.over z=o:=by simp [atI,ho]
    obtain⟨NX,hNX⟩:∃NX,NX=nextM (plL f) T.over ps:=⟨_,rfl⟩
    have hstep:dmStep f T z=if NX≠o then ⟨T.over.set z.toNat NX,true⟩ else T:=by
     unfold dmStep
     rw [hpa,hoz,←hNX]
    unfold nextM at hNX
    refine awp_seq (awp_block ?_)
    refine zg1 ?_
    simp -dsimp only [simprocAttr,↓vpre,zp,hz]
    refine za0 ?_
    refine zh1 (za0 ?_)
    refine zg2 ?_
    simp -dsimp only [simprocAttr,↓vpre,zp,hps]
    repeat(refine⟨by omega,?_⟩)
    refine za0 ?_
    refine awp_len 68 rfl (fun hpl2=>?_)
    simp only [List.length_map] at hpl2
    refine awp_block (awp_loop (ι:={w:Nat×Int // w.1≤ps.length∧(w.2=-1∨Asg T.over w.2)∧NX=(ps.drop w.1).foldl (predStep (plL f) T.over) w.2}) (fun w=>⟨116,[(1,.ip none [aI f.name,eBlocks f.blocks]),(2,.mp 2 0),(4,eIs (orderM f)),(6,.lst 1 ((predsM f).map eIs) .sh),(8,.mp 5 0),(10,.v (.bool T.again)),(59,eIs L1),(60,aI L1.length),(61,aI y),(12,aI z),(13,aI w.1.2),(68,eIs ps),(69,aI ps.length),(70,aI w.1.1)],[.gone,.gone,.cells [.lst 1 [] .ex,.lst 1 [] .ex],.cells (T.over.map aI),.cells ((plL f).map aI),.cells [.ms 3 0 k k,.ms 4 0 k k]]⟩) (fun w=>ps.length - w.1.1) ⟨(0,-1),by simp,.inl rfl,hNX⟩ ?_ ?_)
    ·refine zq rfl ?_ ?_
     simp -dsimp only [simprocAttr,↓vpre,zp,zc]
     all_goals rfl
    rintro⟨⟨w,acc⟩,hw1,hacc,hwe⟩
    simp only at hw1 hacc hwe
    refine zh1 (za0 ?_)
    apply zk1 rfl<;>intro h
    ·refine zb0 ?_
     have hlw:w<ps.length:=by simpa using h
     obtain⟨p,hp⟩:∃p,ps[w]?=some p:=⟨ps[w],by simp [hlw]⟩
     have hpr3:=hpr2 p (List.mem_of_getElem? hp)
     have hep:=plL_at hpr3.1 hpr3.2
     have hepx:=aI_at hep
     obtain⟨x,hx⟩:∃x,T.over[p.toNat]?=some x:=⟨T.over[p.toNat]'(by omega),List.getElem?_eq_getElem _⟩
     have hxp:atI T.over p=x:=by simp [atI,hx]
     have hxx:=aI_at hx
     rw [drop_at hp,List.foldl_cons] at hwe
     obtain⟨nx,hnx⟩:∃nx,nx=predStep (plL f) T.over acc p:=⟨_,rfl⟩
     have hnacc:nx=-1∨Asg T.over nx:=by
      rcases fold_ok hw hTo.tr [p] acc (by simpa using hpr3) hacc with⟨a,_⟩ | ⟨a,_⟩
      ·exact .inl (hnx.trans a)
      exact .inr (hnx ▸ a)
     rw [←hnx] at hwe
     have hpas:=pred_asg hw hTo.tr hpr3
     have hepl:atI (plL f) p=plF f p:=by simp [atI,hep]
     rw [hepl,hxp] at hpas
     have hpd:predStep (plL f) T.over acc p=if plF f p<0∨(p≠0∧x<0) then acc else if acc<0 then p else meetM (plL f) T.over 300 acc p:=by
      unfold predStep
      rw [hepl,hxp]
     refine awp_mid (⟨116,[(1,.ip none [aI f.name,eBlocks f.blocks]),(2,.mp 2 0),(4,eIs (orderM f)),(6,.lst 1 ((predsM f).map eIs) .sh),(8,.mp 5 0),(10,.v (.bool T.again)),(59,eIs L1),(60,aI L1.length),(61,aI y),(12,aI z),(13,aI nx),(68,eIs ps),(69,aI ps.length),(70,aI w)],[.gone,.gone,.cells [.lst 1 [] .ex,.lst 1 [] .ex],.cells (T.over.map aI),.cells ((plL f).map aI),.cells [.ms 3 0 k k,.ms 4 0 k k]]⟩) ?_ ?_
     ·refine awp_block ?_
      refine zg1 ?_
      simp -dsimp only [simprocAttr,↓vpre,zp,hp]
      refine za0 ?_
      refine awp_block ?_
      by_cases hA:Asg T.over p
      ·have hnc:=fun q=>hpas.1 q hA
       have hB1:decide (plF f p<0)=false:=decide_eq_false fun q=>hnc (.inl q)
       rw [if_neg hnc] at hpd
       have hcase:p=0∨(p≠0∧¬x<0):=by
        by_cases e:p=0
        ·exact .inl e
        exact .inr ⟨e,fun q=>hnc (.inr ⟨e,q⟩)⟩
       rcases hacc with hac | hac
       ·have hda:decide (acc<0)=true:=decide_eq_true (by omega)
        rw [if_pos (by omega)] at hpd
        rw [hpd] at hnx
        rcases hcase with hp0 | ⟨hp0,hx0⟩
        ·have hd1:decide (p=0)=true:=decide_eq_true hp0
         refine zg1 ?_
         simp -dsimp only [simprocAttr,↓vpre,zp,hepx,hB1,hd1,Int.toNat_natCast,Nat.mul_one]
         repeat(refine⟨by omega,?_⟩)
         refine za0 ?_
         refine zu0 rfl ?_
         refine zg1 ?_
         simp -dsimp only [simprocAttr,↓vpre,zp,hda]
         refine za0 ?_
         refine zw0 rfl ?_
         refine awp_region hT hm ?_
         simp -dsimp only [simprocAttr,↓vpre,zp]
         refine at_intro ?_
         show Covers _ _
         refine zq rfl ?_ ?_
         simp -dsimp only [simprocAttr,↓vpre,zp,zc]
         all_goals first | rfl | exact Sub.int (by omega)
        have hd1:decide (p=0)=false:=decide_eq_false hp0
        have hd2:decide (x<0)=false:=decide_eq_false hx0
        refine zg1 ?_
        simp -dsimp only [simprocAttr,↓vpre,zp,hepx,hB1,hd1,hd2,hxx,Int.toNat_natCast,Nat.mul_one]
        repeat(refine⟨by omega,?_⟩)
        refine za0 ?_
        refine zu0 rfl ?_
        refine zg1 ?_
        simp -dsimp only [simprocAttr,↓vpre,zp,hda]
        refine za0 ?_
        refine zw0 rfl ?_
        refine awp_region hT hm ?_
        simp -dsimp only [simprocAttr,↓vpre,zp]
        refine at_intro ?_
        show Covers _ _
        refine zq rfl ?_ ?_
        simp -dsimp only [simprocAttr,↓vpre,zp,zc]
        all_goals first | rfl | exact Sub.int (by omega)
       have hacn:=hac.nn hw hTo.tr
       have hda:decide (acc<0)=false:=decide_eq_false (by omega)
       rw [if_neg (by omega)] at hpd
       rw [hpd] at hnx
       have hmeet:=meet_spec (O:=[.gone,.gone,.cells [.lst 1 [] .ex,.lst 1 [] .ex],.cells (T.over.map aI),.cells ((plL f).map aI),.cells [.ms 3 0 k k,.ms 4 0 k k]]) (by
        have:=dmO_upto f T.over k [.lst 1 [] .ex,.lst 1 [] .ex] (by simp [uptoL,AVal.upto])
        exact this) (A:=3) (B:=4) (N:=k) hw rfl rfl hN hTo.tr hac hA
       rw [←hnx] at hmeet
       rcases hcase with hp0 | ⟨hp0,hx0⟩
       ·have hd1:decide (p=0)=true:=decide_eq_true hp0
        refine zg1 ?_
        simp -dsimp only [simprocAttr,↓vpre,zp,hepx,hB1,hd1,Int.toNat_natCast,Nat.mul_one]
        repeat(refine⟨by omega,?_⟩)
        refine za0 ?_
        refine zu0 rfl ?_
        refine zg1 ?_
        simp -dsimp only [simprocAttr,↓vpre,zp,hda]
        refine za0 ?_
        refine zu0 rfl ?_
        refine awp_region hT hm ?_
        simp -dsimp only [simprocAttr,↓vpre,zp]
        refine .inr (.inr ⟨_,hmeet,later_intro (zj ?_)⟩)
        refine at_intro ?_
        show Covers _ _
        refine zq rfl ?_ ?_
        simp -dsimp only [simprocAttr,↓vpre,zp,zc]
        all_goals rfl
       have hd1:decide (p=0)=false:=decide_eq_false hp0
       have hd2:decide (x<0)=false:=decide_eq_false hx0
       refine zg1 ?_
       simp -dsimp only [simprocAttr,↓vpre,zp,hepx,hB1,hd1,hd2,hxx,Int.toNat_natCast,Nat.mul_one]
       repeat(refine⟨by omega,?_⟩)
       refine za0 ?_
       refine zu0 rfl ?_
       refine zg1 ?_
       simp -dsimp only [simprocAttr,↓vpre,zp,hda]
       refine za0 ?_
       refine zu0 rfl ?_
       refine awp_region hT hm ?_
       simp -dsimp only [simprocAttr,↓vpre,zp]
       refine .inr (.inr ⟨_,hmeet,later_intro (zj ?_)⟩)
       refine at_intro ?_
       show Covers _ _
       refine zq rfl ?_ ?_
       simp -dsimp only [simprocAttr,↓vpre,zp,zc]
       all_goals rfl
      have hnc:=hpas.2 hA
      rw [if_pos hnc] at hpd
      rw [hpd] at hnx
      subst hnx
      by_cases hpl0:plF f p<0
      ·have hB1:decide (plF f p<0)=true:=decide_eq_true hpl0
       refine zg1 ?_
       simp -dsimp only [simprocAttr,↓vpre,zp,hepx,hB1,Int.toNat_natCast,Nat.mul_one]
       repeat(refine⟨by omega,?_⟩)
       refine za0 ?_
       refine zw0 rfl ?_
       refine awp_skip ?_
       show Covers _ _
       refine zq rfl ?_ ?_
       simp -dsimp only [simprocAttr,↓vpre,zp,zc]
       all_goals rfl
      have hB1:decide (plF f p<0)=false:=decide_eq_false hpl0
      have hd1:decide (p=0)=false:=decide_eq_false fun e=>hA (.inl e)
      have hd2:decide (x<0)=true:=decide_eq_true (by omega)
      refine zg1 ?_
      simp -dsimp only [simprocAttr,↓vpre,zp,hepx,hB1,hd1,hd2,hxx,Int.toNat_natCast,Nat.mul_one]
      repeat(refine⟨by omega,?_⟩)
      refine za0 ?_
      refine zw0 rfl ?_
      refine awp_skip ?_
      show Covers _ _
      refine zq rfl ?_ ?_
      simp -dsimp only [simprocAttr,↓vpre,zp,zc]
      all_goals rfl
     refine zh0 ?_
     repeat(refine⟨by omega,?_⟩)
     refine zl0 ?_
     refine⟨⟨(w+1,nx),hlw,hnacc,hwe⟩,by simp;omega,?_⟩
     refine zq rfl ?_ ?_
     simp -dsimp only [simprocAttr,↓vpre,zp,zc]
     all_goals first | rfl | exact Sub.refl _
    refine awp_exit ?_
    simp -dsimp only [vend,ne_eq,Nat.reduceEqDiff,reduceCtorEq]
    have hww:w=ps.length:=by simp at h;omega
    subst hww
    rw [List.drop_length,List.foldl_nil] at hwe
    subst hwe
    have hox:=aI_at ho
    have hput:=aI_put (l:=T.over) (j:=z.toNat) (by omega) NX
    by_cases hne:NX=o
    ·have hdn:decide (NX=o)=true:=decide_eq_true hne
     rw [if_neg (by simp [hne])] at hstep
     rw [hstep] at hst hTe
     refine zg1 ?_
     simp -dsimp only [simprocAttr,↓vpre,zp,hox,hdn,Nat.mul_one]
     repeat(refine⟨by omega,?_⟩)
     refine za0 ?_
     refine zu0 rfl ?_
     refine zb1 ?_
     refine zh0 ?_
     repeat(refine⟨by omega,?_⟩)
     refine zl0 ?_
     refine⟨⟨(y+1,T),hlt,by rw [show((1+(y+1):Nat):Int)=((1+y:Nat):Int)+1 by omega];exact hst.1,hTe⟩,by simp;omega,?_⟩
     refine zq rfl ?_ ?_
     simp -dsimp only [simprocAttr,↓vpre,zp,zc]
     all_goals first | rfl | exact Sub.refl _
    have hdn:decide (NX=o)=false:=decide_eq_false hne
    rw [if_pos hne] at hstep
    rw [hstep] at hst hTe
    refine zg1 ?_
    simp -dsimp only [simprocAttr,↓vpre,zp,hox,hdn,Nat.mul_one]
    repeat(refine⟨by omega,?_⟩)
    refine za0 ?_
    refine zw0 rfl ?_
    refine zg0 ?_
    simp -dsimp only [simprocAttr,↓vpre,zp,hput,Nat.mul_one]
    repeat(refine⟨by omega,?_⟩)
    refine za0 ?_
    refine zh0 ?_
    repeat(refine⟨by omega,?_⟩)
    refine zl0 ?_
    refine⟨⟨(y+1,⟨T.over.set z.toNat NX,true⟩),hlt,by rw [show((1+(y+1):Nat):Int)=((1+y:Nat):Int)+1 by omega];exact hst.1,hTe⟩,by simp;omega,?_⟩
    refine zq rfl ?_ ?_
    simp -dsimp only [simprocAttr,↓vpre,zp,zc]
    all_goals first | rfl | exact Sub.refl _
   refine awp_exit ?_
   simp -dsimp only [vend,ne_eq,Nat.reduceEqDiff,reduceCtorEq]
   have hyy:y=L1.length:=by simp at h;omega
   subst hyy
   rw [List.drop_length,List.foldl_nil] at hTe
   subst hTe
   have hlt2:S1.again=true→S1.weight f<q:=fun hh=>by
    rcases ro3 hh with r | r
    ·cases r
    omega
   refine⟨⟨(S1,q),dinv_again hw ro1,hRq',hlt2⟩,?_,?_⟩
   ·simp only [hag,if_true]
    cases hs1:S1.again
    ·simp;omega
    rcases ro3 hs1 with r | r
    ·cases r
    simp;omega
   refine zq rfl ?_ ?_
   simp -dsimp only [simprocAttr,↓vpre,zp,zc]
   all_goals rfl
  refine awp_exit ?_
  simp -dsimp only [vend,ne_eq,Nat.reduceEqDiff,reduceCtorEq]
  have hag:S.again=false:=h
  rw [dmI_done hag] at hRq
  subst hRq
  refine zh1 ?_
  repeat(refine⟨by omega,?_⟩)
  refine za0 ?_
  refine awp_ret ?_
  simp -dsimp only [simprocAttr,↓vpre,zp,zr,Try.results40]
  exact⟨dmO_upto f S.over k [.ms 3 0 k k,.ms 4 0 k k] ⟨show 3<6 by omega,show 4<6 by omega,trivial⟩,⟨⟨show 3<6 by omega,show 4<6 by omega,trivial⟩,trivial,trivial⟩,rfl⟩
 exact FSub.mp rfl rfl
theorem sm_w{f:Func}(hfit:f.fit)(hc:checkFuncM f=0):SmW f:=by
 have hw:=checkFunc_ok hfit hc
 have hg:=hw.gr
 have hpar:∀b∈f.blocks,b.params.length≤4096:=fun b hb=>by
  have:=(hw.blk b hb).few
  omega
 exact {
  few:=hw.few
  params:=hpar
  ins:=hw.ins
  iargs:=fun b hb i hi=>(form_ok ((hw.blk b hb).forms i hi)).len
  cases:=fun b hb=>(end_ok (hw.blk b hb).fin).cases
  to:=fun b hb=>hg.to b hb
  eargs:=fun b hb e he=>by
   have h1:=(end_ok (hw.blk b hb).fin).edges e he
   rw [h1.2]
   have hr:=hg.edges b hb e he
   have hx:f.blocks[e.block.toNat]?=some (f.blocks[e.block.toNat]'(by omega)):=List.getElem?_eq_getElem _
   have:blkOf f e.block=f.blocks[e.block.toNat]'(by omega):=by simp [blkOf,hx]
   rw [this]
   exact hpar _ (List.getElem_mem _) }
def splitR(f:Func):AVal:=if checkFuncM f=0 then (if 128<f.blocks.length+(spM f).news.length then .tup [.agg [aI 0,.lst 7 [] .sh],aI 2] else .tup [(splitM f).enc,aI 0]) else .tup [.agg [aI 0,.lst 7 [] .sh],aI (checkFuncM f)]
structure Sx where
 k:Nat
 S:Sp
 bid:Nat
 O:List AObj
theorem spStep_news(f:Func)(k n:Nat)(S:Sp):(spStep f k n S).news.length≤S.news.length+1:=by
 unfold spStep
 split
 ·omega
 split
 ·simp
 omega
theorem eIss_up(n:Nat)(l:List (List Int)):uptoL n (l.map eIs):=by
 rw [uptoL_iff]
 intro c hc
 obtain⟨x,_,rfl⟩:=List.mem_map.1 hc
 exact⟨aI_upto _ _,trivial⟩
theorem split_spec(f:Func)(hfit:f.fit):PCall Try.prog 15 [f.enc] (splitR f):=by
 have hpr:=preds_spec f hfit
 unfold predsR at hpr
 unfold splitR
 by_cases hc:checkFuncM f=0
 ·rw [if_pos hc] at hpr ⊢
  have hg:=(checkFunc_ok hfit hc).gr
  have hsm:=sm_w hfit hc
  have hn:f.blocks.length≤128:=hg.few
  have hcp:=copy_spec f hsm hg.ne
  have hprl:=preds_len f
  obtain⟨R,hR0⟩:∃R,R=spM f:=⟨_,rfl⟩
  have hsp:splitM f=⟨f.name,List.zipWith setTo f.blocks R.tos++R.news⟩:=by rw [hR0];rfl
  rw [hsp,←hR0]
  unfold spM at hR0
  refine zf true 0 Try.func15 Try.ntmps15 ?_
  dsimp only [Tmp,TypeId,slotsOf]
  refine zh1 (za0 ?_)
  refine awp_freeze1 1 0 (.ip none [aI f.name,eBlocks f.blocks]) rfl (by simp [AObj.isSpare]) trivial rfl ?_ ?_
  rotate_left
  simp -dsimp only [simprocAttr,↓vpre,zp]
  ·refine zh1 ?_
   refine zi hpr ?_
   refine za0 ?_
   refine zh2 (za0 ?_)
   apply zk0 rfl<;>intro h
   ·cases h
   refine zb0 ?_
   refine awp_seq (awp_call_ex ⟨false,false⟩ hT 1 rfl rfl rfl (by simp) ?_)
   simp -dsimp only [simprocAttr,↓vpre,zp]
   refine⟨CpR f,cert_ecallE rfl (by simp) rfl rfl hcp,fun r O' hR=>?_⟩
   obtain⟨ids,bid,hr,hup,hg0,hg1,⟨hb5,hbO⟩,hco,hne⟩:=hR
   subst hr
   simp -dsimp only [simprocAttr,↓vpre,zp]
   refine za0 ?_
   have hS0:=SpO.start hup hg1 ⟨hb5,hbO⟩ hco hne
   generalize O'++[AObj.cells [aI f.name,.os bid f.blocks.length 7]]=O0 at *
   generalize O'.length=X0 at *
   refine zh2 (za0 ?_)
   refine awp_block (awp_loop (ι:={X:Sx // X.k≤f.blocks.length∧SpO f ids X0 X.S X.bid X.O∧R=spK f (f.blocks.length - X.k) X.k X.S∧X.S.news.length≤X.k * 257∧∀(j:Nat) b,X.k≤j→f.blocks[j]?=some b→X.S.tos[j]?=some b.term.to}) (fun X=>⟨78,[(1,.ip none [aI f.name,eBlocks f.blocks]),(2,.mp 1 0),(4,.lst 1 ((predsM f).map eIs) .sh),(6,.mp X0 0),(23,eBlocks f.blocks),(24,aI f.blocks.length),(25,aI X.1.k)],X.1.O⟩) (fun X=>f.blocks.length - X.1.k) ⟨⟨0,spS f,bid,O0⟩,by simp,hS0,by simpa using hR0,by simp [spS],fun j b _ h=>by simp [spS,h]⟩ ?_ ?_)
   ·refine zq rfl ?_ ?_
    simp -dsimp only [simprocAttr,↓vpre,zp,zc]
    all_goals rfl
   rintro⟨⟨k,S,bid,O⟩,hk,hS,hke,hnw,hrest⟩
   simp only at hk hS hke hnw hrest
   refine zh1 (za0 ?_)
   apply zk1 rfl<;>intro h
   ·refine zb0 ?_
    have hlt:k<f.blocks.length:=by simpa using h
    obtain⟨b,hb⟩:∃b,f.blocks[k]?=some b:=⟨_,List.getElem?_eq_getElem hlt⟩
    obtain⟨id,hid⟩:∃id,ids[k]?=some id:=⟨ids[k]'(by rw [hS.li];omega),List.getElem?_eq_getElem _⟩
    have hbo:blkOf f (k:Int)=b:=by simp [blkOf,hb]
    have hto:toOf f (k:Int)=b.term.to:=by unfold toOf;rw [hbo]
    have hbt:=hg.to b (List.mem_of_getElem? hb)
    have hbe:=hg.edges b (List.mem_of_getElem? hb)
    rw [show f.blocks.length - k=(f.blocks.length - (k+1))+1 by omega] at hke
    simp only [spK] at hke
    rw [hto] at hke
    obtain⟨S1,hS1⟩:∃S1,S1=spE f k b.term.to.length 0 S:=⟨_,rfl⟩
    rw [←hS1] at hke
    have hout:=hS.out
    have hbl:=hS.bl.2
    have hcell:=blsC_to (T:=cellsAll (S.news.map Block.enc)) hid hb
    have hcl:(blsC ids f.blocks++cellsAll (S.news.map Block.enc)).length=(f.blocks.length+S.news.length) * 7:=by
     rw [List.length_append,blsC_len hS.li,blocks_len]
     omega
    refine awp_seq (awp_block ?_)
    refine zh1 (za0 ?_)
    by_cases ht0:b.term.to=[]
    ·have hoe:outE id b.term.to=.lst 2 [] .sh:=if_pos ht0
     rw [hoe] at hcell
     refine zg1 ?_
     simp -dsimp only [simprocAttr,↓vpre,zp,hout,hbl,hcell,hcl,Int.toNat_natCast]
     repeat(refine⟨by omega,?_⟩)
     refine za0 ?_
     refine zh1 (za0 ?_)
     refine awp_block (awp_loop (ι:=Unit) (fun _=>⟨78,[(1,.ip none [aI f.name,eBlocks f.blocks]),(2,.mp 1 0),(4,.lst 1 ((predsM f).map eIs) .sh),(6,.mp X0 0),(23,eBlocks f.blocks),(24,aI f.blocks.length),(25,aI k),(36,aI 0),(37,aI 0)],O⟩) (fun _=>0) () ?_ ?_)
     ·refine zq rfl ?_ ?_
      simp -dsimp only [simprocAttr,↓vpre,zp,zc]
      all_goals rfl
     rintro⟨⟩
     refine zh1 (za0 ?_)
     refine zu1 rfl ?_
     refine awp_exit ?_
     simp -dsimp only [vend,ne_eq,Nat.reduceEqDiff,reduceCtorEq]
     have hS1e:S1=S:=by
      rw [hS1,ht0]
      rfl
     rw [hS1e] at hke
     refine zh0 ?_
     repeat(refine⟨by omega,?_⟩)
     refine zl0 ?_
     refine⟨⟨⟨k+1,S,bid,O⟩,hlt,hS,hke,by simp only;omega,fun j b hj=>hrest j b (by simp only at hj;omega)⟩,by simp;omega,?_⟩
     refine zq rfl ?_ ?_
     simp -dsimp only [simprocAttr,↓vpre,zp,zc]
     ·exact Sub.int (by simp)
     rfl
    have hoe:outE id b.term.to=.os id b.term.to.length 2:=if_neg ht0
    rw [hoe] at hcell
    refine zg1 ?_
    simp -dsimp only [simprocAttr,↓vpre,zp,hout,hbl,hcell,hcl,Int.toNat_natCast]
    repeat(refine⟨by omega,?_⟩)
    refine za0 ?_
    refine zh1 (za0 ?_)
    refine awp_block (awp_loop (ι:={X:Sx // X.k≤b.term.to.length∧SpO f ids X0 X.S X.bid X.O∧S1=spE f k (b.term.to.length - X.k) X.k X.S∧X.S.news.length≤k * 257+X.k∧(∀(j:Nat) c,k+1≤j→f.blocks[j]?=some c→X.S.tos[j]?=some c.term.to)∧∃l,X.S.tos[k]?=some l∧l.length=b.term.to.length∧l.drop X.k=b.term.to.drop X.k}) (fun X=>⟨78,[(1,.ip none [aI f.name,eBlocks f.blocks]),(2,.mp 1 0),(4,.lst 1 ((predsM f).map eIs) .sh),(6,.mp X0 0),(23,eBlocks f.blocks),(24,aI f.blocks.length),(25,aI k),(8,.os id b.term.to.length 2),(35,.os id b.term.to.length 2),(36,aI b.term.to.length),(37,aI X.1.k)],X.1.O⟩) (fun X=>b.term.to.length - X.1.k) ⟨⟨0,S,bid,O⟩,by simp,hS,by simpa using hS1,by simpa using hnw,fun j c hj=>hrest j c (by omega),b.term.to,hrest k b (Nat.le_refl _) hb,rfl,rfl⟩ ?_ ?_)
    ·refine zq rfl ?_ ?_
     simp -dsimp only [simprocAttr,↓vpre,zp,zc]
     all_goals rfl
    rintro⟨⟨n,S,bid,O⟩,hz,hS,hze,hnw,hrest,l,hl,hll,hld⟩
    simp only at hz hS hze hnw hrest hl hld
    refine zh1 (za0 ?_)
    apply zk1 rfl<;>intro h
    ·refine zb0 ?_
     have hlz:n<b.term.to.length:=by simpa using h
     obtain⟨x,hx⟩:∃x,b.term.to[n]?=some x:=⟨b.term.to[n],by simp [hlz]⟩
     have hlx:l[n]?=some x:=by
      have h1:(l.drop n)[0]?=(b.term.to.drop n)[0]?:=by rw [hld]
      rw [List.getElem?_drop,List.getElem?_drop,Nat.add_zero,hx] at h1
      exact h1
     have hxe:=hbe x (List.mem_of_getElem? hx)
     obtain⟨o1,o2,o3,o4⟩:=hS.own k id b l hid hb hl ht0
     have h2:=edC_two hlx
     have hel:=edC_len l
     have hil:=lt_of_getElem? o4
     have hXl:=lt_of_getElem? hS.out
     have hBl:=lt_of_getElem? hS.bl.2
     have h1l:=lt_of_getElem? hS.r1
     rw [show b.term.to.length - n=(b.term.to.length - (n+1))+1 by omega] at hze
     simp only [spE] at hze
     obtain⟨p,hp⟩:∃p,p=predsAt f x.block:=⟨_,rfl⟩
     have hpp:(predsM f)[x.block.toNat]?=some p:=by
      rw [hp]
      unfold predsAt
      rw [List.getElem?_eq_getElem (by rw [hprl];omega)]
      rfl
     have hst:spStep f k n S=if critB f k x then ⟨S.tos.set k (l.set n ⟨((f.blocks.length+S.news.length:Nat):Int),[]⟩),S.news++[jumpB x]⟩ else S:=by
      unfold spStep
      rw [hto,hx,hl]
      rfl
     have hcr:critB f k x=(decide (2≤b.term.to.length)&&decide (2≤p.length)):=by
      unfold critB
      rw [hbo,hp]
     rw [hst] at hze
     have hnn:=spStep_news f k n S
     refine awp_seq (awp_block ?_)
     refine zg1 ?_
     simp -dsimp only [simprocAttr,↓vpre,zp,o4,h2,hel]
     repeat(refine⟨by omega,?_⟩)
     refine za0 ?_
     refine awp_local 10 ([aI x.block,eIs x.args]) [(1,.ip none [aI f.name,eBlocks f.blocks]),(2,.mp 1 0),(4,.lst 1 ((predsM f).map eIs) .sh),(6,.mp X0 0),(23,eBlocks f.blocks),(24,aI f.blocks.length),(25,aI k),(8,.os id b.term.to.length 2),(35,.os id b.term.to.length 2),(36,aI b.term.to.length),(37,aI n),(9,aI n),(10,.ip none [aI x.block,eIs x.args])] (by simp [putS,dropS,Go.Av.look]) (by rfl) (by omega) (by simp [putS,dropS,Go.Av.look]) ?_ ?_ ?_
     ·exact hS.up
     ·simp [AVal.upto,uptoL,aI_upto,Edge.map_upto,Ins.map_upto,Block.map_upto,eIss_up,hXl,hBl,h1l,hil]
     by_cases c1:2≤b.term.to.length
     ·have g1:decide ((b.term.to.length:Int)<2)=false:=decide_eq_false (by omega)
      by_cases c2:2≤p.length
      ·have g2:decide ((p.length:Int)<2)=false:=decide_eq_false (by omega)
       rw [if_pos (by rw [hcr,decide_eq_true c1,decide_eq_true c2];rfl)] at hze
       refine zg2 ?_
       simp -dsimp only [simprocAttr,↓vpre,zp,g1,hpp,g2]
       repeat(refine⟨by omega,?_⟩)
       refine za0 ?_
       apply zk0 rfl<;>intro h
       ·cases h
       refine zb0 ?_
       have hout:=hS.out
       refine zg1 ?_
       simp -dsimp only [simprocAttr,↓vpre,zp,hout,o4,hel,Int.toNat_natCast]
       repeat(refine⟨by omega,?_⟩)
       refine za0 ?_
       have hsub:=fun(j:Nat) c d=>sub_splice (O:=O.set id (.cells (splice (edC l) (n * 2) [aI ((f.blocks.length+S.news.length:Nat):Int),.lst 1 [] .ex]))) (cs:=edC l) (xs:=[aI ((f.blocks.length+S.news.length:Nat):Int),.lst 1 [] .ex]) (ys:=[aI ((f.blocks.length+S.news.length:Nat):Int),eIs []]) (i:=n * 2) rfl (by rw [hel];simp;omega) (fun j c d h1 h2=>by
        match j,h1,h2 with
        | 0,h1,h2=>exact Sub.of_eq (by simpa using h1.symm.trans h2)
        | 1,h1,h2 =>
         simp only [List.getElem?_cons_succ,List.getElem?_cons_zero,Option.some.injEq] at h1 h2
         subst h1
         subst h2
         exact fun _ _ _ h=>h.lst_share
        | j+2,h1,h2=>simp at h1) j c d
       have hput:=edC_put (es:=l) (n:=n) (by omega) ⟨((f.blocks.length+S.news.length:Nat):Int),[]⟩
       have hput':splice (edC l) (n * 2) [aI ((f.blocks.length+S.news.length:Nat):Int),eIs []]=edC (l.set n ⟨((f.blocks.length+S.news.length:Nat):Int),[]⟩):=hput
       rw [hput'] at hsub
       refine awp_retell2 id (edC (l.set n ⟨((f.blocks.length+S.news.length:Nat):Int),[]⟩)) (List.getElem?_set_self hil) (by rw [←hput',splice_length (by rw [hel];simp;omega),splice_length (by rw [hel];simp;omega)]) (edC_scalar _) hsub ?_
       rw [List.set_set]
       have hS2:=hS.edge hid hb hl ht0 (m:=l.set n ⟨((f.blocks.length+S.news.length:Nat):Int),[]⟩) (List.length_set)
       generalize O.set id (.cells (edC (l.set n ⟨((f.blocks.length+S.news.length:Nat):Int),[]⟩)))=O5 at *
       have hout2:=hS2.out
       have hbl2:=hS2.bl.2
       have hxb:=hS2.xb
       have hout2':∀Y,(O5.set bid .gone++Y)[X0]?=some (.cells [aI f.name,.os bid (f.blocks.length+S.news.length) 7]):=fun Y=>at_left (at_set_ne hout2 hxb)
       have hcl2:(blsC ids f.blocks++cellsAll (S.news.map Block.enc)).length=(f.blocks.length+S.news.length) * 7:=by
        rw [List.length_append,blsC_len hS.li,blocks_len]
        omega
       have hTT:(blsC ids f.blocks++cellsAll (S.news.map Block.enc)).take ((f.blocks.length+S.news.length) * 7)=blsC ids f.blocks++cellsAll (S.news.map Block.enc):=List.take_of_length_le (by omega)
       refine zg0 ?_
       simp -dsimp only [simprocAttr,↓vpre,zp,hout2,hout2',hbl2,hcl2,hTT,cellsAll_v,cells_os']
       repeat(refine⟨by omega,?_⟩)
       refine⟨trivial,?_⟩
       refine za0 ?_
       have hS3:SpO f ids X0 ⟨S.tos.set k (l.set n ⟨((f.blocks.length+S.news.length:Nat):Int),[]⟩),S.news++[jumpB x]⟩ O5.length ((O5.set bid .gone++[AObj.cells (blsC ids f.blocks++(cellsAll (S.news.map Block.enc)++[.lst 1 [] .sh,.lst 4 [] .sh,aI 1,aI 0,aI 0,.lst 1 [] .sh,.lst 2 [x.enc] .sh]))]).set X0 (.cells [aI f.name,.os O5.length (f.blocks.length+S.news.length+1) 7])):=by
        have:=hS2.block (jumpB x) rfl rfl
        rw [List.append_assoc] at this
        exact this
       show AWP Try.prog _ _ _ ⟨_,_,(O5.set bid .gone++[AObj.cells (blsC ids f.blocks++(cellsAll (S.news.map Block.enc)++[.lst 1 [] .sh,.lst 4 [] .sh,aI 1,aI 0,aI 0,.lst 1 [] .sh,.lst 2 [x.enc] .sh]))]).set X0 (.cells [aI f.name,.os O5.length (f.blocks.length+S.news.length+1) 7])⟩
       generalize (O5.set bid .gone++[AObj.cells (blsC ids f.blocks++(cellsAll (S.news.map Block.enc)++[.lst 1 [] .sh,.lst 4 [] .sh,aI 1,aI 0,aI 0,.lst 1 [] .sh,.lst 2 [x.enc] .sh]))]).set X0 (.cells [aI f.name,.os O5.length (f.blocks.length+S.news.length+1) 7])=O7 at *
       refine zh0 ?_
       repeat(refine⟨by omega,?_⟩)
       refine zl0 ?_
       refine⟨⟨⟨n+1,_,O5.length,O7⟩,hlz,hS3,hze,by simp only [List.length_append,List.length_singleton];omega,fun j c hj hc=>by
        simp only at hj ⊢
        rw [List.getElem?_set_ne (by omega)]
        exact hrest j c hj hc,l.set n ⟨((f.blocks.length+S.news.length:Nat):Int),[]⟩,by simp only;rw [List.getElem?_set_self (lt_of_getElem? hl)],by rw [List.length_set,hll],by
        simp only
        rw [List.drop_set_of_lt (by omega),←List.drop_drop,hld,List.drop_drop]⟩,by simp;omega,?_⟩
       refine zq rfl ?_ ?_
       simp -dsimp only [simprocAttr,↓vpre,zp,zc]
       ·exact Sub.int (by simp)
       rfl
      have g2:decide ((p.length:Int)<2)=true:=decide_eq_true (by omega)
      rw [if_neg (by rw [hcr,decide_eq_false c2];simp)] at hze
      refine zg2 ?_
      simp -dsimp only [simprocAttr,↓vpre,zp,g1,hpp,g2]
      repeat(refine⟨by omega,?_⟩)
      refine za0 ?_
      refine zw0 rfl ?_
      refine awp_exit ?_
      simp -dsimp only [vend,ne_eq,Nat.reduceEqDiff,reduceCtorEq]
      refine zh0 ?_
      repeat(refine⟨by omega,?_⟩)
      refine zl0 ?_
      refine⟨⟨⟨n+1,S,bid,O⟩,hlz,hS,by simp only;rw [show b.term.to.length - (n+1)=b.term.to.length - (n+1) from rfl];exact hze,by simp only;omega,hrest,l,hl,hll,by simp only;rw [←List.drop_drop,hld,List.drop_drop]⟩,by simp;omega,?_⟩
      refine zq rfl ?_ ?_
      simp -dsimp only [simprocAttr,↓vpre,zp,zc]
      ·exact Sub.int (by simp)
      rfl
     have g1:decide ((b.term.to.length:Int)<2)=true:=decide_eq_true (by omega)
     rw [if_neg (by rw [hcr,decide_eq_false c1];simp)] at hze
     refine zg2 ?_
     simp -dsimp only [simprocAttr,↓vpre,zp,g1]
     repeat(refine⟨by omega,?_⟩)
     refine za0 ?_
     refine zw0 rfl ?_
     refine awp_exit ?_
     simp -dsimp only [vend,ne_eq,Nat.reduceEqDiff,reduceCtorEq]
     refine zh0 ?_
     repeat(refine⟨by omega,?_⟩)
     refine zl0 ?_
     refine⟨⟨⟨n+1,S,bid,O⟩,hlz,hS,by simp only;rw [show b.term.to.length - (n+1)=b.term.to.length - (n+1) from rfl];exact hze,by simp only;omega,hrest,l,hl,hll,by simp only;rw [←List.drop_drop,hld,List.drop_drop]⟩,by simp;omega,?_⟩
     refine zq rfl ?_ ?_
     simp -dsimp only [simprocAttr,↓vpre,zp,zc]
     ·exact Sub.int (by simp)
     rfl
    refine awp_exit ?_
    simp -dsimp only [vend,ne_eq,Nat.reduceEqDiff,reduceCtorEq]
    have hzl:b.term.to.length≤n:=by
     have:=of_decide_eq_false h
     omega
    rw [show b.term.to.length - n=0 by omega] at hze
    simp only [spE] at hze
    subst hze
    refine zh0 ?_
    repeat(refine⟨by omega,?_⟩)
    refine zl0 ?_
    refine⟨⟨⟨k+1,S1,bid,O⟩,hlt,hS,hke,by simp only;omega,hrest⟩,by simp;omega,?_⟩
    refine zq rfl ?_ ?_
    simp -dsimp only [simprocAttr,↓vpre,zp,zc]
    ·exact Sub.int (by simp)
    rfl
   refine awp_exit ?_
   simp -dsimp only [vend,ne_eq,Nat.reduceEqDiff,reduceCtorEq]
   have hkN:f.blocks.length≤k:=by
    have:=of_decide_eq_false h
    omega
   rw [show f.blocks.length - k=0 by omega] at hke
   simp only [spK] at hke
   subst hke
   have hout:=hS.out
   have hr1:=hS.r1
   have h1l:=lt_of_getElem? hr1
   have hx5:=hS.x5
   by_cases hm:128<f.blocks.length+R.news.length
   ·have g1:decide ((128:Int)<((f.blocks.length+R.news.length:Nat):Int))=true:=decide_eq_true (by omega)
    rw [if_pos hm]
    refine zg2 ?_
    simp -dsimp only [simprocAttr,↓vpre,zp,hout,g1]
    refine za0 ?_
    refine zw0 rfl ?_
    have hr1':(O.set 1 (.cells [aI 0,.lst 7 [] .ex]))[1]?=some (.cells [aI 0,.lst 7 [] .ex]):=List.getElem?_set_self h1l
    refine zg1 ?_
    simp -dsimp only [simprocAttr,↓vpre,zp,hr1]
    refine za0 ?_
    refine awp_ret ?_
    simp -dsimp only [simprocAttr,↓vpre,zp,zr,Try.results15,hr1']
    simp [uptoL,AVal.upto]
   have g1:decide ((128:Int)<((f.blocks.length+R.news.length:Nat):Int))=false:=decide_eq_false (by omega)
   rw [if_neg hm]
   have hzl:(List.zipWith setTo f.blocks R.tos).length=f.blocks.length:=by
    rw [List.length_zipWith,hS.w.len]
    omega
   have hbs:=blsC_set (ids:=ids) hS.w.len hS.w.each
   have hel:∀(j id:Nat) (c:Block),ids[j]?=some id→(List.zipWith setTo f.blocks R.tos)[j]?=some c→c.term.to≠[]→∃b l,f.blocks[j]?=some b∧R.tos[j]?=some l∧c=setTo b l∧b.term.to≠[]:=fun j id c h1 h2 h3=>by
    rw [List.getElem?_zipWith] at h2
    cases hb:f.blocks[j]? with
    | none=>rw [hb] at h2;cases h2
    | some b =>
     cases hl:R.tos[j]? with
     | none=>rw [hb,hl] at h2;cases h2
     | some l =>
      rw [hb,hl] at h2
      simp only [Option.some.injEq] at h2
      refine⟨b,l,rfl,rfl,h2.symm,fun q=>h3 ?_⟩
      have:=hS.w.each j b l hb hl
      rw [q] at this
      rw [←h2]
      exact List.length_eq_zero_iff.1 this
   refine zg2 ?_
   simp -dsimp only [simprocAttr,↓vpre,zp,hout,g1]
   refine za0 ?_
   refine zu0 rfl ?_
   refine zb0 ?_
   refine zg1 ?_
   simp -dsimp only [simprocAttr,↓vpre,zp,hout,hr1]
   refine za0 ?_
   refine awp_blocks2 (ids:=ids) (bs:=List.zipWith setTo f.blocks R.tos) (T:=R.news) (X:=1) (oid:=bid) (name:=f.name) (by rw [hzl,hS.li]) (by have:=hS.bl.1;omega) (by rw [hzl];exact List.getElem?_set_self h1l) (by rw [hbs,List.getElem?_set_ne (by have:=hS.bl.1;omega)];exact hS.bl.2) (fun j id c h1 h2 h3=>?_) (fun i j id c d h1 h2 h3 h4 h5 h6=>?_) fun O1 hO1 hO11=>?_
   ·obtain⟨b,l,q1,q2,q3,q4⟩:=hel j id c h1 h2 h3
    obtain⟨o1,o2,o3,o4⟩:=hS.own j id b l h1 q1 q2 q4
    exact⟨o2,by omega,by rw [List.getElem?_set_ne (by omega),q3];exact o4⟩
   ·obtain⟨b,l,q1,q2,q3,q4⟩:=hel i id c h1 h3 h5
    obtain⟨b',l',r1,r2,r3,r4⟩:=hel j id d h2 h4 h6
    exact hS.inj i j id b b' h1 h2 q1 r1 q4 r4
   generalize List.zipWith setTo f.blocks R.tos++R.news=GB at hO11 ⊢
   refine awp_ret ?_
   simp -dsimp only [simprocAttr,↓vpre,zp,zr,Try.results15,hO11]
   refine⟨?_,rfl⟩
   simp [uptoL,AVal.upto,aI_upto,Block.map_upto]
  exact FSub.mp rfl rfl
 rw [if_neg hc] at hpr ⊢
 obtain⟨e,he⟩:∃e,e=checkFuncM f:=⟨_,rfl⟩
 rw [←he] at hc hpr ⊢
 have hde:decide (e=0)=false:=decide_eq_false hc
 refine zf true 0 Try.func15 Try.ntmps15 ?_
 dsimp only [Tmp,TypeId,slotsOf]
 refine zh1 (za0 ?_)
 refine awp_freeze1 1 0 (.ip none [aI f.name,eBlocks f.blocks]) rfl (by simp [AObj.isSpare]) trivial rfl ?_ ?_
 rotate_left
 simp -dsimp only [simprocAttr,↓vpre,zp]
 ·refine zh1 ?_
  refine zi hpr ?_
  refine za0 ?_
  refine zg2 ?_
  simp -dsimp only [simprocAttr,↓vpre,zp,hde]
  refine za0 ?_
  refine zw0 rfl ?_
  refine zh1 (za0 ?_)
  refine awp_ret ?_
  simp -dsimp only [simprocAttr,↓vpre,zp,zr,Try.results15]
  simp [uptoL,AVal.upto]
 exact FSub.mp rfl rfl
def lays25_ren:Go.Shelf.Ren:=⟨fun | 25=>62 | 31=>96 | 32=>97 | 37=>123 | n=>n,fun | 0=>0 | 3=>3 | 4=>4 | 22=>45 | 40=>144 | n=>n,fun n=>n⟩
theorem lays25:Go.Proofs.Lays2.n25 Try.prog lays25_ren:={
 mixed:=by kernel_rfl,
 f25:=Try.func62.trans (congrArg some (by kernel_rfl)),
 f31:=Try.func96.trans (congrArg some (by kernel_rfl)),
 f32:=Try.func97.trans (congrArg some (by kernel_rfl)),
 f37:=Try.func123.trans (congrArg some (by kernel_rfl)),
 t0:=Try.underlying0,
 a0:=Try.isAgg0,
 z0:=Try.sizeOf0,
 v0:=Try.zeroValue0,
 t3:=Try.underlying3,
 a3:=Try.isAgg3,
 z3:=Try.sizeOf3,
 v3:=Try.zeroValue3,
 t4:=Try.underlying4,
 a4:=Try.isAgg4,
 z4:=Try.sizeOf4,
 v4:=Try.zeroValue4,
 t22:=Try.underlying45,
 a22:=Try.isAgg45,
 z22:=Try.sizeOf45,
 v22:=Try.zeroValue45,
 t40:=Try.underlying144,
 a40:=Try.isAgg144,
 z40:=Try.sizeOf144,
 v40:=Try.zeroValue144 }
theorem cellsAll_ints(l:List Int):cellsAll (l.map aI)=l.map aI:=by
 induction l with
 | nil=>rfl
 | cons a r ih =>
  simp only [List.map_cons,cellsAll,List.flatMap_cons] at ih ⊢
  rw [ih]
  rfl
theorem search_enters:Go.Av.Enters Try.prog 62:=⟨_,Try.func62,by kernel_rfl,by kernel_rfl⟩
theorem bsearch_calls(b off n c:Nat)(zs:List Int)(x:Int)(w:World)(hz:n≤zs.length)(hbig:n<4611686018427387904)(hc:∀j,j<zs.length→w.cell? ⟨b,off+j,none⟩=some (.int .i64 (zs.getD j 0)))(hs:(zs.take n).Pairwise (·≤·)) :
  Calls Try.prog 62 #[.slice (some ⟨b,off,none⟩) n c,.int .i64 x] w fun e w'=>e=.returned (.tuple #[.int .i64 ((zs.take n).countP (· < x):Nat),.bool ((zs.take n).contains x)])∧∃q,w'=w.drewN q:=Any.slices_BinarySearch_int lays25 b off n c zs x w hz hbig hc hs
theorem bsearch_spec{l:List Int}(hne:l≠[])(hl:l.length≤1000)(hs:l.Pairwise (fun x y=>x≤y))(x:Int):PCall Try.prog 62 [eIs l,aI x] (.tup [aI (l.countP fun y=>decide (y<x):Nat),.v (.bool (decide (x∈l)))]):=by
 refine⟨search_enters,fun g vs hg hgo hvs=>?_⟩
 obtain⟨h1,h2⟩:=hvs
 simp only [List.length_cons,List.length_nil] at h1
 have hv0:vs[0]?=some (vs[0]'(by omega)):=Array.getElem?_eq_getElem _
 have hv1:vs[1]?=some (vs[1]'(by omega)):=Array.getElem?_eq_getElem _
 have hr0:=h2 0 _ _ rfl hv0
 have hr1:=(h2 1 _ _ rfl hv1).v_inv.1
 obtain⟨a,cap,he,hcell⟩:∃(a:Addr) (cap:Nat),vs[0]'(by omega)=.slice (some ⟨a.block,a.off,none⟩) l.length cap∧∀(j:Nat) y,l[j]?=some y→g.w.cell? ⟨a.block,a.off+j,none⟩=some (.int .i64 y):=by
  generalize vs[0]'(by omega)=u at hr0
  rcases hr0.lst_inv with q | q
  ·exact absurd (List.map_eq_nil_iff.1 q.2) hne
  obtain⟨a,cap,f,rfl,_,_,_,_,hspot,hm,hr,_⟩:=q
  have hspot:=hspot (by simpa using hne)
  refine⟨a,cap,?_,fun j y hj=>?_⟩
  ·rw [List.length_map]
   obtain⟨b,o,s⟩:=a
   simp only at hspot
   subst hspot
   rfl
  have hj':(cellsAll (l.map aI))[j]?=some (aI y):=by
   rw [cellsAll_ints,List.getElem?_map,hj]
   rfl
  have m1:=(hm j _ hj').1
  rw [(hr j _ hj').v_inv.1] at m1
  exact m1
 have hvs:vs = #[.slice (some ⟨a.block,a.off,none⟩) l.length cap,.int .i64 x]:=by
  apply Array.ext
  ·simpa using h1
  intro i hi1 hi2
  have:i=0∨i=1:=by omega
  rcases this with e | e
  ·subst e
   exact he
  subst e
  exact hr1
 subst hvs
 refine(bsearch_calls a.block a.off l.length cap l x g.w (Nat.le_refl _) (by omega) (fun j hj=>?_) (by rw [List.take_length];exact hs)).mono ?_
 ·rw [hcell j _ (List.getElem?_eq_getElem hj)]
  simp [hj]
 rintro e w' ⟨rfl,q,rfl⟩
 rw [List.take_length]
 refine⟨⟨g.w.drewN q,g.fr,g.env,g.objs⟩,_,_,rfl,rfl,Le.heap (by simp) rfl rfl rfl,hg.heap (by simp) rfl rfl rfl,.tup rfl ?_,rfl,hgo⟩
 intro i c u hc hu
 have hi:i=0∨i=1:=by
  have:=lt_of_getElem? hc
  simp only [List.length_cons,List.length_nil] at this
  omega
 rcases hi with e | e
 ·subst e
  simp only [List.getElem?_cons_zero,Option.some.injEq] at hc
  have hu':u=.int .i64 (l.countP fun y=>decide (y<x):Nat):=by simpa using hu.symm
  subst hc
  subst hu'
  have h5:(l.countP fun y=>decide (y<x))≤l.length:=List.countP_le_length
  refine .v ⟨?_,?_⟩
  ·show IntKind.min .i64≤_
   rw [show IntKind.min .i64=-9223372036854775808 from rfl]
   omega
  show _≤IntKind.max .i64
  rw [show IntKind.max .i64=9223372036854775807 from rfl]
  omega
 subst e
 simp only [List.getElem?_cons_succ,List.getElem?_cons_zero,Option.some.injEq] at hc
 have hu':u=.bool (l.contains x):=by simpa using hu.symm
 subst hc
 subst hu'
 have h6:l.contains x=decide (x∈l):=by simp
 rw [h6]
 exact .v trivial
theorem PCall.os{P:Program}{f:FuncId}{l:List Int}{x b:Value}(h:PCall P f [eIs l,.v x] (.v b)){O:List AObj}{id:Nat}(ho:O[id]?=some (.cells (l.map aI))) :
  ECall P f O [.os id l.length 1,.v x] (fun r O'=>r=.v b∧O'=O):=by
 refine⟨h.1,fun g vs hg hgo hvs=>?_⟩
 subst hgo
 obtain⟨h1,h2⟩:=hvs
 simp only [List.length_cons,List.length_nil] at h1
 have hv0:vs[0]?=some (vs[0]'(by omega)):=Array.getElem?_eq_getElem _
 have hv1:vs[1]?=some (vs[1]'(by omega)):=Array.getElem?_eq_getElem _
 obtain⟨lc,o,cap,he,hobj,hns,hcap,hb,hmax,hve⟩:=(h2 0 _ _ rfl hv0).os_inv
 obtain⟨hxe,hxf⟩:=(h2 1 _ _ rfl hv1).v_inv
 obtain⟨arr,t,hlo,hrow,hlen,hcs,hcsc,hlsz⟩:=hg.row ho he
 rw [List.length_map] at hlen
 have hcell:∀(j:Nat) y,l[j]?=some y→arr[j]?=some (.int .i64 y)∧flatOK (.int .i64 y):=fun j y hj=>by
  have hjl:=lt_of_getElem? hj
  have hja:arr[j]?=some (arr[j]'(by omega)):=Array.getElem?_eq_getElem _
  obtain⟨e,hf⟩:=(hcs j (aI y) _ (by simp [hj]) hja).v_inv
  exact⟨by rw [hja,e],hf⟩
 obtain⟨g3,hg3⟩:∃g3:G,g3=⟨g.w,fun _ _=>False,[],[]⟩:=⟨_,rfl⟩
 have hno:∀b off,¬OwnC g3 b off:=fun b off q=>by
  subst hg3
  rcases q with q | ⟨_,_,_,q,_⟩
  ·exact q
  simp at q
 have hgood:Go.Av.Good g3:=by
  subst hg3
  exact { frlt:=fun _ _ q=>q.elim,frown:=fun _ _ _ q=>by simp at q,len:=rfl,loc:=fun _ _ _ q=>by simp at q,apart:=fun _ _ _ _ _ _ q=>by simp at q,cells:=fun _ _ q=>by simp at q,spare:=fun _ _ _ q=>by simp at q,map:=fun _ _ _ q=>by simp at q }
 have hrow3:g3.w.heap[lc.block]?=some (.cells arr t (0,0)):=by rw [hg3];exact hrow
 have hrv0:RV g3 (eIs l) (.slice (some ⟨lc.block,0,none⟩) l.length cap):=by
  have hll:l.length=(l.map aI).length:=by simp
  rw [hll]
  refine .lst (f:=fun j=>.int .i64 (l.getD j 0)) ?_ ?_ (by simpa using hcap) (by simpa using hmax) (fun _=>rfl) ?_ ?_ trivial
  ·intro y hy
   obtain⟨z,_,rfl⟩:=List.mem_map.1 hy
   rfl
  ·intro y hy c hc
   obtain⟨z,_,rfl⟩:=List.mem_map.1 hy
   simp only [AVal.cells,List.mem_singleton] at hc
   subst hc
   trivial
  ·intro j c hj
   rw [cellsAll_ints,List.getElem?_map] at hj
   obtain⟨y,hy,rfl⟩:=Option.map_eq_some_iff.1 hj
   refine⟨?_,hno _ _⟩
   show g3.w.cell? _=_
   rw [Go.Av.cell_of_row hrow3,Nat.zero_add,(hcell j y hy).1]
   simp [hy]
  intro j c hj
  rw [cellsAll_ints,List.getElem?_map] at hj
  obtain⟨y,hy,rfl⟩:=Option.map_eq_some_iff.1 hj
  have:l.getD j 0=y:=by simp [hy]
  rw [this]
  exact .v (hcell j y hy).2
 have hvs3:RVs g3 [eIs l,.v x] vs:=by
  refine⟨by simpa using h1,fun j c u hj hu=>?_⟩
  have hj2:=lt_of_getElem? hj
  simp only [List.length_cons,List.length_nil] at hj2
  rcases (show j=0∨j=1 by omega) with e | e
  ·subst e
   rw [hv0] at hu
   simp only [List.getElem?_cons_zero,Option.some.injEq] at hj hu
   rw [←hj,←hu,hve]
   exact hrv0
  subst e
  rw [hv1] at hu
  simp only [List.getElem?_cons_succ,List.getElem?_cons_zero,Option.some.injEq] at hj hu
  rw [←hj,←hu,hxe]
  exact .v hxf
 have hw3:g.w=g3.w:=by rw [hg3]
 rw [hw3]
 refine(h.2 g3 vs hgood (by rw [hg3]) hvs3).mono ?_
 rintro e w' ⟨g',v,r,k1,k2,k3,k4,k5,k6,k7⟩
 have hX:Le g.bare ⟨g'.w,OwnC g,g'.env,g'.objs⟩:=by
  subst hg3
  exact {
   os:=k3.os
   tape:=k3.tape
   output:=k3.output
   fr:=rfl
   size:=k3.size
   block:=fun k hk hh=>⟨(k3.block k hk (fun q=>hh q)).1,(k3.block k hk (fun q=>hh q)).2⟩
   cell:=fun b off y hy hh=>⟨(k3.cell b off y hy (fun q=>hh q)).1,(k3.cell b off y hy (fun q=>hh q)).2⟩
   len:=k3.len
   spare:=fun id m hm=>by simp [G.bare] at hm
   plain:=fun id o hm=>by simp [G.bare] at hm
   gone:=fun id hm=>by simp [G.bare] at hm
   tok:=fun id m hm=>by simp [G.bare] at hm }
 refine⟨g.back ⟨g'.w,OwnC g,g'.env,g'.objs⟩,v,.v b,k1,k2,Le.back hg hX,Go.Av.Good.back hg hX,?_,rfl,rfl⟩
 rw [k6] at k5
 obtain⟨e1,e2⟩:=k5.v_inv
 rw [e1]
 exact .v e2

theorem tree_spec(f:Func)(hfit:f.fit)(hc:checkFuncM f=0):PCall Try.prog 29 [f.enc] (.tup [eIs (treeM f),aI 0]):=by
 have hb:=dbuild_spec f hfit hc
 have hg:=(checkFunc_ok hfit hc).gr
 have hl:=(tree_w hg).tr.len
 unfold dmO at hb
 generalize treeM f=O at *
 obtain⟨N,hN⟩:∃N,N=f.blocks.length:=⟨_,rfl⟩
 rw [←hN] at hb hl
 refine zf true 0 Try.func29 Try.ntmps29 ?_
 dsimp only [Tmp,TypeId,slotsOf]
 refine zh1 (za0 ?_)
 refine awp_freeze1 1 0 (.ip none [aI f.name,eBlocks f.blocks]) rfl (by simp [AObj.isSpare]) trivial rfl ?_ ?_
 rotate_left
 simp -dsimp only [simprocAttr,↓vpre,zp]
 ·refine zh1 ?_
  refine .inr (.inl ⟨_,_,hb,.inl (later_intro (zj ?_))⟩)
  refine za0 ?_
  refine zh1 (za0 ?_)
  refine awp_freeze1 2 3 (o:=.cells (O.map aI)) (eIs O) rfl (by simp [AObj.isSpare]) trivial rfl (FSub.ms (cs:=O.map aI) rfl (fun x hx=>by obtain⟨v,_,rfl⟩:=List.mem_map.1 hx;rfl) (by simpa using hl) (by rw [List.drop_zero,List.take_of_length_le (by simp;omega),aI_cellsAll])) ?_
  simp -dsimp only [simprocAttr,↓vpre,zp]
  refine awp_ret ?_
  simp -dsimp only [simprocAttr,↓vpre,zp,zr,Try.results29]
  exact⟨⟨aI_upto _ _,trivial⟩,trivial,trivial⟩
 exact FSub.mp rfl rfl
theorem lover_spec{f:Func}(hw:OrdW f){ov:List Int}(ht:Tr f ov){a b:Int}(ha:0≤a)(hb:Asg ov b):PCall Try.prog 95 [eIs ov,aI a,aI b] (.v (.bool (ancB ov a b))):=by
 obtain⟨R,hR⟩:∃R,R=ancB ov a b:=⟨_,rfl⟩
 rw [←hR]
 refine zf true 0 Try.func95 Try.ntmps95 ?_
 dsimp only [Tmp,TypeId,slotsOf]
 refine zh1 (za0 ?_)
 refine awp_seq (awp_block (awp_loop (ι:={x:Int // (Asg ov x∧R=ancB ov a x)∨(x=-1∧R=false)}) (fun x=>⟨21,[(0,eIs ov),(1,aI a),(2,aI x.1)],[]⟩) (fun x=>if 0≤x.1 then (plF f x.1).toNat+1 else 0) ⟨b,.inl ⟨hb,hR⟩⟩ ?_ ?_))
 ·refine zq rfl ?_ ?_
  simp -dsimp only [simprocAttr,↓vpre,zp,zc]
  rfl
 rintro⟨x,hx⟩
 rcases hx with⟨hxa,hRx⟩ | ⟨hx1,hRx⟩
 ·have hx0:=hxa.nn hw ht
  have hd1:decide (0≤x)=true:=decide_eq_true hx0
  have hpx:=ht.asg hw hxa
  have hxr:=hw.range x hpx
  by_cases hxe:x=a
  ·have hd2:decide (x=a)=true:=decide_eq_true hxe
   have hd3:decide (a=x)=true:=decide_eq_true hxe.symm
   have hRt:R=true:=by rw [hRx,hxe];exact ancB_self hw ht (hxe ▸ hxa)
   refine zg2 ?_
   simp -dsimp only [simprocAttr,↓vpre,zp,hd1,hd2]
   refine za0 ?_
   refine zu0 rfl ?_
   refine awp_exit ?_
   simp -dsimp only [vend,ne_eq,Nat.reduceEqDiff,reduceCtorEq]
   refine zg1 ?_
   simp -dsimp only [simprocAttr,↓vpre,zp,hd3]
   refine za0 ?_
   rw [hRt]
   refine awp_ret ?_
   simp -dsimp only [simprocAttr,↓vpre,zp,zr,Try.results95]
  have hd2:decide (x=a)=false:=decide_eq_false hxe
  obtain⟨y,hy⟩:∃y,ov[x.toNat]?=some y:=⟨ov[x.toNat]'(by rw [ht.len];omega),List.getElem?_eq_getElem _⟩
  have hye:atI ov x=y:=by simp [atI,hy]
  have hst:=anc_step hw ht hxa hxe
  rw [hye,←hRx] at hst
  refine zg2 ?_
  simp -dsimp only [simprocAttr,↓vpre,zp,hd1,hd2]
  refine za0 ?_
  refine zw0 rfl ?_
  refine zb0 ?_
  refine awp_block ?_
  refine zg0 ?_
  simp -dsimp only [simprocAttr,↓vpre,zp,hy]
  repeat(refine⟨by omega,?_⟩)
  refine zl1 ?_
  rcases hst with⟨s1,s2,s3,s4⟩ | ⟨s1,s2⟩
  ·refine⟨⟨y,.inl ⟨s2,s4⟩⟩,by simp only;rw [if_pos s1,if_pos hx0];have:=ht.asg hw s2;omega,?_⟩
   refine zq rfl ?_ ?_
   simp -dsimp only [simprocAttr,↓vpre,zp,zc]
   rfl
  refine⟨⟨y,.inr ⟨s1,s2⟩⟩,by simp only;rw [if_neg (by omega),if_pos hx0];omega,?_⟩
  refine zq rfl ?_ ?_
  simp -dsimp only [simprocAttr,↓vpre,zp,zc]
  rfl
 have hd1:decide (0≤x)=false:=decide_eq_false (by omega)
 have hd2:decide (a=x)=false:=decide_eq_false (by omega)
 refine zg2 ?_
 simp -dsimp only [simprocAttr,↓vpre,zp,hd1]
 refine za0 ?_
 refine zu0 rfl ?_
 refine awp_exit ?_
 simp -dsimp only [vend,ne_eq,Nat.reduceEqDiff,reduceCtorEq]
 refine zg1 ?_
 simp -dsimp only [simprocAttr,↓vpre,zp,hd2]
 refine za0 ?_
 rw [hRx]
 refine awp_ret ?_
 simp -dsimp only [simprocAttr,↓vpre,zp,zr,Try.results95]
def eBk(p:Int×Int):AVal:=.agg [aI p.1,aI p.2]
theorem eBk_upto(n:Nat)(l:List (Int×Int)):uptoL n (l.map eBk):=by
 rw [uptoL_iff]
 intro x hx
 obtain⟨p,_,rfl⟩:=List.mem_map.1 hx
 exact⟨trivial,trivial,trivial⟩
def backE(f:Func)(k:Int)(l:List Edge):List (Int×Int):=(l.filter fun x=>ancB (treeM f) x.block k).map fun x=>(k,x.block)
theorem backE_cons{f:Func}{k:Int}{x:Edge}{l:List Edge}:backE f k (x::l)=if ancB (treeM f) x.block k then (k,x.block)::backE f k l else backE f k l:=by
 unfold backE
 cases h:ancB (treeM f) x.block k<;>simp [h]
def backR(f:Func):AVal:=if checkFuncM f=0 then .tup [.lst 2 ((backsM f).map eBk) .sh,aI 0] else .tup [.lst 2 [] .sh,aI (checkFuncM f)]
theorem backs_spec(f:Func)(hfit:f.fit):PCall Try.prog 61 [f.enc] (backR f):=by
 have hrr:=reachable_spec f hfit
 unfold rchR at hrr
 unfold backR
 by_cases hc:checkFuncM f=0
 ·rw [if_pos hc] at hrr ⊢
  have hg:=(checkFunc_ok hfit hc).gr
  have hw:=ord_w hg
  have ht:=tree_w hg
  have htr:=tree_spec f hfit hc
  have hn:f.blocks.length≤128:=hg.few
  have hLl:(rchS f).length≤128:=by rw [rchS_len];exact hw.few
  have hLr:∀k∈rchS f,0≤plF f k:=fun k hk=>mem_rchS.1 hk
  have hbf:=backs_few hg
  obtain⟨R,hR⟩:∃R,R=backsM f:=⟨_,rfl⟩
  rw [←hR] at hbf ⊢
  unfold backsM at hR
  generalize rchS f=L at *
  refine zf true 0 Try.func61 Try.ntmps61 ?_
  dsimp only [Tmp,TypeId,slotsOf]
  refine zh1 (za0 ?_)
  refine awp_freeze1 1 0 (.ip none [aI f.name,eBlocks f.blocks]) rfl (by simp [AObj.isSpare]) trivial rfl ?_ ?_
  rotate_left
  simp -dsimp only [simprocAttr,↓vpre,zp]
  ·refine zh1 ?_
   refine zi hrr ?_
   refine za0 ?_
   refine zh2 (za0 ?_)
   apply zk0 rfl<;>intro h
   ·cases h
   refine zb0 ?_
   refine zh1 ?_
   refine zi htr ?_
   refine za0 ?_
   refine zh1 (za0 ?_)
   refine awp_own 8 rfl ?_
   simp -dsimp only [simprocAttr,↓vpre,zp]
   refine zh2 (za0 ?_)
   refine awp_block (awp_loop (ι:={x:Nat×List (Int×Int) // x.1≤L.length∧R=x.2++(L.drop x.1).flatMap (backK f)}) (fun x=>⟨59,[(1,.ip none [aI f.name,eBlocks f.blocks]),(6,eIs (treeM f)),(8,.lst 2 (x.1.2.map eBk) (.tok 1)),(26,eIs L),(27,aI L.length),(28,aI x.1.1)],[.gone,.spare x.1.2.length]⟩) (fun x=>L.length - x.1.1) ⟨(0,[]),by simp,by simpa using hR⟩ ?_ ?_)
   ·refine zq rfl ?_ ?_
    simp -dsimp only [simprocAttr,↓vpre,zp,zc]
    all_goals rfl
   rintro⟨⟨i,acc⟩,hi,hRe⟩
   simp only at hi hRe
   refine zh1 (za0 ?_)
   apply zk1 rfl<;>intro h
   ·refine zb0 ?_
    have hlt:i<L.length:=by simpa using h
    obtain⟨k,hk⟩:∃k,L[i]?=some k:=⟨L[i],by simp [hlt]⟩
    have hkp:=hLr k (List.mem_of_getElem? hk)
    have hkr:=hw.range k hkp
    rw [drop_at hk,List.flatMap_cons,←List.append_assoc] at hRe
    obtain⟨B,hB⟩:∃B,f.blocks[k.toNat]?=some B:=⟨f.blocks[k.toNat]'(by omega),List.getElem?_eq_getElem _⟩
    have hto:toOf f k=B.term.to:=by simp [toOf,blkOf,hB]
    have hBm:=List.mem_of_getElem? hB
    have hed:=hg.edges B hBm
    have hB257:=hg.to B hBm
    have hbk:backK f k=backE f k B.term.to:=by rw [←hto];rfl
    obtain⟨A,hA⟩:∃A,A=acc++backK f k:=⟨_,rfl⟩
    rw [←hA] at hRe
    rw [hbk] at hA
    have hasg:=ht.asg' hw hkp
    refine awp_seq (awp_block ?_)
    refine zg1 ?_
    simp -dsimp only [simprocAttr,↓vpre,zp,hk]
    refine za0 ?_
    refine zg1 ?_
    simp -dsimp only [simprocAttr,↓vpre,zp,hB]
    repeat(refine⟨by omega,?_⟩)
    refine za0 ?_
    refine awp_block (awp_loop (ι:={y:Nat×List (Int×Int) // y.1≤B.term.to.length∧A=y.2++backE f k (B.term.to.drop y.1)}) (fun y=>⟨59,[(1,.ip none [aI f.name,eBlocks f.blocks]),(6,eIs (treeM f)),(8,.lst 2 (y.1.2.map eBk) (.tok 1)),(26,eIs L),(27,aI L.length),(28,aI i),(10,aI k),(38,eEdges B.term.to),(39,aI B.term.to.length),(40,aI y.1.1)],[.gone,.spare y.1.2.length]⟩) (fun y=>B.term.to.length - y.1.1) ⟨(0,acc),by simp,by simpa using hA⟩ ?_ ?_)
    ·refine zq rfl ?_ ?_
     simp -dsimp only [simprocAttr,↓vpre,zp,zc]
     all_goals rfl
    rintro⟨⟨z,a2⟩,hz,hAe⟩
    simp only at hz hAe
    refine zh1 (za0 ?_)
    apply zk1 rfl<;>intro h
    ·refine zb0 ?_
     have hlz:z<B.term.to.length:=by simpa using h
     obtain⟨x,hx⟩:∃x,B.term.to[z]?=some x:=⟨B.term.to[z],by simp [hlz]⟩
     have hxr:=hed x (List.mem_of_getElem? hx)
     rw [drop_at hx,backE_cons] at hAe
     have hlv:=lover_spec hw ht.tr (a:=x.block) (b:=k) (by omega) hasg
     have hAl:a2.length≤33000:=by
      have h1:=congrArg List.length hRe
      have h2:=congrArg List.length hAe
      simp only [List.length_append] at h1 h2
      omega
     refine awp_seq (awp_block ?_)
     refine zg1 ?_
     simp -dsimp only [simprocAttr,↓vpre,zp,hx]
     refine za0 ?_
     show AWP Try.prog _ _ _ ⟨_,_,[.gone,.spare a2.length]++[.cells [aI x.block,eIs x.args]]⟩
     refine awp_local 12 ([aI x.block,eIs x.args]) [(1,.ip none [aI f.name,eBlocks f.blocks]),(6,eIs (treeM f)),(8,.lst 2 (a2.map eBk) (.tok 1)),(26,eIs L),(27,aI L.length),(28,aI i),(10,aI k),(38,eEdges B.term.to),(39,aI B.term.to.length),(40,aI z),(12,.ip none [aI x.block,eIs x.args])] (by simp [putS,dropS,Go.Av.look]) (by rfl) (by omega) (by simp [putS,dropS,Go.Av.look]) ?_ ?_ ?_
     ·simp [AObj.upto]
     ·simp [AVal.upto,uptoL,aI_upto,Edge.map_upto,Ins.map_upto,Block.map_upto,eBk_upto]
     refine zh1 ?_
     refine zi hlv ?_
     refine za0 ?_
     cases hbb:ancB (treeM f) x.block k with
     | true =>
      rw [if_pos hbb] at hAe
      refine zw0 rfl ?_
      refine zh0 ?_
      repeat(refine⟨by omega,?_⟩)
      refine za0 ?_
      refine zh0 ?_
      repeat(refine⟨by omega,?_⟩)
      refine zl0 ?_
      refine⟨⟨(z+1,a2++[(k,x.block)]),hlz,by rw [hAe];simp⟩,by simp;omega,?_⟩
      refine zq rfl ?_ ?_
      simp -dsimp only [simprocAttr,↓vpre,zp,zc]
      ·exact⟨Sub.lst (by simp [eBk]),Sub.int (by simp)⟩
      simp
     | false =>
      rw [if_neg (by simp [hbb])] at hAe
      refine zu0 rfl ?_
      refine zb1 ?_
      refine zh0 ?_
      repeat(refine⟨by omega,?_⟩)
      refine zl0 ?_
      refine⟨⟨(z+1,a2),hlz,hAe⟩,by simp;omega,?_⟩
      refine zq rfl ?_ ?_
      simp -dsimp only [simprocAttr,↓vpre,zp,zc]
      ·exact Sub.int (by simp)
      rfl
    refine awp_exit ?_
    simp -dsimp only [vend,ne_eq,Nat.reduceEqDiff,reduceCtorEq]
    have hzl:B.term.to.length≤z:=by simpa using h
    rw [List.drop_of_length_le hzl] at hAe
    have hAe2:A=a2:=by rw [hAe];simp [backE]
    subst hAe2
    refine zh0 ?_
    repeat(refine⟨by omega,?_⟩)
    refine zl0 ?_
    refine⟨⟨(i+1,A),hlt,hRe⟩,by simp;omega,?_⟩
    refine zq rfl ?_ ?_
    simp -dsimp only [simprocAttr,↓vpre,zp,zc]
    ·exact Sub.int (by simp)
    rfl
   refine awp_exit ?_
   simp -dsimp only [vend,ne_eq,Nat.reduceEqDiff,reduceCtorEq]
   have hil:L.length≤i:=by simpa using h
   rw [List.drop_of_length_le hil] at hRe
   have hRe2:R=acc:=by rw [hRe];simp
   subst hRe2
   refine zh1 (za0 ?_)
   refine awp_ret ?_
   simp -dsimp only [simprocAttr,↓vpre,zp,zr,Try.results61]
   exact⟨⟨eBk_upto _ _,trivial⟩,trivial,trivial⟩
  exact FSub.mp rfl rfl
 rw [if_neg hc] at hrr ⊢
 obtain⟨e,he⟩:∃e,e=checkFuncM f:=⟨_,rfl⟩
 rw [←he] at hc hrr ⊢
 have hde:decide (e=0)=false:=decide_eq_false hc
 refine zf true 0 Try.func61 Try.ntmps61 ?_
 dsimp only [Tmp,TypeId,slotsOf]
 refine zh1 (za0 ?_)
 refine awp_freeze1 1 0 (.ip none [aI f.name,eBlocks f.blocks]) rfl (by simp [AObj.isSpare]) trivial rfl ?_ ?_
 rotate_left
 simp -dsimp only [simprocAttr,↓vpre,zp]
 ·refine zh1 ?_
  refine zi hrr ?_
  refine za0 ?_
  refine zg2 ?_
  simp -dsimp only [simprocAttr,↓vpre,zp,hde]
  refine za0 ?_
  refine zw0 rfl ?_
  refine zh1 (za0 ?_)
  refine awp_ret ?_
  simp -dsimp only [simprocAttr,↓vpre,zp,zr,Try.results61]
  simp [uptoL,AVal.upto]
 exact FSub.mp rfl rfl
theorem nest_spec{O:List AObj}(hup:∀o∈O,o.upto O.length){id:Nat}{l:List LoopM}(ho:O[id]?=some (.cells (lpC l)))(hll:l.length≤1000)(hpar:∀x∈l,x.parent=-1) :
  ECall Try.prog 63 O [.os id l.length 3] (fun r O'=>r=.tup []∧O'=O.set id (.cells (lpC (nestM l)))):=by
 have hol:=lt_of_getElem? ho
 have hsame:O.set id (.cells (lpC l))=O:=set_same ho
 have hgt:∀x,(O.set id x)[id]?=some x:=fun x=>List.getElem?_set_self hol
 have hgt2:∀x Z,(O.set id x++Z)[id]?=some x:=fun x Z=>at_left (hgt x)
 have htk:∀m:List LoopM,(O.set id (.cells (lpC m))).take O.length=O.set id (.cells (lpC m)):=fun m=>take_set_len
 have hup2:∀m:List LoopM,∀o∈O.set id (.cells (lpC m)),o.upto O.length:=fun m=>uptoO_set hup (lpC_upto _ _)
 have hlen2:∀x,(O.set id x).length=O.length:=fun x=>by simp
 have hup3:∀m:List LoopM,∀o∈O.set id (.cells (lpC m)),o.upto (O.set id (.cells (lpC m))).length:=fun m=>by rw [hlen2];exact hup2 m
 have h0:NestOK l l:=⟨rfl,fun x hx=>by
  have:=hpar x hx
  omega⟩
 obtain⟨R,hR⟩:∃R,R=nestM l:=⟨_,rfl⟩
 unfold nestM at hR
 obtain⟨n,hn⟩:∃n,n=l.length:=⟨_,rfl⟩
 have hRn:nestM l=R:=by rw [hR];rfl
 rw [hRn,←hn]
 rw [←hn] at hR
 refine zf true O.length Try.func63 Try.ntmps63 ?_
 dsimp only [Tmp,TypeId,slotsOf]
 refine zh1 (za0 ?_)
 refine awp_block (awp_loop (ι:={x:Nat×List LoopM // x.1≤n∧NestOK l x.2∧R=nestI n (n - x.1) x.1 x.2}) (fun x=>⟨58,[(0,.os id n 3),(7,aI n),(8,aI x.1.1)],O.set id (.cells (lpC x.1.2))⟩) (fun x=>n - x.1.1) ⟨(0,l),by simp,h0,by simpa using hR⟩ ?_ ?_)
 ·refine zq rfl ?_ ?_
  simp -dsimp only [simprocAttr,↓vpre,zp,zc]
  exact hsame.symm
 rintro⟨⟨i,m⟩,hi,hm0,hRe⟩
 simp only at hi hm0 hRe
 refine zh1 (za0 ?_)
 apply zk1 rfl<;>intro h
 ·refine zb0 ?_
  have hlt:i<n:=by simpa using h
  obtain⟨M,hM⟩:∃M,M=nestK i n 0 m:=⟨_,rfl⟩
  have hRe2:R=nestI n (n - (i+1)) (i+1) M:=by
   rw [hRe,show n - i=(n - (i+1))+1 by omega,hM]
   rfl
  have hMok:NestOK l M:=by rw [hM];exact nestK_ok i n 0 hm0 (by omega)
  refine awp_seq (awp_block ?_)
  refine zh1 (za0 ?_)
  refine zh1 (za0 ?_)
  refine awp_block (awp_loop (ι:={y:Nat×List LoopM // y.1≤n∧NestOK l y.2∧M=nestK i (n - y.1) y.1 y.2}) (fun y=>⟨58,[(0,.os id n 3),(7,aI n),(8,aI i),(2,aI i),(11,.os id n 3),(12,aI n),(13,aI y.1.1)],O.set id (.cells (lpC y.1.2))⟩) (fun y=>n - y.1.1) ⟨(0,m),by simp,hm0,by simpa using hM⟩ ?_ ?_)
  ·refine zq rfl ?_ ?_
   simp -dsimp only [simprocAttr,↓vpre,zp,zc]
   rfl
  rintro⟨⟨k,c⟩,hk,hc0,hMe⟩
  simp only at hk hc0 hMe
  have hcl:=hc0.len
  refine zh1 (za0 ?_)
  apply zk1 rfl<;>intro h
  ·refine zb0 ?_
   have hlk:k<n:=by simpa using h
   have hMe2:M=nestK i (n - (k+1)) (k+1) (nestStep c i k):=by
    rw [hMe,show n - k=(n - (k+1))+1 by omega]
    rfl
   have hstep:=nestStep_ok hc0 i k (by omega)
   obtain⟨b,hb⟩:∃b,c[k]?=some b:=⟨c[k]'(by omega),List.getElem?_eq_getElem _⟩
   obtain⟨a,ha⟩:∃a,c[i]?=some a:=⟨c[i]'(by omega),List.getElem?_eq_getElem _⟩
   obtain⟨b1,b2,b3,b4⟩:=lpC_at hb
   obtain⟨a1,a2,a3,a4⟩:=lpC_at ha
   have hcn:(lpC c).length=n * 3:=by rw [lpC_len];omega
   have hpa:=hc0.2 a (List.mem_of_getElem? ha)
   have hset:=lpC_set ha (k:Int)
   have hco:=contains_spec b.blocks a.head
   have hnst:nestStep c i k=if k=i∨hasI b.blocks a.head=false then c else if a.parent<0∨b.blocks.length<((c[a.parent.toNat]?.map fun y=>y.blocks.length).getD 0) then c.set i ⟨a.head,a.blocks,k⟩ else c:=by
    simp only [nestStep,ha,hb]
   refine awp_seq (awp_block ?_)
   refine zg1 ?_
   simp -dsimp only [simprocAttr,↓vpre,zp,hgt,hcn,b4]
   repeat(refine⟨by omega,?_⟩)
   refine za0 ?_
   refine awp_local 4 ([aI b.head,eIs b.blocks,aI b.parent]) [(0,.os id n 3),(7,aI n),(8,aI i),(2,aI i),(11,.os id n 3),(12,aI n),(13,aI k),(3,aI k),(4,.ip none [aI b.head,eIs b.blocks,aI b.parent])] (by simp [putS,dropS,Go.Av.look]) (by rfl) (by simp) (by simp [putS,dropS,Go.Av.look]) ?_ ?_ ?_
   ·exact hup3 c
   ·simp [AVal.upto,uptoL,aI_upto,hol]
   by_cases hki:k=i
   ·have hd:decide ((k:Int)=(i:Int))=true:=decide_eq_true (by omega)
    rw [if_pos (.inl hki)] at hnst
    refine zg2 ?_
    simp -dsimp only [simprocAttr,↓vpre,zp,hd]
    refine⟨ob (by kernel_rfl),?_⟩
    refine za0 ?_
    refine zw0 rfl ?_
    refine awp_exit ?_
    simp -dsimp only [vend,ne_eq,Nat.reduceEqDiff,reduceCtorEq]
    refine zh0 ?_
    repeat(refine⟨by omega,?_⟩)
    refine zl0 ?_
    refine⟨⟨(k+1,c),hlk,hc0,by rw [hMe2,hnst]⟩,by simp;omega,?_⟩
    refine zq rfl ?_ ?_
    simp -dsimp only [simprocAttr,↓vpre,zp,zc]
    ·exact Sub.int (by simp)
    rfl
   have hd:decide ((k:Int)=(i:Int))=false:=decide_eq_false (by omega)
   refine zg2 ?_
   simp -dsimp only [simprocAttr,↓vpre,zp,hd,hgt,hcn,a1,b2]
   repeat(refine⟨by omega,?_⟩)
   refine .inl ⟨_,hco,by simp only [uptoL,AVal.upto,zt,zu,aI_upto,lpC_upto],later_intro ?_⟩
   simp -dsimp only [simprocAttr,↓vpre,zp]
   refine⟨orderB_ren [id] O.length [.pure,.pure,.pure,.pure,.pure,.pure,.pure,.pure,.pure,.pure,.rd 0,.pure,.pure,.pure] (by simp) (by simp;omega) rfl rfl (by kernel_rfl),at_intro ?_⟩
   simp -dsimp only [vend,ne_eq,Nat.reduceEqDiff,reduceCtorEq]
   cases hh:hasI b.blocks a.head with
   | false =>
    rw [if_pos (.inr hh)] at hnst
    refine zw0 rfl ?_
    refine awp_exit ?_
    simp -dsimp only [vend,ne_eq,Nat.reduceEqDiff,reduceCtorEq]
    refine zh0 ?_
    repeat(refine⟨by omega,?_⟩)
    refine zl0 ?_
    refine⟨⟨(k+1,c),hlk,hc0,by rw [hMe2,hnst]⟩,by simp;omega,?_⟩
    refine zq rfl ?_ ?_
    simp -dsimp only [simprocAttr,↓vpre,zp,zc]
    ·exact Sub.int (by simp)
    rfl
   | true =>
    rw [if_neg (by simp [hki,hh])] at hnst
    apply zk0 rfl<;>intro h
    ·cases h
    refine zb0 ?_
    refine zg1 ?_
    simp -dsimp only [simprocAttr,↓vpre,zp,hgt,hcn,a3]
    repeat(refine⟨by omega,?_⟩)
    refine za0 ?_
    by_cases hp:a.parent<0
    ·have hdp:decide (a.parent<0)=true:=decide_eq_true hp
     rw [if_pos (.inl hp)] at hnst
     rw [hnst] at hstep hMe2
     refine zg1 ?_
     simp -dsimp only [simprocAttr,↓vpre,zp,hdp]
     refine⟨ob (by kernel_rfl),?_⟩
     refine za0 ?_
     refine zw0 rfl ?_
     refine zg0 ?_
     simp -dsimp only [simprocAttr,↓vpre,zp,hgt,hcn]
     repeat(refine⟨by omega,?_⟩)
     refine za0 ?_
     rw [hset,List.set_set]
     refine zh0 ?_
     repeat(refine⟨by omega,?_⟩)
     refine zl0 ?_
     refine⟨⟨(k+1,c.set i ⟨a.head,a.blocks,k⟩),hlk,hstep,hMe2⟩,by simp;omega,?_⟩
     refine zq rfl ?_ ?_
     simp -dsimp only [simprocAttr,↓vpre,zp,zc]
     ·exact Sub.int (by simp)
     rfl
    have hdp:decide (a.parent<0)=false:=decide_eq_false hp
    obtain⟨q,hq⟩:∃q:Nat,a.parent=(q:Int):=⟨a.parent.toNat,by omega⟩
    have hqn:q<n:=by omega
    obtain⟨pp,hpp⟩:∃pp,c[q]?=some pp:=⟨c[q]'(by omega),List.getElem?_eq_getElem _⟩
    obtain⟨p1,p2,p3,p4⟩:=lpC_at hpp
    have hlq:((c[a.parent.toNat]?.map fun y=>y.blocks.length).getD 0)=pp.blocks.length:=by
     rw [hq,Int.toNat_natCast,hpp]
     rfl
    rw [hlq] at hnst
    rw [hq] at hdp
    refine zg1 ?_
    simp -dsimp only [simprocAttr,↓vpre,zp,hdp,hgt,hcn,hq,p2]
    repeat(refine⟨by omega,?_⟩)
    refine⟨orderB_ren [id] O.length [.pure,.pure,.pure,.pure,.pure,.pure,.pure,.pure,.pure,.pure,.rd 0,.pure,.pure,.pure] (by simp) (by simp;omega) rfl rfl (by kernel_rfl),at_intro ?_⟩
    simp -dsimp only [vend,ne_eq,Nat.reduceEqDiff,reduceCtorEq]
    apply zk0 rfl<;>intro h
    ·have hlt2:b.blocks.length<pp.blocks.length:=by
      have:=of_decide_eq_true h
      omega
     rw [if_pos (.inr hlt2)] at hnst
     rw [hnst] at hstep hMe2
     refine zg0 ?_
     simp -dsimp only [simprocAttr,↓vpre,zp,hgt,hcn]
     repeat(refine⟨by omega,?_⟩)
     refine za0 ?_
     rw [hset,List.set_set]
     refine zh0 ?_
     repeat(refine⟨by omega,?_⟩)
     refine zl0 ?_
     refine⟨⟨(k+1,c.set i ⟨a.head,a.blocks,k⟩),hlk,hstep,hMe2⟩,by simp;omega,?_⟩
     refine zq rfl ?_ ?_
     simp -dsimp only [simprocAttr,↓vpre,zp,zc]
     ·exact Sub.int (by simp)
     rfl
    have hlt2:¬b.blocks.length<pp.blocks.length:=by
     have:=of_decide_eq_false h
     omega
    rw [if_neg (by omega)] at hnst
    refine zb1 ?_
    refine zh0 ?_
    repeat(refine⟨by omega,?_⟩)
    refine zl0 ?_
    refine⟨⟨(k+1,c),hlk,hc0,by rw [hMe2,hnst]⟩,by simp;omega,?_⟩
    refine zq rfl ?_ ?_
    simp -dsimp only [simprocAttr,↓vpre,zp,zc]
    ·exact Sub.int (by simp)
    rfl
  refine awp_exit ?_
  simp -dsimp only [vend,ne_eq,Nat.reduceEqDiff,reduceCtorEq]
  have hkn:k=n:=by
   have:=of_decide_eq_false h
   omega
  subst hkn
  have hMc:M=c:=by rw [hMe,Nat.sub_self];rfl
  subst hMc
  refine zh0 ?_
  repeat(refine⟨by omega,?_⟩)
  refine zl0 ?_
  refine⟨⟨(i+1,M),hlt,hMok,hRe2⟩,by simp;omega,?_⟩
  refine zq rfl ?_ ?_
  simp -dsimp only [simprocAttr,↓vpre,zp,zc]
  ·exact Sub.int (by simp)
  rfl
 refine awp_exit ?_
 simp -dsimp only [vend,ne_eq,Nat.reduceEqDiff,reduceCtorEq]
 have hin:i=n:=by
  have:=of_decide_eq_false h
  omega
 subst hin
 have hRm:R=m:=by rw [hRe,Nat.sub_self];rfl
 subst hRm
 skip
 simp -dsimp only [simprocAttr,↓vpre,zp,zr,Try.results63,htk,List.length_set]
 exact⟨hup2 _,trivial⟩
theorem nest_nil:PCall Try.prog 63 [.lst 3 [] .sh] (.tup []):=by
 refine zf true 0 Try.func63 Try.ntmps63 ?_
 dsimp only [Tmp,TypeId,slotsOf]
 refine zh1 (za0 ?_)
 refine awp_block (awp_loop (ι:=Unit) (fun x=>⟨58,[(7,aI 0),(8,aI 0)],[]⟩) (fun x=>0) () ?_ ?_)
 ·refine zq rfl ?_ ?_
  simp -dsimp only [simprocAttr,↓vpre,zp,zc]
  rfl
 rintro⟨⟩
 refine zh1 (za0 ?_)
 refine zu1 rfl ?_
 refine awp_exit ?_
 simp -dsimp only [vend,ne_eq,Nat.reduceEqDiff,reduceCtorEq]
 skip
 simp -dsimp only [simprocAttr,↓vpre,zp,zr,Try.results63]
 trivial
def findR(f:Func):AVal:=if checkFuncM f=0 then .tup [.lst 3 ((loopsM f).map eLoop) .sh,aI 0] else .tup [.lst 3 [] .sh,aI (checkFuncM f)]
structure Fs where
 h:Nat
 acc:List LoopM
 oid:Nat
 O:List AObj
structure Fw where
 z:Nat
 w:List Int
 wid:Nat
 O:List AObj
structure Fz where
 S:Wl
 wid:Nat
 aid:Nat
 O:List AObj
 junk:List AVal
theorem outV_upto(wid:Nat)(w:List Int){O:List AObj}(h:w≠[]→O[wid]?=some (.cells (w.map aI))):(outV wid w).upto O.length:=by
 by_cases q:w=[]
 ·rw [show outV wid w=.lst 1 [] .ex from if_pos q]
  exact⟨trivial,trivial⟩
 rw [show outV wid w=.os wid w.length 1 from if_neg q]
 exact lt_of_getElem? (h q)
theorem outV_snoc(n:Nat)(w:List Int)(x:Int):outV n (w++[x])=.os n (w.length+1) 1:=by
 have:w++[x]≠[]:=by simp
 rw [outV,if_neg this,List.length_append]
 rfl
theorem find_spec(f:Func)(hfit:f.fit):PCall Try.prog 33 [f.enc] (findR f):=by
 have hbk:=backs_spec f hfit
 unfold backR at hbk
 unfold findR
 by_cases hc:checkFuncM f=0
 ·rw [if_pos hc] at hbk ⊢
  have hrr:=reachable_spec f hfit
  have hpr:=preds_spec f hfit
  unfold rchR at hrr
  unfold predsR at hpr
  rw [if_pos hc] at hrr hpr
  have hg:=(checkFunc_ok hfit hc).gr
  have hw:=ord_w hg
  have hn:f.blocks.length≤128:=hg.few
  have hLl:(rchS f).length≤128:=by rw [rchS_len];exact hw.few
  have hLs:=sortI_sorted (orderM f)
  have hL0:rchS f≠[]:=List.ne_nil_of_mem (mem_rchS.2 (by rw [hw.zero];omega:0≤plF f 0))
  have hbs:=fun k=>bsearch_spec hL0 (by omega) hLs k
  have hBl:=backs_few hg
  have hBr:∀p∈backsM f,0≤p.1∧p.1<f.blocks.length:=fun p hp=>hw.range p.1 (mem_backs.1 (show(p.1,p.2)∈backsM f from hp)).1
  obtain⟨N,hN⟩:∃N,N=f.blocks.length:=⟨_,rfl⟩
  obtain⟨L,hL⟩:∃L,L=rchS f:=⟨_,rfl⟩
  obtain⟨B,hB⟩:∃B,B=backsM f:=⟨_,rfl⟩
  obtain⟨R,hR⟩:∃R,R=rawM f:=⟨_,rfl⟩
  have hlo:loopsM f=nestM R:=by rw [hR];rfl
  rw [hlo]
  have hsr0:∀h:Int,srcM f h=((B.filter fun p=>decide (p.2=h)).map (·.1)):=fun h=>by rw [hB];rfl
  have hsplit:=fun h z p (hp:B[z]?=some p)=>srcM_split (f:=f) (h:=h) (z:=z) (p:=p) (by rw [←hB];exact hp)
  rw [←hB] at hsplit hbk hBl hBr
  rw [←hL] at hrr hbs hL0 hLl
  unfold rawM at hR
  rw [←hN] at hR hn
  have hprl:=preds_len f
  refine zf true 0 Try.func33 Try.ntmps33 ?_
  dsimp only [Tmp,TypeId,slotsOf]
  refine zh1 (za0 ?_)
  refine awp_freeze1 1 0 (.ip none [aI f.name,eBlocks f.blocks]) rfl (by simp [AObj.isSpare]) trivial rfl ?_ ?_
  rotate_left
  simp -dsimp only [simprocAttr,↓vpre,zp]
  ·refine zh1 ?_
   refine zi hbk ?_
   refine za0 ?_
   refine zh2 (za0 ?_)
   apply zk0 rfl<;>intro h
   ·cases h
   refine zb0 ?_
   refine zh1 ?_
   refine zi hrr ?_
   refine za0 ?_
   refine zh1 ?_
   refine zi hpr ?_
   refine za0 ?_
   refine zh1 (za0 ?_)
   refine zg2 ?_
   simp -dsimp only [simprocAttr,↓vpre,zp,←hN]
   refine za0 ?_
   refine awp_block (awp_loop (ι:={X:Fs // X.h≤N∧FO X.acc X.oid X.O∧X.acc.length≤X.h∧(∀x∈X.acc,x.parent=-1)∧R=X.acc++((List.range N).drop X.h).flatMap (rawH f)}) (fun X=>⟨113,[(1,.ip none [aI f.name,eBlocks f.blocks]),(4,.lst 2 (B.map eBk) .sh),(6,eIs L),(8,.lst 1 ((predsM f).map eIs) .sh),(10,outL X.1.oid X.1.acc),(39,aI N),(40,aI X.1.h)],X.1.O⟩) (fun X=>N - X.1.h) ⟨⟨0,[],0,[.gone]⟩,by simp,⟨by simp [AObj.upto],fun q=>absurd rfl q⟩,by simp,by simp,by simpa using hR⟩ ?_ ?_)
   ·refine zq rfl ?_ ?_
    simp -dsimp only [simprocAttr,↓vpre,zp,zc]
    all_goals first | rfl | exact Sub.refl _
   rintro⟨⟨hd,acc,oid,O⟩,hh,hF,hal,hpar,hRe⟩
   simp only at hh hF hal hpar hRe
   refine zh1 (za0 ?_)
   apply zk1 rfl<;>intro h
   ·refine zb0 ?_
    have hlt:hd<N:=by simpa using h
    have hrg:(List.range N)[hd]?=some hd:=by simp [hlt]
    rw [drop_at hrg,List.flatMap_cons,←List.append_assoc] at hRe
    have hsr:=hsr0 (hd:Int)
    obtain⟨src,hsrc⟩:∃src,src=srcM f (hd:Int):=⟨_,rfl⟩
    have hsf:=src_few hg (hd:Int)
    rw [←hsrc] at hsr hsf
    have hcat:=hsplit (hd:Int)
    refine awp_seq (awp_block ?_)
    refine zh1 (za0 ?_)
    refine zh1 (za0 ?_)
    refine zh2 (za0 ?_)
    refine awp_block (awp_loop (ι:={y:Fw // y.z≤B.length∧FO acc oid y.O∧(y.w≠[]→y.O[y.wid]?=some (.cells (y.w.map aI))∧(acc≠[]→y.wid≠oid))∧src=y.w++(((B.drop y.z).filter fun p=>decide (p.2=(hd:Int))).map (·.1))}) (fun y=>⟨113,[(1,.ip none [aI f.name,eBlocks f.blocks]),(4,.lst 2 (B.map eBk) .sh),(6,eIs L),(8,.lst 1 ((predsM f).map eIs) .sh),(10,outL oid acc),(39,aI N),(40,aI hd),(11,aI hd),(12,outV y.1.wid y.1.w),(43,.lst 2 (B.map eBk) .sh),(44,aI B.length),(45,aI y.1.z)],y.1.O⟩) (fun y=>B.length - y.1.z) ⟨⟨0,[],0,O⟩,by simp,hF,fun q=>absurd rfl q,by simpa using hsr⟩ ?_ ?_)
    ·refine zq rfl ?_ ?_
     simp -dsimp only [simprocAttr,↓vpre,zp,zc]
     all_goals first | rfl | exact Sub.refl _
    rintro⟨⟨z,w,wid,O⟩,hz,hF,hwo,hse⟩
    simp only at hz hF hwo hse
    refine zh1 (za0 ?_)
    apply zk1 rfl<;>intro h
    ·refine zb0 ?_
     have hlz:z<B.length:=by simpa using h
     obtain⟨p,hp⟩:∃p,B[z]?=some p:=⟨B[z],by simp [hlz]⟩
     rw [hcat z p hp,←List.append_assoc] at hse
     have hwl:w.length≤33000:=by
      have:=congrArg List.length hse
      simp only [List.length_append] at this
      omega
     refine awp_seq (awp_block ?_)
     refine zg1 ?_
     simp -dsimp only [simprocAttr,↓vpre,zp,hp,eBk]
     refine za0 ?_
     refine awp_local 14 ([aI p.1,aI p.2]) [(1,.ip none [aI f.name,eBlocks f.blocks]),(4,.lst 2 (B.map eBk) .sh),(6,eIs L),(8,.lst 1 ((predsM f).map eIs) .sh),(10,outL oid acc),(39,aI N),(40,aI hd),(11,aI hd),(12,outV wid w),(43,.lst 2 (B.map eBk) .sh),(44,aI B.length),(45,aI z),(14,.ip none [aI p.1,aI p.2])] (by simp [putS,dropS,Go.Av.look]) (by rfl) (by omega) (by simp [putS,dropS,Go.Av.look]) ?_ ?_ ?_
     ·exact hF.up
     ·have hou:=hF.outU
      have hvu:=outV_upto wid w (O:=O) fun q=>(hwo q).1
      simp [AVal.upto,uptoL,aI_upto,eBk_upto,eIss_upto,Edge.map_upto,Ins.map_upto,Block.map_upto,hou,hvu]
     by_cases hpe:p.2=hd
     ·have hdp:decide (p.2=(hd:Int))=true:=decide_eq_true hpe
      rw [if_pos hpe] at hse
      refine zg1 ?_
      simp -dsimp only [simprocAttr,↓vpre,zp,hdp]
      refine za0 ?_
      refine zw0 rfl ?_
      by_cases hwn:w=[]
      ·have hov:outV wid w=.lst 1 [] .ex:=if_pos hwn
       refine zs0 ?_
       simp -dsimp only [simprocAttr,↓vpre,zp,hov,cellsAll_v,cells_os']
       refine za0 ?_
       refine zh0 ?_
       repeat(refine⟨by omega,?_⟩)
       refine zl0 ?_
       refine⟨⟨⟨z+1,w++[p.1],O.length,O++[AObj.cells [aI p.1]]⟩,hlz,hF.push ⟨trivial,trivial⟩,fun _=>⟨by rw [hwn];exact snoc_get _ _,fun q e=>?_⟩,hse⟩,by simp;omega,?_⟩
       ·have h1:=lt_of_getElem? (hF.out q)
        have h2:O.length=oid:=e
        omega
       refine zq rfl ?_ ?_
       simp -dsimp only [simprocAttr,↓vpre,zp,zc]
       ·exact⟨by rw [outV_snoc,hwn];exact Sub.refl _,Sub.int (by simp)⟩
       rfl
      obtain⟨w1,w2⟩:=hwo hwn
      have hov:outV wid w=.os wid w.length 1:=if_neg hwn
      have hTT:(w.map aI).take (w.length * 1)=w.map aI:=List.take_of_length_le (by simp)
      have hgt:(O.set wid .gone++[AObj.cells (w.map aI++[aI p.1])])[O.length]?=some (.cells ((w++[p.1]).map aI)):=by
       have h1:=snoc_get (O.set wid .gone) (AObj.cells (w.map aI++[aI p.1]))
       rw [List.length_set] at h1
       rw [h1,List.map_append]
       rfl
      refine zg0 ?_
      simp -dsimp only [simprocAttr,↓vpre,zp,hov,w1,cellsAll_v,cells_os',hTT]
      repeat(refine⟨by omega,?_⟩)
      refine za0 ?_
      refine zh0 ?_
      repeat(refine⟨by omega,?_⟩)
      refine zl0 ?_
      refine⟨⟨⟨z+1,w++[p.1],O.length,O.set wid .gone++[AObj.cells (w.map aI++[aI p.1])]⟩,hlz,hF.move w2 ?_,fun _=>⟨hgt,fun q e=>?_⟩,hse⟩,by simp;omega,?_⟩
      ·have:=aI_upto (O.length+1) (w++[p.1])
       simpa using this
      ·have h1:=lt_of_getElem? (hF.out q)
       have h2:O.length=oid:=e
       omega
      refine zq rfl ?_ ?_
      simp -dsimp only [simprocAttr,↓vpre,zp,zc]
      ·exact⟨by rw [outV_snoc];exact Sub.refl _,Sub.int (by simp)⟩
      rfl
     have hdp:decide (p.2=(hd:Int))=false:=decide_eq_false hpe
     rw [if_neg hpe,List.append_nil] at hse
     refine zg1 ?_
     simp -dsimp only [simprocAttr,↓vpre,zp,hdp]
     refine za0 ?_
     refine zu0 rfl ?_
     refine zb1 ?_
     refine zh0 ?_
     repeat(refine⟨by omega,?_⟩)
     refine zl0 ?_
     refine⟨⟨⟨z+1,w,wid,O⟩,hlz,hF,hwo,hse⟩,by simp;omega,?_⟩
     refine zq rfl ?_ ?_
     simp -dsimp only [simprocAttr,↓vpre,zp,zc]
     ·exact Sub.int (by simp)
     rfl
    refine awp_exit ?_
    simp -dsimp only [vend,ne_eq,Nat.reduceEqDiff,reduceCtorEq]
    have hzl:B.length≤z:=by
     have:=of_decide_eq_false h
     omega
    rw [List.drop_of_length_le hzl] at hse
    have hsw:src=w:=by rw [hse];simp
    subst hsw
    by_cases hsn:src=[]
    ·have hov:outV wid src=.lst 1 [] .ex:=if_pos hsn
     have hraw:rawH f hd=[]:=if_pos (by rw [←hsrc];exact hsn)
     rw [hraw,List.append_nil] at hRe
     refine zg2 ?_
     simp -dsimp only [simprocAttr,↓vpre,zp,hov]
     refine za0 ?_
     refine zw0 rfl ?_
     refine awp_exit ?_
     simp -dsimp only [vend,ne_eq,Nat.reduceEqDiff,reduceCtorEq]
     refine zh0 ?_
     repeat(refine⟨by omega,?_⟩)
     refine zl0 ?_
     refine⟨⟨⟨hd+1,acc,oid,O⟩,hlt,hF,by simp only;omega,hpar,hRe⟩,by simp;omega,?_⟩
     refine zq rfl ?_ ?_
     simp -dsimp only [simprocAttr,↓vpre,zp,zc]
     ·exact Sub.int (by simp)
     rfl
    obtain⟨w1,w2⟩:=hwo hsn
    have hov:outV wid src=.os wid src.length 1:=if_neg hsn
    have hraw:rawH f hd=[⟨hd,sortI (natM f hd),-1⟩]:=if_neg (by rw [←hsrc];exact hsn)
    rw [hraw] at hRe
    have hsl:0<src.length:=List.length_pos_iff.2 hsn
    have hdl:decide ((src.length:Int)=0)=false:=decide_eq_false (by omega)
    refine zg2 ?_
    simp -dsimp only [simprocAttr,↓vpre,zp,hov,hdl]
    refine za0 ?_
    apply zk0 rfl<;>intro h
    ·cases h
    refine zb0 ?_
    refine awp_seq (awp_mid_op ⟨false,false⟩ hT 1 rfl rfl rfl (by simp) ?_)
    simp -dsimp only [simprocAttr,↓vpre,zp]
    refine midOp_os hT rfl rfl (by simp) rfl rfl rfl (by simp) rfl (by intro p hp;simp at hp;subst hp;trivial) rfl rfl (by intro x hx;simp at hx;subst hx;rfl) (by simp) (by simp) ?_
    simp -dsimp only [simprocAttr,↓vpre,zp]
    refine za0 ?_
    have hhr:0≤(hd:Int)∧(hd:Int)<f.blocks.length:=⟨by omega,by omega⟩
    obtain⟨s1,s2⟩:=nat_start hg hhr
    rw [←hsrc] at s1 s2
    have hF0:FO acc oid (O++[AObj.cells (cellsAll [aI (hd:Int)])]):=hF.push ⟨trivial,trivial⟩
    have hwk:∀(S:Wl),WlOK f (hd:Int) src S→∀k∈S.work,0≤plF f k→predsAt f k≠[]:=fun S hS k h1 h2=>wl_preds hg (h:=(hd:Int)) (by rw [←hsrc];exact hsn) (by rw [←hsrc];exact hS) h1 h2
    have hnat:natM f (hd:Int)=(wlRun f 10000000 ⟨src,[(hd:Int)]⟩).all:=by rw [hsrc];rfl
    have g1:(O++[AObj.cells (cellsAll [aI (hd:Int)])])[wid]?=some (.cells (src.map aI++[])):=by
     rw [List.append_nil]
     exact at_left w1
    have g2:(O++[AObj.cells (cellsAll [aI (hd:Int)])])[O.length]?=some (.cells ([(hd:Int)].map aI)):=snoc_get _ _
    have hwO:=lt_of_getElem? w1
    refine awp_seq (awp_block (awp_loop (ι:={y:Fz // WlOK f hd src y.S∧FO acc oid y.O∧y.O[y.wid]?=some (.cells (y.S.work.map aI++y.junk))∧y.O[y.aid]?=some (.cells (y.S.all.map aI))∧(acc≠[]→y.wid≠oid∧y.aid≠oid)∧y.wid≠y.aid∧∃n,y.S.weight f<n∧n≤10000000∧natM f hd=(wlRun f n y.S).all}) (fun y=>⟨113,[(1,.ip none [aI f.name,eBlocks f.blocks]),(4,.lst 2 (B.map eBk) .sh),(6,eIs L),(8,.lst 1 ((predsM f).map eIs) .sh),(10,outL oid acc),(39,aI N),(40,aI hd),(11,aI hd),(12,.os y.1.wid y.1.S.work.length 1),(15,.os y.1.aid y.1.S.all.length 1)],y.1.O⟩) (fun y=>y.1.S.weight f) ⟨⟨⟨src,[(hd:Int)]⟩,wid,O.length,_,[]⟩,s1,hF0,g1,g2,fun q=>⟨w2 q,by have:=lt_of_getElem? (hF.out q);simp only;omega⟩,by simp only;omega,10000000,s2,Nat.le_refl _,hnat⟩ ?_ ?_))
    ·refine zq rfl ?_ ?_
     simp -dsimp only [simprocAttr,↓vpre,zp,zc]
     all_goals rfl
    rintro⟨⟨S,wid,aid,O,junk⟩,hS,hF,k1,k2,k3,k4,n,hn1,hn2,hne⟩
    simp only at hS hF k1 k2 k3 k4 hn1 hn2 hne
    by_cases hwe:S.work=[]
    ·have hl0:S.work.length=0:=by rw [hwe];rfl
     rw [wlRun_done hwe] at hne
     refine zg2 ?_
     simp -dsimp only [simprocAttr,↓vpre,zp,hl0]
     refine za0 ?_
     refine zu0 rfl ?_
     refine awp_exit ?_
     simp -dsimp only [vend,ne_eq,Nat.reduceEqDiff,reduceCtorEq]
     have hfit2:=hS.few
     have hso:=sort_spec (O:=O) (id:=aid) (zs:=S.all) k2 (by omega)
     have h3:(O.set aid (.cells ((sortI S.all).map aI)))[aid]?=some (.cells ((sortI S.all).map aI)):=at_set k2
     have hsl:=(sortI_perm S.all).length_eq
     rw [hne] at hRe
     refine zh1 ?_
     refine .inr (.inl ⟨_,_,hso,.inl (later_intro (zj ?_))⟩)
     refine za0 ?_
     refine awp_freeze1 15 aid (o:=.cells ((sortI S.all).map aI)) (eIs (sortI S.all)) h3 (by simp [AObj.isSpare]) trivial rfl (FSub.os (cs:=(sortI S.all).map aI) h3 ?_ ?_ ?_) ?_
     ·intro x hx
      obtain⟨c,_,rfl⟩:=List.mem_map.1 hx
      rfl
     ·simp [hsl]
     ·rw [List.drop_zero,List.take_of_length_le (by simp [hsl])]
      exact aI_cellsAll _
     simp -dsimp only [simprocAttr,↓vpre,zp,List.set_set]
     have hF3:FO acc oid (O.set aid .gone):=hF.set (fun q=>(k3 q).2) trivial
     have hlen3:(O.set aid AObj.gone).length=O.length:=by simp
     generalize O.set aid AObj.gone=O3 at *
     obtain⟨ss,hss⟩:∃ss,ss=sortI S.all:=⟨_,rfl⟩
     rw [←hss] at hRe ⊢
     by_cases haq:acc=[]
     ·have hov:outL oid acc=.lst 3 [] .ex:=if_pos haq
      refine zs0 ?_
      simp -dsimp only [simprocAttr,↓vpre,zp,hov,cells_os']
      refine za0 ?_
      refine zh0 ?_
      repeat(refine⟨by omega,?_⟩)
      refine zl0 ?_
      refine⟨⟨⟨hd+1,acc++[⟨hd,ss,-1⟩],O3.length,O3++[AObj.cells (LoopM.cells ⟨hd,ss,-1⟩)]⟩,hlt,⟨?_,fun _=>?_⟩,by simp;omega,fun x hx=>?_,by rw [hRe]⟩,by simp;omega,?_⟩
      ·exact(hF3.push (cs:=LoopM.cells ⟨hd,ss,-1⟩) ⟨trivial,⟨aI_upto _ _,trivial⟩,trivial,trivial⟩).up
      ·rw [haq]
       exact snoc_get _ _
      ·rcases List.mem_append.1 hx with q | q
       ·exact hpar x q
       simp only [List.mem_singleton] at q
       rw [q]
      refine zq rfl ?_ ?_
      simp -dsimp only [simprocAttr,↓vpre,zp,zc]
      ·exact⟨by rw [outL_snoc,haq];exact Sub.refl _,Sub.int (by simp)⟩
      rfl
     have hov:outL oid acc=.os oid acc.length 3:=if_neg haq
     have ho:=hF3.out haq
     have hTL:(lpC acc).take (acc.length * 3)=lpC acc:=List.take_of_length_le (by rw [lpC_len];omega)
     refine zg0 ?_
     simp -dsimp only [simprocAttr,↓vpre,zp,hov,ho,hTL,cells_os']
     refine⟨by rw [lpC_len];omega,by omega,by omega,?_⟩
     refine za0 ?_
     refine zh0 ?_
     repeat(refine⟨by omega,?_⟩)
     refine zl0 ?_
     refine⟨⟨⟨hd+1,acc++[⟨hd,ss,-1⟩],O3.length,O3.set oid .gone++[AObj.cells (lpC acc++LoopM.cells ⟨hd,ss,-1⟩)]⟩,hlt,⟨?_,fun _=>?_⟩,by simp;omega,fun x hx=>?_,by rw [hRe]⟩,by simp;omega,?_⟩
     ·have hup:=uptoO_snoc (x:=AObj.cells (lpC acc++LoopM.cells ⟨hd,ss,-1⟩)) (uptoO_set (k:=oid) (x:=.gone) (fun o ho=>AObj.upto_mono (show O3.length≤O3.length+1 by omega) (hF3.up o ho)) trivial) (by
       have h1:=lpC_upto (O3.length+1) (acc++[⟨hd,ss,-1⟩])
       rw [lpC_snoc] at h1
       exact h1)
      intro o ho
      have:=hup o ho
      simpa using this
     ·have h1:=snoc_get (O3.set oid .gone) (AObj.cells (lpC acc++LoopM.cells ⟨hd,ss,-1⟩))
      rw [List.length_set] at h1
      rw [lpC_snoc]
      exact h1
     ·rcases List.mem_append.1 hx with q | q
      ·exact hpar x q
      simp only [List.mem_singleton] at q
      rw [q]
     refine zq rfl ?_ ?_
     simp -dsimp only [simprocAttr,↓vpre,zp,zc]
     ·exact⟨by rw [outL_snoc];exact Sub.refl _,Sub.int (by simp)⟩
     rfl
    obtain⟨n,rfl⟩:∃n',n=n'+1:=⟨n - 1,by omega⟩
    have hne2:natM f hd=(wlRun f n (wlStep f S)).all:=by
     rw [hne]
     simp only [wlRun]
     rw [if_neg (by simpa using hwe)]
    have hstep:=wlStep_ok hg hS
    have hwt:=wlStep_weight hg hS hwe
    obtain⟨k,hk⟩:∃k,S.work.getLast?=some k:=⟨S.work.getLast hwe,List.getLast?_eq_some_getLast hwe⟩
    have hkl:=dropLast_last hk
    obtain⟨r,hr⟩:∃r,r=S.work.dropLast:=⟨_,rfl⟩
    rw [←hr] at hkl
    have hkw:k∈S.work:=by rw [hkl];simp
    have hkr:=hS.wk k hkw
    have hll:S.work.length=r.length+1:=by rw [hkl];simp
    have hwb:S.work.length≤10000000:=by
     simp only [Wl.weight] at hn1
     omega
    have hab:=hS.few
    have hr2:((r.length+1:Nat):Int) - 1=(r.length:Nat):=by omega
    obtain⟨cs,hcs⟩:∃cs,cs=S.work.map aI++junk:=⟨_,rfl⟩
    have hcs2:cs=r.map aI++(aI k::junk):=by rw [hcs,hkl];simp
    have hcb:cs[r.length]?=some (aI k):=by
     rw [hcs2,List.getElem?_append_right (by simp)]
     simp
    have hcl:r.length+1≤cs.length:=by rw [hcs2];simp
    rw [←hcs] at k1
    have hbsk:=hbs k
    have hstp:wlStep f S=if k∈L∧k ∉ S.all then ⟨r++predsAt f k,S.all++[k]⟩ else ⟨r,S.all⟩:=by
     simp only [wlStep,hk,←hL,←hr]
    refine zg2 ?_
    simp -dsimp only [simprocAttr,↓vpre,zp,hll]
    refine za0 ?_
    apply zk0 rfl<;>intro h
    ·refine zb0 ?_
     refine awp_block ?_
     refine zg1 ?_
     simp -dsimp only [simprocAttr,↓vpre,zp,hr2,k1,hcb,Nat.mul_one]
     repeat(refine⟨by omega,?_⟩)
     refine za0 ?_
     refine zg1 ?_
     simp -dsimp only [simprocAttr,↓vpre,zp,hr2,k1,Nat.mul_one]
     repeat(refine⟨by omega,?_⟩)
     refine za0 ?_
     refine zh1 ?_
     refine zi hbsk ?_
     refine za0 ?_
     by_cases hkL:k∈L
     ·have hdL:decide (k∈L)=true:=decide_eq_true hkL
      have hco:=PCall.os (contains_spec S.all k) k2
      cases hci:hasI S.all k with
      | true =>
       have hin:k∈S.all:=hasI_iff.1 hci
       rw [if_neg (fun q=>q.2 hin)] at hstp
       rw [hstp] at hstep hwt hne2
       rw [hci] at hco
       refine zg1 ?_
       simp -dsimp only [simprocAttr,↓vpre,zp,hdL]
       refine .inr (.inr ⟨_,hco,later_intro (zj ?_)⟩)
       refine za0 ?_
       refine zu0 rfl ?_
       refine zn1 ?_
       have hc':O[wid]?=some (.cells (r.map aI++(aI k::junk))):=by rw [k1,hcs2]
       refine⟨⟨⟨⟨r,S.all⟩,wid,aid,O,aI k::junk⟩,hstep,hF,hc',k2,k3,k4,n,by simp only;omega,by omega,hne2⟩,by simp only;omega,?_⟩
       refine zq rfl ?_ ?_
       simp -dsimp only [simprocAttr,↓vpre,zp,zc]
       all_goals rfl
      | false =>
       have hin:k ∉ S.all:=fun q=>by rw [hasI_iff.2 q] at hci;cases hci
       rw [if_pos ⟨hkL,hin⟩] at hstp
       rw [hstp] at hstep hwt hne2
       rw [hci] at hco
       refine zg1 ?_
       simp -dsimp only [simprocAttr,↓vpre,zp,hdL]
       refine .inr (.inr ⟨_,hco,later_intro (zj ?_)⟩)
       refine za0 ?_
       refine zw0 rfl ?_
       have hAT:(S.all.map aI).take (S.all.length * 1)=S.all.map aI:=List.take_of_length_le (by simp)
       obtain⟨ps,hps⟩:∃ps,(predsM f)[k.toNat]?=some ps:=⟨(predsM f)[k.toNat]'(by omega),List.getElem?_eq_getElem _⟩
       have hpa:predsAt f k=ps:=by simp [predsAt,hps]
       have hpne:=hwk S hS k hkw (mem_rchS.1 (by rw [←hL];exact hkL))
       have hpfew:=preds_few hg k
       rw [hpa] at hpne hpfew hstep hwt hne2
       have hpl:ps.length≠0:=fun q=>hpne (List.eq_nil_of_length_eq_zero q)
       have hct:cs.take (r.length * 1)=r.map aI:=by
        rw [hcs2,Nat.mul_one,List.take_left' (by simp)]
       have hct2:cs.take r.length=r.map aI:=by
        rw [hcs2,List.take_left' (by simp)]
       refine zg1 ?_
       simp -dsimp only [simprocAttr,↓vpre,zp,k2,cellsAll_v,cells_os',hAT]
       repeat(refine⟨by omega,?_⟩)
       refine za0 ?_
       have hF1:FO acc oid (O.set aid .gone++[AObj.cells (S.all.map aI++[aI k])]):=hF.move (fun q=>(k3 q).2) (by
        have:=aI_upto (O.length+1) (S.all++[k])
        simpa using this)
       have kw1:(O.set aid .gone++[AObj.cells (S.all.map aI++[aI k])])[wid]?=some (.cells cs):=at_left (at_set_ne k1 (Ne.symm k4))
       have ka1:(O.set aid .gone++[AObj.cells (S.all.map aI++[aI k])])[O.length]?=some (.cells ((S.all++[k]).map aI)):=by
        have h1:=snoc_get (O.set aid .gone) (AObj.cells (S.all.map aI++[aI k]))
        rw [List.length_set] at h1
        rw [h1,List.map_append]
        rfl
       have hO1l:(O.set aid .gone++[AObj.cells (S.all.map aI++[aI k])]).length=O.length+1:=by simp
       have hwO:=lt_of_getElem? k1
       generalize (O.set aid .gone++[AObj.cells (S.all.map aI++[aI k])])=O1 at *
       refine zg0 ?_
       simp -dsimp only [simprocAttr,↓vpre,zp,hps,kw1,hct,hct2,cellsAll_ints]
       repeat(refine⟨by omega,?_⟩)
       refine zl1 ?_
       have g1:(O1.set wid .gone++[AObj.cells (r.map aI++ps.map aI)])[O1.length]?=some (.cells ((r++ps).map aI++[])):=by
        have h1:=snoc_get (O1.set wid .gone) (AObj.cells (r.map aI++ps.map aI))
        rw [List.length_set] at h1
        rw [h1,List.map_append,List.append_nil]
       have hup:uptoL (O1.length+1) (r.map aI++ps.map aI):=by
        have:=aI_upto (O1.length+1) (r++ps)
        simpa using this
       refine⟨⟨⟨⟨r++ps,S.all++[k]⟩,O1.length,O.length,O1.set wid .gone++[AObj.cells (r.map aI++ps.map aI)],[]⟩,hstep,hF1.move (fun q=>(k3 q).1) hup,g1,at_left (at_set_ne ka1 (show wid≠O.length by omega)),fun q=>?_,by simp only;omega,n,by simp only;omega,by omega,hne2⟩,by simp only;omega,?_⟩
       ·have h1:=lt_of_getElem? (hF.out q)
        simp only
        omega
       refine zq rfl ?_ ?_
       simp -dsimp only [simprocAttr,↓vpre,zp,zc]
       all_goals rfl
     have hdL:decide (k∈L)=false:=decide_eq_false hkL
     rw [if_neg (fun q=>hkL q.1)] at hstp
     rw [hstp] at hstep hwt hne2
     refine zg1 ?_
     simp -dsimp only [simprocAttr,↓vpre,zp,hdL]
     refine za0 ?_
     refine zu0 rfl ?_
     refine zn1 ?_
     have hc':O[wid]?=some (.cells (r.map aI++(aI k::junk))):=by rw [k1,hcs2]
     refine⟨⟨⟨⟨r,S.all⟩,wid,aid,O,aI k::junk⟩,hstep,hF,hc',k2,k3,k4,n,by simp only;omega,by omega,hne2⟩,by simp only;omega,?_⟩
     refine zq rfl ?_ ?_
     simp -dsimp only [simprocAttr,↓vpre,zp,zc]
     all_goals rfl
    exact af h (by omega)
   refine awp_exit ?_
   simp -dsimp only [vend,ne_eq,Nat.reduceEqDiff,reduceCtorEq]
   have hhN:hd=N:=by
    have:=of_decide_eq_false h
    omega
   subst hhN
   rw [List.drop_of_length_le (by simp)] at hRe
   have hRa:R=acc:=by rw [hRe];simp
   subst hRa
   by_cases hRn:R=[]
   ·have hov:outL oid R=.lst 3 [] .ex:=if_pos hRn
    refine zg1 ?_
    simp -dsimp only [simprocAttr,↓vpre,zp,hov]
    refine zi nest_nil ?_
    refine za0 ?_
    refine zg1 ?_
    simp -dsimp only [simprocAttr,↓vpre,zp,hov]
    refine za0 ?_
    rw [hRn]
    refine awp_ret ?_
    simp -dsimp only [simprocAttr,↓vpre,zp,zr,Try.results33]
    exact⟨⟨⟨trivial,trivial⟩,trivial,trivial⟩,rfl⟩
   have hov:outL oid R=.os oid R.length 3:=if_neg hRn
   have ho:=hF.out hRn
   have hns:=nest_spec hF.up ho (by omega) hpar
   have hnl:=(nestM_ok hpar).len
   have h3:(O.set oid (.cells (lpC (nestM R))))[oid]?=some (.cells (lpC (nestM R))):=at_set ho
   generalize O.set oid (.cells (lpC (nestM R)))=O2 at *
   obtain⟨m,hm2⟩:∃m,m=nestM R:=⟨_,rfl⟩
   rw [←hm2] at hnl h3 ⊢
   rw [←hnl] at hov hns
   refine zg1 ?_
   simp -dsimp only [simprocAttr,↓vpre,zp,hov]
   refine .inr (.inl ⟨_,_,hns,.inl (later_intro (zj ?_))⟩)
   refine za0 ?_
   refine zg1 ?_
   simp -dsimp only [simprocAttr,↓vpre,zp,hov]
   refine za0 ?_
   refine awp_freeze1 2 oid (o:=.cells (lpC m)) (.lst 3 (m.map eLoop) .sh) h3 (by simp [AObj.isSpare]) trivial rfl (FSub.os (cs:=lpC m) h3 ?_ ?_ ?_) ?_
   ·intro x hx
    obtain⟨y,_,rfl⟩:=List.mem_map.1 hx
    rfl
   ·simp
   ·rw [List.drop_zero,List.take_of_length_le (by rw [lpC_len];omega)]
    exact lpC_share m
   simp -dsimp only [simprocAttr,↓vpre,zp]
   refine awp_ret ?_
   simp -dsimp only [simprocAttr,↓vpre,zp,zr,Try.results33]
   exact⟨⟨eLoop_upto _ _,trivial⟩,trivial,trivial⟩
  exact FSub.mp rfl rfl
 rw [if_neg hc] at hbk ⊢
 obtain⟨e,he⟩:∃e,e=checkFuncM f:=⟨_,rfl⟩
 rw [←he] at hc hbk ⊢
 have hde:decide (e=0)=false:=decide_eq_false hc
 refine zf true 0 Try.func33 Try.ntmps33 ?_
 dsimp only [Tmp,TypeId,slotsOf]
 refine zh1 (za0 ?_)
 refine awp_freeze1 1 0 (.ip none [aI f.name,eBlocks f.blocks]) rfl (by simp [AObj.isSpare]) trivial rfl ?_ ?_
 rotate_left
 simp -dsimp only [simprocAttr,↓vpre,zp]
 ·refine zh1 ?_
  refine zi hbk ?_
  refine za0 ?_
  refine zg2 ?_
  simp -dsimp only [simprocAttr,↓vpre,zp,hde]
  refine za0 ?_
  refine zw0 rfl ?_
  refine zh1 (za0 ?_)
  refine awp_ret ?_
  simp -dsimp only [simprocAttr,↓vpre,zp,zr,Try.results33]
  simp [uptoL,AVal.upto]
 exact FSub.mp rfl rfl
theorem lspl_err(f:Func){e:Int}(he:e≠0)(hsp:PCall Try.prog 15 [f.enc] (.tup [.agg [aI 0,.lst 7 [] .sh],aI e])):PCall Try.prog 13 [f.enc] (.v (.bool true)):=by
 have hwk:=works_spec
 have hde:decide (e=0)=false:=decide_eq_false he
 refine zf true 0 Try.func13 Try.ntmps13 ?_
 dsimp only [Tmp,TypeId,slotsOf]
 refine zh1 (za0 ?_)
 refine awp_freeze1 1 0 (.ip none [aI f.name,eBlocks f.blocks]) rfl (by simp [AObj.isSpare]) trivial rfl ?_ ?_
 rotate_left
 simp -dsimp only [simprocAttr,↓vpre,zp]
 ·refine zh2 ?_
  refine zi hwk ?_
  refine za0 ?_
  refine zu0 rfl ?_
  refine zb0 ?_
  refine zh1 ?_
  refine zi hsp ?_
  refine za0 ?_
  refine zg2 ?_
  simp -dsimp only [simprocAttr,↓vpre,zp,hde]
  refine za0 ?_
  refine zw0 rfl ?_
  refine zh1 (za0 ?_)
  refine awp_ret ?_
  simp -dsimp only [simprocAttr,↓vpre,zp,zr,Try.results13]
 exact FSub.mp rfl rfl
theorem loopsSplits_law(f:Func)(hfit:f.fit):PCall Try.prog 13 [f.enc] (.v (.bool true)):=by
 have hsp:=split_spec f hfit
 unfold splitR at hsp
 by_cases hc:checkFuncM f=0
 ·rw [if_pos hc] at hsp
  by_cases hm:128<f.blocks.length+(spM f).news.length
  ·rw [if_pos hm] at hsp
   exact lspl_err f (by omega) hsp
  rw [if_neg hm] at hsp
  have hwk:=works_spec
  have hg:=(checkFunc_ok hfit hc).gr
  have hc':=split_check hfit hc (by omega)
  have hfit':=split_fit hfit (by omega)
  have hg':=(checkFunc_ok hfit' hc').gr
  have hn:f.blocks.length≤128:=hg.few
  have hf1:=find_spec f hfit
  have hf2:=find_spec (splitM f) hfit'
  unfold findR at hf1 hf2
  rw [if_pos hc] at hf1
  rw [if_pos hc'] at hf2
  obtain⟨hlen,hat⟩:=loops_split hg hg'
  have hll:=loops_len f
  have hmx:∀x∈loopsM f,x.blocks.length≤128:=fun x hx=>find_few hg hx
  have hmy:∀x∈loopsM (splitM f),x.blocks.length≤128:=fun x hx=>find_few hg' hx
  obtain⟨L,hL⟩:∃L,L=loopsM f:=⟨_,rfl⟩
  obtain⟨K,hK⟩:∃K,K=loopsM (splitM f):=⟨_,rfl⟩
  rw [←hL] at hf1 hlen hat hll hmx
  rw [←hK] at hf2 hlen hat hmy
  obtain⟨g,hge⟩:∃g,g=splitM f:=⟨_,rfl⟩
  rw [←hge] at hsp hf2
  have hge2:g.enc=.agg [aI g.name,eBlocks g.blocks]:=rfl
  rw [hge2] at hsp hf2
  clear hL hK hge
  refine zf true 0 Try.func13 Try.ntmps13 ?_
  dsimp only [Tmp,TypeId,slotsOf]
  refine zh1 (za0 ?_)
  refine awp_freeze1 1 0 (.ip none [aI f.name,eBlocks f.blocks]) rfl (by simp [AObj.isSpare]) trivial rfl ?_ ?_
  rotate_left
  simp -dsimp only [simprocAttr,↓vpre,zp]
  ·refine zh2 ?_
   refine zi hwk ?_
   refine za0 ?_
   apply zk0 rfl<;>intro h
   ·cases h
   refine zb0 ?_
   refine zh1 ?_
   refine zi hsp ?_
   refine za0 ?_
   refine awp_freeze1 3 1 (.ip none [aI g.name,eBlocks g.blocks]) rfl (by simp [AObj.isSpare]) trivial rfl ?_ ?_
   rotate_left
   simp -dsimp only [simprocAttr,↓vpre,zp]
   ·refine zh2 (za0 ?_)
    apply zk0 rfl<;>intro h
    ·cases h
    refine zb0 ?_
    refine zh1 ?_
    refine zi hf1 ?_
    refine za0 ?_
    refine zh1 ?_
    refine zi hf2 ?_
    refine za0 ?_
    refine zg2 ?_
    simp -dsimp only [simprocAttr,↓vpre,zp,hlen,List.length_map]
    refine za0 ?_
    apply zk0 rfl<;>intro h
    ·cases h
    refine zb0 ?_
    refine zh2 (za0 ?_)
    refine awp_block (awp_loop (ι:={i:Nat // i≤L.length}) (fun i=>⟨74,[(5,.lst 3 (L.map eLoop) .sh),(7,.lst 3 (K.map eLoop) .sh),(43,aI L.length),(44,aI i.1)],[.gone,.gone]⟩) (fun i=>L.length - i.1) ⟨0,by simp⟩ ?_ ?_)
    ·refine zq rfl ?_ ?_
     simp -dsimp only [simprocAttr,↓vpre,zp,zc]
     all_goals rfl
    rintro⟨i,hi⟩
    refine zh1 (za0 ?_)
    apply zk1 rfl<;>intro h
    ·refine zb0 ?_
     have hlt:i<L.length:=by simpa using h
     obtain⟨x,hx⟩:∃x,L[i]?=some x:=⟨_,List.getElem?_eq_getElem hlt⟩
     obtain⟨y,hy⟩:∃y,K[i]?=some y:=⟨K[i]'(by omega),List.getElem?_eq_getElem _⟩
     obtain⟨q1,q2⟩:=hat i x y hx hy
     have hxm:=hmx x (List.mem_of_getElem? hx)
     have hym:=hmy y (List.mem_of_getElem? hy)
     have g1:decide ((y.blocks.length:Int)<x.blocks.length)=false:=decide_eq_false (by omega)
     refine awp_seq (awp_block ?_)
     refine zh1 (za0 ?_)
     refine zg1 ?_
     simp -dsimp only [simprocAttr,↓vpre,zp,hx,hy,eLoop,q1,g1]
     repeat(refine⟨by omega,?_⟩)
     refine⟨ob (by kernel_rfl),?_⟩
     refine za0 ?_
     refine zu0 rfl ?_
     refine zb1 ?_
     refine zh0 ?_
     repeat(refine⟨by omega,?_⟩)
     refine zl0 ?_
     refine⟨⟨i+1,hlt⟩,by simp;omega,?_⟩
     refine zq rfl ?_ ?_
     simp -dsimp only [simprocAttr,↓vpre,zp,zc]
     ·exact Sub.int (by simp)
     rfl
    refine awp_exit ?_
    simp -dsimp only [vend,ne_eq,Nat.reduceEqDiff,reduceCtorEq]
    refine zh1 (za0 ?_)
    refine awp_ret ?_
    simp -dsimp only [simprocAttr,↓vpre,zp,zr,Try.results13]
   exact FSub.mp rfl rfl
  exact FSub.mp rfl rfl
 rw [if_neg hc] at hsp
 exact lspl_err f hc hsp
end Go.Proofs.Ytlclgfgmhnmnaaa
