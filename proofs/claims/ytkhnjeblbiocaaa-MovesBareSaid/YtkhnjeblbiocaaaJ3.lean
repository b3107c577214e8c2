/-
  Texts bound together by a program of mine: YtkhnjeblbiocaaaT9, YtkhnjeblbiocaaaT10, YtkhnjeblbiocaaaT26, YtkhnjeblbiocaaaT11, YtkhnjeblbiocaaaT12, YtkhnjeblbiocaaaT13, YtkhnjeblbiocaaaT14, YtkhnjeblbiocaaaT15, YtkhnjeblbiocaaaT16, YtkhnjeblbiocaaaT17, YtkhnjeblbiocaaaT27, YtkhnjeblbiocaaaT28, YtkhnjeblbiocaaaT29, YtkhnjeblbiocaaaT31, YtkhnjeblbiocaaaT32, YtkhnjeblbiocaaaT33, YtkhnjeblbiocaaaPp, YtkhnjeblbiocaaaPq, YtkhnjeblbiocaaaT34, YtkhnjeblbiocaaaT35, YtkhnjeblbiocaaaPn, YtkhnjeblbiocaaaT36, YtkhnjeblbiocaaaPs, YtkhnjeblbiocaaaPt, YtkhnjeblbiocaaaT18, YtkhnjeblbiocaaaT19.
-/
import Derived.Test.YtkhnjeblbiocaaaJ2
import Derived.Laws.Closers25b
set_option linter.all false
set_option maxRecDepth 100000
set_option maxHeartbeats 4000000

namespace Go.Proofs.Ytkhnjeblbiocaaa
open Go.Av
theorem zipM_snoc{op:Int}:∀{l r:List SV} {k:Nat} {x y:SV},l[k]?=some x→r[k]?=some y→zipM op (l.take (k+1)) (r.take (k+1))=zipM op (l.take k) (r.take k)++[(binaryM op x.n y.n).1]
 | a::l,b::r,0,x,y,h1,h2=>by
  simp only [List.getElem?_cons_zero,Option.some.injEq] at h1 h2
  subst h1
  subst h2
  simp [zipM]
 | a::l,b::r,k+1,x,y,h1,h2=>by
  have ih:=zipM_snoc (op:=op) (l:=l) (r:=r) (k:=k) (by simpa using h1) (by simpa using h2)
  simp only [List.take_succ_cons,zipM,List.cons_append]
  rw [ih]
theorem zipM_len{op:Int}:∀(l r:List SV),(zipM op l r).length=min l.length r.length
 | [],_=>by simp [zipM]
 | _::_,[]=>by simp [zipM]
 | a::l,b::r=>by simp [zipM,zipM_len l r]
theorem binaryM_under(k:Nat)(op a b:Int):SV.Under k (binaryM op a b).1:=by
 unfold binaryM
 repeat' split
 all_goals exact word_under _ _
theorem zipM_under{op:Int}{k:Nat}:∀(l r:List SV),∀v∈zipM op l r,SV.Under k v
 | [],_,v,h=>by simp [zipM] at h
 | _::_,[],v,h=>by simp [zipM] at h
 | a::l,b::r,v,h=>by
  simp only [zipM,List.mem_cons] at h
  rcases h with rfl | h
  ·exact binaryM_under _ _ _ _
  exact zipM_under l r v h
theorem vector_spec{O:List AObj}(hup:∀o∈O,o.upto O.length)(i:Ins)(args:List SV)(hl:∀v∈args,SV.Under O.length v)(h1:i.op=24→∃x,args[0]?=some x)(h2:i.op≠22→i.op≠24→∃x y,args=[x,y])
  (hn:i.op=24→0≤i.n) (hw:∀v∈args,v.kind=4→v.list.length≤1000∧∀x∈v.list,isW x.n) :
  ECall Try.prog 99 O [i.enc,.lst 4 (args.map SV.enc) .sh] (fun r O'=>r=.tup [(vectorM i args).1.enc,aI (vectorM i args).2]∧O'=O):=by
 have hmk:∀l:List SV,AVal.agg [aI 4,aI 0,.lst 4 (l.map SV.enc) .sh,.v (.pointer none)]=(SV.mk 4 0 l none).enc:=fun l=>(SV.enc_mk 4 0 l none).symm
 refine zf true O.length Try.func99 Try.ntmps99 ?_
 dsimp only [Tmp,TypeId,slotsOf]
 refine zh1 (za0 ?_)
 refine awp_frzk 2 0 ([aI i.to,aI i.op,aI i.n,eIs i.args]) rfl rfl (by rfl) ?_
 simp -dsimp only [simprocAttr,↓vpre,zp]
 refine zh2 (za0 ?_)
 refine awp_block ?_
 refine zh1 (za0 ?_)
 apply zk0 rfl<;>intro h
 ·have e:i.op=22:=by simpa using h
  refine zh2 ?_
  refine .inr (.inr ⟨_,all_at hup args hl 0 _,later_intro (zj ?_)⟩)
  refine za0 ?_
  cases hall:allK args 0 with
  | true =>
   apply zk0 rfl<;>intro h
   ·simp [hall] at h
   refine zb0 ?_
   refine zh1 (za0 ?_)
   refine awp_ret ?_
   simp -dsimp only [simprocAttr,↓vpre,zp,zr,Try.results99,hmk]
   have hz:=(SV.Under.mk (k:=4) (m:=0) (a:=none) (by simp) hl).enc_upto
   rw [SV.enc_mk] at hz
   refine⟨hup,⟨hz,trivial,trivial⟩,?_⟩
   simp [vectorM,e,hall,SV.enc_mk]
  | false =>
   apply zk0 rfl<;>intro h
   ·refine zh1 (za0 ?_)
    refine awp_ret ?_
    simp -dsimp only [simprocAttr,↓vpre,zp,zr,Try.results99,zero_agg]
    refine⟨hup,zeroW,?_⟩
    simp [vectorM,e,hall]
   simp [hall] at h
 have e22:i.op≠22:=by simpa using h
 refine zh1 (za0 ?_)
 apply zk0 rfl<;>intro h
 ·have e:i.op=24:=by simpa using h
  obtain⟨x,hx⟩:=h1 e
  have hax:=argS_of hx
  have hn0:=hn e
  have hxu:=hl x (List.mem_of_getElem? hx)
  by_cases hk:x.kind=4
  ·have hd:decide (x.kind=4)=true:=decide_eq_true hk
   by_cases hlen:(x.list.length:Int)≤i.n
   ·have hdl:decide ((x.list.length:Int)≤i.n)=true:=decide_eq_true hlen
    refine zg2 ?_
    simp -dsimp only [simprocAttr,↓vpre,zp,hx,hd,hdl]
    refine⟨ob (by kernel_rfl),?_⟩
    refine za0 ?_
    refine zw0 rfl ?_
    refine zh1 (za0 ?_)
    refine awp_ret ?_
    simp -dsimp only [simprocAttr,↓vpre,zp,zr,Try.results99,zero_agg]
    refine⟨hup,zeroW,?_⟩
    simp [vectorM,e,hax,hlen]
   have hdl:decide ((x.list.length:Int)≤i.n)=false:=decide_eq_false hlen
   obtain⟨z,hz⟩:∃z,x.list[i.n.toNat]?=some z:=⟨x.list[i.n.toNat]'(by omega),List.getElem?_eq_getElem _⟩
   have hzu:=under_list hxu z (List.mem_of_getElem? hz)
   have haz:=argS_of hz
   refine zg2 ?_
   simp -dsimp only [simprocAttr,↓vpre,zp,hx,hd,hdl]
   refine⟨ob (by kernel_rfl),?_⟩
   refine za0 ?_
   refine zu0 rfl ?_
   refine zb0 ?_
   refine zg1 ?_
   simp -dsimp only [simprocAttr,↓vpre,zp,hx,hz]
   repeat(refine⟨by omega,?_⟩)
   refine⟨ob (by kernel_rfl),?_⟩
   refine za0 ?_
   refine awp_ret ?_
   simp -dsimp only [simprocAttr,↓vpre,zp,zr,Try.results99]
   refine⟨hup,resW hzu,?_⟩
   simp [vectorM,e,hax,hlen,hk,haz]
  have hd:decide (x.kind=4)=false:=decide_eq_false hk
  refine zg2 ?_
  simp -dsimp only [simprocAttr,↓vpre,zp,hx,hd]
  refine⟨ob (by kernel_rfl),?_⟩
  refine za0 ?_
  refine zw0 rfl ?_
  refine zh1 (za0 ?_)
  refine awp_ret ?_
  simp -dsimp only [simprocAttr,↓vpre,zp,zr,Try.results99,zero_agg]
  refine⟨hup,zeroW,?_⟩
  simp [vectorM,e,hax,hk]
 have e24:i.op≠24:=by simpa using h
 obtain⟨x,y,e⟩:=h2 e22 e24
 subst e
 have hall:=all_at hup [x,y] hl 4
 cases hk:allK [x,y] 4 with
 | false =>
  simp only [hk,List.map_cons,List.map_nil] at hall
  refine zb1 ?_
  refine zh2 ?_
  refine .inr (.inr ⟨_,hall _,later_intro (zj ?_)⟩)
  refine⟨ob (by kernel_rfl),?_⟩
  refine za0 ?_
  refine zw0 rfl ?_
  refine zh1 (za0 ?_)
  refine awp_ret ?_
  simp -dsimp only [simprocAttr,↓vpre,zp,zr,Try.results99,zero_agg]
  refine⟨hup,zeroW,?_⟩
  simp [vectorM,e22,e24,hk]
 | true =>
  simp only [hk,List.map_cons,List.map_nil] at hall
  by_cases hlen:x.list.length=y.list.length
  ·have hd:decide ((x.list.length:Int)=y.list.length)=true:=decide_eq_true (by omega)
   refine zb1 ?_
   refine zh2 ?_
   refine .inr (.inr ⟨_,hall _,later_intro ?_⟩)
   simp -dsimp only [simprocAttr,↓vpre,zp,hd]
   refine⟨ob (by kernel_rfl),?_⟩
   refine za0 ?_
   apply zk0 rfl<;>intro h
   ·cases h
   refine zb0 ?_
   refine zh1 (za0 ?_)
   refine awp_ownCell (O.length+2) 2 (by rw [at_newk];rfl) rfl ?_
   simp -dsimp only [simprocAttr,↓vpre,zp]
   refine zh2 (za0 ?_)
   refine awp_len 68 rfl (fun hlenx=>?_)
   simp only [List.length_map] at hlenx
   have hkk:x.kind=4∧y.kind=4:=by simpa [allK] using hk
   obtain⟨hxl,hxw⟩:=hw x (by simp) hkk.1
   obtain⟨hyl,hyw⟩:=hw y (by simp) hkk.2
   refine awp_block (awp_loop (ι:={j:Nat // j≤x.list.length}) (fun j=>⟨99,[(1,.lst 4 [x.enc,y.enc] .sh),(2,.ip none [aI i.to,aI i.op,aI i.n,eIs i.args]),(4,.mp (O.length+1) 0),(5,aI 0),(6,.mp (O.length+2) 0),(68,.lst 4 (x.list.map SV.enc) .sh),(69,aI x.list.length),(70,aI j.1)],O++[.gone,.cells [aI 0,aI 0,.lst 4 [] .ex,.v (.pointer none)],.cells [aI 4,aI 0,.lst 4 ((zipM i.n (x.list.take j.1) (y.list.take j.1)).map SV.enc) (.tok (O.length+3)),.v (.pointer none)],.spare j.1]⟩) (fun j=>x.list.length - j.1) ⟨0,by omega⟩ ?_ ?_)
   ·refine zq rfl ?_ ?_
    simp -dsimp only [simprocAttr,↓vpre,zp,zc]
    simp [zipM]
   rintro⟨j,hj⟩
   have hzl:(zipM i.n (x.list.take j) (y.list.take j)).length=j:=by
    rw [zipM_len,List.length_take,List.length_take]
    omega
   refine zh1 (za0 ?_)
   apply zk1 rfl<;>intro h
   ·refine zb0 ?_
    have hlt:j<x.list.length:=by simpa using h
    obtain⟨a,ha⟩:∃a,x.list[j]?=some a:=⟨x.list[j],by simp [hlt]⟩
    obtain⟨b,hb⟩:∃b,y.list[j]?=some b:=⟨y.list[j]'(by omega),List.getElem?_eq_getElem _⟩
    have haw:=hxw a (List.mem_of_getElem? ha)
    have hbw:=hyw b (List.mem_of_getElem? hb)
    refine awp_seq (awp_block ?_)
    refine zg1 ?_
    simp -dsimp only [simprocAttr,↓vpre,zp,ha]
    refine za0 ?_
    refine awp_frzk 8 4 ([aI a.kind,aI a.n,.lst 4 (a.list.map SV.enc) .sh,eP a.arr]) rfl rfl (by simp only [List.map_cons,List.map_nil,shareCell_v,shareCell_lst,shareCell_mm,shareCell_mp,shareCell_ip,shareCell_fn,shareCell_im,eP_shareCell]) ?_
    simp -dsimp only [simprocAttr,↓vpre,zp]
    refine zg1 ?_
    simp -dsimp only [simprocAttr,↓vpre,zp,hb]
    refine zi (binary_spec i.n a.n b.n haw hbw) ?_
    refine⟨ob (by kernel_rfl),?_⟩
    refine za0 ?_
    generalize hB:(binaryM i.n a.n b.n).1=B
    refine awp_frzk 9 5 ([aI B.kind,aI B.n,.lst 4 (B.list.map SV.enc) .sh,eP B.arr]) rfl rfl (by simp only [List.map_cons,List.map_nil,shareCell_v,shareCell_lst,shareCell_mm,shareCell_mp,shareCell_ip,shareCell_fn,shareCell_im,eP_shareCell]) ?_
    simp -dsimp only [simprocAttr,↓vpre,zp]
    refine zg0 ?_
    simp -dsimp only [simprocAttr,↓vpre,zp,hzl]
    repeat(refine⟨by omega,?_⟩)
    refine za0 ?_
    have hzs:=zipM_snoc (op:=i.n) ha hb
    rw [hB] at hzs
    have hxu:=(hl x (by simp)).mono (show O.length≤O.length+4 by omega)
    have hyu:=(hl y (by simp)).mono (show O.length≤O.length+4 by omega)
    have hzu:=SV.map_upto (n:=O.length+4) (zipM_under (op:=i.n) (x.list.take (j+1)) (y.list.take (j+1)))
    rw [hzs,List.map_append,List.map_cons,List.map_nil] at hzu
    have hxl':=SV.map_upto (under_list hxu)
    refine awp_cut 4 ([.gone,.cells [aI 0,aI 0,.lst 4 [] .ex,.v (.pointer none)],.cells [aI 4,aI 0,.lst 4 ((zipM i.n (x.list.take j) (y.list.take j)).map SV.enc++[B.enc]) (.tok (O.length+3)),.v (.pointer none)],.spare (j+1)]) [(1,.lst 4 [x.enc,y.enc] .sh),(2,.ip none [aI i.to,aI i.op,aI i.n,eIs i.args]),(4,.mp (O.length+1) 0),(5,aI 0),(6,.mp (O.length+2) 0),(68,.lst 4 (x.list.map SV.enc) .sh),(69,aI x.list.length),(70,aI j)] rfl (by simp) (by omega) (by simp [putS,dropS,Go.Av.look]) ?_ ?_ ?_ ?_
    ·exact fun o ho=>AObj.upto_mono (by omega) (hup o ho)
    ·simp [AObj.upto,uptoL,AVal.upto,hzu]
    ·simp [uptoL,AVal.upto,aI_upto,hxu.enc_upto,hyu.enc_upto,hxl']
    refine zh0 ?_
    repeat(refine⟨by omega,?_⟩)
    refine zl0 ?_
    refine⟨⟨j+1,hlt⟩,by simp;omega,?_⟩
    refine zq rfl ?_ ?_
    simp -dsimp only [simprocAttr,↓vpre,zp,zc]
    ·exact Sub.int (by simp)
    simp only [hzs,List.map_append,List.map_cons,List.map_nil]
   refine awp_exit ?_
   simp -dsimp only [vend,ne_eq,Nat.reduceEqDiff,reduceCtorEq]
   have hjj:j=x.list.length:=by simp at h;omega
   subst hjj
   have hy:y.list.take x.list.length=y.list:=by rw [hlen,List.take_length]
   have hz:=(SV.Under.mk (k:=4) (m:=0) (a:=none) (n:=O.length) (l:=zipM i.n x.list y.list) (by simp) (zipM_under _ _)).enc_upto
   rw [SV.enc_mk] at hz
   refine zh1 (za0 ?_)
   refine awp_ret ?_
   simp -dsimp only [simprocAttr,↓vpre,zp,zr,Try.results99,hy]
   refine⟨hup,⟨hz,trivial,trivial⟩,?_⟩
   have hargs:argS [x,y] 0=x∧argS [x,y] 1=y:=⟨rfl,rfl⟩
   simp [vectorM,e22,e24,hk,hlen,SV.enc_mk,hargs,eP]
  have hd:decide ((x.list.length:Int)=y.list.length)=false:=decide_eq_false (by omega)
  refine zb1 ?_
  refine zh2 ?_
  refine .inr (.inr ⟨_,hall _,later_intro ?_⟩)
  simp -dsimp only [simprocAttr,↓vpre,zp,hd]
  refine⟨ob (by kernel_rfl),?_⟩
  refine za0 ?_
  refine zw0 rfl ?_
  refine zh1 (za0 ?_)
  refine awp_ret ?_
  simp -dsimp only [simprocAttr,↓vpre,zp,zr,Try.results99,zero_agg]
  refine⟨hup,zeroW,?_⟩
  simp [vectorM,e22,e24,hk,hlen,argS]
def idxI(l:List Int)(n:Int):Int:=if l.findIdx (· == n)<l.length then (l.findIdx (· == n):Nat) else -1
theorem findIdx_at{l:List Int}{n:Int}{k:Nat}(hk:l[k]?=some n)(h:∀x∈l.take k,x≠n):l.findIdx (· == n)=k:=by
 have hlt:=lt_of_getElem? hk
 have e:l=l.take k++n::l.drop (k+1):=by
  rw [List.getElem?_eq_getElem hlt] at hk
  simp only [Option.some.injEq] at hk
  conv=>lhs;rw [←List.take_append_drop k l,List.drop_eq_getElem_cons hlt,hk]
 have hn:(l.take k).findIdx (· == n)=(l.take k).length:=by
  rw [List.findIdx_eq_length]
  intro x hx
  simpa using h x hx
 rw [e,List.findIdx_append,hn]
 simp [List.findIdx_cons]
 omega
theorem index_spec(l:List Int)(n:Int):PCall Try.prog 82 [eIs l,aI n] (aI (idxI l n)):=by
 refine zf true 0 Try.func82 Try.ntmps82 ?_
 dsimp only [Tmp,TypeId,slotsOf]
 refine zh1 (za0 ?_)
 refine awp_len 0 rfl (fun hlen=>?_)
 simp only [List.length_map] at hlen
 refine zh2 (za0 ?_)
 refine awp_block (awp_loop (ι:={j:Nat // j≤l.length∧∀x∈l.take j,x≠n}) (fun j=>⟨19,[(0,eIs l),(1,aI n),(4,aI 0),(7,aI l.length),(8,aI j.1)],[]⟩) (fun j=>l.length - j.1) ⟨0,by omega,by simp⟩ ?_ ?_)
 ·refine zq rfl ?_ ?_
  simp -dsimp only [simprocAttr,↓vpre,zp,zc]
  rfl
 rintro⟨j,hj,hall⟩
 refine zh1 (za0 ?_)
 apply zk1 rfl<;>intro h
 ·refine zb0 ?_
  have hlt:j<l.length:=by simpa using h
  obtain⟨v,hv⟩:∃v,l[j]?=some v:=⟨l[j],by simp [hlt]⟩
  refine awp_seq (awp_block ?_)
  refine zh1 (za0 ?_)
  refine zg1 ?_
  simp -dsimp only [simprocAttr,↓vpre,zp,hv]
  repeat(refine⟨by omega,?_⟩)
  refine za0 ?_
  apply zk0 rfl<;>intro h
  ·have hk:n=v:=by simpa using h
   refine zh1 (za0 ?_)
   refine awp_ret ?_
   simp -dsimp only [simprocAttr,↓vpre,zp,zr,Try.results82]
   subst hk
   have:=findIdx_at hv hall
   simp [idxI,this,hlt]
  refine zb1 ?_
  have hk:n≠v:=by simpa using h
  refine zh0 ?_
  repeat(refine⟨by omega,?_⟩)
  refine zl0 ?_
  refine⟨⟨j+1,hlt,fun w hw=>?_⟩,by simp;omega,?_⟩
  ·rw [List.take_add_one,hv] at hw
   simp only [Option.toList_some,List.mem_append,List.mem_singleton] at hw
   rcases hw with hw | rfl
   ·exact hall w hw
   exact fun e=>hk e.symm
  refine zq rfl ?_ ?_
  simp -dsimp only [simprocAttr,↓vpre,zp,zc]
  ·exact Sub.int (by simp)
  rfl
 refine awp_exit ?_
 simp -dsimp only [vend,ne_eq,Nat.reduceEqDiff,reduceCtorEq]
 have hkk:j=l.length:=by simp at h;omega
 subst hkk
 refine zh1 (za0 ?_)
 refine awp_ret ?_
 simp -dsimp only [simprocAttr,↓vpre,zp,zr,Try.results82]
 rw [List.take_length] at hall
 have:l.findIdx (· == n)=l.length:=by
  rw [List.findIdx_eq_length]
  intro x hx
  simpa using hall x hx
 simp [idxI,this]
theorem choice_spec(t:Term)(n:Int)(ht:t.cases.length≤2 ^ 60):PCall Try.prog 94 [t.enc,aI n] (aI (choiceM t n)):=by
 have hix:=index_spec t.cases n
 have hle:t.cases.findIdx (· == n)≤t.cases.length:=List.findIdx_le_length
 refine zf true 0 Try.func94 Try.ntmps94 ?_
 dsimp only [Tmp,TypeId,slotsOf]
 refine zh1 (za0 ?_)
 refine zh2 (za0 ?_)
 apply zk0 rfl<;>intro h
 ·have e:t.kind=2:=by simpa using h
  refine zh2 (za0 ?_)
  apply zk0 rfl<;>intro h
  ·have e0:n≠0:=by simpa using h
   refine zh1 (za0 ?_)
   refine awp_ret ?_
   simp -dsimp only [simprocAttr,↓vpre,zp,zr,Try.results94]
   simp [choiceM,e,e0]
  have e0:n=0:=by simpa using h
  refine zb0 ?_
  refine zh1 (za0 ?_)
  refine awp_ret ?_
  simp -dsimp only [simprocAttr,↓vpre,zp,zr,Try.results94]
  simp [choiceM,e,e0]
 have e:t.kind≠2:=by simpa using h
 refine zb0 ?_
 by_cases hf:t.cases.findIdx (· == n)<t.cases.length
 ·have hI:idxI t.cases n=(t.cases.findIdx (· == n):Nat):=by simp [idxI,hf]
  rw [hI] at hix
  generalize hq:t.cases.findIdx (· == n)=q at hix
  refine zh2 ?_
  refine zi hix ?_
  refine za0 ?_
  refine zh1 (za0 ?_)
  apply zk0 rfl<;>intro h
  ·refine zh1 (za0 ?_)
   refine awp_ret ?_
   simp -dsimp only [simprocAttr,↓vpre,zp,zr,Try.results94]
   simp [choiceM,e,hq]
  simp at h
 have hI:idxI t.cases n=-1:=by simp [idxI,hf]
 rw [hI] at hix
 have hq:t.cases.findIdx (· == n)=t.cases.length:=by omega
 refine zh2 ?_
 refine zi hix ?_
 refine za0 ?_
 refine zh1 (za0 ?_)
 apply zk0 rfl<;>intro h
 ·simp at h
 refine zb0 ?_
 refine zh1 (za0 ?_)
 refine awp_ret ?_
 simp -dsimp only [simprocAttr,↓vpre,zp,zr,Try.results94]
 simp [choiceM,e,hq]
def edgesM(t:Term):Int:=if t.kind=1 then 1 else if t.kind=2 then 2 else if t.kind=3 then (t.cases.length:Int)+1 else 0
def argM(t:Term):Bool:=decide (t.kind=0) || (decide (t.kind=2) || decide (t.kind=3))
def shapeM(t:Term):Bool:=(decide (0≤t.kind)&&decide (t.kind≤4))&&(((decide ((t.to.length:Int)=edgesM t)&&(argM t || decide (t.arg=0)))&&(decide (t.kind=4) || decide (t.n=0)))&&(decide (t.kind=3) || decide ((t.cases.length:Int)=0)))
theorem shape_0(t:Term)(hk:t.kind=0)(hcl:t.cases.length≤2 ^ 60):PCall Try.prog 85 [t.enc] (.v (.bool (shapeM t))):=by
 have he:edgesM t=0:=by simp [edgesM,hk]
 have ha:argM t=true:=by simp [argM,hk]
 unfold shapeM
 rw [he,ha]
 have h0:decide (t.kind=0)=true:=decide_eq_true hk
 have h4:decide (t.kind=4)=false:=decide_eq_false (by omega)
 have h3:decide (t.kind=3)=false:=decide_eq_false (by omega)
 have hlo:decide (0≤t.kind)=true:=decide_eq_true (by omega)
 have hhi:decide (t.kind≤4)=true:=decide_eq_true (by omega)
 rw [hlo,hhi,h3,h4]
 refine zf true 0 Try.func85 Try.ntmps85 ?_
 dsimp only [Tmp,TypeId,slotsOf]
 refine zh1 (za0 ?_)
 refine zh1 (za0 ?_)
 refine zh2 (za0 ?_)
 refine awp_block ?_
 refine zg1 ?_
 simp -dsimp only [simprocAttr,↓vpre,zp,h0]
 refine za0 ?_
 refine zw0 rfl ?_
 refine zh0 (za0 ?_)
 cases hA:decide ((t.to.length:Int)=0)<;>cases hB:decide (t.arg=0)<;>cases hC:decide (t.n=0)<;>cases hD:decide ((t.cases.length:Int)=0)
 all_goals
  refine zg1 ?_
  simp -dsimp only [simprocAttr,↓vpre,zp,hA,hB,hC,hD]
  refine za0 ?_
  refine awp_ret ?_
  simp -dsimp only [simprocAttr,↓vpre,zp,zr,Try.results85,Bool.true_or,Bool.false_or,Bool.or_true,Bool.or_false,Bool.true_and,Bool.false_and,Bool.and_true,Bool.and_false]
theorem shape_1(t:Term)(hk:t.kind=1)(hcl:t.cases.length≤2 ^ 60):PCall Try.prog 85 [t.enc] (.v (.bool (shapeM t))):=by
 have he:edgesM t=1:=by simp [edgesM,hk]
 have ha:argM t=false:=by simp [argM,hk]
 unfold shapeM
 rw [he,ha]
 have h0:decide (t.kind=0)=false:=decide_eq_false (by omega)
 have h1:decide (t.kind=1)=true:=decide_eq_true hk
 have h4:decide (t.kind=4)=false:=decide_eq_false (by omega)
 have h3:decide (t.kind=3)=false:=decide_eq_false (by omega)
 have hlo:decide (0≤t.kind)=true:=decide_eq_true (by omega)
 have hhi:decide (t.kind≤4)=true:=decide_eq_true (by omega)
 rw [hlo,hhi,h3,h4]
 refine zf true 0 Try.func85 Try.ntmps85 ?_
 dsimp only [Tmp,TypeId,slotsOf]
 refine zh1 (za0 ?_)
 refine zh1 (za0 ?_)
 refine zh2 (za0 ?_)
 refine awp_block ?_
 refine zg1 ?_
 simp -dsimp only [simprocAttr,↓vpre,zp,h0]
 refine za0 ?_
 refine zu0 rfl ?_
 refine zg1 ?_
 simp -dsimp only [simprocAttr,↓vpre,zp,h1]
 refine za0 ?_
 refine zw0 rfl ?_
 refine zh0 (za0 ?_)
 cases hA:decide ((t.to.length:Int)=1)<;>cases hB:decide (t.arg=0)<;>cases hC:decide (t.n=0)<;>cases hD:decide ((t.cases.length:Int)=0)
 all_goals
  refine zg1 ?_
  simp -dsimp only [simprocAttr,↓vpre,zp,hA,hB,hC,hD]
  refine za0 ?_
  refine awp_ret ?_
  simp -dsimp only [simprocAttr,↓vpre,zp,zr,Try.results85,Bool.true_or,Bool.false_or,Bool.or_true,Bool.or_false,Bool.true_and,Bool.false_and,Bool.and_true,Bool.and_false]
theorem shape_2(t:Term)(hk:t.kind=2)(hcl:t.cases.length≤2 ^ 60):PCall Try.prog 85 [t.enc] (.v (.bool (shapeM t))):=by
 have he:edgesM t=2:=by simp [edgesM,hk]
 have ha:argM t=true:=by simp [argM,hk]
 unfold shapeM
 rw [he,ha]
 have h0:decide (t.kind=0)=false:=decide_eq_false (by omega)
 have h1:decide (t.kind=1)=false:=decide_eq_false (by omega)
 have h2:decide (t.kind=2)=true:=decide_eq_true hk
 have h4:decide (t.kind=4)=false:=decide_eq_false (by omega)
 have h3:decide (t.kind=3)=false:=decide_eq_false (by omega)
 have hlo:decide (0≤t.kind)=true:=decide_eq_true (by omega)
 have hhi:decide (t.kind≤4)=true:=decide_eq_true (by omega)
 rw [hlo,hhi,h3,h4]
 refine zf true 0 Try.func85 Try.ntmps85 ?_
 dsimp only [Tmp,TypeId,slotsOf]
 refine zh1 (za0 ?_)
 refine zh1 (za0 ?_)
 refine zh2 (za0 ?_)
 refine awp_block ?_
 refine zg1 ?_
 simp -dsimp only [simprocAttr,↓vpre,zp,h0]
 refine za0 ?_
 refine zu0 rfl ?_
 refine zg1 ?_
 simp -dsimp only [simprocAttr,↓vpre,zp,h1]
 refine za0 ?_
 refine zu0 rfl ?_
 refine zg1 ?_
 simp -dsimp only [simprocAttr,↓vpre,zp,h2]
 refine za0 ?_
 refine zw0 rfl ?_
 refine zh0 (za0 ?_)
 cases hA:decide ((t.to.length:Int)=2)<;>cases hB:decide (t.arg=0)<;>cases hC:decide (t.n=0)<;>cases hD:decide ((t.cases.length:Int)=0)
 all_goals
  refine zg1 ?_
  simp -dsimp only [simprocAttr,↓vpre,zp,hA,hB,hC,hD]
  refine za0 ?_
  refine awp_ret ?_
  simp -dsimp only [simprocAttr,↓vpre,zp,zr,Try.results85,Bool.true_or,Bool.false_or,Bool.or_true,Bool.or_false,Bool.true_and,Bool.false_and,Bool.and_true,Bool.and_false]
theorem shape_3(t:Term)(hk:t.kind=3)(hcl:t.cases.length≤2 ^ 60):PCall Try.prog 85 [t.enc] (.v (.bool (shapeM t))):=by
 have he:edgesM t=(t.cases.length:Int)+1:=by simp [edgesM,hk]
 have ha:argM t=true:=by simp [argM,hk]
 unfold shapeM
 rw [he,ha]
 have h0:decide (t.kind=0)=false:=decide_eq_false (by omega)
 have h1:decide (t.kind=1)=false:=decide_eq_false (by omega)
 have h2:decide (t.kind=2)=false:=decide_eq_false (by omega)
 have h3:decide (t.kind=3)=true:=decide_eq_true hk
 have h4:decide (t.kind=4)=false:=decide_eq_false (by omega)
 have hlo:decide (0≤t.kind)=true:=decide_eq_true (by omega)
 have hhi:decide (t.kind≤4)=true:=decide_eq_true (by omega)
 rw [hlo,hhi,h3,h4]
 refine zf true 0 Try.func85 Try.ntmps85 ?_
 dsimp only [Tmp,TypeId,slotsOf]
 refine zh1 (za0 ?_)
 refine zh1 (za0 ?_)
 refine zh2 (za0 ?_)
 refine awp_block ?_
 refine zg1 ?_
 simp -dsimp only [simprocAttr,↓vpre,zp,h0]
 refine za0 ?_
 refine zu0 rfl ?_
 refine zg1 ?_
 simp -dsimp only [simprocAttr,↓vpre,zp,h1]
 refine za0 ?_
 refine zu0 rfl ?_
 refine zg1 ?_
 simp -dsimp only [simprocAttr,↓vpre,zp,h2]
 refine za0 ?_
 refine zu0 rfl ?_
 refine zg1 ?_
 simp -dsimp only [simprocAttr,↓vpre,zp,h3]
 refine za0 ?_
 refine zw0 rfl ?_
 refine zh0 ?_
 repeat(refine⟨by omega,?_⟩)
 refine za0 ?_
 cases hA:decide ((t.to.length:Int)=(t.cases.length:Int)+1)<;>cases hB:decide (t.arg=0)<;>cases hC:decide (t.n=0)<;>cases hD:decide ((t.cases.length:Int)=0)
 all_goals
  refine zg1 ?_
  simp -dsimp only [simprocAttr,↓vpre,zp,hA,hB,hC,hD]
  refine za0 ?_
  refine awp_ret ?_
  simp -dsimp only [simprocAttr,↓vpre,zp,zr,Try.results85,Bool.true_or,Bool.false_or,Bool.or_true,Bool.or_false,Bool.true_and,Bool.false_and,Bool.and_true,Bool.and_false]
theorem shape_4(t:Term)(hk:t.kind=4)(hcl:t.cases.length≤2 ^ 60):PCall Try.prog 85 [t.enc] (.v (.bool (shapeM t))):=by
 have he:edgesM t=0:=by simp [edgesM,hk]
 have ha:argM t=false:=by simp [argM,hk]
 unfold shapeM
 rw [he,ha]
 have h0:decide (t.kind=0)=false:=decide_eq_false (by omega)
 have h1:decide (t.kind=1)=false:=decide_eq_false (by omega)
 have h2:decide (t.kind=2)=false:=decide_eq_false (by omega)
 have h3:decide (t.kind=3)=false:=decide_eq_false (by omega)
 have h4:decide (t.kind=4)=true:=decide_eq_true hk
 have hlo:decide (0≤t.kind)=true:=decide_eq_true (by omega)
 have hhi:decide (t.kind≤4)=true:=decide_eq_true (by omega)
 rw [hlo,hhi,h3,h4]
 refine zf true 0 Try.func85 Try.ntmps85 ?_
 dsimp only [Tmp,TypeId,slotsOf]
 refine zh1 (za0 ?_)
 refine zh1 (za0 ?_)
 refine zh2 (za0 ?_)
 refine awp_block ?_
 refine zg1 ?_
 simp -dsimp only [simprocAttr,↓vpre,zp,h0]
 refine za0 ?_
 refine zu0 rfl ?_
 refine zg1 ?_
 simp -dsimp only [simprocAttr,↓vpre,zp,h1]
 refine za0 ?_
 refine zu0 rfl ?_
 refine zg1 ?_
 simp -dsimp only [simprocAttr,↓vpre,zp,h2]
 refine za0 ?_
 refine zu0 rfl ?_
 refine zg1 ?_
 simp -dsimp only [simprocAttr,↓vpre,zp,h3]
 refine za0 ?_
 refine zu0 rfl ?_
 refine zg1 ?_
 simp -dsimp only [simprocAttr,↓vpre,zp,h4]
 refine za0 ?_
 refine zw0 rfl ?_
 refine zh0 (za0 ?_)
 cases hA:decide ((t.to.length:Int)=0)<;>cases hB:decide (t.arg=0)<;>cases hC:decide (t.n=0)<;>cases hD:decide ((t.cases.length:Int)=0)
 all_goals
  refine zg1 ?_
  simp -dsimp only [simprocAttr,↓vpre,zp,hA,hB,hC,hD]
  refine za0 ?_
  refine awp_ret ?_
  simp -dsimp only [simprocAttr,↓vpre,zp,zr,Try.results85,Bool.true_or,Bool.false_or,Bool.or_true,Bool.or_false,Bool.true_and,Bool.false_and,Bool.and_true,Bool.and_false]
theorem shape_other(t:Term)(hk:¬(0≤t.kind∧t.kind≤4)):PCall Try.prog 85 [t.enc] (.v (.bool (shapeM t))):=by
 have hr:shapeM t=false:=by
  unfold shapeM
  have:(decide (0≤t.kind)&&decide (t.kind≤4))=false:=by
   by_cases h0:0≤t.kind<;>by_cases h4:t.kind≤4<;>simp [h0,h4]<;>omega
  rw [this]
  rfl
 rw [hr]
 have h0:decide (t.kind=0)=false:=decide_eq_false (by omega)
 have h1:decide (t.kind=1)=false:=decide_eq_false (by omega)
 have h2:decide (t.kind=2)=false:=decide_eq_false (by omega)
 have h3:decide (t.kind=3)=false:=decide_eq_false (by omega)
 have h4:decide (t.kind=4)=false:=decide_eq_false (by omega)
 refine zf true 0 Try.func85 Try.ntmps85 ?_
 dsimp only [Tmp,TypeId,slotsOf]
 refine zh1 (za0 ?_)
 refine zh1 (za0 ?_)
 refine zh2 (za0 ?_)
 refine awp_block ?_
 refine zg1 ?_
 simp -dsimp only [simprocAttr,↓vpre,zp,h0]
 refine za0 ?_
 refine zu0 rfl ?_
 refine zg1 ?_
 simp -dsimp only [simprocAttr,↓vpre,zp,h1]
 refine za0 ?_
 refine zu0 rfl ?_
 refine zg1 ?_
 simp -dsimp only [simprocAttr,↓vpre,zp,h2]
 refine za0 ?_
 refine zu0 rfl ?_
 refine zg1 ?_
 simp -dsimp only [simprocAttr,↓vpre,zp,h3]
 refine za0 ?_
 refine zu0 rfl ?_
 refine zg1 ?_
 simp -dsimp only [simprocAttr,↓vpre,zp,h4]
 refine za0 ?_
 refine zu0 rfl ?_
 refine zh1 (za0 ?_)
 refine awp_ret ?_
 simp -dsimp only [simprocAttr,↓vpre,zp,zr,Try.results85]
theorem shape_spec(t:Term)(hcl:t.cases.length≤2 ^ 60):PCall Try.prog 85 [t.enc] (.v (.bool (shapeM t))):=by
 by_cases hk:0≤t.kind∧t.kind≤4
 ·rcases (show t.kind=0∨t.kind=1∨t.kind=2∨t.kind=3∨t.kind=4 by omega) with h | h | h | h | h
  ·exact shape_0 t h hcl
  ·exact shape_1 t h hcl
  ·exact shape_2 t h hcl
  ·exact shape_3 t h hcl
  exact shape_4 t h hcl
 exact shape_other t hk
def hasI(l:List Int)(n:Int):Bool:=decide (l.findIdx (· == n)<l.length)
theorem contains_spec(l:List Int)(n:Int):PCall Try.prog 67 [eIs l,aI n] (.v (.bool (hasI l n))):=by
 have hix:=index_spec l n
 have hd:decide (0≤idxI l n)=hasI l n:=by
  unfold idxI hasI
  by_cases h:l.findIdx (· == n)<l.length
  ·rw [if_pos h]
   simp [h]
  rw [if_neg h]
  simp [h]
 generalize idxI l n=r at *
 refine zf true 0 Try.func67 Try.ntmps67 ?_
 dsimp only [Tmp,TypeId,slotsOf]
 refine zh1 (za0 ?_)
 refine zh1 ?_
 refine .inl ⟨_,hix,by simp only [uptoL,AVal.upto,zt,zu,aI_upto],later_intro ?_⟩
 simp -dsimp only [simprocAttr,↓vpre,zp,hd]
 refine za0 ?_
 refine awp_ret ?_
 simp -dsimp only [simprocAttr,↓vpre,zp,zr,Try.results67]
theorem allocate_stay{u:Unt}{m:Mach}{O:List AObj}(hup:∀o∈O,o.upto O.length)(h0:O[2]?=some (.cells (mcells u m)))(size fill:SV)(hs:SV.Under O.length size)(hf:SV.Under O.length fill)(h1:0≤m.left)(h2:m.left≤2 ^ 40)(hov:m.short=false)
  (hne:∀x,((m.allocate size fill).2.1).arr≠some x) :
  ECall Try.prog 123 O [.mp 2 0,size.enc,fill.enc] (fun r O'=>r=.tup [(m.allocate size fill).2.1.enc,aI (m.allocate size fill).2.2]∧O'=O.set 2 (.cells (mcells u (m.allocate size fill).1))):=by
 have hset:O.set 2 (.cells (mcells u m))=O:=by
  obtain⟨hlt,e⟩:=List.getElem?_eq_some_iff.1 h0
  rw [←e,List.set_getElem_self]
 by_cases hk:size.kind=0
 ·by_cases hn:size.n<0∨1024<size.n
  ·have hd:decide (size.kind=0)=true:=decide_eq_true hk
   rcases (show size.n<0∨(¬size.n<0∧1024<size.n) by omega) with hn1 | ⟨hn1,hn2⟩
   ·have hd1:decide (size.n<0)=true:=decide_eq_true hn1
    refine zf true O.length Try.func123 Try.ntmps123 ?_
    dsimp only [Tmp,TypeId,slotsOf]
    refine zh1 (za0 ?_)
    refine awp_seq (awp_block ?_)
    refine zg1 ?_
    simp -dsimp only [simprocAttr,↓vpre,zp,hd]
    refine za0 ?_
    refine zu0 rfl ?_
    refine zg1 ?_
    simp -dsimp only [simprocAttr,↓vpre,zp,hd1]
    refine za0 ?_
    refine zw0 rfl ?_
    refine zh1 (za0 ?_)
    refine awp_ret ?_
    simp -dsimp only [simprocAttr,↓vpre,zp,zr,Try.results123,zero_agg]
    refine⟨hup,zeroW,?_⟩
    simp [Mach.allocate,hk,hn,hset]
   have hd1:decide (size.n<0)=false:=decide_eq_false hn1
   have hd2:decide (1024<size.n)=true:=decide_eq_true hn2
   refine zf true O.length Try.func123 Try.ntmps123 ?_
   dsimp only [Tmp,TypeId,slotsOf]
   refine zh1 (za0 ?_)
   refine awp_seq (awp_block ?_)
   refine zg1 ?_
   simp -dsimp only [simprocAttr,↓vpre,zp,hd]
   refine za0 ?_
   refine zu0 rfl ?_
   refine zg1 ?_
   simp -dsimp only [simprocAttr,↓vpre,zp,hd1,hd2]
   refine za0 ?_
   refine zw0 rfl ?_
   refine zh1 (za0 ?_)
   refine awp_ret ?_
   simp -dsimp only [simprocAttr,↓vpre,zp,zr,Try.results123,zero_agg]
   refine⟨hup,zeroW,?_⟩
   simp [Mach.allocate,hk,hn,hset]
  have hd:decide (size.kind=0)=true:=decide_eq_true hk
  have hd1:decide (size.n<0)=false:=decide_eq_false (by omega)
  have hd2:decide (1024<size.n)=false:=decide_eq_false (by omega)
  by_cases hp:m.left<size.n
  ·have hsh:(m.pay size.n).short=true:=by simp [Mach.pay,hp]
   have hpay:=ECall.frame (pay_spec hup h0 size.n h1 h2 (by omega)) (by simp) ⟨lt_of_getElem? h0,trivial,trivial⟩ hup
   have h01:=set_self h0 (.cells (mcells u (m.pay size.n)))
   have hup1:=uptoO_cells hup h0 (ds:=mcells u (m.pay size.n)) (fun h=>mcells_upto h (pay_sid m size.n))
   obtain⟨O1,hO1⟩:∃O1,O1=O.set 2 (.cells (mcells u (m.pay size.n))):=⟨_,rfl⟩
   have hlen:O.length=O1.length:=by rw [hO1];simp
   have hres:(m.allocate size fill)=(m.pay size.n,.zero,0):=by simp [Mach.allocate,hk,hn,hsh]
   rw [hres]
   simp only [←hO1] at hpay h01 hup1 ⊢
   have h01':∀X,(O1++X)[2]?=some (.cells (mcells u (m.pay size.n))):=fun X=>at_left h01
   unfold mcells at h01'
   rw [hsh] at h01'
   rw [hlen] at hup1
   refine zf true O.length Try.func123 Try.ntmps123 ?_
   dsimp only [Tmp,TypeId,slotsOf]
   refine zh1 (za0 ?_)
   refine awp_seq (awp_block ?_)
   refine zg1 ?_
   simp -dsimp only [simprocAttr,↓vpre,zp,hd]
   refine za0 ?_
   refine zu0 rfl ?_
   refine zg1 ?_
   simp -dsimp only [simprocAttr,↓vpre,zp,hd1,hd2]
   refine za0 ?_
   refine zu0 rfl ?_
   refine zb1 ?_
   refine zh1 ?_
   refine .inr (.inl ⟨_,_,hpay _,.inl (later_intro (zj ?_))⟩)
   refine za0 ?_
   refine zg2 ?_
   simp -dsimp only [simprocAttr,↓vpre,zp,h01']
   refine za0 ?_
   refine zw0 rfl ?_
   refine zg1 ?_
   simp -dsimp only [simprocAttr,↓vpre,zp,hlen]
   refine za0 ?_
   refine awp_ret ?_
   simp -dsimp only [simprocAttr,↓vpre,zp,zr,Try.results123,zero_agg,hlen]
   exact⟨hup1,zeroW⟩
  exfalso
  have hsh:(m.pay size.n).short=false:=by simp [Mach.pay,hp,hov]
  refine hne (m.next+8) ?_
  simp [Mach.allocate,hk,hn,hsh,SV.arr]
 have hd:decide (size.kind=0)=false:=decide_eq_false hk
 refine zf true O.length Try.func123 Try.ntmps123 ?_
 dsimp only [Tmp,TypeId,slotsOf]
 refine zh1 (za0 ?_)
 refine awp_seq (awp_block ?_)
 refine zg1 ?_
 simp -dsimp only [simprocAttr,↓vpre,zp,hd]
 refine za0 ?_
 refine zw0 rfl ?_
 refine zh1 (za0 ?_)
 refine awp_ret ?_
 simp -dsimp only [simprocAttr,↓vpre,zp,zr,Try.results123,zero_agg]
 refine⟨hup,zeroW,?_⟩
 simp [Mach.allocate,hk,hset]
theorem take_newk{O X:List AObj}{k:Nat}:(O++X).take (O.length+k)=O++X.take k:=by
 rw [List.take_append,List.take_of_length_le (by omega),Nat.add_sub_cancel_left]
def rowA(v:SV)(n k:Nat):List AVal:=List.replicate k v.enc++List.replicate (n - k) (.agg [aI 0,aI 0,.lst 4 [] .ex,.v (.pointer none)])
theorem rowA_len{v:SV}{n k:Nat}(h:k≤n):(rowA v n k).length=n:=by
 simp [rowA]
 omega
theorem rowA_cells{v:SV}{n k:Nat}:∀x∈rowA v n k,x.cells.length=4:=fun x hx=>by
 simp only [rowA,List.mem_append,List.mem_replicate] at hx
 rcases hx with⟨_,rfl⟩ | ⟨_,rfl⟩
 ·exact v.cells_len
 rfl
theorem rowA_zero(v:SV)(n:Nat):cellsAll (rowA v n 0)=(List.replicate n [aI 0,aI 0,.lst 4 [] .ex,.v (.pointer none)]).flatten:=by
 simp [rowA,cellsAll,List.flatMap,AVal.cells]
theorem rowA_succ{v:SV}{n k:Nat}(h:k<n):(rowA v n k).set k v.enc=rowA v n (k+1):=by
 obtain⟨j,hj⟩:∃j,n - k=j+1:=⟨n - k - 1,by omega⟩
 unfold rowA
 rw [hj,show n - (k+1)=j by omega,List.set_append_right _ _ (by simp),List.replicate_succ' (n:=k)]
 simp [List.replicate_succ]
theorem rowA_all(v:SV)(n:Nat):rowA v n n=(List.replicate n v).map SV.enc:=by simp [rowA]
theorem allocate_go{u:Unt}{m:Mach}{O:List AObj}(hup:∀o∈O,o.upto O.length)(h0:O[2]?=some (.cells (mcells u m)))(size fill:SV)(hs:SV.Under O.length size)(hf:SV.Under O.length fill)(h1:0≤m.left)(h2:m.left≤2 ^ 40)(hov:m.short=false)
  (hk:size.kind=0) (hn1:0≤size.n) (hn2:size.n≤1024) (hp:size.n≤m.left) :
  ECall Try.prog 123 O [.mp 2 0,size.enc,fill.enc] (fun r O'=>r=.tup [.agg [aI 3,aI 0,.lst 4 [] .sh,.mp (O.length+4) 0],aI 0]∧O'=O.set 2 (.cells (mcells u (m.pay size.n))) ++
   [.gone,.gone,.cells [aI 3,aI 0,.lst 4 [] .ex,.mp (O.length+4) 0],.cells (cellsAll ((List.replicate size.n.toNat fill).map SV.enc)),.cells [.ms (O.length+3) 0 size.n.toNat size.n.toNat]]):=by
 have hd:decide (size.kind=0)=true:=decide_eq_true hk
 have hd1:decide (size.n<0)=false:=decide_eq_false (by omega)
 have hd2:decide (1024<size.n)=false:=decide_eq_false (by omega)
 have hsh:(m.pay size.n).short=false:=by simp [Mach.pay,hov,show ¬m.left<size.n by omega]
 have hpay:=ECall.frame (pay_spec hup h0 size.n h1 h2 (by omega)) (by simp) ⟨lt_of_getElem? h0,trivial,trivial⟩ hup
 have h01:=set_self h0 (.cells (mcells u (m.pay size.n)))
 have hup1:=uptoO_cells hup h0 (ds:=mcells u (m.pay size.n)) (fun h=>mcells_upto h (pay_sid m size.n))
 obtain⟨O1,hO1⟩:∃O1,O1=O.set 2 (.cells (mcells u (m.pay size.n))):=⟨_,rfl⟩
 have hlen:O.length=O1.length:=by rw [hO1];simp
 simp only [←hO1] at hpay h01 hup1 ⊢
 have h01':∀X,(O1++X)[2]?=some (.cells (mcells u (m.pay size.n))):=fun X=>at_left h01
 unfold mcells at h01'
 rw [hsh] at h01'
 rw [hlen] at hup1
 obtain⟨n,hn⟩:∃n:Nat,size.n=n:=⟨size.n.toNat,by omega⟩
 refine zf true (O.length+5) Try.func123 Try.ntmps123 ?_
 dsimp only [Tmp,TypeId,slotsOf]
 refine zh1 (za0 ?_)
 refine awp_frzk 4 0 ([aI size.kind,aI size.n,.lst 4 (size.list.map SV.enc) .sh,eP size.arr]) rfl rfl (by simp only [List.map_cons,List.map_nil,shareCell_v,shareCell_lst,shareCell_mm,shareCell_mp,shareCell_ip,shareCell_fn,shareCell_im,eP_shareCell]) ?_
 simp -dsimp only [simprocAttr,↓vpre,zp]
 refine awp_frzk 5 1 ([aI fill.kind,aI fill.n,.lst 4 (fill.list.map SV.enc) .sh,eP fill.arr]) rfl rfl (by simp only [List.map_cons,List.map_nil,shareCell_v,shareCell_lst,shareCell_mm,shareCell_mp,shareCell_ip,shareCell_fn,shareCell_im,eP_shareCell]) ?_
 simp -dsimp only [simprocAttr,↓vpre,zp]
 refine awp_seq (awp_block ?_)
 refine zg1 ?_
 simp -dsimp only [simprocAttr,↓vpre,zp,hd]
 refine za0 ?_
 apply zk0 rfl<;>intro h
 ·cases h
 refine zg1 ?_
 simp -dsimp only [simprocAttr,↓vpre,zp,hd1,hd2]
 refine za0 ?_
 apply zk0 rfl<;>intro h
 ·cases h
 refine zb1 ?_
 refine zh1 ?_
 refine .inr (.inl ⟨_,_,hpay _,.inl (later_intro (zj ?_))⟩)
 refine za0 ?_
 refine zg2 ?_
 simp -dsimp only [simprocAttr,↓vpre,zp,h01']
 refine za0 ?_
 apply zk0 rfl<;>intro h
 ·cases h
 refine zb0 ?_
 refine zg1 ?_
 simp -dsimp only [simprocAttr,↓vpre,zp,hlen,hn]
 repeat(refine⟨by omega,?_⟩)
 refine za0 ?_
 refine zg2 ?_
 simp -dsimp only [simprocAttr,↓vpre,zp,hlen,hn]
 refine za0 ?_
 refine awp_block (awp_loop (ι:={j:Nat // j≤n}) (fun j=>⟨48,[(5,.ip none [aI fill.kind,aI fill.n,.lst 4 (fill.list.map SV.enc) .sh,eP fill.arr]),(6,.mp (O1.length+2) 0),(7,aI 0),(8,.mp (O1.length+4) 0),(38,aI n),(39,aI j.1)],O1++[.gone,.gone,.cells [aI 0,aI 0,.lst 4 [] .ex,.v (.pointer none)],.cells (cellsAll (rowA fill n j.1)),.cells [.ms (O1.length+3) 0 n n]]⟩) (fun j=>n - j.1) ⟨0,by omega⟩ ?_ ?_)
 ·refine zq rfl ?_ ?_
  simp -dsimp only [simprocAttr,↓vpre,zp,zc]
  rw [rowA_zero]
 rintro⟨j,hj⟩
 refine zh1 (za0 ?_)
 apply zk1 rfl<;>intro h
 ·refine zb0 ?_
  have hlt:j<n:=by simpa using h
  have hrow:=cellsAll_length (rowA_cells (v:=fill) (n:=n) (k:=j))
  rw [rowA_len hj] at hrow
  have hset:=cellsAll_set (rowA_cells (v:=fill) (n:=n) (k:=j)) (k:=j) (by rw [rowA_len hj];exact hlt) fill.cells_len
  rw [rowA_succ hlt,SV.enc_cells] at hset
  refine awp_seq (awp_block ?_)
  refine zh1 (za0 ?_)
  refine zg0 ?_
  simp -dsimp only [simprocAttr,↓vpre,zp,hrow,hset]
  repeat(refine⟨by omega,?_⟩)
  refine za0 ?_
  refine zh0 ?_
  repeat(refine⟨by omega,?_⟩)
  refine zl0 ?_
  refine⟨⟨j+1,hlt⟩,by simp;omega,?_⟩
  refine zq rfl ?_ ?_
  simp -dsimp only [simprocAttr,↓vpre,zp,zc]
  ·exact Sub.int (by simp)
  rfl
 refine awp_exit ?_
 simp -dsimp only [vend,ne_eq,Nat.reduceEqDiff,reduceCtorEq]
 have hjj:j=n:=by simp at h;omega
 subst hjj
 refine zh1 (za0 ?_)
 refine awp_ret ?_
 simp -dsimp only [simprocAttr,↓vpre,zp,zr,Try.results123,hlen]
 have hj2:size.n.toNat=j:=by omega
 have hmem:∀v∈List.replicate j fill,SV.Under (O1.length+5) v:=fun v hv=>by
  rw [(List.mem_replicate.1 hv).2]
  exact hf.mono (by omega)
 rw [take_newk,hj2,rowA_all]
 refine⟨fun o ho=>?_,by simp [uptoL,AVal.upto],rfl⟩
 rcases List.mem_append.1 ho with ho | ho
 ·exact AObj.upto_mono (by omega) (hup1 o ho)
 have hc:=SV.cells_upto hmem
 simp only [List.take_succ_cons,List.take_zero,List.mem_cons,List.mem_nil_iff,or_false] at ho
 rcases ho with rfl | rfl | rfl | rfl | rfl
 ·trivial
 ·trivial
 ·simp [AObj.upto,uptoL,AVal.upto]
 ·exact hc
 simp [AObj.upto,uptoL,AVal.upto]
theorem set_left{O X:List AObj}{k:Nat}{x y:AObj}(h:O[k]?=some x):(O++X).set k y=O.set k y++X:=by
 rw [List.set_append_left _ _ (lt_of_getElem? h)]
theorem set_same{O:List AObj}{k:Nat}{x:AObj}(h:O[k]?=some x):O.set k x=O:=by
 obtain⟨hlt,e⟩:=List.getElem?_eq_some_iff.1 h
 rw [←e,List.set_getElem_self]
theorem effect_print{u:Unt}{m:Mach}{O:List AObj}(hup:∀o∈O,o.upto O.length)(h0:O[2]?=some (.cells (mcells u m)))(hs1:O[3]?=some (.spare m.out.length))(i:Ins)(args:List SV)(hl:∀v∈args,SV.Under O.length v)
  (hop:i.op=15) (x:SV) (hx:args[0]?=some x) (ho:m.out.length≤1000) :
  ECall Try.prog 100 O [.mp 2 0,i.enc,.lst 4 (args.map SV.enc) .sh] (fun r O'=>r=.tup [(m.effect i args).2.1.enc,aI (m.effect i args).2.2]∧O'=(O.set 3 (.spare (m.effect i args).1.out.length)).set 2 (.cells (mcells u (m.effect i args).1))):=by
 have hax:=argS_of hx
 have hd15:decide (i.op=15)=true:=decide_eq_true hop
 have hsame:(O.set 3 (.spare m.out.length)).set 2 (.cells (mcells u m))=O:=by rw [set_same hs1,set_same h0]
 have h0':∀X,(O++X)[2]?=some (.cells (mcells u m)):=fun X=>at_left h0
 have h1':∀X,(O++X)[3]?=some (.spare m.out.length):=fun X=>at_left hs1
 unfold mcells at h0'
 by_cases hk:x.kind=0
 ·have hd:decide (x.kind=0)=true:=decide_eq_true hk
  by_cases hf:m.out.length=1000
  ·have hdf:decide ((m.out.length:Int)=1000)=true:=decide_eq_true (by omega)
   have hres:m.effect i args=(m,.zero,6):=by simp [Mach.effect,hop,hax,hk,hf]
   rw [hres]
   refine zf true O.length Try.func100 Try.ntmps100 ?_
   dsimp only [Tmp,TypeId,slotsOf]
   refine zh1 (za0 ?_)
   refine awp_frzk 4 0 ([aI i.to,aI i.op,aI i.n,eIs i.args]) rfl rfl (by rfl) ?_
   simp -dsimp only [simprocAttr,↓vpre,zp]
   refine zg2 ?_
   simp -dsimp only [simprocAttr,↓vpre,zp,hd15]
   refine za0 ?_
   refine awp_block ?_
   refine zg1 ?_
   simp -dsimp only [simprocAttr,↓vpre,zp,hd15]
   refine za0 ?_
   refine zw0 rfl ?_
   refine zg2 ?_
   simp -dsimp only [simprocAttr,↓vpre,zp,hx,hd]
   refine za0 ?_
   refine zu0 rfl ?_
   refine zb0 ?_
   refine zg2 ?_
   simp -dsimp only [simprocAttr,↓vpre,zp,h0',hdf]
   refine za0 ?_
   refine zw0 rfl ?_
   refine zh1 (za0 ?_)
   refine awp_ret ?_
   simp -dsimp only [simprocAttr,↓vpre,zp,zr,Try.results100,zero_agg,hsame]
   exact⟨hup,zeroW⟩
  have hdf:decide ((m.out.length:Int)=1000)=false:=decide_eq_false (by omega)
  have hres:m.effect i args=({ m with out:=m.out++[x.n] },.word 0,0):=by simp [Mach.effect,hop,hax,hk,hf]
  rw [hres]
  obtain⟨m',hm'⟩:∃m',m' = { m with out:=m.out++[x.n] }:=⟨_,rfl⟩
  have hs0:=at_set_ne (k:=2) (j:=3) (y:=.spare (m.out.length+1)) h0 (by omega)
  have hp:[eFuncs u.fns,aI u.main,.os m.sid m.frames.length 1,aI m.left,.v (.bool m.short),.v (.bool m.over),.lst 1 (m.out.map aI++[aI x.n]) (.tok 3),aI m.fin,aI m.val]=mcells u m':=by
   rw [hm']
   simp [mcells]
  obtain⟨O2,hO2⟩:∃O2,O2=(O.set 3 (.spare (m.out.length+1))).set 2 (.cells (mcells u m')):=⟨_,rfl⟩
  have hlen:O.length=O2.length:=by rw [hO2];simp
  have hup2:∀o∈O2,o.upto O2.length:=by
   rw [←hlen,hO2]
   exact uptoO_cells (uptoO_set hup trivial) hs0 (fun h=>mcells_upto h (by rw [hm']))
  have e1:∀X,(O++X).set 3 (.spare (m.out.length+1))=O.set 3 (.spare (m.out.length+1))++X:=fun X=>set_left hs1
  have e2:∀X y,(O.set 3 (.spare (m.out.length+1))++X).set 2 y=(O.set 3 (.spare (m.out.length+1))).set 2 y++X:=fun X y=>set_left hs0
  have e3:∀X,(O.set 3 (.spare (m.out.length+1))++X)[2]?=some (.cells (mcells u m)):=fun X=>at_left hs0
  unfold mcells at e3
  have hml:m'.out.length=m.out.length+1:=by rw [hm'];simp
  rw [←hm']
  simp only [hml,←hO2]
  refine zf true O.length Try.func100 Try.ntmps100 ?_
  dsimp only [Tmp,TypeId,slotsOf]
  refine zh1 (za0 ?_)
  refine awp_frzk 4 0 ([aI i.to,aI i.op,aI i.n,eIs i.args]) rfl rfl (by rfl) ?_
  simp -dsimp only [simprocAttr,↓vpre,zp]
  refine zg2 ?_
  simp -dsimp only [simprocAttr,↓vpre,zp,hd15]
  refine za0 ?_
  refine awp_block ?_
  refine zg1 ?_
  simp -dsimp only [simprocAttr,↓vpre,zp,hd15]
  refine za0 ?_
  refine zw0 rfl ?_
  refine zg2 ?_
  simp -dsimp only [simprocAttr,↓vpre,zp,hx,hd]
  refine za0 ?_
  refine zu0 rfl ?_
  refine zb0 ?_
  refine zg2 ?_
  simp -dsimp only [simprocAttr,↓vpre,zp,h0',hdf]
  refine za0 ?_
  refine zu0 rfl ?_
  refine zb0 ?_
  refine zg1 ?_
  simp -dsimp only [simprocAttr,↓vpre,zp,h0',hx,h1',e1,e2,e3,hp,←hO2]
  repeat(refine⟨by omega,?_⟩)
  refine⟨ob (by kernel_rfl),?_⟩
  refine za0 ?_
  refine zg1 ?_
  simp -dsimp only [simprocAttr,↓vpre,zp,hlen]
  refine .inl ⟨_,wordOf_spec 0,by simp only [uptoL,AVal.upto,zt,zu,aI_upto],later_intro ?_⟩
  simp -dsimp only [simprocAttr,↓vpre,zp,word_cells]
  refine za0 ?_
  refine awp_ret ?_
  simp -dsimp only [simprocAttr,↓vpre,zp,zr,Try.results100,word_agg,hlen]
  exact⟨hup2,wordW⟩
 have hd:decide (x.kind=0)=false:=decide_eq_false hk
 have hres:m.effect i args=(m,.zero,5):=by simp [Mach.effect,hop,hax,hk]
 rw [hres]
 refine zf true O.length Try.func100 Try.ntmps100 ?_
 dsimp only [Tmp,TypeId,slotsOf]
 refine zh1 (za0 ?_)
 refine awp_frzk 4 0 ([aI i.to,aI i.op,aI i.n,eIs i.args]) rfl rfl (by rfl) ?_
 simp -dsimp only [simprocAttr,↓vpre,zp]
 refine zg2 ?_
 simp -dsimp only [simprocAttr,↓vpre,zp,hd15]
 refine za0 ?_
 refine awp_block ?_
 refine zg1 ?_
 simp -dsimp only [simprocAttr,↓vpre,zp,hd15]
 refine za0 ?_
 refine zw0 rfl ?_
 refine zg2 ?_
 simp -dsimp only [simprocAttr,↓vpre,zp,hx,hd]
 refine za0 ?_
 refine zw0 rfl ?_
 refine zh1 (za0 ?_)
 refine awp_ret ?_
 simp -dsimp only [simprocAttr,↓vpre,zp,zr,Try.results100,zero_agg,hsame]
 exact⟨hup,zeroW⟩
theorem effect_stay{u:Unt}{m:Mach}{O:List AObj}(hup:∀o∈O,o.upto O.length)(h0:O[2]?=some (.cells (mcells u m)))(i:Ins)(size fill:SV)(hs:SV.Under O.length size)(hf:SV.Under O.length fill)
  (hop:i.op=16) (h1:0≤m.left) (h2:m.left≤2 ^ 40) (hov:m.short=false) (hne:∀x,((m.allocate size fill).2.1).arr≠some x) :
  ECall Try.prog 100 O [.mp 2 0,i.enc,.lst 4 [size.enc,fill.enc] .sh] (fun r O'=>r=.tup [(m.allocate size fill).2.1.enc,aI (m.allocate size fill).2.2]∧O'=O.set 2 (.cells (mcells u (m.allocate size fill).1))):=by
 have hd15:decide (i.op=15)=false:=decide_eq_false (by omega)
 have hd16:decide (i.op=16)=true:=decide_eq_true (by omega)
 have hcall:=ECall.frame (allocate_stay hup h0 size fill hs hf h1 h2 hov hne) (by simp) ⟨lt_of_getElem? h0,hs.enc_upto,hf.enc_upto,trivial⟩ hup
 have hsid:(m.allocate size fill).1.sid=m.sid:=by
  unfold Mach.allocate
  repeat' split
  all_goals first | rfl | exact pay_sid _ _
 have hup1:=uptoO_cells hup h0 (ds:=mcells u (m.allocate size fill).1) (fun h=>mcells_upto h hsid)
 have hvu:SV.Under O.length (m.allocate size fill).2.1:=by
  have:∀r:Mach×SV×Int,r=m.allocate size fill→r.2.1=SV.zero∨∃x,r.2.1.arr=some x:=fun r hr=>by
   subst hr
   unfold Mach.allocate
   repeat' split
   all_goals first | exact .inl rfl | exact .inr ⟨_,rfl⟩
  rcases this _ rfl with e | ⟨x,e⟩
  ·rw [e]
   exact zero_under _
  exact absurd e (hne x)
 generalize m.allocate size fill=R at *
 obtain⟨O1,hO1⟩:∃O1,O1=O.set 2 (.cells (mcells u R.1)):=⟨_,rfl⟩
 have hlen:O.length=O1.length:=by rw [hO1];simp
 simp only [←hO1] at hcall hup1 ⊢
 rw [hlen] at hup1 hvu
 refine zf true O.length Try.func100 Try.ntmps100 ?_
 dsimp only [Tmp,TypeId,slotsOf]
 refine zh1 (za0 ?_)
 refine awp_frzk 4 0 ([aI i.to,aI i.op,aI i.n,eIs i.args]) rfl rfl (by rfl) ?_
 simp -dsimp only [simprocAttr,↓vpre,zp]
 refine zh2 (za0 ?_)
 refine awp_block ?_
 refine zg1 ?_
 simp -dsimp only [simprocAttr,↓vpre,zp,hd15]
 refine za0 ?_
 refine zu0 rfl ?_
 refine zg1 ?_
 simp -dsimp only [simprocAttr,↓vpre,zp,hd16]
 refine za0 ?_
 refine zw0 rfl ?_
 refine zh1 ?_
 refine .inr (.inl ⟨_,_,hcall _,.inl (later_intro ?_)⟩)
 simp -dsimp only [simprocAttr,↓vpre,zp,hlen]
 refine⟨ob (by kernel_rfl),?_⟩
 refine za0 ?_
 refine awp_ret ?_
 simp -dsimp only [simprocAttr,↓vpre,zp,zr,Try.results100,hlen]
 exact⟨hup1,resW hvu⟩
theorem effect_go{u:Unt}{m:Mach}{O:List AObj}(hup:∀o∈O,o.upto O.length)(h0:O[2]?=some (.cells (mcells u m)))(i:Ins)(size fill:SV)(hs:SV.Under O.length size)(hf:SV.Under O.length fill)
  (hop:i.op=16) (h1:0≤m.left) (h2:m.left≤2 ^ 40) (hov:m.short=false) (hk:size.kind=0) (hn1:0≤size.n) (hn2:size.n≤1024) (hp:size.n≤m.left) :
  ECall Try.prog 100 O [.mp 2 0,i.enc,.lst 4 [size.enc,fill.enc] .sh] (fun r O'=>r=.tup [.agg [aI 3,aI 0,.lst 4 [] .sh,.mp (O.length+6) 0],aI 0]∧O'=O.set 2 (.cells (mcells u (m.pay size.n))) ++
   [.gone,.cells [aI 3,aI 0,.lst 4 [] .sh,.mp (O.length+6) 0],.gone,.gone,.cells [aI 3,aI 0,.lst 4 [] .ex,.mp (O.length+6) 0],.cells (cellsAll ((List.replicate size.n.toNat fill).map SV.enc)),.cells [.ms (O.length+5) 0 size.n.toNat size.n.toNat]]):=by
 have hd15:decide (i.op=15)=false:=decide_eq_false (by omega)
 have hd16:decide (i.op=16)=true:=decide_eq_true (by omega)
 have hupX:∀o∈O++[.gone,.cells [aI 0,aI 0,.lst 4 [] .ex,.v (.pointer none)]],o.upto (O++[AObj.gone,.cells [aI 0,aI 0,.lst 4 [] .ex,.v (.pointer none)]]).length:=fun o ho=>by
  rcases List.mem_append.1 ho with ho | ho
  ·exact AObj.upto_mono (by simp) (hup o ho)
  simp only [List.mem_cons,List.mem_nil_iff,or_false] at ho
  rcases ho with rfl | rfl
  ·trivial
  simp [AObj.upto,uptoL,AVal.upto]
 have hlX:(O++[AObj.gone,.cells [aI 0,aI 0,.lst 4 [] .ex,.v (.pointer none)]]).length=O.length+2:=by simp
 have hcall:=allocate_go hupX (at_left h0) size fill (hs.mono (by simp)) (hf.mono (by simp)) h1 h2 hov hk hn1 hn2 hp
 have h01:=set_self h0 (.cells (mcells u (m.pay size.n)))
 have hup1:=uptoO_cells hup h0 (ds:=mcells u (m.pay size.n)) (fun h=>mcells_upto h (pay_sid m size.n))
 rw [set_left h0,hlX] at hcall
 obtain⟨O1,hO1⟩:∃O1,O1=O.set 2 (.cells (mcells u (m.pay size.n))):=⟨_,rfl⟩
 have hlen:O.length=O1.length:=by rw [hO1];simp
 simp only [←hO1] at hcall hup1 ⊢
 rw [hlen] at hup1
 have hmem:∀v∈List.replicate size.n.toNat fill,SV.Under (O1.length+7) v:=fun v hv=>by
  rw [(List.mem_replicate.1 hv).2]
  exact hf.mono (by omega)
 have hc:=SV.cells_upto hmem
 generalize hrow:cellsAll ((List.replicate size.n.toNat fill).map SV.enc)=row at *
 refine zf true (O.length+7) Try.func100 Try.ntmps100 ?_
 dsimp only [Tmp,TypeId,slotsOf]
 refine zh1 (za0 ?_)
 refine awp_frzk 4 0 ([aI i.to,aI i.op,aI i.n,eIs i.args]) rfl rfl (by rfl) ?_
 simp -dsimp only [simprocAttr,↓vpre,zp]
 refine zh2 (za0 ?_)
 refine awp_block ?_
 refine zg1 ?_
 simp -dsimp only [simprocAttr,↓vpre,zp,hd15]
 refine za0 ?_
 refine zu0 rfl ?_
 refine zg1 ?_
 simp -dsimp only [simprocAttr,↓vpre,zp,hd16]
 refine za0 ?_
 refine zw0 rfl ?_
 refine zh1 ?_
 refine .inr (.inl ⟨_,_,hcall,.inl (later_intro ?_)⟩)
 simp -dsimp only [simprocAttr,↓vpre,zp,hlen]
 refine⟨ob (by kernel_rfl),?_⟩
 refine za0 ?_
 refine awp_ret ?_
 simp -dsimp only [simprocAttr,↓vpre,zp,zr,Try.results100,hlen]
 rw [take_newk]
 refine⟨fun o ho=>?_,by simp [uptoL,AVal.upto],rfl⟩
 rcases List.mem_append.1 ho with ho | ho
 ·exact AObj.upto_mono (by omega) (hup1 o ho)
 simp only [List.take_succ_cons,List.take_zero,List.mem_cons,List.mem_nil_iff,or_false] at ho
 rcases ho with rfl | rfl | rfl | rfl | rfl | rfl | rfl
 ·trivial
 ·simp [AObj.upto,uptoL,AVal.upto]
 ·trivial
 ·trivial
 ·simp [AObj.upto,uptoL,AVal.upto]
 ·exact hc
 simp [AObj.upto,uptoL,AVal.upto]
theorem effect_check{u:Unt}{m:Mach}{O:List AObj}(hup:∀o∈O,o.upto O.length)(i:Ins)(x y:SV)(hx:SV.Under O.length x)(hy:SV.Under O.length y)(hm0:2<O.length)
  (hop:i.op=18):ECall Try.prog 100 O [.mp 2 0,i.enc,.lst 4 [x.enc,y.enc] .sh] (fun r O'=>r=.tup [(m.effect i [x,y]).2.1.enc,aI (m.effect i [x,y]).2.2]∧O'=O):=by
 have hl:∀v∈[x,y],SV.Under O.length v:=fun v hv=>by
  simp only [List.mem_cons,List.mem_nil_iff,or_false] at hv
  rcases hv with rfl | rfl
  ·exact hx
  exact hy
 have hd15:decide (i.op=15)=false:=decide_eq_false (by omega)
 have hd16:decide (i.op=16)=false:=decide_eq_false (by omega)
 have hd18:decide (i.op=18)=true:=decide_eq_true (by omega)
 have hall:=all_at hup [x,y] hl 0
 have ha:argS [x,y] 0=x∧argS [x,y] 1=y:=⟨rfl,rfl⟩
 cases hk:allK [x,y] 0 with
 | false =>
  simp only [hk,List.map_cons,List.map_nil] at hall
  refine zf true O.length Try.func100 Try.ntmps100 ?_
  dsimp only [Tmp,TypeId,slotsOf]
  refine zh1 (za0 ?_)
  refine awp_frzk 4 0 ([aI i.to,aI i.op,aI i.n,eIs i.args]) rfl rfl (by rfl) ?_
  simp -dsimp only [simprocAttr,↓vpre,zp]
  refine zh2 (za0 ?_)
  refine awp_block ?_
  refine zg1 ?_
  simp -dsimp only [simprocAttr,↓vpre,zp,hd15]
  refine za0 ?_
  refine zu0 rfl ?_
  refine zg1 ?_
  simp -dsimp only [simprocAttr,↓vpre,zp,hd16]
  refine za0 ?_
  refine zu0 rfl ?_
  refine zg1 ?_
  simp -dsimp only [simprocAttr,↓vpre,zp,hd18]
  refine za0 ?_
  refine zw0 rfl ?_
  refine zh2 ?_
  refine .inr (.inr ⟨_,hall _,later_intro (zj ?_)⟩)
  refine za0 ?_
  refine zw0 rfl ?_
  refine zh1 (za0 ?_)
  refine awp_ret ?_
  simp -dsimp only [simprocAttr,↓vpre,zp,zr,Try.results100,zero_agg]
  refine⟨hup,zeroW,?_⟩
  simp [Mach.effect,hop,hk]
 | true =>
  simp only [hk,List.map_cons,List.map_nil] at hall
  by_cases hb:x.n<0∨y.n≤x.n
  ·have hbd:decide (x.n<0)=true∨(decide (x.n<0)=false∧decide (y.n≤x.n)=true):=by
    by_cases h1:x.n<0
    ·exact .inl (decide_eq_true h1)
    exact .inr ⟨decide_eq_false h1,decide_eq_true (by omega)⟩
   rcases hbd with hbd | ⟨hbd,hbd2⟩
   ·refine zf true O.length Try.func100 Try.ntmps100 ?_
    dsimp only [Tmp,TypeId,slotsOf]
    refine zh1 (za0 ?_)
    refine awp_frzk 4 0 ([aI i.to,aI i.op,aI i.n,eIs i.args]) rfl rfl (by rfl) ?_
    simp -dsimp only [simprocAttr,↓vpre,zp]
    refine zh2 (za0 ?_)
    refine awp_block ?_
    refine zg1 ?_
    simp -dsimp only [simprocAttr,↓vpre,zp,hd15]
    refine za0 ?_
    refine zu0 rfl ?_
    refine zg1 ?_
    simp -dsimp only [simprocAttr,↓vpre,zp,hd16]
    refine za0 ?_
    refine zu0 rfl ?_
    refine zg1 ?_
    simp -dsimp only [simprocAttr,↓vpre,zp,hd18]
    refine za0 ?_
    refine zw0 rfl ?_
    refine zh2 ?_
    refine .inr (.inr ⟨_,hall _,later_intro (zj ?_)⟩)
    refine za0 ?_
    refine zu0 rfl ?_
    refine zb0 ?_
    refine zg2 ?_
    simp -dsimp only [simprocAttr,↓vpre,zp,hbd]
    refine⟨ob (by kernel_rfl),?_⟩
    refine za0 ?_
    refine zw0 rfl ?_
    refine zh1 (za0 ?_)
    refine awp_ret ?_
    simp -dsimp only [simprocAttr,↓vpre,zp,zr,Try.results100,zero_agg]
    refine⟨hup,zeroW,?_⟩
    simp [Mach.effect,hop,hk,ha,hb]
   refine zf true O.length Try.func100 Try.ntmps100 ?_
   dsimp only [Tmp,TypeId,slotsOf]
   refine zh1 (za0 ?_)
   refine awp_frzk 4 0 ([aI i.to,aI i.op,aI i.n,eIs i.args]) rfl rfl (by rfl) ?_
   simp -dsimp only [simprocAttr,↓vpre,zp]
   refine zh2 (za0 ?_)
   refine awp_block ?_
   refine zg1 ?_
   simp -dsimp only [simprocAttr,↓vpre,zp,hd15]
   refine za0 ?_
   refine zu0 rfl ?_
   refine zg1 ?_
   simp -dsimp only [simprocAttr,↓vpre,zp,hd16]
   refine za0 ?_
   refine zu0 rfl ?_
   refine zg1 ?_
   simp -dsimp only [simprocAttr,↓vpre,zp,hd18]
   refine za0 ?_
   refine zw0 rfl ?_
   refine zh2 ?_
   refine .inr (.inr ⟨_,hall _,later_intro (zj ?_)⟩)
   refine za0 ?_
   refine zu0 rfl ?_
   refine zb0 ?_
   refine zg2 ?_
   simp -dsimp only [simprocAttr,↓vpre,zp,hbd,hbd2]
   refine⟨ob (by kernel_rfl),?_⟩
   refine za0 ?_
   refine zw0 rfl ?_
   refine zh1 (za0 ?_)
   refine awp_ret ?_
   simp -dsimp only [simprocAttr,↓vpre,zp,zr,Try.results100,zero_agg]
   refine⟨hup,zeroW,?_⟩
   simp [Mach.effect,hop,hk,ha,hb]
  have hbd:decide (x.n<0)=false:=decide_eq_false (by omega)
  have hbd2:decide (y.n≤x.n)=false:=decide_eq_false (by omega)
  refine zf true O.length Try.func100 Try.ntmps100 ?_
  dsimp only [Tmp,TypeId,slotsOf]
  refine zh1 (za0 ?_)
  refine awp_frzk 4 0 ([aI i.to,aI i.op,aI i.n,eIs i.args]) rfl rfl (by rfl) ?_
  simp -dsimp only [simprocAttr,↓vpre,zp]
  refine zh2 (za0 ?_)
  refine awp_block ?_
  refine zg1 ?_
  simp -dsimp only [simprocAttr,↓vpre,zp,hd15]
  refine za0 ?_
  refine zu0 rfl ?_
  refine zg1 ?_
  simp -dsimp only [simprocAttr,↓vpre,zp,hd16]
  refine za0 ?_
  refine zu0 rfl ?_
  refine zg1 ?_
  simp -dsimp only [simprocAttr,↓vpre,zp,hd18]
  refine za0 ?_
  refine zw0 rfl ?_
  refine zh2 ?_
  refine .inr (.inr ⟨_,hall _,later_intro (zj ?_)⟩)
  refine za0 ?_
  refine zu0 rfl ?_
  refine zb0 ?_
  refine zg2 ?_
  simp -dsimp only [simprocAttr,↓vpre,zp,hbd,hbd2]
  refine⟨ob (by kernel_rfl),?_⟩
  refine za0 ?_
  refine zu0 rfl ?_
  refine zb0 ?_
  refine zh1 ?_
  refine .inl ⟨_,wordOf_spec 0,by simp only [uptoL,AVal.upto,zt,zu,aI_upto],later_intro ?_⟩
  simp -dsimp only [simprocAttr,↓vpre,zp,word_cells]
  refine za0 ?_
  refine awp_ret ?_
  simp -dsimp only [simprocAttr,↓vpre,zp,zr,Try.results100,word_agg]
  refine⟨hup,wordW,?_⟩
  simp [Mach.effect,hop,hk,ha,hb]
def ArrStep(m m':Mach)(a:Option Nat)(O O':List AObj):Prop :=
 (O'=O∧m'=m)∨∃(vid bid k:Nat) (z:SV) (l:List SV),a=some vid∧O[vid]?=some (.cells [.ms bid 0 l.length l.length])∧O[bid]?=some (.cells (cellsAll (l.map SV.enc)))∧k<l.length∧l=Mach.arrOf m.heap a∧SV.Under O.length z ∧
  O'=O.set bid (.cells (cellsAll ((l.set k z).map SV.enc)))∧m' = { m with heap:=Mach.setArr m.heap a (l.set k z) }
theorem effect_arr{m:Mach}{O:List AObj}(hup:∀o∈O,o.upto O.length)(i:Ins)(args:List SV)(hl:∀v∈args,SV.Under O.length v)(x:SV)(hx:args[0]?=some x)
  (h15:i.op≠15) (h16:i.op≠16) (h18:i.op≠18) (h1:i.op≠17→∃y,args[1]?=some y) (h2:i.op≠17→i.op≠19→∃z,args[2]?=some z)
  (hu:∀v∈Mach.arrOf m.heap x.arr,SV.Under O.length v) (ha:x.kind=3→∃vid bid,x.arr=some vid∧O[vid]?=some (.cells [.ms bid 0 (Mach.arrOf m.heap x.arr).length (Mach.arrOf m.heap x.arr).length])∧O[bid]?=some (.cells (cellsAll ((Mach.arrOf m.heap x.arr).map SV.enc)))) :
  ∃O',ECall Try.prog 100 O [.mp 2 0,i.enc,.lst 4 (args.map SV.enc) .sh] (fun r O1=>r=.tup [(m.effect i args).2.1.enc,aI (m.effect i args).2.2]∧O1=O')∧ArrStep m (m.effect i args).1 x.arr O O':=by
 have hax:=argS_of hx
 have hd15:decide (i.op=15)=false:=decide_eq_false (by omega)
 have hd16:decide (i.op=16)=false:=decide_eq_false (by omega)
 have hd18:decide (i.op=18)=false:=decide_eq_false (by omega)
 by_cases hk:x.kind=3
 ·have hk3:decide (x.kind=3)=true:=decide_eq_true hk
  obtain⟨vid,bid,e1,e2,e3⟩:=ha hk
  have heP:eP x.arr=.mp vid 0:=by rw [e1];rfl
  have hLu:=hu
  generalize hL:Mach.arrOf m.heap x.arr=L at *
  have e2':∀X,(O++X)[vid]?=some (.cells [.ms bid 0 L.length L.length]):=fun X=>at_left e2
  have e3':∀X,(O++X)[bid]?=some (.cells (cellsAll (L.map SV.enc))):=fun X=>at_left e3
  by_cases h17:i.op=17
  ·have hd17:decide (i.op=17)=true:=decide_eq_true h17
   have hres:m.effect i args=(m,.word L.length,0):=by simp [Mach.effect,h17,hax,hk,hL]
   rw [hres]
   refine⟨O,?_,.inl ⟨rfl,rfl⟩⟩
   refine zf true O.length Try.func100 Try.ntmps100 ?_
   dsimp only [Tmp,TypeId,slotsOf]
   refine zh1 (za0 ?_)
   refine awp_frzk 4 0 ([aI i.to,aI i.op,aI i.n,eIs i.args]) rfl rfl (by rfl) ?_
   simp -dsimp only [simprocAttr,↓vpre,zp]
   refine zh2 (za0 ?_)
   refine awp_block ?_
   refine zg1 ?_
   simp -dsimp only [simprocAttr,↓vpre,zp,hd15]
   refine za0 ?_
   refine zu0 rfl ?_
   refine zg1 ?_
   simp -dsimp only [simprocAttr,↓vpre,zp,hd16]
   refine za0 ?_
   refine zu0 rfl ?_
   refine zg1 ?_
   simp -dsimp only [simprocAttr,↓vpre,zp,hd18]
   refine za0 ?_
   refine zu0 rfl ?_
   refine zb1 ?_
   refine zg2 ?_
   simp -dsimp only [simprocAttr,↓vpre,zp,hx,hk3,hd17]
   refine za0 ?_
   refine zu0 rfl ?_
   refine zb0 ?_
   refine zg1 ?_
   simp -dsimp only [simprocAttr,↓vpre,zp,hx,heP,e2']
   refine za0 ?_
   refine zg2 ?_
   simp -dsimp only [simprocAttr,↓vpre,zp,hd17]
   refine za0 ?_
   refine zw0 rfl ?_
   refine zh1 ?_
   refine .inl ⟨_,wordOf_spec L.length,by simp only [uptoL,AVal.upto,zt,zu,aI_upto],later_intro ?_⟩
   simp -dsimp only [simprocAttr,↓vpre,zp,word_cells]
   refine za0 ?_
   refine awp_ret ?_
   simp -dsimp only [simprocAttr,↓vpre,zp,zr,Try.results100,word_agg]
   exact⟨hup,wordW⟩
  have hd17:decide (i.op=17)=false:=decide_eq_false h17
  obtain⟨y,hy⟩:=h1 h17
  have hay:=argS_of hy
  by_cases hyk0:y.kind=0
  ·have hyk:decide (y.kind=0)=true:=decide_eq_true hyk0
   by_cases hb:y.n<0∨(L.length:Int)≤y.n
   ·have hres:m.effect i args=(m,.zero,2):=by simp [Mach.effect,h15,h16,h18,h17,hax,hay,hk,hyk0,hL,hb]
    rw [hres]
    refine⟨O,?_,.inl ⟨rfl,rfl⟩⟩
    rcases (show y.n<0∨(¬y.n<0∧(L.length:Int)≤y.n) by omega) with hb1 | ⟨hb1,hb2⟩
    ·have hbd:decide (y.n<0)=true:=decide_eq_true hb1
     refine zf true O.length Try.func100 Try.ntmps100 ?_
     dsimp only [Tmp,TypeId,slotsOf]
     refine zh1 (za0 ?_)
     refine awp_frzk 4 0 ([aI i.to,aI i.op,aI i.n,eIs i.args]) rfl rfl (by rfl) ?_
     simp -dsimp only [simprocAttr,↓vpre,zp]
     refine zh2 (za0 ?_)
     refine awp_block ?_
     refine zg1 ?_
     simp -dsimp only [simprocAttr,↓vpre,zp,hd15]
     refine za0 ?_
     refine zu0 rfl ?_
     refine zg1 ?_
     simp -dsimp only [simprocAttr,↓vpre,zp,hd16]
     refine za0 ?_
     refine zu0 rfl ?_
     refine zg1 ?_
     simp -dsimp only [simprocAttr,↓vpre,zp,hd18]
     refine za0 ?_
     refine zu0 rfl ?_
     refine zb1 ?_
     refine zg2 ?_
     simp -dsimp only [simprocAttr,↓vpre,zp,hx,hy,hk3,hd17,hyk]
     refine za0 ?_
     refine zu0 rfl ?_
     refine zb0 ?_
     refine zg1 ?_
     simp -dsimp only [simprocAttr,↓vpre,zp,hx,heP,e2']
     refine za0 ?_
     refine zg2 ?_
     simp -dsimp only [simprocAttr,↓vpre,zp,hd17]
     refine za0 ?_
     refine zu0 rfl ?_
     refine zb0 ?_
     refine zg1 ?_
     simp -dsimp only [simprocAttr,↓vpre,zp,hy]
     refine za0 ?_
     refine zg2 ?_
     simp -dsimp only [simprocAttr,↓vpre,zp,hbd]
     refine za0 ?_
     refine zw0 rfl ?_
     refine zh1 (za0 ?_)
     refine awp_ret ?_
     simp -dsimp only [simprocAttr,↓vpre,zp,zr,Try.results100,zero_agg]
     exact⟨hup,zeroW⟩
    have hbd:decide (y.n<0)=false:=decide_eq_false hb1
    have hbd2:decide ((L.length:Int)≤y.n)=true:=decide_eq_true hb2
    refine zf true O.length Try.func100 Try.ntmps100 ?_
    dsimp only [Tmp,TypeId,slotsOf]
    refine zh1 (za0 ?_)
    refine awp_frzk 4 0 ([aI i.to,aI i.op,aI i.n,eIs i.args]) rfl rfl (by rfl) ?_
    simp -dsimp only [simprocAttr,↓vpre,zp]
    refine zh2 (za0 ?_)
    refine awp_block ?_
    refine zg1 ?_
    simp -dsimp only [simprocAttr,↓vpre,zp,hd15]
    refine za0 ?_
    refine zu0 rfl ?_
    refine zg1 ?_
    simp -dsimp only [simprocAttr,↓vpre,zp,hd16]
    refine za0 ?_
    refine zu0 rfl ?_
    refine zg1 ?_
    simp -dsimp only [simprocAttr,↓vpre,zp,hd18]
    refine za0 ?_
    refine zu0 rfl ?_
    refine zb1 ?_
    refine zg2 ?_
    simp -dsimp only [simprocAttr,↓vpre,zp,hx,hy,hk3,hd17,hyk]
    refine za0 ?_
    refine zu0 rfl ?_
    refine zb0 ?_
    refine zg1 ?_
    simp -dsimp only [simprocAttr,↓vpre,zp,hx,heP,e2']
    refine za0 ?_
    refine zg2 ?_
    simp -dsimp only [simprocAttr,↓vpre,zp,hd17]
    refine za0 ?_
    refine zu0 rfl ?_
    refine zb0 ?_
    refine zg1 ?_
    simp -dsimp only [simprocAttr,↓vpre,zp,hy]
    refine za0 ?_
    refine zg2 ?_
    simp -dsimp only [simprocAttr,↓vpre,zp,hbd,hbd2]
    refine za0 ?_
    refine zw0 rfl ?_
    refine zh1 (za0 ?_)
    refine awp_ret ?_
    simp -dsimp only [simprocAttr,↓vpre,zp,zr,Try.results100,zero_agg]
    exact⟨hup,zeroW⟩
   have hbd:decide (y.n<0)=false:=decide_eq_false (by omega)
   have hbd2:decide ((L.length:Int)≤y.n)=false:=decide_eq_false (by omega)
   obtain⟨k,hk'⟩:∃k:Nat,y.n=k:=⟨y.n.toNat,by omega⟩
   have hkl:k<L.length:=by omega
   have hrow:=SV.row_len L
   by_cases h19:i.op=19
   ·have hd19:decide (i.op=19)=true:=decide_eq_true h19
    obtain⟨z,hz⟩:∃z,L[k]?=some z:=⟨L[k],by simp [hkl]⟩
    have haz:=argS_of hz
    have hget:=SV.row_get hz
    have hzu:SV.Under O.length z:=hLu z (List.mem_of_getElem? hz)
    have hres:m.effect i args=(m,z,0):=by simp [Mach.effect,h17,h19,hax,hay,hk,hyk0,hL,hb,hk',haz,hkl]
    rw [hres]
    refine⟨O,?_,.inl ⟨rfl,rfl⟩⟩
    refine zf true O.length Try.func100 Try.ntmps100 ?_
    dsimp only [Tmp,TypeId,slotsOf]
    refine zh1 (za0 ?_)
    refine awp_frzk 4 0 ([aI i.to,aI i.op,aI i.n,eIs i.args]) rfl rfl (by rfl) ?_
    simp -dsimp only [simprocAttr,↓vpre,zp]
    refine zh2 (za0 ?_)
    refine awp_block ?_
    refine zg1 ?_
    simp -dsimp only [simprocAttr,↓vpre,zp,hd15]
    refine za0 ?_
    refine zu0 rfl ?_
    refine zg1 ?_
    simp -dsimp only [simprocAttr,↓vpre,zp,hd16]
    refine za0 ?_
    refine zu0 rfl ?_
    refine zg1 ?_
    simp -dsimp only [simprocAttr,↓vpre,zp,hd18]
    refine za0 ?_
    refine zu0 rfl ?_
    refine zb1 ?_
    refine zg2 ?_
    simp -dsimp only [simprocAttr,↓vpre,zp,hx,hy,hk3,hd17,hyk]
    refine za0 ?_
    refine zu0 rfl ?_
    refine zb0 ?_
    refine zg1 ?_
    simp -dsimp only [simprocAttr,↓vpre,zp,hx,heP,e2']
    refine za0 ?_
    refine zg2 ?_
    simp -dsimp only [simprocAttr,↓vpre,zp,hd17]
    refine za0 ?_
    refine zu0 rfl ?_
    refine zb0 ?_
    refine zg1 ?_
    simp -dsimp only [simprocAttr,↓vpre,zp,hy]
    refine za0 ?_
    refine zg2 ?_
    simp -dsimp only [simprocAttr,↓vpre,zp,hbd,hbd2]
    refine za0 ?_
    refine zu0 rfl ?_
    refine zb0 ?_
    refine zg2 ?_
    simp -dsimp only [simprocAttr,↓vpre,zp,hd19]
    refine za0 ?_
    refine zw0 rfl ?_
    refine zg1 ?_
    simp -dsimp only [simprocAttr,↓vpre,zp,hk',e3',hrow,hget]
    repeat(refine⟨by omega,?_⟩)
    refine za0 ?_
    refine awp_ret ?_
    simp -dsimp only [simprocAttr,↓vpre,zp,zr,Try.results100]
    exact⟨hup,resW hzu⟩
   have hd19:decide (i.op=19)=false:=decide_eq_false h19
   obtain⟨z,hz⟩:=h2 h17 h19
   have haz:=argS_of hz
   have hset:=SV.row_set hkl z
   rw [SV.enc_cells] at hset
   have hzu:SV.Under O.length z:=hl z (List.mem_of_getElem? hz)
   have hres:m.effect i args=({ m with heap:=Mach.setArr m.heap x.arr (L.set k z) },.word 0,0):=by simp [Mach.effect,h15,h16,h18,h17,h19,hax,hay,hk,hyk0,hL,hb,hk',haz,hkl]
   rw [hres]
   obtain⟨O1,hO1⟩:∃O1,O1=O.set bid (.cells (cellsAll ((L.set k z).map SV.enc))):=⟨_,rfl⟩
   have hlen:O.length=O1.length:=by rw [hO1];simp
   have hup1:∀o∈O1,o.upto O1.length:=by
    rw [←hlen,hO1]
    refine uptoO_set hup (SV.cells_upto fun v hv=>?_)
    rcases List.mem_or_eq_of_mem_set hv with q | q
    ·exact hLu v q
    exact q ▸ hzu
   have hs1:∀X y,(O++X).set bid y=O.set bid y++X:=fun X y=>set_left e3
   refine⟨O1,?_,.inr ⟨vid,bid,k,z,L,e1,e2,e3,hkl,hL.symm,hzu,hO1,rfl⟩⟩
   refine zf true O.length Try.func100 Try.ntmps100 ?_
   dsimp only [Tmp,TypeId,slotsOf]
   refine zh1 (za0 ?_)
   refine awp_frzk 4 0 ([aI i.to,aI i.op,aI i.n,eIs i.args]) rfl rfl (by rfl) ?_
   simp -dsimp only [simprocAttr,↓vpre,zp]
   refine zh2 (za0 ?_)
   refine awp_block ?_
   refine zg1 ?_
   simp -dsimp only [simprocAttr,↓vpre,zp,hd15]
   refine za0 ?_
   refine zu0 rfl ?_
   refine zg1 ?_
   simp -dsimp only [simprocAttr,↓vpre,zp,hd16]
   refine za0 ?_
   refine zu0 rfl ?_
   refine zg1 ?_
   simp -dsimp only [simprocAttr,↓vpre,zp,hd18]
   refine za0 ?_
   refine zu0 rfl ?_
   refine zb1 ?_
   refine zg2 ?_
   simp -dsimp only [simprocAttr,↓vpre,zp,hx,hy,hk3,hd17,hyk]
   refine za0 ?_
   refine zu0 rfl ?_
   refine zb0 ?_
   refine zg1 ?_
   simp -dsimp only [simprocAttr,↓vpre,zp,hx,heP,e2']
   refine za0 ?_
   refine zg2 ?_
   simp -dsimp only [simprocAttr,↓vpre,zp,hd17]
   refine za0 ?_
   refine zu0 rfl ?_
   refine zb0 ?_
   refine zg1 ?_
   simp -dsimp only [simprocAttr,↓vpre,zp,hy]
   refine za0 ?_
   refine zg2 ?_
   simp -dsimp only [simprocAttr,↓vpre,zp,hbd,hbd2]
   refine za0 ?_
   refine zu0 rfl ?_
   refine zb0 ?_
   refine zg2 ?_
   simp -dsimp only [simprocAttr,↓vpre,zp,hd19]
   refine za0 ?_
   refine zu0 rfl ?_
   refine zb0 ?_
   refine zg1 ?_
   simp -dsimp only [simprocAttr,↓vpre,zp,hk',hz,e3',hrow,SV.cells_len,hset,hs1,←hO1]
   repeat(refine⟨by omega,?_⟩)
   refine za0 ?_
   refine zg1 ?_
   simp -dsimp only [simprocAttr,↓vpre,zp,hlen]
   refine .inl ⟨_,wordOf_spec 0,by simp only [uptoL,AVal.upto,zt,zu,aI_upto],later_intro ?_⟩
   simp -dsimp only [simprocAttr,↓vpre,zp,word_cells]
   refine za0 ?_
   refine awp_ret ?_
   simp -dsimp only [simprocAttr,↓vpre,zp,zr,Try.results100,word_agg,hlen]
   exact⟨hup1,wordW⟩
  have hyk:decide (y.kind=0)=false:=decide_eq_false hyk0
  have hres:m.effect i args=(m,.zero,5):=by simp [Mach.effect,h15,h16,h18,h17,hax,hay,hk,hyk0]
  rw [hres]
  refine⟨O,?_,.inl ⟨rfl,rfl⟩⟩
  refine zf true O.length Try.func100 Try.ntmps100 ?_
  dsimp only [Tmp,TypeId,slotsOf]
  refine zh1 (za0 ?_)
  refine awp_frzk 4 0 ([aI i.to,aI i.op,aI i.n,eIs i.args]) rfl rfl (by rfl) ?_
  simp -dsimp only [simprocAttr,↓vpre,zp]
  refine zh2 (za0 ?_)
  refine awp_block ?_
  refine zg1 ?_
  simp -dsimp only [simprocAttr,↓vpre,zp,hd15]
  refine za0 ?_
  refine zu0 rfl ?_
  refine zg1 ?_
  simp -dsimp only [simprocAttr,↓vpre,zp,hd16]
  refine za0 ?_
  refine zu0 rfl ?_
  refine zg1 ?_
  simp -dsimp only [simprocAttr,↓vpre,zp,hd18]
  refine za0 ?_
  refine zu0 rfl ?_
  refine zb1 ?_
  refine zg2 ?_
  simp -dsimp only [simprocAttr,↓vpre,zp,hx,hy,hk3,hd17,hyk]
  refine za0 ?_
  refine zw0 rfl ?_
  refine zh1 (za0 ?_)
  refine awp_ret ?_
  simp -dsimp only [simprocAttr,↓vpre,zp,zr,Try.results100,zero_agg]
  exact⟨hup,zeroW⟩
 have hk3:decide (x.kind=3)=false:=decide_eq_false hk
 have hres:m.effect i args=(m,.zero,5):=by simp [Mach.effect,h15,h16,h18,hax,hk]
 rw [hres]
 refine⟨O,?_,.inl ⟨rfl,rfl⟩⟩
 refine zf true O.length Try.func100 Try.ntmps100 ?_
 dsimp only [Tmp,TypeId,slotsOf]
 refine zh1 (za0 ?_)
 refine awp_frzk 4 0 ([aI i.to,aI i.op,aI i.n,eIs i.args]) rfl rfl (by rfl) ?_
 simp -dsimp only [simprocAttr,↓vpre,zp]
 refine zh2 (za0 ?_)
 refine awp_block ?_
 refine zg1 ?_
 simp -dsimp only [simprocAttr,↓vpre,zp,hd15]
 refine za0 ?_
 refine zu0 rfl ?_
 refine zg1 ?_
 simp -dsimp only [simprocAttr,↓vpre,zp,hd16]
 refine za0 ?_
 refine zu0 rfl ?_
 refine zg1 ?_
 simp -dsimp only [simprocAttr,↓vpre,zp,hd18]
 refine za0 ?_
 refine zu0 rfl ?_
 refine zb1 ?_
 refine zg2 ?_
 simp -dsimp only [simprocAttr,↓vpre,zp,hx,hk3]
 refine za0 ?_
 refine zw0 rfl ?_
 refine zh1 (za0 ?_)
 refine awp_ret ?_
 simp -dsimp only [simprocAttr,↓vpre,zp,zr,Try.results100,zero_agg]
 exact⟨hup,zeroW⟩
theorem exec_int{u:Unt}{m:Mach}{O:List AObj}(hup:∀o∈O,o.upto O.length)(i:Ins)(args:List SV)(hl:∀v∈args,SV.Under O.length v)(hop:i.op=0):ECall Try.prog 75 O [.mp 2 0,i.enc,.lst 4 (args.map SV.enc) .sh] (fun r O'=>r=.tup [(m.exec i args).2.1.enc,aI (m.exec i args).2.2]∧O'=O):=by
 refine zf true O.length Try.func75 Try.ntmps75 ?_
 dsimp only [Tmp,TypeId,slotsOf]
 refine zh1 (za0 ?_)
 refine awp_frzk 4 0 ([aI i.to,aI i.op,aI i.n,eIs i.args]) rfl rfl (by rfl) ?_
 simp -dsimp only [simprocAttr,↓vpre,zp]
 refine zh2 (za0 ?_)
 refine awp_block ?_
 refine zh1 (za0 ?_)
 apply zk0 rfl<;>intro h
 ·refine zh1 ?_
  refine .inl ⟨_,wordOf_spec i.n,by simp only [uptoL,AVal.upto,zt,zu,aI_upto],later_intro ?_⟩
  simp -dsimp only [simprocAttr,↓vpre,zp,word_cells]
  refine za0 ?_
  refine awp_ret ?_
  simp -dsimp only [simprocAttr,↓vpre,zp,zr,Try.results75,word_agg]
  refine⟨hup,wordW,?_⟩
  simp [Mach.exec,hop]
 exact af h (by omega)
theorem exec_arith{u:Unt}{m:Mach}{O:List AObj}(hup:∀o∈O,o.upto O.length)(i:Ins)(args:List SV)(hl:∀v∈args,SV.Under O.length v)(hop:1≤i.op∧i.op≤7)(x y:SV)(hx:args[0]?=some x)(hy:args[1]?=some y)(hxw:x.kind=0→isW x.n)(hyw:y.kind=0→isW y.n):ECall Try.prog 75 O [.mp 2 0,i.enc,.lst 4 (args.map SV.enc) .sh] (fun r O'=>r=.tup [(m.exec i args).2.1.enc,aI (m.exec i args).2.2]∧O'=O):=by
 have hax:=argS_of hx
 have hay:=argS_of hy
 have hall:=all_at hup args hl 0
 have h0:i.op≠0:=by omega
 cases hk:allK args 0 with
 | false =>
  rw [hk] at hall
  refine zf true O.length Try.func75 Try.ntmps75 ?_
  dsimp only [Tmp,TypeId,slotsOf]
  refine zh1 (za0 ?_)
  refine awp_frzk 4 0 ([aI i.to,aI i.op,aI i.n,eIs i.args]) rfl rfl (by rfl) ?_
  simp -dsimp only [simprocAttr,↓vpre,zp]
  refine zh2 (za0 ?_)
  refine awp_block ?_
  refine zh1 (za0 ?_)
  apply zk0 rfl<;>intro h
  ·exact ab h (by omega)
  refine zh2 (za0 ?_)
  refine awp_mid0 (⟨82,[(0,.mp 2 0),(2,.lst 4 (args.map SV.enc) .sh),(4,.ip none [aI i.to,aI i.op,aI i.n,eIs i.args]),(6,.mp (O.length+1) 0),(7,aI 0),(9,aI i.op),(15,.v (.bool true))],O++[.gone,.cells [aI 0,aI 0,.lst 4 [] .ex,.v (.pointer none)]]⟩) ?_ ?_
  ·apply zk0 rfl<;>intro h
   ·refine awp_skip ?_
    show Covers _ _
    refine zq rfl ?_ ?_
    simp -dsimp only [simprocAttr,↓vpre,zp,zc]
    ·exact Sub.of_eq (by rw [h])
    rfl
   refine zh1 (za0 ?_)
   apply zk0 rfl<;>intro h
   ·refine awp_skip ?_
    show Covers _ _
    refine zq rfl ?_ ?_
    simp -dsimp only [simprocAttr,↓vpre,zp,zc]
    ·exact Sub.of_eq (by rw [h])
    rfl
   refine zh1 (za0 ?_)
   apply zk0 rfl<;>intro h
   ·refine awp_skip ?_
    show Covers _ _
    refine zq rfl ?_ ?_
    simp -dsimp only [simprocAttr,↓vpre,zp,zc]
    ·exact Sub.of_eq (by rw [h])
    rfl
   refine zh1 (za0 ?_)
   apply zk0 rfl<;>intro h
   ·refine awp_skip ?_
    show Covers _ _
    refine zq rfl ?_ ?_
    simp -dsimp only [simprocAttr,↓vpre,zp,zc]
    ·exact Sub.of_eq (by rw [h])
    rfl
   refine zh1 (za0 ?_)
   apply zk0 rfl<;>intro h
   ·refine awp_skip ?_
    show Covers _ _
    refine zq rfl ?_ ?_
    simp -dsimp only [simprocAttr,↓vpre,zp,zc]
    ·exact Sub.of_eq (by rw [h])
    rfl
   refine zh1 (za0 ?_)
   apply zk0 rfl<;>intro h
   ·refine awp_skip ?_
    show Covers _ _
    refine zq rfl ?_ ?_
    simp -dsimp only [simprocAttr,↓vpre,zp,zc]
    ·exact Sub.of_eq (by rw [h])
    rfl
   refine zh0 ?_
   refine at_intro ?_
   show Covers _ _
   refine zq rfl ?_ ?_
   simp -dsimp only [simprocAttr,↓vpre,zp,zc]
   ·exact Sub.of_eq (by rw [decide_eq_true (show i.op=7 by simp only [decide_eq_false_iff_not] at *;omega)])
   rfl
  refine zw0 rfl ?_
  refine zh2 ?_
  refine .inr (.inr ⟨_,hall _,later_intro (zj ?_)⟩)
  refine za0 ?_
  refine zw0 rfl ?_
  refine zh1 (za0 ?_)
  refine awp_ret ?_
  simp -dsimp only [simprocAttr,↓vpre,zp,zr,Try.results75,zero_agg]
  refine⟨hup,zeroW,?_⟩
  simp [Mach.exec,hop,h0,hk]
 | true =>
  rw [hk] at hall
  have hkx:x.kind=0:=by
   simp only [allK,List.all_eq_true,decide_eq_true_eq] at hk
   exact hk x (List.mem_of_getElem? hx)
  have hky:y.kind=0:=by
   simp only [allK,List.all_eq_true,decide_eq_true_eq] at hk
   exact hk y (List.mem_of_getElem? hy)
  have hbin:=binary_spec i.op x.n y.n (hxw hkx) (hyw hky)
  have hbu:=binaryM_under O.length i.op x.n y.n
  have hres:m.exec i args=(m,binaryM i.op x.n y.n):=by simp [Mach.exec,hop,h0,hk,hax,hay]
  rw [hres]
  generalize binaryM i.op x.n y.n=B at *
  refine zf true O.length Try.func75 Try.ntmps75 ?_
  dsimp only [Tmp,TypeId,slotsOf]
  refine zh1 (za0 ?_)
  refine awp_frzk 4 0 ([aI i.to,aI i.op,aI i.n,eIs i.args]) rfl rfl (by rfl) ?_
  simp -dsimp only [simprocAttr,↓vpre,zp]
  refine zh2 (za0 ?_)
  refine awp_block ?_
  refine zh1 (za0 ?_)
  apply zk0 rfl<;>intro h
  ·exact ab h (by omega)
  refine zh2 (za0 ?_)
  refine awp_mid0 (⟨82,[(0,.mp 2 0),(2,.lst 4 (args.map SV.enc) .sh),(4,.ip none [aI i.to,aI i.op,aI i.n,eIs i.args]),(6,.mp (O.length+1) 0),(7,aI 0),(9,aI i.op),(15,.v (.bool true))],O++[.gone,.cells [aI 0,aI 0,.lst 4 [] .ex,.v (.pointer none)]]⟩) ?_ ?_
  ·apply zk0 rfl<;>intro h
   ·refine awp_skip ?_
    show Covers _ _
    refine zq rfl ?_ ?_
    simp -dsimp only [simprocAttr,↓vpre,zp,zc]
    ·exact Sub.of_eq (by rw [h])
    rfl
   refine zh1 (za0 ?_)
   apply zk0 rfl<;>intro h
   ·refine awp_skip ?_
    show Covers _ _
    refine zq rfl ?_ ?_
    simp -dsimp only [simprocAttr,↓vpre,zp,zc]
    ·exact Sub.of_eq (by rw [h])
    rfl
   refine zh1 (za0 ?_)
   apply zk0 rfl<;>intro h
   ·refine awp_skip ?_
    show Covers _ _
    refine zq rfl ?_ ?_
    simp -dsimp only [simprocAttr,↓vpre,zp,zc]
    ·exact Sub.of_eq (by rw [h])
    rfl
   refine zh1 (za0 ?_)
   apply zk0 rfl<;>intro h
   ·refine awp_skip ?_
    show Covers _ _
    refine zq rfl ?_ ?_
    simp -dsimp only [simprocAttr,↓vpre,zp,zc]
    ·exact Sub.of_eq (by rw [h])
    rfl
   refine zh1 (za0 ?_)
   apply zk0 rfl<;>intro h
   ·refine awp_skip ?_
    show Covers _ _
    refine zq rfl ?_ ?_
    simp -dsimp only [simprocAttr,↓vpre,zp,zc]
    ·exact Sub.of_eq (by rw [h])
    rfl
   refine zh1 (za0 ?_)
   apply zk0 rfl<;>intro h
   ·refine awp_skip ?_
    show Covers _ _
    refine zq rfl ?_ ?_
    simp -dsimp only [simprocAttr,↓vpre,zp,zc]
    ·exact Sub.of_eq (by rw [h])
    rfl
   refine zh0 ?_
   refine at_intro ?_
   show Covers _ _
   refine zq rfl ?_ ?_
   simp -dsimp only [simprocAttr,↓vpre,zp,zc]
   ·exact Sub.of_eq (by rw [decide_eq_true (show i.op=7 by simp only [decide_eq_false_iff_not] at *;omega)])
   rfl
  refine zw0 rfl ?_
  refine zh2 ?_
  refine .inr (.inr ⟨_,hall _,later_intro (zj ?_)⟩)
  refine za0 ?_
  refine zu0 rfl ?_
  refine zb0 ?_
  refine zg1 ?_
  simp -dsimp only [simprocAttr,↓vpre,zp,hx,hy]
  refine zi hbin ?_
  refine⟨ob (by kernel_rfl),?_⟩
  refine za0 ?_
  refine awp_ret ?_
  simp -dsimp only [simprocAttr,↓vpre,zp,zr,Try.results75]
  exact⟨hup,resW hbu⟩
theorem exec_con{u:Unt}{m:Mach}{O:List AObj}(hup:∀o∈O,o.upto O.length)(i:Ins)(args:List SV)(hl:∀v∈args,SV.Under O.length v)(hop:i.op=8):ECall Try.prog 75 O [.mp 2 0,i.enc,.lst 4 (args.map SV.enc) .sh] (fun r O'=>r=.tup [(m.exec i args).2.1.enc,aI (m.exec i args).2.2]∧O'=O):=by
 have hz:=(SV.Under.mk (k:=1) (m:=i.n) (a:=none) (by simp) hl).enc_upto
 rw [SV.enc_mk] at hz
 refine zf true O.length Try.func75 Try.ntmps75 ?_
 dsimp only [Tmp,TypeId,slotsOf]
 refine zh1 (za0 ?_)
 refine awp_frzk 4 0 ([aI i.to,aI i.op,aI i.n,eIs i.args]) rfl rfl (by rfl) ?_
 simp -dsimp only [simprocAttr,↓vpre,zp]
 refine zh2 (za0 ?_)
 refine awp_block ?_
 refine zh1 (za0 ?_)
 apply zk0 rfl<;>intro h
 ·exact ab h (by omega)
 refine zh2 (za0 ?_)
 apply zk0 rfl<;>intro h
 ·exact ab h (by omega)
 refine zh1 (za0 ?_)
 apply zk0 rfl<;>intro h
 ·exact ab h (by omega)
 refine zh1 (za0 ?_)
 apply zk0 rfl<;>intro h
 ·exact ab h (by omega)
 refine zh1 (za0 ?_)
 apply zk0 rfl<;>intro h
 ·exact ab h (by omega)
 refine zh1 (za0 ?_)
 apply zk0 rfl<;>intro h
 ·exact ab h (by omega)
 refine zh1 (za0 ?_)
 apply zk0 rfl<;>intro h
 ·exact ab h (by omega)
 refine zh0 (za0 ?_)
 apply zk0 rfl<;>intro h
 ·exact ab h (by omega)
 refine zh1 (za0 ?_)
 apply zk0 rfl<;>intro h
 ·refine zh1 (za0 ?_)
  refine awp_ret ?_
  simp -dsimp only [simprocAttr,↓vpre,zp,zr,Try.results75]
  refine⟨hup,⟨hz,trivial,trivial⟩,?_⟩
  simp [Mach.exec,hop,SV.enc_mk,eP]
 exact af h (by omega)
theorem exec_clos{u:Unt}{m:Mach}{O:List AObj}(hup:∀o∈O,o.upto O.length)(i:Ins)(args:List SV)(hl:∀v∈args,SV.Under O.length v)(hop:i.op=9):ECall Try.prog 75 O [.mp 2 0,i.enc,.lst 4 (args.map SV.enc) .sh] (fun r O'=>r=.tup [(m.exec i args).2.1.enc,aI (m.exec i args).2.2]∧O'=O):=by
 have hz:=(SV.Under.mk (k:=2) (m:=i.n) (a:=none) (by simp) hl).enc_upto
 rw [SV.enc_mk] at hz
 refine zf true O.length Try.func75 Try.ntmps75 ?_
 dsimp only [Tmp,TypeId,slotsOf]
 refine zh1 (za0 ?_)
 refine awp_frzk 4 0 ([aI i.to,aI i.op,aI i.n,eIs i.args]) rfl rfl (by rfl) ?_
 simp -dsimp only [simprocAttr,↓vpre,zp]
 refine zh2 (za0 ?_)
 refine awp_block ?_
 refine zh1 (za0 ?_)
 apply zk0 rfl<;>intro h
 ·exact ab h (by omega)
 refine zh2 (za0 ?_)
 apply zk0 rfl<;>intro h
 ·exact ab h (by omega)
 refine zh1 (za0 ?_)
 apply zk0 rfl<;>intro h
 ·exact ab h (by omega)
 refine zh1 (za0 ?_)
 apply zk0 rfl<;>intro h
 ·exact ab h (by omega)
 refine zh1 (za0 ?_)
 apply zk0 rfl<;>intro h
 ·exact ab h (by omega)
 refine zh1 (za0 ?_)
 apply zk0 rfl<;>intro h
 ·exact ab h (by omega)
 refine zh1 (za0 ?_)
 apply zk0 rfl<;>intro h
 ·exact ab h (by omega)
 refine zh0 (za0 ?_)
 apply zk0 rfl<;>intro h
 ·exact ab h (by omega)
 refine zh1 (za0 ?_)
 apply zk0 rfl<;>intro h
 ·exact ab h (by omega)
 refine zh1 (za0 ?_)
 apply zk0 rfl<;>intro h
 ·refine zh1 (za0 ?_)
  refine awp_ret ?_
  simp -dsimp only [simprocAttr,↓vpre,zp,zr,Try.results75]
  refine⟨hup,⟨hz,trivial,trivial⟩,?_⟩
  simp [Mach.exec,hop,SV.enc_mk,eP]
 exact af h (by omega)
theorem exec_obj{u:Unt}{m:Mach}{O:List AObj}(hup:∀o∈O,o.upto O.length)(i:Ins)(args:List SV)(hl:∀v∈args,SV.Under O.length v)(hop:i.op=10∨i.op=11∨i.op=12∨i.op=21)(hC:ECall Try.prog 98 O [i.enc,.lst 4 (args.map SV.enc) .sh] (fun r O'=>r=.tup [(objectM i args).1.enc,aI (objectM i args).2]∧O'=O))(hR:SV.Under O.length (objectM i args).1):ECall Try.prog 75 O [.mp 2 0,i.enc,.lst 4 (args.map SV.enc) .sh] (fun r O'=>r=.tup [(m.exec i args).2.1.enc,aI (m.exec i args).2.2]∧O'=O):=by
 have hcall:=ECall.frame hC rfl ⟨i.enc_upto _,⟨SV.map_upto hl,trivial⟩,trivial⟩ hup
 have hres:m.exec i args=(m,objectM i args):=by
  unfold Mach.exec
  rw [if_neg (by omega),if_neg (by omega),if_neg (by omega),if_neg (by omega),if_pos hop]
 rw [hres]
 generalize objectM i args=B at *
 refine zf true O.length Try.func75 Try.ntmps75 ?_
 dsimp only [Tmp,TypeId,slotsOf]
 refine zh1 (za0 ?_)
 refine awp_frzk 4 0 ([aI i.to,aI i.op,aI i.n,eIs i.args]) rfl rfl (by rfl) ?_
 simp -dsimp only [simprocAttr,↓vpre,zp]
 refine zh2 (za0 ?_)
 refine awp_block ?_
 refine zh1 (za0 ?_)
 apply zk0 rfl<;>intro h
 ·exact ab h (by omega)
 refine zh2 (za0 ?_)
 apply zk0 rfl<;>intro h
 ·exact ab h (by omega)
 refine zh1 (za0 ?_)
 apply zk0 rfl<;>intro h
 ·exact ab h (by omega)
 refine zh1 (za0 ?_)
 apply zk0 rfl<;>intro h
 ·exact ab h (by omega)
 refine zh1 (za0 ?_)
 apply zk0 rfl<;>intro h
 ·exact ab h (by omega)
 refine zh1 (za0 ?_)
 apply zk0 rfl<;>intro h
 ·exact ab h (by omega)
 refine zh1 (za0 ?_)
 apply zk0 rfl<;>intro h
 ·exact ab h (by omega)
 refine zh0 (za0 ?_)
 apply zk0 rfl<;>intro h
 ·exact ab h (by omega)
 refine zh1 (za0 ?_)
 apply zk0 rfl<;>intro h
 ·exact ab h (by omega)
 refine zh1 (za0 ?_)
 apply zk0 rfl<;>intro h
 ·exact ab h (by omega)
 refine zh2 (za0 ?_)
 refine awp_mid0 (⟨82,[(0,.mp 2 0),(2,.lst 4 (args.map SV.enc) .sh),(4,.ip none [aI i.to,aI i.op,aI i.n,eIs i.args]),(6,.mp (O.length+1) 0),(7,aI 0),(9,aI i.op),(52,.v (.bool true))],O++[.gone,.cells [aI 0,aI 0,.lst 4 [] .ex,.v (.pointer none)]]⟩) ?_ ?_
 ·apply zk0 rfl<;>intro h
  ·refine awp_skip ?_
   show Covers _ _
   refine zq rfl ?_ ?_
   simp -dsimp only [simprocAttr,↓vpre,zp,zc]
   ·exact Sub.of_eq (by rw [h])
   rfl
  refine zh1 (za0 ?_)
  apply zk0 rfl<;>intro h
  ·refine awp_skip ?_
   show Covers _ _
   refine zq rfl ?_ ?_
   simp -dsimp only [simprocAttr,↓vpre,zp,zc]
   ·exact Sub.of_eq (by rw [h])
   rfl
  refine zh1 (za0 ?_)
  apply zk0 rfl<;>intro h
  ·refine awp_skip ?_
   show Covers _ _
   refine zq rfl ?_ ?_
   simp -dsimp only [simprocAttr,↓vpre,zp,zc]
   ·exact Sub.of_eq (by rw [h])
   rfl
  refine zh0 ?_
  refine at_intro ?_
  show Covers _ _
  refine zq rfl ?_ ?_
  simp -dsimp only [simprocAttr,↓vpre,zp,zc]
  ·exact Sub.of_eq (by rw [decide_eq_true (show i.op=21 by simp only [decide_eq_false_iff_not] at *;omega)])
  rfl
 refine zw0 rfl ?_
 refine zh1 ?_
 refine .inr (.inr ⟨_,hcall _,later_intro (zj ?_)⟩)
 refine za0 ?_
 refine awp_ret ?_
 simp -dsimp only [simprocAttr,↓vpre,zp,zr,Try.results75]
 exact⟨hup,resW hR⟩
theorem exec_vec{u:Unt}{m:Mach}{O:List AObj}(hup:∀o∈O,o.upto O.length)(i:Ins)(args:List SV)(hl:∀v∈args,SV.Under O.length v)(hop:i.op=22∨i.op=23∨i.op=24)(hC:ECall Try.prog 99 O [i.enc,.lst 4 (args.map SV.enc) .sh] (fun r O'=>r=.tup [(vectorM i args).1.enc,aI (vectorM i args).2]∧O'=O))(hR:SV.Under O.length (vectorM i args).1):ECall Try.prog 75 O [.mp 2 0,i.enc,.lst 4 (args.map SV.enc) .sh] (fun r O'=>r=.tup [(m.exec i args).2.1.enc,aI (m.exec i args).2.2]∧O'=O):=by
 have hcall:=ECall.frame hC rfl ⟨i.enc_upto _,⟨SV.map_upto hl,trivial⟩,trivial⟩ hup
 have hres:m.exec i args=(m,vectorM i args):=by
  unfold Mach.exec
  rw [if_neg (by omega),if_neg (by omega),if_neg (by omega),if_neg (by omega),if_neg (by omega),if_pos hop]
 rw [hres]
 generalize vectorM i args=B at *
 refine zf true O.length Try.func75 Try.ntmps75 ?_
 dsimp only [Tmp,TypeId,slotsOf]
 refine zh1 (za0 ?_)
 refine awp_frzk 4 0 ([aI i.to,aI i.op,aI i.n,eIs i.args]) rfl rfl (by rfl) ?_
 simp -dsimp only [simprocAttr,↓vpre,zp]
 refine zh2 (za0 ?_)
 refine awp_block ?_
 refine zh1 (za0 ?_)
 apply zk0 rfl<;>intro h
 ·exact ab h (by omega)
 refine zh2 (za0 ?_)
 apply zk0 rfl<;>intro h
 ·exact ab h (by omega)
 refine zh1 (za0 ?_)
 apply zk0 rfl<;>intro h
 ·exact ab h (by omega)
 refine zh1 (za0 ?_)
 apply zk0 rfl<;>intro h
 ·exact ab h (by omega)
 refine zh1 (za0 ?_)
 apply zk0 rfl<;>intro h
 ·exact ab h (by omega)
 refine zh1 (za0 ?_)
 apply zk0 rfl<;>intro h
 ·exact ab h (by omega)
 refine zh1 (za0 ?_)
 apply zk0 rfl<;>intro h
 ·exact ab h (by omega)
 refine zh0 (za0 ?_)
 apply zk0 rfl<;>intro h
 ·exact ab h (by omega)
 refine zh1 (za0 ?_)
 apply zk0 rfl<;>intro h
 ·exact ab h (by omega)
 refine zh1 (za0 ?_)
 apply zk0 rfl<;>intro h
 ·exact ab h (by omega)
 refine zh2 (za0 ?_)
 apply zk0 rfl<;>intro h
 ·exact ab h (by omega)
 refine zh1 (za0 ?_)
 apply zk0 rfl<;>intro h
 ·exact ab h (by omega)
 refine zh1 (za0 ?_)
 apply zk0 rfl<;>intro h
 ·exact ab h (by omega)
 refine zh0 (za0 ?_)
 apply zk0 rfl<;>intro h
 ·exact ab h (by omega)
 refine zh2 (za0 ?_)
 refine awp_mid0 (⟨82,[(0,.mp 2 0),(2,.lst 4 (args.map SV.enc) .sh),(4,.ip none [aI i.to,aI i.op,aI i.n,eIs i.args]),(6,.mp (O.length+1) 0),(7,aI 0),(9,aI i.op),(62,.v (.bool true))],O++[.gone,.cells [aI 0,aI 0,.lst 4 [] .ex,.v (.pointer none)]]⟩) ?_ ?_
 ·apply zk0 rfl<;>intro h
  ·refine awp_skip ?_
   show Covers _ _
   refine zq rfl ?_ ?_
   simp -dsimp only [simprocAttr,↓vpre,zp,zc]
   ·exact Sub.of_eq (by rw [h])
   rfl
  refine zh1 (za0 ?_)
  apply zk0 rfl<;>intro h
  ·refine awp_skip ?_
   show Covers _ _
   refine zq rfl ?_ ?_
   simp -dsimp only [simprocAttr,↓vpre,zp,zc]
   ·exact Sub.of_eq (by rw [h])
   rfl
  refine zh0 ?_
  refine at_intro ?_
  show Covers _ _
  refine zq rfl ?_ ?_
  simp -dsimp only [simprocAttr,↓vpre,zp,zc]
  ·exact Sub.of_eq (by rw [decide_eq_true (show i.op=24 by simp only [decide_eq_false_iff_not] at *;omega)])
  rfl
 refine zw0 rfl ?_
 refine zh1 ?_
 refine .inr (.inr ⟨_,hcall _,later_intro (zj ?_)⟩)
 refine za0 ?_
 refine awp_ret ?_
 simp -dsimp only [simprocAttr,↓vpre,zp,zr,Try.results75]
 exact⟨hup,resW hR⟩
theorem exec_copy{u:Unt}{m:Mach}{O:List AObj}(hup:∀o∈O,o.upto O.length)(i:Ins)(args:List SV)(hl:∀v∈args,SV.Under O.length v)(hop:i.op=100)(x:SV)(hx:args[0]?=some x):ECall Try.prog 75 O [.mp 2 0,i.enc,.lst 4 (args.map SV.enc) .sh] (fun r O'=>r=.tup [(m.exec i args).2.1.enc,aI (m.exec i args).2.2]∧O'=O):=by
 have hax:=argS_of hx
 have hxu:=hl x (List.mem_of_getElem? hx)
 refine zf true O.length Try.func75 Try.ntmps75 ?_
 dsimp only [Tmp,TypeId,slotsOf]
 refine zh1 (za0 ?_)
 refine awp_frzk 4 0 ([aI i.to,aI i.op,aI i.n,eIs i.args]) rfl rfl (by rfl) ?_
 simp -dsimp only [simprocAttr,↓vpre,zp]
 refine zh2 (za0 ?_)
 refine awp_block ?_
 refine zh1 (za0 ?_)
 apply zk0 rfl<;>intro h
 ·exact ab h (by omega)
 refine zh2 (za0 ?_)
 apply zk0 rfl<;>intro h
 ·exact ab h (by omega)
 refine zh1 (za0 ?_)
 apply zk0 rfl<;>intro h
 ·exact ab h (by omega)
 refine zh1 (za0 ?_)
 apply zk0 rfl<;>intro h
 ·exact ab h (by omega)
 refine zh1 (za0 ?_)
 apply zk0 rfl<;>intro h
 ·exact ab h (by omega)
 refine zh1 (za0 ?_)
 apply zk0 rfl<;>intro h
 ·exact ab h (by omega)
 refine zh1 (za0 ?_)
 apply zk0 rfl<;>intro h
 ·exact ab h (by omega)
 refine zh0 (za0 ?_)
 apply zk0 rfl<;>intro h
 ·exact ab h (by omega)
 refine zh1 (za0 ?_)
 apply zk0 rfl<;>intro h
 ·exact ab h (by omega)
 refine zh1 (za0 ?_)
 apply zk0 rfl<;>intro h
 ·exact ab h (by omega)
 refine zh2 (za0 ?_)
 apply zk0 rfl<;>intro h
 ·exact ab h (by omega)
 refine zh1 (za0 ?_)
 apply zk0 rfl<;>intro h
 ·exact ab h (by omega)
 refine zh1 (za0 ?_)
 apply zk0 rfl<;>intro h
 ·exact ab h (by omega)
 refine zh0 (za0 ?_)
 apply zk0 rfl<;>intro h
 ·exact ab h (by omega)
 refine zh2 (za0 ?_)
 apply zk0 rfl<;>intro h
 ·exact ab h (by omega)
 refine zh1 (za0 ?_)
 apply zk0 rfl<;>intro h
 ·exact ab h (by omega)
 refine zh0 (za0 ?_)
 apply zk0 rfl<;>intro h
 ·exact ab h (by omega)
 refine zh1 (za0 ?_)
 apply zk0 rfl<;>intro h
 ·refine zg1 ?_
  simp -dsimp only [simprocAttr,↓vpre,zp,hx]
  refine za0 ?_
  refine awp_ret ?_
  simp -dsimp only [simprocAttr,↓vpre,zp,zr,Try.results75]
  refine⟨hup,resW hxu,?_⟩
  simp [Mach.exec,hop,hax]
 exact af h (by omega)
theorem exec_effect(m:Mach)(i:Ins)(args:List SV)(h0:i.op≠0)(h1:¬(1≤i.op∧i.op≤7))(h8:i.op≠8)(h9:i.op≠9)(h10:i.op≠10∧i.op≠11∧i.op≠12∧i.op≠21)(h22:i.op≠22∧i.op≠23∧i.op≠24)(h100:i.op≠100):m.exec i args=m.effect i args:=by
 unfold Mach.exec
 rw [if_neg h0,if_neg h1,if_neg h8,if_neg h9,if_neg (by omega),if_neg (by omega),if_neg h100]
theorem exec_eff{O O':List AObj}(hup:∀o∈O,o.upto O.length)(i:Ins)(args:List SV)(hl:∀v∈args,SV.Under O.length v)(h0:i.op≠0)(h1:¬(1≤i.op∧i.op≤7))(h8:i.op≠8)(h9:i.op≠9)(h10:i.op≠10∧i.op≠11∧i.op≠12∧i.op≠21)(h22:i.op≠22∧i.op≠23∧i.op≠24)(h100:i.op≠100)(hm0:2<O.length)(v:SV)(t:Int)(hv:SV.Under O.length v)
  (hC:ECall Try.prog 100 O [.mp 2 0,i.enc,.lst 4 (args.map SV.enc) .sh] (fun r O1=>r=.tup [v.enc,aI t]∧O1=O')) (hlen:O.length=O'.length) (hup':∀o∈O',o.upto O'.length) :
  ECall Try.prog 75 O [.mp 2 0,i.enc,.lst 4 (args.map SV.enc) .sh] (fun r O1=>r=.tup [v.enc,aI t]∧O1=O'):=by
 have hcall:=ECall.frame hC hlen.symm ⟨hm0,i.enc_upto _,⟨SV.map_upto hl,trivial⟩,trivial⟩ hup
 rw [hlen] at hv
 refine zf true O.length Try.func75 Try.ntmps75 ?_
 dsimp only [Tmp,TypeId,slotsOf]
 refine zh1 (za0 ?_)
 refine awp_frzk 4 0 ([aI i.to,aI i.op,aI i.n,eIs i.args]) rfl rfl (by rfl) ?_
 simp -dsimp only [simprocAttr,↓vpre,zp]
 refine zh2 (za0 ?_)
 refine awp_block ?_
 refine zh1 (za0 ?_)
 apply zk0 rfl<;>intro h
 ·exact ab h (by omega)
 refine zh2 (za0 ?_)
 apply zk0 rfl<;>intro h
 ·exact ab h (by omega)
 refine zh1 (za0 ?_)
 apply zk0 rfl<;>intro h
 ·exact ab h (by omega)
 refine zh1 (za0 ?_)
 apply zk0 rfl<;>intro h
 ·exact ab h (by omega)
 refine zh1 (za0 ?_)
 apply zk0 rfl<;>intro h
 ·exact ab h (by omega)
 refine zh1 (za0 ?_)
 apply zk0 rfl<;>intro h
 ·exact ab h (by omega)
 refine zh1 (za0 ?_)
 apply zk0 rfl<;>intro h
 ·exact ab h (by omega)
 refine zh0 (za0 ?_)
 apply zk0 rfl<;>intro h
 ·exact ab h (by omega)
 refine zh1 (za0 ?_)
 apply zk0 rfl<;>intro h
 ·exact ab h (by omega)
 refine zh1 (za0 ?_)
 apply zk0 rfl<;>intro h
 ·exact ab h (by omega)
 refine zh2 (za0 ?_)
 apply zk0 rfl<;>intro h
 ·exact ab h (by omega)
 refine zh1 (za0 ?_)
 apply zk0 rfl<;>intro h
 ·exact ab h (by omega)
 refine zh1 (za0 ?_)
 apply zk0 rfl<;>intro h
 ·exact ab h (by omega)
 refine zh0 (za0 ?_)
 apply zk0 rfl<;>intro h
 ·exact ab h (by omega)
 refine zh2 (za0 ?_)
 apply zk0 rfl<;>intro h
 ·exact ab h (by omega)
 refine zh1 (za0 ?_)
 apply zk0 rfl<;>intro h
 ·exact ab h (by omega)
 refine zh0 (za0 ?_)
 apply zk0 rfl<;>intro h
 ·exact ab h (by omega)
 refine zh1 (za0 ?_)
 apply zk0 rfl<;>intro h
 ·exact ab h (by omega)
 refine zb1 ?_
 refine zh1 ?_
 refine .inr (.inl ⟨_,_,hcall _,.inl (later_intro ?_)⟩)
 simp -dsimp only [simprocAttr,↓vpre,zp,hlen]
 refine za0 ?_
 refine awp_ret ?_
 simp -dsimp only [simprocAttr,↓vpre,zp,zr,Try.results75,hlen]
 exact⟨hup',resW hv⟩
theorem exec_go{u:Unt}{m:Mach}{O:List AObj}(hup:∀o∈O,o.upto O.length)(h0':O[2]?=some (.cells (mcells u m)))(i:Ins)(size fill:SV)(hs:SV.Under O.length size)(hf:SV.Under O.length fill)
  (hop:i.op=16) (h1':0≤m.left) (h2:m.left≤2 ^ 40) (hov:m.short=false) (hk:size.kind=0) (hn1:0≤size.n) (hn2:size.n≤1024) (hp:size.n≤m.left) :
  ECall Try.prog 75 O [.mp 2 0,i.enc,.lst 4 [size.enc,fill.enc] .sh] (fun r O'=>r=.tup [.agg [aI 3,aI 0,.lst 4 [] .sh,.mp (O.length+8) 0],aI 0]∧O'=O.set 2 (.cells (mcells u (m.pay size.n))) ++
   [.gone,.cells [aI 3,aI 0,.lst 4 [] .sh,.mp (O.length+8) 0],.gone,.cells [aI 3,aI 0,.lst 4 [] .sh,.mp (O.length+8) 0],.gone,.gone,.cells [aI 3,aI 0,.lst 4 [] .ex,.mp (O.length+8) 0],.cells (cellsAll ((List.replicate size.n.toNat fill).map SV.enc)),.cells [.ms (O.length+7) 0 size.n.toNat size.n.toNat]]):=by
 have hupX:∀o∈O++[.gone,.cells [aI 0,aI 0,.lst 4 [] .ex,.v (.pointer none)]],o.upto (O++[AObj.gone,.cells [aI 0,aI 0,.lst 4 [] .ex,.v (.pointer none)]]).length:=fun o ho=>by
  rcases List.mem_append.1 ho with ho | ho
  ·exact AObj.upto_mono (by simp) (hup o ho)
  simp only [List.mem_cons,List.mem_nil_iff,or_false] at ho
  rcases ho with rfl | rfl
  ·trivial
  simp [AObj.upto,uptoL,AVal.upto]
 have hlX:(O++[AObj.gone,.cells [aI 0,aI 0,.lst 4 [] .ex,.v (.pointer none)]]).length=O.length+2:=by simp
 have hcall:=effect_go hupX (at_left h0') i size fill (hs.mono (by simp)) (hf.mono (by simp)) hop h1' h2 hov hk hn1 hn2 hp
 have hup1:=uptoO_cells hup h0' (ds:=mcells u (m.pay size.n)) (fun h=>mcells_upto h (pay_sid m size.n))
 rw [set_left h0',hlX] at hcall
 obtain⟨O1,hO1⟩:∃O1,O1=O.set 2 (.cells (mcells u (m.pay size.n))):=⟨_,rfl⟩
 have hlen:O.length=O1.length:=by rw [hO1];simp
 simp only [←hO1] at hcall hup1 ⊢
 rw [hlen] at hup1
 have hmem:∀v∈List.replicate size.n.toNat fill,SV.Under (O1.length+9) v:=fun v hv=>by
  rw [(List.mem_replicate.1 hv).2]
  exact hf.mono (by omega)
 have hc:=SV.cells_upto hmem
 have h0:i.op≠0:=by omega
 generalize hrow:cellsAll ((List.replicate size.n.toNat fill).map SV.enc)=row at *
 refine zf true (O.length+9) Try.func75 Try.ntmps75 ?_
 dsimp only [Tmp,TypeId,slotsOf]
 refine zh1 (za0 ?_)
 refine awp_frzk 4 0 ([aI i.to,aI i.op,aI i.n,eIs i.args]) rfl rfl (by rfl) ?_
 simp -dsimp only [simprocAttr,↓vpre,zp]
 refine zh2 (za0 ?_)
 refine awp_block ?_
 refine zh1 (za0 ?_)
 apply zk0 rfl<;>intro h
 ·exact ab h (by omega)
 refine zh2 (za0 ?_)
 apply zk0 rfl<;>intro h
 ·exact ab h (by omega)
 refine zh1 (za0 ?_)
 apply zk0 rfl<;>intro h
 ·exact ab h (by omega)
 refine zh1 (za0 ?_)
 apply zk0 rfl<;>intro h
 ·exact ab h (by omega)
 refine zh1 (za0 ?_)
 apply zk0 rfl<;>intro h
 ·exact ab h (by omega)
 refine zh1 (za0 ?_)
 apply zk0 rfl<;>intro h
 ·exact ab h (by omega)
 refine zh1 (za0 ?_)
 apply zk0 rfl<;>intro h
 ·exact ab h (by omega)
 refine zh0 (za0 ?_)
 apply zk0 rfl<;>intro h
 ·exact ab h (by omega)
 refine zh1 (za0 ?_)
 apply zk0 rfl<;>intro h
 ·exact ab h (by omega)
 refine zh1 (za0 ?_)
 apply zk0 rfl<;>intro h
 ·exact ab h (by omega)
 refine zh2 (za0 ?_)
 apply zk0 rfl<;>intro h
 ·exact ab h (by omega)
 refine zh1 (za0 ?_)
 apply zk0 rfl<;>intro h
 ·exact ab h (by omega)
 refine zh1 (za0 ?_)
 apply zk0 rfl<;>intro h
 ·exact ab h (by omega)
 refine zh0 (za0 ?_)
 apply zk0 rfl<;>intro h
 ·exact ab h (by omega)
 refine zh2 (za0 ?_)
 apply zk0 rfl<;>intro h
 ·exact ab h (by omega)
 refine zh1 (za0 ?_)
 apply zk0 rfl<;>intro h
 ·exact ab h (by omega)
 refine zh0 (za0 ?_)
 apply zk0 rfl<;>intro h
 ·exact ab h (by omega)
 refine zh1 (za0 ?_)
 apply zk0 rfl<;>intro h
 ·exact ab h (by omega)
 refine zb1 ?_
 refine zh1 ?_
 refine .inr (.inl ⟨_,_,hcall,.inl (later_intro ?_)⟩)
 simp -dsimp only [simprocAttr,↓vpre,zp,hlen]
 refine za0 ?_
 refine awp_ret ?_
 simp -dsimp only [simprocAttr,↓vpre,zp,zr,Try.results75,hlen]
 rw [take_newk]
 refine⟨fun o ho=>?_,by simp [uptoL,AVal.upto],rfl⟩
 rcases List.mem_append.1 ho with ho | ho
 ·exact AObj.upto_mono (by omega) (hup1 o ho)
 simp only [List.take_succ_cons,List.take_zero,List.mem_cons,List.mem_nil_iff,or_false] at ho
 rcases ho with rfl | rfl | rfl | rfl | rfl | rfl | rfl | rfl | rfl
 ·trivial
 ·simp [AObj.upto,uptoL,AVal.upto]
 ·trivial
 ·simp [AObj.upto,uptoL,AVal.upto]
 ·trivial
 ·trivial
 ·simp [AObj.upto,uptoL,AVal.upto]
 ·exact hc
 simp [AObj.upto,uptoL,AVal.upto]
theorem bindS_snoc:∀{es:List (Int×SV)} {ps:List Int} {l:List SV} {j:Nat} {p:Int} {a:SV},ps[j]?=some p→l[j]?=some a→bindS es (ps.take (j+1)) (l.take (j+1))=putS' (bindS es (ps.take j) (l.take j)) p a
 | es,q::ps,b::l,0,p,a,h1,h2=>by
  simp only [List.getElem?_cons_zero,Option.some.injEq] at h1 h2
  subst h1
  subst h2
  simp [bindS]
 | es,q::ps,b::l,j+1,p,a,h1,h2=>by
  have ih:=bindS_snoc (es:=putS' es q b) (ps:=ps) (l:=l) (j:=j) (by simpa using h1) (by simpa using h2)
  simp only [List.take_succ_cons,bindS]
  exact ih
 | _,[],_,_,_,_,h1,_=>by simp at h1
 | _,_::_,[],_,_,_,_,h2=>by simp at h2
theorem bindS_zero(es:List (Int×SV))(ps:List Int)(l:List SV):bindS es (ps.take 0) (l.take 0)=es:=by simp [bindS]
theorem mem_bindS:∀{es:List (Int×SV)} {ps:List Int} {l:List SV} {e:Int×SV},e∈bindS es ps l→e∈es∨e.2∈l
 | es,[],_,e,h=>.inl (by simpa [bindS] using h)
 | es,_::_,[],e,h=>.inl (by simpa [bindS] using h)
 | es,p::ps,a::l,e,h=>by
  simp only [bindS] at h
  rcases mem_bindS h with h | h
  ·rcases mem_putS' h with h | h
   ·exact .inl h
   exact .inr (by simp [h])
  exact .inr (by simp [h])
theorem fnOf_at{u:Unt}{k:Int}(h0:0≤k)(h1:k<u.fns.length):u.fns[k.toNat]?=some (fnOf u k):=by
 have hlt:k.toNat<u.fns.length:=by omega
 simp [fnOf,hlt]
theorem blkOf_at{f:Func}{k:Int}(h0:0≤k)(h1:k<f.blocks.length):f.blocks[k.toNat]?=some (blkOf f k):=by
 have hlt:k.toNat<f.blocks.length:=by omega
 simp [blkOf,hlt]
theorem entE{es:List (Int×SV)}{n:Nat}(h:∀e∈es,SV.Under n e.2):uptoE n (es.map ent):=by
 induction es with
 | nil=>trivial
 | cons e r ih=>exact⟨(h e (by simp)).enc_upto,ih fun x hx=>h x (by simp [hx])⟩
theorem follow_spec{u:Unt}{m:Mach}{O:List AObj}(hup:∀o∈O,o.upto O.length)(h0:O[2]?=some (.cells (mcells u m)))(f:Fr)(hf:O[f.fid]?=some (.cells (fcells f)))(hv:O[f.mid]?=some (.map (.int .i64) (f.vals.map ent)))
  (hu:∀e∈f.vals,SV.Under O.length e.2) (n0f:2≠f.fid) (n0m:2≠f.mid) (nfm:f.fid≠f.mid) (hfn:0≤f.fn∧f.fn<u.fns.length) (e:Edge) (he:EdgeOK (fnOf u f.fn) e) (f':Fr)
  (hf':f' = { f with blk:=e.block,pos:=0,vals:=bindS f.vals (blkOf (fnOf u f.fn) e.block).params (takeS f.vals e.args) }) :
  ECall Try.prog 92 O [.mp 2 0,.mp f.fid 0,e.enc] (fun r O'=>r=.tup []∧O'=(O.set f.fid (.cells (fcells f'))).set f.mid (.map (.int .i64) (f'.vals.map ent))):=by
 have htake:=take_spec hup hf hv hu e.args he.len
 have hF:=fnOf_at hfn.1 hfn.2
 have hB:=blkOf_at he.lo he.hi
 have hal:=he.args
 have hlo:=he.lo
 have halen:=he.len
 have hfl:=lt_of_getElem? hf
 have hml:=lt_of_getElem? hv
 have hml0:=lt_of_getElem? h0
 have htu:=takeS_under hu e.args
 have htl:(takeS f.vals e.args).length=e.args.length:=by simp [takeS]
 generalize hTk:takeS f.vals e.args=T at *
 generalize blkOf (fnOf u f.fn) e.block=B at *
 generalize fnOf u f.fn=F at *
 have hTm:=SV.map_upto htu
 have hc:[aI f.fn,aI e.block,aI 0,aI f.to,.mm f.mid]=fcells f':=by
  rw [hf']
  rfl
 obtain⟨O1,hO1⟩:∃O1,O1=O.set f.fid (.cells (fcells f')):=⟨_,rfl⟩
 have hlen:O.length=O1.length:=by rw [hO1];simp
 have hs:=set_self hf
 have hm1:O1[2]?=some (.cells (mcells u m)):=by rw [hO1];exact at_set_ne h0 n0f.symm
 have hf1:O1[f.fid]?=some (.cells (fcells f')):=by rw [hO1];exact hs _
 have hv1:O1[f.mid]?=some (.map (.int .i64) (f.vals.map ent)):=by rw [hO1];exact at_set_ne hv nfm
 have hup1:∀o∈O1,o.upto O1.length:=by
  rw [←hlen,hO1]
  refine uptoO_cells hup hf fun h=>?_
  simp only [fcells,uptoL,AVal.upto,true_and,and_true] at h ⊢
  rw [hf']
  exact h
 rw [←hO1]
 have hm2:∀x,(O1.set f.mid x)[2]?=some (.cells (mcells u m)):=fun x=>at_set_ne hm1 n0m.symm
 have hf2:∀x,(O1.set f.mid x)[f.fid]?=some (.cells (fcells f')):=fun x=>at_set_ne hf1 nfm.symm
 have hv2:∀x,(O1.set f.mid x)[f.mid]?=some x:=set_self hv1
 unfold mcells at hm1 hm2
 have hff:=hf
 unfold fcells at hff
 have hgf:fcells f'=[aI f.fn,aI e.block,aI 0,aI f.to,.mm f.mid]:=hc.symm
 have hf1':=hf1
 have hf2':=hf2
 rw [hgf] at hf1' hf2'
 have hs1:O1.set f.mid (.map (.int .i64) (f.vals.map ent))=O1:=set_same hv1
 have htk:∀x,(O1.set f.mid x).take O1.length=O1.set f.mid x:=fun x=>take_set_len
 refine zf true O.length Try.func92 Try.ntmps92 ?_
 dsimp only [Tmp,TypeId,slotsOf]
 refine zh1 (za0 ?_)
 refine awp_local 5 ([aI e.block,eIs e.args]) [(0,.mp 2 0),(1,.mp f.fid 0),(5,.ip none [aI e.block,eIs e.args])] rfl (by rfl) (by omega) (by simp [putS,dropS,Go.Av.look]) ?_ ?_ ?_
 ·exact hup
 ·simp [uptoL,AVal.upto,aI_upto,hfl,hml0]
 refine zh1 ?_
 refine .inr (.inr ⟨_,htake,later_intro (zj ?_)⟩)
 refine za0 ?_
 refine zg1 ?_
 simp -dsimp only [simprocAttr,↓vpre,zp,hff,hs,List.set_set,hc,←hO1]
 refine za0 ?_
 refine zg1 ?_
 simp -dsimp only [simprocAttr,↓vpre,zp,hm1,hf1',hF,hB]
 repeat(refine⟨by omega,?_⟩)
 refine⟨ob (by kernel_rfl),?_⟩
 refine za0 ?_
 refine awp_block (awp_loop (ι:={j:Nat // j≤B.params.length}) (fun j=>⟨54,[(0,.mp 2 0),(1,.mp f.fid 0),(5,.ip none [aI e.block,eIs e.args]),(6,.lst 4 (T.map SV.enc) .sh),(37,eIs B.params),(38,aI B.params.length),(39,aI j.1)],O1.set f.mid (.map (.int .i64) ((bindS f.vals (B.params.take j.1) (T.take j.1)).map ent))⟩) (fun j=>B.params.length - j.1) ⟨0,by omega⟩ ?_ ?_)
 ·refine zq rfl ?_ ?_
  simp -dsimp only [simprocAttr,↓vpre,zp,zc]
  rw [bindS_zero,hs1]
 rintro⟨j,hj⟩
 refine zh1 (za0 ?_)
 apply zk1 rfl<;>intro h
 ·refine zb0 ?_
  have hlt:j<B.params.length:=by simpa using h
  obtain⟨p,hp⟩:∃p,B.params[j]?=some p:=⟨B.params[j],by simp [hlt]⟩
  obtain⟨a,ha⟩:∃a,T[j]?=some a:=⟨T[j]'(by omega),List.getElem?_eq_getElem _⟩
  refine awp_seq (awp_block ?_)
  refine zg1 ?_
  simp -dsimp only [simprocAttr,↓vpre,zp,hp]
  refine za0 ?_
  refine zg0 ?_
  simp -dsimp only [simprocAttr,↓vpre,zp,hf2',ha,hv2,put_ent,←bindS_snoc hp ha,List.set_set]
  repeat(refine⟨by omega,?_⟩)
  refine⟨ob (by kernel_rfl),?_⟩
  refine za0 ?_
  refine zh0 ?_
  repeat(refine⟨by omega,?_⟩)
  refine zl0 ?_
  refine⟨⟨j+1,hlt⟩,by simp;omega,?_⟩
  refine zq rfl ?_ ?_
  simp -dsimp only [simprocAttr,↓vpre,zp,zc]
  ·exact Sub.int (by simp)
  rfl
 refine awp_exit ?_
 simp -dsimp only [vend,ne_eq,Nat.reduceEqDiff,reduceCtorEq]
 have hjj:j=B.params.length:=by simp at h;omega
 subst hjj
 have hTT:T.take B.params.length=T:=List.take_of_length_le (by omega)
 skip
 simp -dsimp only [simprocAttr,↓vpre,zp,zr,Try.results92,hlen,hTT,List.take_length,htk,List.length_set]
 refine⟨uptoO_set hup1 (entE fun x hx=>?_),trivial,by rw [hf']⟩
 rw [←hlen]
 rcases mem_bindS hx with q | q
 ·exact hu x q
 exact htu _ q
def casesE(l:List Int):Nat→Int
 | 0=>0
 | k+1 =>
  match l[l.length - (k+1)]? with
  | none=>0
  | some c=>if !decide (isW c) then 4 else if hasI (l.take (l.length - (k+1))) c then 7 else casesE l k
def edgesE(f:Func):List Edge→Int
 | []=>0
 | e::r=>if !within e.block 1 ((f.blocks.length:Int) - 1) then 4 else if e.args.length≠(blkOf f e.block).params.length then 3 else edgesE f r
def endE(f:Func)(t:Term):Int :=
 if !shapeM t then 3
 else if 256<t.cases.length then 2
 else if t.kind=4∧within t.n 1 6=false then 4
 else if casesE t.cases t.cases.length≠0 then casesE t.cases t.cases.length
 else edgesE f t.to
theorem casesE_step{l:List Int}{j:Nat}{c:Int}(h:l[j]?=some c):casesE l (l.length - j)=if !decide (isW c) then 4 else if hasI (l.take j) c then 7 else casesE l (l.length - (j+1)):=by
 have hlt:=lt_of_getElem? h
 obtain⟨k,hk⟩:∃k,l.length - j=k+1:=⟨l.length - j - 1,by omega⟩
 have hj:l.length - (k+1)=j:=by omega
 rw [hk]
 simp only [casesE,hj,h]
 rw [show l.length - (j+1)=k by omega]
theorem edgesE_step{f:Func}{l:List Edge}{j:Nat}{e:Edge}(h:l[j]?=some e):edgesE f (l.drop j)=if !within e.block 1 ((f.blocks.length:Int) - 1) then 4 else if e.args.length≠(blkOf f e.block).params.length then 3 else edgesE f (l.drop (j+1)):=by
 have hlt:=lt_of_getElem? h
 rw [List.getElem?_eq_getElem hlt] at h
 simp only [Option.some.injEq] at h
 rw [List.drop_eq_getElem_cons hlt,h]
 rfl
theorem within_iff{n lo hi:Int}:within n lo hi=true↔lo≤n∧n≤hi:=by
 simp [within]
theorem end_spec(f:Func)(t:Term)(hcl:t.cases.length≤2 ^ 60)(hbl:f.blocks.length≤2 ^ 60):PCall Try.prog 69 [f.enc,t.enc] (aI (endE f t)):=by
 have hsh:=shape_spec t hcl
 have hw:=within_spec t.n 1 6
 obtain⟨R,hR⟩:∃R,R=endE f t:=⟨_,rfl⟩
 rw [←hR]
 unfold endE at hR
 generalize shapeM t=sh at *
 have hedge:∀e:Edge,PCall Try.prog 33 [aI e.block,aI 1,aI ((f.blocks.length:Int) - 1)] (.v (.bool (within e.block 1 ((f.blocks.length:Int) - 1)))):=fun e=>within_spec _ _ _
 have hkw:(t.kind=4∧within t.n 1 6=false)∨(¬(t.kind=4∧within t.n 1 6=false)∧((decide (t.kind=4)=false)∨(decide (t.kind=4)=true∧within t.n 1 6=true))):=by
  by_cases h4:t.kind=4
  ·cases hww:within t.n 1 6
   ·exact .inl ⟨h4,rfl⟩
   exact .inr ⟨by simp,.inr ⟨decide_eq_true h4,rfl⟩⟩
  exact .inr ⟨fun q=>h4 q.1,.inl (decide_eq_false h4)⟩
 refine zf true 0 Try.func69 Try.ntmps69 ?_
 dsimp only [Tmp,TypeId,slotsOf]
 refine zh1 (za0 ?_)
 refine awp_freeze1 2 0 (.ip none [aI f.name,eBlocks f.blocks]) rfl (by simp [AObj.isSpare]) trivial rfl ?_ ?_
 rotate_left
 simp -dsimp only [simprocAttr,↓vpre,zp]
 ·refine awp_freeze1 3 1 (.ip none [aI t.kind,aI t.arg,aI t.n,eIs t.cases,eEdges t.to]) rfl (by simp [AObj.isSpare]) trivial rfl ?_ ?_
  rotate_left
  simp -dsimp only [simprocAttr,↓vpre,zp]
  ·by_cases hearly:sh=false∨256<t.cases.length∨(t.kind=4∧within t.n 1 6=false)
   ·refine awp_seq (awp_block ?_)
    refine zh1 ?_
    refine zi hsh ?_
    refine za0 ?_
    cases sh with
    | false =>
     refine zw0 rfl ?_
     refine zh1 (za0 ?_)
     refine awp_ret ?_
     simp -dsimp only [simprocAttr,↓vpre,zp,zr,Try.results69]
     simp [hR]
    | true =>
     refine zu0 rfl ?_
     by_cases hc:256<t.cases.length
     ·have hd:decide ((256:Int)<t.cases.length)=true:=decide_eq_true (by omega)
      refine zg1 ?_
      simp -dsimp only [simprocAttr,↓vpre,zp,hd]
      refine za0 ?_
      refine zw0 rfl ?_
      refine zh1 (za0 ?_)
      refine awp_ret ?_
      simp -dsimp only [simprocAttr,↓vpre,zp,zr,Try.results69]
      simp [hR,hc]
     have hd:decide ((256:Int)<t.cases.length)=false:=decide_eq_false (by omega)
     have hk:t.kind=4∧within t.n 1 6=false:=by
      rcases hearly with q | q | q
      ·cases q
      ·exact absurd q hc
      exact q
     have hd4:decide (t.kind=4)=true:=decide_eq_true hk.1
     rw [hk.2] at hw
     refine zg1 ?_
     simp -dsimp only [simprocAttr,↓vpre,zp,hd]
     refine za0 ?_
     refine zu0 rfl ?_
     refine zg1 ?_
     simp -dsimp only [simprocAttr,↓vpre,zp,hd4]
     refine zi hw ?_
     refine za0 ?_
     refine zw0 rfl ?_
     refine zh1 (za0 ?_)
     refine awp_ret ?_
     simp -dsimp only [simprocAttr,↓vpre,zp,zr,Try.results69]
     simp [hR,hc,hk]
   have hsht:sh=true:=by
    cases sh
    ·exact absurd (.inl rfl) hearly
    rfl
   subst hsht
   have hc:¬256<t.cases.length:=fun q=>hearly (.inr (.inl q))
   have hk:¬(t.kind=4∧within t.n 1 6=false):=fun q=>hearly (.inr (.inr q))
   have hd:decide ((256:Int)<t.cases.length)=false:=decide_eq_false (by omega)
   rw [if_neg (by simp),if_neg hc,if_neg hk] at hR
   have hkw':=hkw.resolve_left hk
   refine awp_mid (⟨78,[(2,.ip none [aI f.name,eBlocks f.blocks]),(3,.ip none [aI t.kind,aI t.arg,aI t.n,eIs t.cases,eEdges t.to]),(4,aI 0)],[.gone,.gone]⟩) ?_ ?_
   ·refine awp_block ?_
    refine zh1 ?_
    refine zi hsh ?_
    refine za0 ?_
    refine zu0 rfl ?_
    refine zg1 ?_
    simp -dsimp only [simprocAttr,↓vpre,zp,hd]
    refine za0 ?_
    refine zu0 rfl ?_
    rcases hkw'.2 with hd4 | ⟨hd4,hw1⟩
    ·refine zg1 ?_
     simp -dsimp only [simprocAttr,↓vpre,zp,hd4]
     refine za0 ?_
     refine zu0 rfl ?_
     refine awp_skip ?_
     show Covers _ _
     refine zq rfl ?_ ?_
     simp -dsimp only [simprocAttr,↓vpre,zp,zc]
     rfl
    rw [hw1] at hw
    refine zg1 ?_
    simp -dsimp only [simprocAttr,↓vpre,zp,hd4]
    refine zi hw ?_
    refine za0 ?_
    refine zu0 rfl ?_
    refine awp_skip ?_
    show Covers _ _
    refine zq rfl ?_ ?_
    simp -dsimp only [simprocAttr,↓vpre,zp,zc]
    rfl
   refine zh2 (za0 ?_)
   refine awp_block (awp_loop (ι:={j:Nat // j≤t.cases.length∧casesE t.cases t.cases.length=casesE t.cases (t.cases.length - j)}) (fun j=>⟨78,[(2,.ip none [aI f.name,eBlocks f.blocks]),(3,.ip none [aI t.kind,aI t.arg,aI t.n,eIs t.cases,eEdges t.to]),(4,aI 0),(29,eIs t.cases),(30,aI t.cases.length),(31,aI j.1)],[.gone,.gone]⟩) (fun j=>t.cases.length - j.1) ⟨0,by omega,rfl⟩ ?_ ?_)
   ·refine zq rfl ?_ ?_
    simp -dsimp only [simprocAttr,↓vpre,zp,zc]
    rfl
   rintro⟨j,hj,hje⟩
   refine zh1 (za0 ?_)
   apply zk1 rfl<;>intro h
   ·refine zb0 ?_
    have hlt:j<t.cases.length:=by simpa using h
    obtain⟨c,hcc⟩:∃c,t.cases[j]?=some c:=⟨t.cases[j],by simp [hlt]⟩
    have hstep:=casesE_step hcc
    rw [←hje] at hstep
    have hisw:=isWord_spec c
    have hcon:=contains_spec (t.cases.take j) c
    refine awp_seq (awp_block ?_)
    refine zg1 ?_
    simp -dsimp only [simprocAttr,↓vpre,zp,hcc]
    refine za0 ?_
    refine awp_block ?_
    refine zh1 ?_
    refine zi hisw ?_
    refine za0 ?_
    cases hw:decide (isW c) with
    | false =>
     rw [hw] at hstep
     refine zw0 rfl ?_
     refine zh1 (za0 ?_)
     refine awp_ret ?_
     simp -dsimp only [simprocAttr,↓vpre,zp,zr,Try.results69]
     simp [hR,hstep]
    | true =>
     rw [hw] at hstep
     refine zu0 rfl ?_
     refine zg1 ?_
     simp -dsimp only [simprocAttr,↓vpre,zp,Int.toNat_natCast,List.drop_zero,←List.map_take]
     repeat(refine⟨by omega,?_⟩)
     refine zi hcon ?_
     refine za0 ?_
     cases hh:hasI (t.cases.take j) c with
     | true =>
      rw [hh] at hstep
      refine zw0 rfl ?_
      refine zh1 (za0 ?_)
      refine awp_ret ?_
      simp -dsimp only [simprocAttr,↓vpre,zp,zr,Try.results69]
      simp [hR,hstep]
     | false =>
      rw [hh] at hstep
      refine zu0 rfl ?_
      refine zb2 ?_
      refine zh0 ?_
      repeat(refine⟨by omega,?_⟩)
      refine zl0 ?_
      refine⟨⟨j+1,hlt,by rw [hstep];simp⟩,by simp;omega,?_⟩
      refine zq rfl ?_ ?_
      simp -dsimp only [simprocAttr,↓vpre,zp,zc]
      ·exact Sub.int (by simp)
      rfl
   refine awp_exit ?_
   simp -dsimp only [vend,ne_eq,Nat.reduceEqDiff,reduceCtorEq]
   have hjj:j=t.cases.length:=by simp at h;omega
   subst hjj
   have hz:casesE t.cases t.cases.length=0:=by rw [hje,Nat.sub_self];rfl
   rw [hz,if_neg (by simp)] at hR
   refine zh2 (za0 ?_)
   refine awp_len 49 rfl (fun htl=>?_)
   simp only [List.length_map] at htl
   refine awp_block (awp_loop (ι:={j:Nat // j≤t.to.length∧R=edgesE f (t.to.drop j)}) (fun j=>⟨78,[(2,.ip none [aI f.name,eBlocks f.blocks]),(4,aI 0),(49,eEdges t.to),(50,aI t.to.length),(51,aI j.1)],[.gone,.gone]⟩) (fun j=>t.to.length - j.1) ⟨0,by omega,hR⟩ ?_ ?_)
   ·refine zq rfl ?_ ?_
    simp -dsimp only [simprocAttr,↓vpre,zp,zc]
    rfl
   rintro⟨j,hj,hje⟩
   refine zh1 (za0 ?_)
   apply zk1 rfl<;>intro h
   ·refine zb0 ?_
    have hlt:j<t.to.length:=by simpa using h
    obtain⟨e,hee⟩:∃e,t.to[j]?=some e:=⟨t.to[j],by simp [hlt]⟩
    have hstep:=edgesE_step (f:=f) hee
    rw [←hje] at hstep
    have hwe:=hedge e
    refine awp_seq (awp_block ?_)
    refine zg1 ?_
    simp -dsimp only [simprocAttr,↓vpre,zp,hee]
    refine za0 ?_
    refine awp_freeze1 8 2 (.ip none [aI e.block,eIs e.args]) rfl (by simp [AObj.isSpare]) trivial rfl ?_ ?_
    rotate_left
    simp -dsimp only [simprocAttr,↓vpre,zp]
    ·refine awp_trunc' 2 [(2,.ip none [aI f.name,eBlocks f.blocks]),(4,aI 0),(8,.ip none [aI e.block,eIs e.args]),(49,eEdges t.to),(50,aI t.to.length),(51,aI j)] (by simp) (by omega) [.gone,.gone] ?_ ?_ ?_ ?_ ?_
     ·rfl
     ·simp [AObj.upto]
     ·simp [Says,St.get,putS,dropS,Go.Av.look,Sub.refl]
     ·simp [uptoL,AVal.upto,aI_upto,Block.map_upto,Edge.map_upto]
     cases hw:within e.block 1 ((f.blocks.length:Int) - 1) with
     | false =>
      rw [hw] at hstep hwe
      refine awp_block ?_
      refine zh1 ?_
      repeat(refine⟨by omega,?_⟩)
      refine zi hwe ?_
      refine za0 ?_
      refine zw0 rfl ?_
      refine zh1 (za0 ?_)
      refine awp_ret ?_
      simp -dsimp only [simprocAttr,↓vpre,zp,zr,Try.results69]
      simp [hstep]
     | true =>
      rw [hw] at hstep hwe
      have hwi:=within_iff.1 hw
      have hB:=blkOf_at (f:=f) (k:=e.block) (by omega) (by omega)
      generalize blkOf f e.block=B at *
      by_cases hl:e.args.length=B.params.length
      ·have hdl:decide ((e.args.length:Int)=B.params.length)=true:=decide_eq_true (by omega)
       refine awp_block ?_
       refine zh1 ?_
       repeat(refine⟨by omega,?_⟩)
       refine zi hwe ?_
       refine za0 ?_
       refine zu0 rfl ?_
       refine zg1 ?_
       simp -dsimp only [simprocAttr,↓vpre,zp,hB,hdl]
       repeat(refine⟨by omega,?_⟩)
       refine⟨ob (by kernel_rfl),?_⟩
       refine za0 ?_
       refine zu0 rfl ?_
       refine zb2 ?_
       refine zh0 ?_
       repeat(refine⟨by omega,?_⟩)
       refine zl0 ?_
       refine⟨⟨j+1,hlt,by rw [hstep];simp [hl]⟩,by simp;omega,?_⟩
       refine zq rfl ?_ ?_
       simp -dsimp only [simprocAttr,↓vpre,zp,zc]
       ·exact Sub.int (by simp)
       rfl
      have hdl:decide ((e.args.length:Int)=B.params.length)=false:=decide_eq_false (by omega)
      refine awp_block ?_
      refine zh1 ?_
      repeat(refine⟨by omega,?_⟩)
      refine zi hwe ?_
      refine za0 ?_
      refine zu0 rfl ?_
      refine zg1 ?_
      simp -dsimp only [simprocAttr,↓vpre,zp,hB,hdl]
      repeat(refine⟨by omega,?_⟩)
      refine⟨ob (by kernel_rfl),?_⟩
      refine za0 ?_
      refine zw0 rfl ?_
      refine zh1 (za0 ?_)
      refine awp_ret ?_
      simp -dsimp only [simprocAttr,↓vpre,zp,zr,Try.results69]
      simp [hstep,hl]
    exact FSub.mp rfl rfl
   refine awp_exit ?_
   simp -dsimp only [vend,ne_eq,Nat.reduceEqDiff,reduceCtorEq]
   have hjj:j=t.to.length:=by simp at h;omega
   subst hjj
   rw [List.drop_length] at hje
   refine zh1 (za0 ?_)
   refine awp_ret ?_
   simp -dsimp only [simprocAttr,↓vpre,zp,zr,Try.results69]
   simp [hje,edgesE]
  exact FSub.mp rfl rfl
 exact FSub.mp rfl rfl
abbrev Defs:=List (Int×Int×Int)
def eD(p:Int×Int):AVal:=.agg [aI p.1,aI p.2]
def dent(e:Int×Int×Int):Value×AVal:=(.int .i64 e.1,eD e.2)
def lookD:Defs→Int→Option (Int×Int)
 | [],_=>none
 | (k,p)::r,key=>if k=key then some p else lookD r key
theorem lookD_ent(es:Defs)(k:Int):lookV (es.map dent) (.int .i64 k)=(lookD es k).map eD:=by
 induction es with
 | nil=>rfl
 | cons p r ih =>
  obtain⟨a,v⟩:=p
  simp only [List.map_cons,dent,lookV,lookD,eqKey_i64,decide_eq_true_eq]
  split
  ·rfl
  exact ih
theorem putD_ent{es:Defs}{k:Int}(p:Int×Int)(h:lookD es k=none):putV (es.map dent) (.int .i64 k) (.agg [aI p.1,aI p.2])=(es++[(k,p)]).map dent:=by
 induction es with
 | nil=>rfl
 | cons q r ih =>
  obtain⟨a,v⟩:=q
  simp only [lookD] at h
  split at h
  ·cases h
  rename_i hne
  simp only [List.map_cons,dent,putV,eqKey_i64,decide_eq_true_eq,if_neg hne,List.cons_append]
  rw [←ih h]
theorem defs_upto(n:Nat)(es:Defs):uptoE n (es.map dent):=by
 induction es with
 | nil=>trivial
 | cons p r ih=>exact⟨⟨trivial,trivial,trivial⟩,ih⟩
def defineM(ds:Defs)(v:Int)(p:Int×Int):Int×Defs :=
 if !within v 0 4095 then (4,ds) else if (lookD ds v).isSome then (7,ds) else (0,ds++[(v,p)])
theorem define_spec{O:List AObj}(hup:∀o∈O,o.upto O.length){c d:Nat}{f:Func}{ds:Defs}(hc:O[c]?=some (.cells [aI f.name,eBlocks f.blocks,.mm d]))(hd:O[d]?=some (.map (.int .i64) (ds.map dent)))(v:Int)(p:Int×Int) :
  ECall Try.prog 76 O [.mp c 0,aI v,.agg [aI p.1,aI p.2]] (fun r O'=>r=aI (defineM ds v p).1∧O'=O.set d (.map (.int .i64) ((defineM ds v p).2.map dent))):=by
 have hw:=within_spec v 0 4095
 have hcl:=lt_of_getElem? hc
 have hsame:O.set d (.map (.int .i64) (ds.map dent))=O:=set_same hd
 unfold defineM
 cases hv:within v 0 4095 with
 | false =>
  rw [hv] at hw
  refine zf true O.length Try.func76 Try.ntmps76 ?_
  dsimp only [Tmp,TypeId,slotsOf]
  refine zh1 (za0 ?_)
  refine awp_local 5 ([aI p.1,aI p.2]) [(0,.mp c 0),(1,aI v),(5,.ip none [aI p.1,aI p.2]),(6,aI 0)] rfl (by rfl) (by omega) (by simp [putS,dropS,Go.Av.look]) ?_ ?_ ?_
  ·exact hup
  ·simp [AVal.upto,uptoL,hcl]
  refine zh2 ?_
  refine zi hw ?_
  refine za0 ?_
  refine zw0 rfl ?_
  refine zh1 (za0 ?_)
  refine awp_ret ?_
  simp -dsimp only [simprocAttr,↓vpre,zp,zr,Try.results76]
  exact⟨hup,hsame.symm⟩
 | true =>
  rw [hv] at hw
  cases hl:lookD ds v with
  | some q =>
   have hq:eD q=.agg [aI q.1,aI q.2]:=rfl
   refine zf true O.length Try.func76 Try.ntmps76 ?_
   dsimp only [Tmp,TypeId,slotsOf]
   refine zh1 (za0 ?_)
   refine awp_local 5 ([aI p.1,aI p.2]) [(0,.mp c 0),(1,aI v),(5,.ip none [aI p.1,aI p.2]),(6,aI 0)] rfl (by rfl) (by omega) (by simp [putS,dropS,Go.Av.look]) ?_ ?_ ?_
   ·exact hup
   ·simp [AVal.upto,uptoL,hcl]
   refine zh2 ?_
   refine zi hw ?_
   refine za0 ?_
   refine zu0 rfl ?_
   refine zb0 ?_
   refine zg2 ?_
   simp -dsimp only [simprocAttr,↓vpre,zp,hc,hd,lookD_ent,hl,hq,Option.map_some,Option.getD_some,Option.isSome_some]
   refine za0 ?_
   refine zh1 (za0 ?_)
   refine zw0 rfl ?_
   refine zh1 (za0 ?_)
   refine awp_ret ?_
   simp -dsimp only [simprocAttr,↓vpre,zp,zr,Try.results76]
   exact⟨hup,hsame.symm⟩
  | none =>
   have hput:=putD_ent p hl
   have hup2:=uptoO_set (k:=d) (x:=.map (.int .i64) ((ds++[(v,p)]).map dent)) hup (defs_upto _ _)
   have htk:=take_set_len (O:=O) (k:=d) (x:=.map (.int .i64) ((ds++[(v,p)]).map dent))
   refine zf true O.length Try.func76 Try.ntmps76 ?_
   dsimp only [Tmp,TypeId,slotsOf]
   refine zh1 (za0 ?_)
   refine awp_local 5 ([aI p.1,aI p.2]) [(0,.mp c 0),(1,aI v),(5,.ip none [aI p.1,aI p.2]),(6,aI 0)] rfl (by rfl) (by omega) (by simp [putS,dropS,Go.Av.look]) ?_ ?_ ?_
   ·exact hup
   ·simp [AVal.upto,uptoL,hcl]
   refine zh2 ?_
   refine zi hw ?_
   refine za0 ?_
   refine zu0 rfl ?_
   refine zb0 ?_
   refine zg2 ?_
   simp -dsimp only [simprocAttr,↓vpre,zp,hc,hd,lookD_ent,hl,Option.map_none,Option.getD_none,Option.isSome_none]
   refine za0 ?_
   refine awp_local 7 ([aI 0,aI 0]) [(0,.mp c 0),(1,aI v),(5,.ip none [aI p.1,aI p.2]),(6,aI 0),(8,.v (.bool false))] rfl (by rfl) (by omega) (by simp [putS,dropS,Go.Av.look]) ?_ ?_ ?_
   ·exact hup
   ·simp [AVal.upto,uptoL,hcl]
   refine zh1 (za0 ?_)
   refine zu0 rfl ?_
   refine zb0 ?_
   refine zg1 ?_
   simp -dsimp only [simprocAttr,↓vpre,zp,hc,hd,hput]
   refine⟨ob (by kernel_rfl),?_⟩
   refine za0 ?_
   refine zh1 (za0 ?_)
   refine awp_ret ?_
   simp -dsimp only [simprocAttr,↓vpre,zp,zr,Try.results76,htk,List.length_set]
   exact hup2
def paramsM(k:Int):Defs→List Int→Int×Defs
 | ds,[]=>(0,ds)
 | ds,p::r=>if (defineM ds p (k,0)).1≠0 then defineM ds p (k,0) else paramsM k (defineM ds p (k,0)).2 r
def insM(k:Int):Int→Defs→List Ins→Int×Defs
 | _,ds,[]=>(0,ds)
 | n,ds,i::r=>if (defineM ds i.to (k,n+1)).1≠0 then defineM ds i.to (k,n+1) else if formE i≠0 then (formE i,(defineM ds i.to (k,n+1)).2) else insM k (n+1) (defineM ds i.to (k,n+1)).2 r
def blockM(f:Func)(ds:Defs)(k:Int):Int×Defs :=
 if (paramsM k ds (blkOf f k).params).1≠0 then paramsM k ds (blkOf f k).params
 else if (insM k 0 (paramsM k ds (blkOf f k).params).2 (blkOf f k).ins).1≠0 then insM k 0 (paramsM k ds (blkOf f k).params).2 (blkOf f k).ins
 else (endE f (blkOf f k).term,(insM k 0 (paramsM k ds (blkOf f k).params).2 (blkOf f k).ins).2)
theorem drop_at{α:Type}{l:List α}{j:Nat}{x:α}(h:l[j]?=some x):l.drop j=x::l.drop (j+1):=by
 have hlt:=lt_of_getElem? h
 rw [List.getElem?_eq_getElem hlt] at h
 simp only [Option.some.injEq] at h
 rw [List.drop_eq_getElem_cons hlt,h]
theorem block_spec{O:List AObj}(hup:∀o∈O,o.upto O.length){c d:Nat}(hcd:c≠d){f:Func}{ds:Defs}(hc:O[c]?=some (.cells [aI f.name,eBlocks f.blocks,.mm d]))(hd:O[d]?=some (.map (.int .i64) (ds.map dent)))(k:Int)(hk0:0≤k)(hk1:k<f.blocks.length)
  (hbl:f.blocks.length≤2 ^ 60) (hcl:(blkOf f k).term.cases.length≤2 ^ 60) :
  ECall Try.prog 62 O [.mp c 0,aI k] (fun r O'=>r=aI (blockM f ds k).1∧O'=O.set d (.map (.int .i64) ((blockM f ds k).2.map dent))):=by
 have hB:=blkOf_at hk0 hk1
 have hcll:=lt_of_getElem? hc
 obtain⟨R,hR⟩:∃R,R=blockM f ds k:=⟨_,rfl⟩
 rw [←hR]
 unfold blockM at hR
 have hend:=end_spec f (blkOf f k).term hcl hbl
 generalize blkOf f k=B at *
 have hcX:∀x,(O.set d x)[c]?=some (.cells [aI f.name,eBlocks f.blocks,.mm d]):=fun x=>at_set_ne hc hcd.symm
 have hdX:=set_self hd
 have hupX:∀(es:Defs),∀o∈O.set d (.map (.int .i64) (es.map dent)),o.upto (O.set d (.map (.int .i64) (es.map dent))).length:=fun es=>by
  rw [List.length_set]
  exact uptoO_set hup (defs_upto _ _)
 have hdef:∀(es:Defs) (v:Int) (p:Int×Int),ECall Try.prog 76 (O.set d (.map (.int .i64) (es.map dent))) [.mp c 0,aI v,.agg [aI p.1,aI p.2]] (fun r O'=>r=aI (defineM es v p).1∧O'=O.set d (.map (.int .i64) ((defineM es v p).2.map dent))):=fun es v p=>by
  have h:=define_spec (hupX es) (hcX _) (hdX (.map (.int .i64) (es.map dent))) v p
  rw [List.set_set] at h
  exact h
 have hsame:O.set d (.map (.int .i64) (ds.map dent))=O:=set_same hd
 have htk:∀es:Defs,(O.set d (.map (.int .i64) (es.map dent))).take O.length=O.set d (.map (.int .i64) (es.map dent)):=fun es=>take_set_len
 have hup3:∀es:Defs,∀o∈O.set d (.map (.int .i64) (es.map dent)),o.upto O.length:=fun es=>uptoO_set hup (defs_upto _ _)
 refine zf true O.length Try.func62 Try.ntmps62 ?_
 dsimp only [Tmp,TypeId,slotsOf]
 refine zh1 (za0 ?_)
 refine zg1 ?_
 simp -dsimp only [simprocAttr,↓vpre,zp,hc,hB]
 repeat(refine⟨by omega,?_⟩)
 refine za0 ?_
 refine awp_local 5 ([eIs B.params,eInss B.ins,aI B.term.kind,aI B.term.arg,aI B.term.n,eIs B.term.cases,eEdges B.term.to]) [(0,.mp c 0),(1,aI k),(4,aI 0),(5,.ip none [eIs B.params,eInss B.ins,aI B.term.kind,aI B.term.arg,aI B.term.n,eIs B.term.cases,eEdges B.term.to])] rfl (by rfl) (by omega) (by simp [putS,dropS,Go.Av.look]) ?_ ?_ ?_
 ·exact hup
 ·simp [AVal.upto,uptoL,hcll,aI_upto,Edge.map_upto,Ins.map_upto]
 refine zh2 (za0 ?_)
 refine awp_len 22 rfl (fun hpl=>?_)
 simp only [List.length_map] at hpl
 refine awp_block (awp_loop (ι:={x:Nat×Defs // x.1≤B.params.length∧paramsM k ds B.params=paramsM k x.2 (B.params.drop x.1)}) (fun x=>⟨69,[(0,.mp c 0),(1,aI k),(4,aI 0),(5,.ip none [eIs B.params,eInss B.ins,aI B.term.kind,aI B.term.arg,aI B.term.n,eIs B.term.cases,eEdges B.term.to]),(22,eIs B.params),(23,aI B.params.length),(24,aI x.1.1)],O.set d (.map (.int .i64) (x.1.2.map dent))⟩) (fun x=>B.params.length - x.1.1) ⟨(0,ds),by simp,rfl⟩ ?_ ?_)
 ·refine zq rfl ?_ ?_
  simp -dsimp only [simprocAttr,↓vpre,zp,zc]
  rw [hsame]
 rintro⟨⟨j,es⟩,hj,hje⟩
 simp only at hj hje
 refine zh1 (za0 ?_)
 apply zk1 rfl<;>intro h
 ·refine zb0 ?_
  have hlt:j<B.params.length:=by simpa using h
  obtain⟨p,hp⟩:∃p,B.params[j]?=some p:=⟨B.params[j],by simp [hlt]⟩
  have hstep:=hje
  rw [drop_at hp] at hstep
  simp only [paramsM] at hstep
  have hdf:=hdef es p (k,0)
  generalize defineM es p (k,0)=X at *
  refine awp_seq (awp_block ?_)
  refine zg1 ?_
  simp -dsimp only [simprocAttr,↓vpre,zp,hp]
  refine za0 ?_
  refine zh1 ?_
  refine .inr (.inl ⟨_,_,hdf,.inl (later_intro (zj ?_))⟩)
  refine za0 ?_
  by_cases hX:X.1=0
  ·have hdx:decide (X.1=0)=true:=decide_eq_true hX
   rw [if_neg (by simp [hX])] at hstep
   refine zg1 ?_
   simp -dsimp only [simprocAttr,↓vpre,zp,hdx]
   refine za0 ?_
   refine zu0 rfl ?_
   refine zb1 ?_
   refine zh0 ?_
   repeat(refine⟨by omega,?_⟩)
   refine zl0 ?_
   refine⟨⟨(j+1,X.2),by simp only;omega,hstep⟩,by simp;omega,?_⟩
   refine zq rfl ?_ ?_
   simp -dsimp only [simprocAttr,↓vpre,zp,zc]
   ·exact Sub.int (by simp)
   rfl
  have hdx:decide (X.1=0)=false:=decide_eq_false hX
  rw [if_pos hX] at hstep
  rw [hstep,if_pos hX] at hR
  refine zg1 ?_
  simp -dsimp only [simprocAttr,↓vpre,zp,hdx]
  refine za0 ?_
  refine zw0 rfl ?_
  refine zh1 (za0 ?_)
  refine awp_ret ?_
  simp -dsimp only [simprocAttr,↓vpre,zp,zr,Try.results62,htk,List.length_set]
  rw [hR]
  exact⟨hup3 X.2,rfl,rfl⟩
 refine awp_exit ?_
 simp -dsimp only [vend,ne_eq,Nat.reduceEqDiff,reduceCtorEq]
 have hjj:j=B.params.length:=by simp at h;omega
 subst hjj
 rw [List.drop_length] at hje
 simp only [paramsM] at hje
 rw [hje,if_neg (by simp)] at hR
 simp only at hR
 refine zh2 (za0 ?_)
 refine awp_len 38 rfl (fun hil=>?_)
 simp only [List.length_map] at hil
 refine awp_block (awp_loop (ι:={x:Nat×Defs // x.1≤B.ins.length∧insM k 0 es B.ins=insM k x.1 x.2 (B.ins.drop x.1)}) (fun x=>⟨69,[(0,.mp c 0),(1,aI k),(4,aI 0),(5,.ip none [eIs B.params,eInss B.ins,aI B.term.kind,aI B.term.arg,aI B.term.n,eIs B.term.cases,eEdges B.term.to]),(38,eInss B.ins),(39,aI B.ins.length),(40,aI x.1.1)],O.set d (.map (.int .i64) (x.1.2.map dent))⟩) (fun x=>B.ins.length - x.1.1) ⟨(0,es),by simp,rfl⟩ ?_ ?_)
 ·refine zq rfl ?_ ?_
  simp -dsimp only [simprocAttr,↓vpre,zp,zc]
  rfl
 rintro⟨⟨j,es'⟩,hj,hje⟩
 simp only at hj hje
 refine zh1 (za0 ?_)
 apply zk1 rfl<;>intro h
 ·refine zb0 ?_
  have hlt:j<B.ins.length:=by simpa using h
  obtain⟨i,hi⟩:∃i,B.ins[j]?=some i:=⟨B.ins[j],by simp [hlt]⟩
  have hstep:=hje
  rw [drop_at hi] at hstep
  simp only [insM] at hstep
  have hdf:=hdef es' i.to (k,(j:Int)+1)
  have hform:=form_spec i
  generalize formE i=e at *
  generalize defineM es' i.to (k,(j:Int)+1)=X at *
  refine awp_seq (awp_block ?_)
  refine zg1 ?_
  simp -dsimp only [simprocAttr,↓vpre,zp,hi]
  refine za0 ?_
  refine awp_local 10 ([aI i.to,aI i.op,aI i.n,eIs i.args]) [(0,.mp c 0),(1,aI k),(4,aI 0),(5,.ip none [eIs B.params,eInss B.ins,aI B.term.kind,aI B.term.arg,aI B.term.n,eIs B.term.cases,eEdges B.term.to]),(38,eInss B.ins),(39,aI B.ins.length),(40,aI j),(9,aI j),(10,.ip none [aI i.to,aI i.op,aI i.n,eIs i.args])] (by simp [putS,dropS,Go.Av.look]) (by rfl) (by simp) (by simp [putS,dropS,Go.Av.look]) ?_ ?_ ?_
  ·exact hupX es'
  ·simp [AVal.upto,uptoL,hcll,aI_upto,Edge.map_upto,Ins.map_upto]
  refine zh2 ?_
  repeat(refine⟨by omega,?_⟩)
  refine .inr (.inl ⟨_,_,hdf,.inl (later_intro (zj ?_))⟩)
  refine za0 ?_
  by_cases hX:X.1=0
  ·have hdx:decide (X.1=0)=true:=decide_eq_true hX
   rw [if_neg (by simp [hX])] at hstep
   refine zg1 ?_
   simp -dsimp only [simprocAttr,↓vpre,zp,hdx]
   refine za0 ?_
   refine zu0 rfl ?_
   refine zb0 ?_
   refine zh1 ?_
   refine zi hform ?_
   refine za0 ?_
   by_cases he:e=0
   ·have hde:decide (e=0)=true:=decide_eq_true he
    rw [if_neg (by simp [he])] at hstep
    refine zg1 ?_
    simp -dsimp only [simprocAttr,↓vpre,zp,hde]
    refine za0 ?_
    refine zu0 rfl ?_
    refine zb1 ?_
    refine zh0 ?_
    repeat(refine⟨by omega,?_⟩)
    refine zl0 ?_
    refine⟨⟨(j+1,X.2),by simp only;omega,hstep⟩,by simp;omega,?_⟩
    refine zq rfl ?_ ?_
    simp -dsimp only [simprocAttr,↓vpre,zp,zc]
    ·exact Sub.int (by simp)
    rfl
   have hde:decide (e=0)=false:=decide_eq_false he
   rw [if_pos he] at hstep
   rw [hstep,if_pos he] at hR
   refine zg1 ?_
   simp -dsimp only [simprocAttr,↓vpre,zp,hde]
   refine za0 ?_
   refine zw0 rfl ?_
   refine zh1 (za0 ?_)
   refine awp_ret ?_
   simp -dsimp only [simprocAttr,↓vpre,zp,zr,Try.results62,htk,List.length_set]
   rw [hR]
   exact⟨hup3 X.2,rfl,rfl⟩
  have hdx:decide (X.1=0)=false:=decide_eq_false hX
  rw [if_pos hX] at hstep
  rw [hstep,if_pos hX] at hR
  refine zg1 ?_
  simp -dsimp only [simprocAttr,↓vpre,zp,hdx]
  refine za0 ?_
  refine zw0 rfl ?_
  refine zh1 (za0 ?_)
  refine awp_ret ?_
  simp -dsimp only [simprocAttr,↓vpre,zp,zr,Try.results62,htk,List.length_set]
  rw [hR]
  exact⟨hup3 X.2,rfl,rfl⟩
 refine awp_exit ?_
 simp -dsimp only [vend,ne_eq,Nat.reduceEqDiff,reduceCtorEq]
 have hjj:j=B.ins.length:=by simp at h;omega
 subst hjj
 rw [List.drop_length] at hje
 simp only [insM] at hje
 rw [hje,if_neg (by simp)] at hR
 simp only at hR
 refine zg1 ?_
 simp -dsimp only [simprocAttr,↓vpre,zp,hcX]
 refine zi hend ?_
 refine⟨ob (by kernel_rfl),?_⟩
 refine za0 ?_
 refine awp_ret ?_
 simp -dsimp only [simprocAttr,↓vpre,zp,zr,Try.results62,htk,List.length_set]
 rw [hR]
 exact⟨hup3 es',rfl,rfl⟩
theorem pair145:PairOK Try.prog 132 .u64:=by
 obtain⟨⟨i,z,q1,q2,_⟩,_⟩:=hT 130 _ tab_130
 exact⟨130,i,Try.underlying132,q1,q2,Try.underlying130,by kernel_rfl⟩
theorem bs_dec(N V:Bs):(decide ((N.a:Int)=V.a)&&decide ((N.b:Int)=V.b))=decide (N=V):=by
 obtain⟨n1,n2⟩:=N
 obtain⟨v1,v2⟩:=V
 simp only [Bs.mk.injEq,Int.natCast_inj]
 by_cases q1:n1=v1<;>by_cases q2:n2=v2<;>simp [q1,q2]
theorem vcBin_bs(N V:Bs)(K:Kont):vcBin Try.prog .neq 132 N.enc V.enc K=K (.v (.bool (!decide (N=V)))) .pure:=by
 show((IntKind.u64=IntKind.u64∧IntKind.u64=IntKind.u64∧IntKind.u64=IntKind.u64∧PairOK Try.prog 132 .u64)∧on (nilTest .neq (decide ((N.a:Int)=V.a)&&decide ((N.b:Int)=V.b))) fun r=>K (.v (.bool r)) .pure)=_
 rw [bs_dec]
 simp only [pair145,nilTest,on_some,and_self,true_and]
theorem cellsAll_get{sz:Nat}:∀{xs:List AVal} {k:Nat} {x:AVal},(∀y∈xs,y.cells.length=sz)→xs[k]?=some x→((cellsAll xs).drop (k * sz)).take sz=x.cells
 | q::r,0,x,hsz,h=>by
  simp only [List.getElem?_cons_zero,Option.some.injEq] at h
  subst h
  have hq:=hsz q (by simp)
  simp only [cellsAll,List.flatMap_cons,Nat.zero_mul,List.drop_zero]
  rw [List.take_append_of_le_length (by omega),List.take_of_length_le (by omega)]
 | q::r,k+1,x,hsz,h=>by
  have ih:=cellsAll_get (xs:=r) (k:=k) (x:=x) (fun y hy=>hsz y (by simp [hy])) (by simpa using h)
  have hq:=hsz q (by simp)
  have e1:(k+1) * sz - sz=k * sz:=by rw [Nat.succ_mul];omega
  have e3:sz≤(k+1) * sz:=by rw [Nat.succ_mul];omega
  simp only [cellsAll,List.flatMap_cons] at ih ⊢
  rw [List.drop_append,List.drop_of_length_le (by omega),hq,e1,List.nil_append]
  exact ih
theorem bs_sz(l:List Bs):∀y∈l.map Bs.enc,y.cells.length=2:=fun y hy=>by
 obtain⟨s,_,rfl⟩:=List.mem_map.1 hy
 rfl
theorem bs_len(l:List Bs):(cellsAll (l.map Bs.enc)).length=l.length * 2:=by
 rw [cellsAll_length (bs_sz l),List.length_map]
theorem bs_get{l:List Bs}{k:Nat}{s:Bs}(h:l[k]?=some s):((cellsAll (l.map Bs.enc)).drop (k * 2)).take 2=[.v (.int .u64 s.a),.v (.int .u64 s.b)]:=cellsAll_get (bs_sz l) (x:=s.enc) (by simp [h])
theorem bs_set{l:List Bs}{k:Nat}(h:k<l.length)(s:Bs):splice (cellsAll (l.map Bs.enc)) (k * 2) [.v (.int .u64 s.a),.v (.int .u64 s.b)]=cellsAll ((l.set k s).map Bs.enc):=by
 have:=cellsAll_set (bs_sz l) (k:=k) (by simpa using h) (y:=s.enc) rfl
 rw [←List.map_set] at this
 exact this
theorem bs_uptoL(n:Nat)(l:List Bs):uptoL n (l.map Bs.enc):=by
 rw [uptoL_iff]
 intro x hx
 obtain⟨s,_,rfl⟩:=List.mem_map.1 hx
 exact s.enc_upto n
theorem bs_upto(n:Nat)(l:List Bs):uptoL n (cellsAll (l.map Bs.enc)):=by
 rw [uptoL_iff]
 intro c hc
 simp only [cellsAll,List.mem_flatMap,List.mem_map] at hc
 obtain⟨_,⟨p,_,rfl⟩,hc⟩:=hc
 simp only [Bs.enc_cells,List.mem_cons,List.mem_nil_iff,or_false] at hc
 rcases hc with rfl | rfl<;>trivial
theorem bs_fold(s:Bs):AVal.agg [.v (.int .u64 s.a),.v (.int .u64 s.b)]=s.enc:=rfl
theorem allB_fit:∀n,n≤128→(allB n).fit
 | 0,_=>Bs.fit_none
 | n+1,h=>Bs.fit_add (allB_fit n (by omega)) (by omega)
theorem allB_has:∀n,n≤128→∀k,k<n→(allB n).has k=true
 | n+1,h,k,hk=>by
  simp only [allB]
  rw [Bs.has_add _ _ _ (by omega) (by omega)]
  by_cases e:k=n
  ·simp [e]
  rw [allB_has n (by omega) k (by omega)]
  rfl
theorem domS_ok{f:Func}(h0:f.blocks≠[])(h1:f.blocks.length≤128):DsOK f.blocks.length (domS f) where
 few:=h1
 len:=by simp [domS]
 fit:=fun s hs=>by
  rcases List.mem_or_eq_of_mem_set hs with q | q
  ·rw [(List.mem_replicate.1 q).2]
   exact allB_fit _ h1
  rw [q]
  exact Bs.fit_add Bs.fit_none (by omega)
 seen:=Bs.fit_add Bs.fit_none (by omega)
 self:=fun k hk=>by
  unfold Ds.at_ domS
  by_cases e:k=0
  ·subst e
   rw [List.getElem?_set_self (by simpa using hk)]
   decide
  rw [List.getElem?_set_ne (Ne.symm e)]
  simp only [List.getElem?_replicate,hk,if_true,Option.getD_some]
  exact allB_has _ h1 k hk
theorem sum_le{l:List Nat}{b:Nat}(h:∀x∈l,x≤b):l.sum≤l.length * b:=by
 induction l with
 | nil=>simp
 | cons a r ih =>
  have:=h a (by simp)
  have:=ih fun x hx=>h x (by simp [hx])
  simp only [List.sum_cons,List.length_cons,Nat.succ_mul]
  omega
theorem weight_le{n:Nat}{S:Ds}(h:DsOK n S):S.weight≤16512:=by
 have h1:(S.over.map Bs.size).sum≤(S.over.map Bs.size).length * 128:=sum_le fun x hx=>by
  obtain⟨s,_,rfl⟩:=List.mem_map.1 hx
  exact s.size_le_all
 have h2:=h.few
 have h3:=h.len
 simp only [List.length_map] at h1
 have h4:S.over.length * 128≤128 * 128:=Nat.mul_le_mul_right _ (by omega)
 simp only [Ds.weight]
 omega
theorem domI_done{f:Func}{S:Ds}(h:S.again=false)(n:Nat):domI f n S=S:=by
 cases n with
 | zero=>rfl
 | succ n=>simp [domI,h]
theorem dominators_spec(f:Func)(h0:f.blocks≠[])(h1:f.blocks.length≤128)(he:∀b∈f.blocks,∀e∈b.term.to,0≤e.block∧e.block.toNat<f.blocks.length) :
  PCall Try.prog 78 [f.enc] (.tup [.lst 2 ((domM f).1.map Bs.enc) .sh,(domM f).2.enc]):=by
 have hS:=domS_ok h0 h1
 have hp0:=List.length_pos_iff.2 h0
 have hwith:∀(s:Bs) (k:Nat),s.fit→k<128→PCall Try.prog 103 [s.enc,aI k] (s.add k).enc:=fun s k hs hk=>with_spec s hs k hk
 obtain⟨R,hR⟩:∃R,R=domI f 20000 (domS f):=⟨_,rfl⟩
 have hM:domM f=(R.over,R.seen):=by rw [hR];rfl
 rw [hM]
 obtain⟨n,hn⟩:∃n,n=f.blocks.length:=⟨_,rfl⟩
 rw [←hn] at hS hp0 h1 he
 have hnone:AVal.agg [.v (.int .u64 0),.v (.int .u64 0)]=Bs.none.enc:=rfl
 refine zf true 0 Try.func78 Try.ntmps78 ?_
 dsimp only [Tmp,TypeId,slotsOf]
 refine zg1 ?_
 simp -dsimp only [simprocAttr,↓vpre,zp,Bs.enc_cells,Bs.enc_flat,Bs.enc_share,bs_fold]
 refine za0 ?_
 refine awp_freeze1 1 0 (.ip none [aI f.name,eBlocks f.blocks]) rfl (by simp [AObj.isSpare]) trivial rfl ?_ ?_
 rotate_left
 simp -dsimp only [simprocAttr,↓vpre,zp,Bs.enc_cells,Bs.enc_flat,Bs.enc_share,bs_fold]
 ·refine zg1 ?_
  simp -dsimp only [simprocAttr,↓vpre,zp,Bs.enc_cells,Bs.enc_flat,Bs.enc_share,bs_fold]
  refine za0 ?_
  refine zg2 ?_
  simp -dsimp only [simprocAttr,↓vpre,zp,Bs.enc_cells,Bs.enc_flat,Bs.enc_share,bs_fold,←hn]
  refine za0 ?_
  refine awp_block (awp_loop (ι:={j:Nat // j≤n}) (fun j=>⟨106,[(1,.ip none [aI f.name,eBlocks f.blocks]),(3,.mp 1 0),(4,.mp 2 0),(17,aI n),(18,aI j.1)],[.gone,.cells [.v (.int .u64 0),.v (.int .u64 0)],.cells (allB j.1).enc.cells]⟩) (fun j=>n - j.1) ⟨0,by omega⟩ ?_ ?_)
  ·refine zq rfl ?_ ?_
   simp -dsimp only [simprocAttr,↓vpre,zp,Bs.enc_cells,Bs.enc_flat,Bs.enc_share,bs_fold,zc]
   all_goals rfl
  rintro⟨j,hj⟩
  have hwj:=fun h=>hwith (allB j) j (allB_fit j (by omega)) h
  refine zg1 ?_
  simp -dsimp only [simprocAttr,↓vpre,zp,Bs.enc_cells,Bs.enc_flat,Bs.enc_share,bs_fold]
  refine za0 ?_
  apply zk1 rfl<;>intro h
  ·refine zb0 ?_
   have hlt:j<n:=by simpa using h
   refine awp_seq (awp_block ?_)
   refine zg1 ?_
   simp -dsimp only [simprocAttr,↓vpre,zp,Bs.enc_cells,Bs.enc_flat,Bs.enc_share,bs_fold]
   refine za0 ?_
   refine zg0 ?_
   simp -dsimp only [simprocAttr,↓vpre,zp,Bs.enc_cells,Bs.enc_flat,Bs.enc_share,bs_fold]
   refine .inl ⟨_,(hwj (by omega)),by simp only [uptoL,AVal.upto,zt,zu,aI_upto,Bs.enc_upto,Bs.enc_share],later_intro ?_⟩
   simp -dsimp only [simprocAttr,↓vpre,zp,Bs.enc_cells,Bs.enc_flat,Bs.enc_share,bs_fold]
   refine za0 ?_
   refine zg0 ?_
   simp -dsimp only [simprocAttr,↓vpre,zp,Bs.enc_cells,Bs.enc_flat,Bs.enc_share,bs_fold]
   repeat(refine⟨by omega,?_⟩)
   refine zl0 ?_
   refine⟨⟨j+1,hlt⟩,by simp;omega,?_⟩
   refine zq rfl ?_ ?_
   simp -dsimp only [simprocAttr,↓vpre,zp,Bs.enc_cells,Bs.enc_flat,Bs.enc_share,bs_fold,zc]
   all_goals first | rfl | exact Sub.refl _
  refine awp_exit ?_
  simp -dsimp only [vend,ne_eq,Nat.reduceEqDiff,reduceCtorEq]
  have hjj:j=n:=by simp at h;omega
  subst hjj
  refine zg1 ?_
  simp -dsimp only [simprocAttr,↓vpre,zp,Bs.enc_cells,Bs.enc_flat,Bs.enc_share,bs_fold,←hn]
  repeat(refine⟨by omega,?_⟩)
  refine za0 ?_
  refine zg2 ?_
  simp -dsimp only [simprocAttr,↓vpre,zp,Bs.enc_cells,Bs.enc_flat,Bs.enc_share,bs_fold,←hn]
  refine za0 ?_
  obtain⟨A,hA⟩:∃A,A=allB j:=⟨_,rfl⟩
  rw [←hA]
  refine awp_block (awp_loop (ι:={i:Nat // i≤j}) (fun i=>⟨106,[(1,.ip none [aI f.name,eBlocks f.blocks]),(3,.mp 1 0),(4,.mp 2 0),(6,.ms 3 0 j j),(30,aI j),(31,aI i.1)],[.gone,.cells [.v (.int .u64 0),.v (.int .u64 0)],.cells A.enc.cells,.cells (cellsAll ((List.replicate i.1 A++List.replicate (j - i.1) Bs.none).map Bs.enc))]⟩) (fun i=>j - i.1) ⟨0,by omega⟩ ?_ ?_)
  ·refine zq rfl ?_ ?_
   simp -dsimp only [simprocAttr,↓vpre,zp,Bs.enc_cells,Bs.enc_flat,Bs.enc_share,bs_fold,zc]
   simp [cellsAll,List.flatMap,Bs.enc_cells,Bs.none]
  rintro⟨i,hi⟩
  have hrow:(List.replicate i A++List.replicate (j - i) Bs.none).length=j:=by simp;omega
  refine zg1 ?_
  simp -dsimp only [simprocAttr,↓vpre,zp,Bs.enc_cells,Bs.enc_flat,Bs.enc_share,bs_fold]
  refine za0 ?_
  apply zk1 rfl<;>intro h
  ·refine zb0 ?_
   have hlt:i<j:=by simpa using h
   have hset:=bs_set (l:=List.replicate i A++List.replicate (j - i) Bs.none) (k:=i) (by rw [hrow];exact hlt) A
   have hsl:(List.replicate i A++List.replicate (j - i) Bs.none).set i A=List.replicate (i+1) A++List.replicate (j - (i+1)) Bs.none:=by
    obtain⟨q,hq⟩:∃q,j - i=q+1:=⟨j - i - 1,by omega⟩
    rw [hq,show j - (i+1)=q by omega,List.set_append_right _ _ (by simp),List.replicate_succ' (n:=i)]
    simp [List.replicate_succ]
   rw [hsl] at hset
   have hlen:=bs_len (List.replicate i A++List.replicate (j - i) Bs.none)
   rw [hrow] at hlen
   refine awp_seq (awp_block ?_)
   refine zg1 ?_
   simp -dsimp only [simprocAttr,↓vpre,zp,Bs.enc_cells,Bs.enc_flat,Bs.enc_share,bs_fold]
   refine za0 ?_
   refine zg0 ?_
   simp -dsimp only [simprocAttr,↓vpre,zp,Bs.enc_cells,Bs.enc_flat,Bs.enc_share,bs_fold,hset,hlen]
   repeat(refine⟨by omega,?_⟩)
   refine za0 ?_
   refine zg0 ?_
   simp -dsimp only [simprocAttr,↓vpre,zp,Bs.enc_cells,Bs.enc_flat,Bs.enc_share,bs_fold]
   repeat(refine⟨by omega,?_⟩)
   refine zl0 ?_
   refine⟨⟨i+1,hlt⟩,by simp;omega,?_⟩
   refine zq rfl ?_ ?_
   simp -dsimp only [simprocAttr,↓vpre,zp,Bs.enc_cells,Bs.enc_flat,Bs.enc_share,bs_fold,zc]
   all_goals first | rfl | exact Sub.refl _
  refine awp_exit ?_
  simp -dsimp only [vend,ne_eq,Nat.reduceEqDiff,reduceCtorEq]
  have hij:i=j:=by simp at h;omega
  subst hij
  have h00:=hwith Bs.none 0 Bs.fit_none (by omega)
  have hlen:=bs_len (List.replicate i A++List.replicate (i - i) Bs.none)
  rw [hrow] at hlen
  have hset:=bs_set (l:=List.replicate i A++List.replicate (i - i) Bs.none) (k:=0) (by rw [hrow];exact hp0) (Bs.none.add 0)
  have hov:(List.replicate i A++List.replicate (i - i) Bs.none).set 0 (Bs.none.add 0)=(domS f).over:=by
   simp [domS,←hn,hA]
  rw [hov,Nat.zero_mul] at hset
  have hcast:aI ((0:Nat):Int)=aI 0:=rfl
  rw [hcast] at h00
  refine zg1 ?_
  simp -dsimp only [simprocAttr,↓vpre,zp,Bs.enc_cells,Bs.enc_flat,Bs.enc_share,bs_fold,hnone]
  refine .inl ⟨_,h00,by simp only [uptoL,AVal.upto,zt,zu,aI_upto,Bs.enc_upto,Bs.enc_share],later_intro ?_⟩
  simp -dsimp only [simprocAttr,↓vpre,zp,Bs.enc_cells,Bs.enc_flat,Bs.enc_share,bs_fold,hset,hlen]
  refine⟨by omega,by omega,?_⟩
  refine za0 ?_
  refine zg1 ?_
  simp -dsimp only [simprocAttr,↓vpre,zp,Bs.enc_cells,Bs.enc_flat,Bs.enc_share,bs_fold,hnone]
  refine .inl ⟨_,h00,by simp only [uptoL,AVal.upto,zt,zu,aI_upto,Bs.enc_upto,Bs.enc_share],later_intro ?_⟩
  simp -dsimp only [simprocAttr,↓vpre,zp,Bs.enc_cells,Bs.enc_flat,Bs.enc_share,bs_fold]
  refine za0 ?_
  refine zg2 ?_
  simp -dsimp only [simprocAttr,↓vpre,zp,Bs.enc_cells,Bs.enc_flat,Bs.enc_share,bs_fold]
  refine za0 ?_
  have hw0:=weight_le hS
  refine awp_block (awp_loop (ι:={x:Ds×Nat // DsOK i x.1∧R=domI f x.2 x.1∧(x.1.again=true→x.1.weight<x.2)}) (fun x=>⟨106,[(1,.ip none [aI f.name,eBlocks f.blocks]),(3,.mp 1 0),(6,.ms 3 0 i i),(8,.mp 4 0),(9,.v (.bool x.1.1.again))],[.gone,.cells [.v (.int .u64 0),.v (.int .u64 0)],.cells A.enc.cells,.cells (cellsAll (x.1.1.over.map Bs.enc)),.cells x.1.1.seen.enc.cells]⟩) (fun x=>x.1.1.weight+if x.1.1.again then 1 else 0) ⟨(domS f,20000),hS,hR,fun _=>by simp only;omega⟩ ?_ ?_)
  ·refine zq rfl ?_ ?_
   simp -dsimp only [simprocAttr,↓vpre,zp,Bs.enc_cells,Bs.enc_flat,Bs.enc_share,bs_fold,zc]
   all_goals first | rfl | exact Sub.refl _
  rintro⟨⟨S,q⟩,hSo,hRq,hwq⟩
  simp only at hSo hRq hwq
  refine zg2 ?_
  simp -dsimp only [simprocAttr,↓vpre,zp,Bs.enc_cells,Bs.enc_flat,Bs.enc_share,bs_fold]
  refine za0 ?_
  apply zk0 rfl<;>intro h
  ·refine zb0 ?_
   have hag:S.again=true:=h
   have hwq:=hwq hag
   obtain⟨q,rfl⟩:∃q',q=q'+1:=⟨q - 1,by omega⟩
   have hRq':R=domI f q (domR 0 ⟨S.over,S.seen,false⟩ f.blocks):=by
    rw [hRq]
    simp [domI,hag]
   have hS0:DsOK i ⟨S.over,S.seen,false⟩:=⟨hSo.few,hSo.len,hSo.fit,hSo.seen,hSo.self⟩
   have hro:=domR_ok f.blocks (k:=0) hS0 he
   obtain⟨S1,hS1⟩:∃S1,S1=domR 0 ⟨S.over,S.seen,false⟩ f.blocks:=⟨_,rfl⟩
   rw [←hS1] at hRq' hro
   obtain⟨ro1,ro2,ro3⟩:=hro
   have hwS:(⟨S.over,S.seen,false⟩:Ds).weight=S.weight:=rfl
   rw [hwS] at ro2 ro3
   refine awp_block ?_
   refine zg1 ?_
   simp -dsimp only [simprocAttr,↓vpre,zp,Bs.enc_cells,Bs.enc_flat,Bs.enc_share,bs_fold]
   refine za0 ?_
   refine zg1 ?_
   simp -dsimp only [simprocAttr,↓vpre,zp,Bs.enc_cells,Bs.enc_flat,Bs.enc_share,bs_fold,←hn]
   refine za0 ?_
   refine awp_block (awp_loop (ι:={y:Nat×Ds // y.1≤i∧DsOK i y.2∧S1=domR y.1 y.2 (f.blocks.drop y.1)}) (fun y=>⟨106,[(1,.ip none [aI f.name,eBlocks f.blocks]),(3,.mp 1 0),(6,.ms 3 0 i i),(8,.mp 4 0),(47,eBlocks f.blocks),(48,aI i),(9,.v (.bool y.1.2.again)),(49,aI y.1.1)],[.gone,.cells [.v (.int .u64 0),.v (.int .u64 0)],.cells A.enc.cells,.cells (cellsAll (y.1.2.over.map Bs.enc)),.cells y.1.2.seen.enc.cells]⟩) (fun y=>i - y.1.1) ⟨(0,⟨S.over,S.seen,false⟩),by simp,hS0,hS1⟩ ?_ ?_)
   ·refine zq rfl ?_ ?_
    simp -dsimp only [simprocAttr,↓vpre,zp,Bs.enc_cells,Bs.enc_flat,Bs.enc_share,bs_fold,zc]
    all_goals rfl
   rintro⟨⟨k,T⟩,hk,hTo,hTe⟩
   simp only at hk hTo hTe
   refine zg1 ?_
   simp -dsimp only [simprocAttr,↓vpre,zp,Bs.enc_cells,Bs.enc_flat,Bs.enc_share,bs_fold]
   refine za0 ?_
   apply zk1 rfl<;>intro h
   ·refine zb0 ?_
    have hlt:k<i:=by simpa using h
    obtain⟨b,hb⟩:∃b,f.blocks[k]?=some b:=⟨f.blocks[k]'(by omega),List.getElem?_eq_getElem _⟩
    have hbm:=List.mem_of_getElem? hb
    rw [drop_at hb] at hTe
    simp only [domR] at hTe
    have hdb:=domB_ok (k:=k) hTo (he b hbm)
    have hhas:=has_spec T.seen hTo.seen k (by omega)
    refine awp_seq (awp_block ?_)
    refine zg1 ?_
    simp -dsimp only [simprocAttr,↓vpre,zp,Bs.enc_cells,Bs.enc_flat,Bs.enc_share,bs_fold,hb]
    refine za0 ?_
    refine awp_freeze1 11 5 (.ip none [eIs b.params,eInss b.ins,aI b.term.kind,aI b.term.arg,aI b.term.n,eIs b.term.cases,eEdges b.term.to]) rfl (by simp [AObj.isSpare]) trivial rfl ?_ ?_
    rotate_left
    simp -dsimp only [simprocAttr,↓vpre,zp,Bs.enc_cells,Bs.enc_flat,Bs.enc_share,bs_fold]
    ·refine awp_trunc' 5 [(1,.ip none [aI f.name,eBlocks f.blocks]),(3,.mp 1 0),(6,.ms 3 0 i i),(8,.mp 4 0),(47,eBlocks f.blocks),(48,aI i),(9,.v (.bool T.again)),(10,aI k),(11,.ip none [eIs b.params,eInss b.ins,aI b.term.kind,aI b.term.arg,aI b.term.n,eIs b.term.cases,eEdges b.term.to]),(49,aI k)] (by simp) (by omega) [.gone,.cells [.v (.int .u64 0),.v (.int .u64 0)],.cells A.enc.cells,.cells (cellsAll (T.over.map Bs.enc)),.cells T.seen.enc.cells] ?_ ?_ ?_ ?_ ?_
     ·rfl
     ·simp [AObj.upto,uptoL,AVal.upto,aI_upto,Block.map_upto,Edge.map_upto,Ins.map_upto,bs_upto,Bs.enc_cells]
     ·simp [Says,St.get,putS,dropS,Go.Av.look,Sub.refl]
     ·simp [AObj.upto,uptoL,AVal.upto,aI_upto,Block.map_upto,Edge.map_upto,Ins.map_upto,bs_upto,Bs.enc_cells]
     cases hsk:T.seen.has k with
     | false =>
      rw [hsk] at hhas
      have hdk:domB k T b=T:=by simp [domB,hsk]
      rw [hdk] at hTe
      refine zg2 ?_
      simp -dsimp only [simprocAttr,↓vpre,zp,Bs.enc_cells,Bs.enc_flat,Bs.enc_share,bs_fold]
      refine .inl ⟨_,hhas,by simp only [uptoL,AVal.upto,zt,zu,aI_upto,Bs.enc_upto,Bs.enc_share],later_intro ?_⟩
      simp -dsimp only [simprocAttr,↓vpre,zp,Bs.enc_cells,Bs.enc_flat,Bs.enc_share,bs_fold]
      refine za0 ?_
      refine zw0 rfl ?_
      refine awp_exit ?_
      simp -dsimp only [vend,ne_eq,Nat.reduceEqDiff,reduceCtorEq]
      refine zg0 ?_
      simp -dsimp only [simprocAttr,↓vpre,zp,Bs.enc_cells,Bs.enc_flat,Bs.enc_share,bs_fold]
      repeat(refine⟨by omega,?_⟩)
      refine zl0 ?_
      refine⟨⟨(k+1,T),by simp only;omega,hTo,hTe⟩,by simp;omega,?_⟩
      refine zq rfl ?_ ?_
      simp -dsimp only [simprocAttr,↓vpre,zp,Bs.enc_cells,Bs.enc_flat,Bs.enc_share,bs_fold,zc]
      all_goals first | rfl | exact Sub.refl _
     | true =>
      rw [hsk] at hhas
      have hdk:domB k T b=b.term.to.foldl (domE k) T:=by simp [domB,hsk]
      rw [hdk] at hTe hdb
      refine zg2 ?_
      simp -dsimp only [simprocAttr,↓vpre,zp,Bs.enc_cells,Bs.enc_flat,Bs.enc_share,bs_fold]
      refine .inl ⟨_,hhas,by simp only [uptoL,AVal.upto,zt,zu,aI_upto,Bs.enc_upto,Bs.enc_share],later_intro ?_⟩
      simp -dsimp only [simprocAttr,↓vpre,zp,Bs.enc_cells,Bs.enc_flat,Bs.enc_share,bs_fold]
      refine za0 ?_
      apply zk0 rfl<;>intro h
      ·cases h
      refine zb0 ?_
      refine zg1 ?_
      simp -dsimp only [simprocAttr,↓vpre,zp,Bs.enc_cells,Bs.enc_flat,Bs.enc_share,bs_fold]
      refine za0 ?_
      refine awp_len 60 rfl (fun htl=>?_)
      simp only [List.length_map] at htl
      obtain⟨T1,hT1⟩:∃T1,T1=b.term.to.foldl (domE k) T:=⟨_,rfl⟩
      rw [←hT1] at hTe hdb
      refine awp_block (awp_loop (ι:={y:Nat×Ds // y.1≤b.term.to.length∧DsOK i y.2∧T1=(b.term.to.drop y.1).foldl (domE k) y.2}) (fun y=>⟨106,[(1,.ip none [aI f.name,eBlocks f.blocks]),(3,.mp 1 0),(6,.ms 3 0 i i),(8,.mp 4 0),(47,eBlocks f.blocks),(48,aI i),(9,.v (.bool y.1.2.again)),(10,aI k),(49,aI k),(60,eEdges b.term.to),(61,aI b.term.to.length),(62,aI y.1.1)],[.gone,.cells [.v (.int .u64 0),.v (.int .u64 0)],.cells A.enc.cells,.cells (cellsAll (y.1.2.over.map Bs.enc)),.cells y.1.2.seen.enc.cells]⟩) (fun y=>b.term.to.length - y.1.1) ⟨(0,T),by simp,hTo,hT1⟩ ?_ ?_)
      ·refine zq rfl ?_ ?_
       simp -dsimp only [simprocAttr,↓vpre,zp,Bs.enc_cells,Bs.enc_flat,Bs.enc_share,bs_fold,zc]
       all_goals rfl
      rintro⟨⟨z,U⟩,hz,hUo,hUe⟩
      simp only at hz hUo hUe
      refine zg1 ?_
      simp -dsimp only [simprocAttr,↓vpre,zp,Bs.enc_cells,Bs.enc_flat,Bs.enc_share,bs_fold]
      refine za0 ?_
      apply zk1 rfl<;>intro h
      ·refine zb0 ?_
       have hltz:z<b.term.to.length:=by simpa using h
       obtain⟨e,hee⟩:∃e,b.term.to[z]?=some e:=⟨b.term.to[z],by simp [hltz]⟩
       obtain⟨he0,he1⟩:=he b hbm e (List.mem_of_getElem? hee)
       rw [drop_at hee] at hUe
       simp only [List.foldl_cons] at hUe
       have hde:=domE_ok (k:=k) hUo he0 he1
       obtain⟨ej,hej⟩:∃ej:Nat,e.block=ej:=⟨e.block.toNat,by omega⟩
       have hej':e.block.toNat=ej:=by omega
       rw [hej'] at he1
       have hoe:U.over[ej]?=some (U.at_ ej):=by
        have:ej<U.over.length:=by rw [hUo.len];exact he1
        simp [Ds.at_,this]
       have hok:U.over[k]?=some (U.at_ k):=by
        have:k<U.over.length:=by rw [hUo.len];exact hlt
        simp [Ds.at_,this]
       have hboth:=both_spec (U.at_ ej) (U.at_ k) (hUo.at_fit ej) (hUo.at_fit k)
       have hfm:=Bs.fit_meet (t:=U.at_ k) (hUo.at_fit ej)
       have hadd:=hwith ((U.at_ ej).meet (U.at_ k)) ej hfm (by omega)
       have hfn:=Bs.fit_add hfm (k:=ej) (by omega)
       have hseen:=has_spec U.seen hUo.seen ej (by omega)
       have hsadd:=hwith U.seen ej hUo.seen (by omega)
       have hge:=bs_get hoe
       have hgk:=bs_get hok
       have hrl:=bs_len U.over
       rw [hUo.len] at hrl
       have hdE:domE k U e=if ((U.at_ ej).meet (U.at_ k)).add ej≠U.at_ ej∨U.seen.has ej=false then ⟨U.over.set ej (((U.at_ ej).meet (U.at_ k)).add ej),U.seen.add ej,true⟩ else U:=by
        simp only [domE,hej']
       generalize hM1:(U.at_ ej).meet (U.at_ k)=M1 at *
       generalize hN:M1.add ej=N at *
       generalize hV:U.at_ ej=V at *
       have hset:=bs_set (l:=U.over) (k:=ej) (by rw [hUo.len];exact he1) N
       refine awp_seq (awp_block ?_)
       refine zg1 ?_
       simp -dsimp only [simprocAttr,↓vpre,zp,Bs.enc_cells,Bs.enc_flat,Bs.enc_share,bs_fold,hee]
       refine za0 ?_
       refine awp_freeze1 13 5 (.ip none [aI e.block,eIs e.args]) rfl (by simp [AObj.isSpare]) trivial rfl ?_ ?_
       rotate_left
       simp -dsimp only [simprocAttr,↓vpre,zp,Bs.enc_cells,Bs.enc_flat,Bs.enc_share,bs_fold]
       ·refine awp_trunc' 5 [(1,.ip none [aI f.name,eBlocks f.blocks]),(3,.mp 1 0),(6,.ms 3 0 i i),(8,.mp 4 0),(47,eBlocks f.blocks),(48,aI i),(9,.v (.bool U.again)),(10,aI k),(13,.ip none [aI e.block,eIs e.args]),(49,aI k),(60,eEdges b.term.to),(61,aI b.term.to.length),(62,aI z)] (by simp) (by omega) [.gone,.cells [.v (.int .u64 0),.v (.int .u64 0)],.cells A.enc.cells,.cells (cellsAll (U.over.map Bs.enc)),.cells U.seen.enc.cells] ?_ ?_ ?_ ?_ ?_
        ·rfl
        ·simp [AObj.upto,uptoL,AVal.upto,aI_upto,Block.map_upto,Edge.map_upto,Ins.map_upto,bs_upto,Bs.enc_cells]
        ·simp [Says,St.get,putS,dropS,Go.Av.look,Sub.refl]
        ·simp [AObj.upto,uptoL,AVal.upto,aI_upto,Block.map_upto,Edge.map_upto,Ins.map_upto,bs_upto,Bs.enc_cells]
        refine zg1 ?_
        simp -dsimp only [simprocAttr,↓vpre,zp,Bs.enc_cells,Bs.enc_flat,Bs.enc_share,bs_fold,hej,Int.toNat_natCast,hge,hgk,hrl]
        refine⟨by omega,by omega,by omega,by omega,?_⟩
        refine .inl ⟨_,hboth,by simp only [uptoL,AVal.upto,zt,zu,aI_upto,Bs.enc_upto,Bs.enc_share],later_intro ?_⟩
        simp -dsimp only [simprocAttr,↓vpre,zp,Bs.enc_cells,Bs.enc_flat,Bs.enc_share,bs_fold]
        refine .inl ⟨_,hadd,by simp only [uptoL,AVal.upto,zt,zu,aI_upto,Bs.enc_upto,Bs.enc_share],later_intro ?_⟩
        simp -dsimp only [simprocAttr,↓vpre,zp,Bs.enc_cells,Bs.enc_flat,Bs.enc_share,bs_fold]
        refine⟨ob (by kernel_rfl),?_⟩
        refine za0 ?_
        have hbu:=bs_upto 5 (U.over.set ej N)
        rw [List.map_set] at hbu
        by_cases hNV:N=V
        ·have hdN:decide (N=V)=true:=decide_eq_true hNV
         cases hsj:U.seen.has ej with
         | true =>
          rw [hsj] at hseen
          have hdE':domE k U e=U:=by rw [hdE,if_neg (by simp [hNV,hsj])]
          refine zg1 ?_
          simp -dsimp only [simprocAttr,↓vpre,zp,Bs.enc_cells,Bs.enc_flat,Bs.enc_share,bs_fold,hej,Int.toNat_natCast,hge,hrl,vcBin_bs,hdN]
          repeat(refine⟨by omega,?_⟩)
          refine .inl ⟨_,hseen,by simp only [uptoL,AVal.upto,zt,zu,aI_upto,Bs.enc_upto,Bs.enc_share],later_intro ?_⟩
          simp -dsimp only [simprocAttr,↓vpre,zp,Bs.enc_cells,Bs.enc_flat,Bs.enc_share,bs_fold]
          refine⟨ob (by kernel_rfl),?_⟩
          refine za0 ?_
          refine zu0 rfl ?_
          refine zb1 ?_
          refine awp_trunc' 5 [(1,.ip none [aI f.name,eBlocks f.blocks]),(3,.mp 1 0),(6,.ms 3 0 i i),(8,.mp 4 0),(47,eBlocks f.blocks),(48,aI i),(9,.v (.bool U.again)),(10,aI k),(49,aI k),(60,eEdges b.term.to),(61,aI b.term.to.length),(62,aI z)] (by simp) (by omega) [.gone,.cells [.v (.int .u64 0),.v (.int .u64 0)],.cells A.enc.cells,.cells (cellsAll ((U.over).map Bs.enc)),.cells (U.seen).enc.cells] ?_ ?_ ?_ ?_ ?_
          ·rfl
          ·simp [AObj.upto,uptoL,AVal.upto,aI_upto,Block.map_upto,Edge.map_upto,Ins.map_upto,bs_upto,Bs.enc_cells]
          ·simp [Says,St.get,putS,dropS,Go.Av.look,Sub.refl]
          ·simp [AObj.upto,uptoL,AVal.upto,aI_upto,Block.map_upto,Edge.map_upto,Ins.map_upto,bs_upto,Bs.enc_cells]
          refine zg0 ?_
          simp -dsimp only [simprocAttr,↓vpre,zp,Bs.enc_cells,Bs.enc_flat,Bs.enc_share,bs_fold]
          repeat(refine⟨by omega,?_⟩)
          refine zl0 ?_
          refine⟨⟨(z+1,U),by simp only;omega,hUo,by rw [hUe,hdE']⟩,by simp;omega,?_⟩
          refine zq rfl ?_ ?_
          simp -dsimp only [simprocAttr,↓vpre,zp,Bs.enc_cells,Bs.enc_flat,Bs.enc_share,bs_fold,zc]
          all_goals first | rfl | exact Sub.refl _
         | false =>
          rw [hsj] at hseen
          have hdE':domE k U e=⟨U.over.set ej N,U.seen.add ej,true⟩:=by rw [hdE,if_pos (.inr hsj)]
          refine zg1 ?_
          simp -dsimp only [simprocAttr,↓vpre,zp,Bs.enc_cells,Bs.enc_flat,Bs.enc_share,bs_fold,hej,Int.toNat_natCast,hge,hrl,vcBin_bs,hdN]
          repeat(refine⟨by omega,?_⟩)
          refine .inl ⟨_,hseen,by simp only [uptoL,AVal.upto,zt,zu,aI_upto,Bs.enc_upto,Bs.enc_share],later_intro ?_⟩
          simp -dsimp only [simprocAttr,↓vpre,zp,Bs.enc_cells,Bs.enc_flat,Bs.enc_share,bs_fold]
          refine⟨ob (by kernel_rfl),?_⟩
          refine za0 ?_
          refine zw0 rfl ?_
          refine zg0 ?_
          simp -dsimp only [simprocAttr,↓vpre,zp,Bs.enc_cells,Bs.enc_flat,Bs.enc_share,bs_fold,hej,Int.toNat_natCast,hset,hrl]
          repeat(refine⟨by omega,?_⟩)
          refine .inl ⟨_,hsadd,by simp only [uptoL,AVal.upto,zt,zu,aI_upto,Bs.enc_upto,Bs.enc_share],later_intro ?_⟩
          simp -dsimp only [simprocAttr,↓vpre,zp,Bs.enc_cells,Bs.enc_flat,Bs.enc_share,bs_fold,hset,hrl]
          repeat(refine⟨by omega,?_⟩)
          refine⟨ob (by kernel_rfl),?_⟩
          refine za0 ?_
          refine awp_trunc' 5 [(1,.ip none [aI f.name,eBlocks f.blocks]),(3,.mp 1 0),(6,.ms 3 0 i i),(8,.mp 4 0),(47,eBlocks f.blocks),(48,aI i),(9,.v (.bool true)),(10,aI k),(49,aI k),(60,eEdges b.term.to),(61,aI b.term.to.length),(62,aI z)] (by simp) (by omega) [.gone,.cells [.v (.int .u64 0),.v (.int .u64 0)],.cells A.enc.cells,.cells (cellsAll ((U.over.set ej N).map Bs.enc)),.cells (U.seen.add ej).enc.cells] ?_ ?_ ?_ ?_ ?_
          ·rfl
          ·simp [AObj.upto,uptoL,AVal.upto,aI_upto,Block.map_upto,Edge.map_upto,Ins.map_upto,bs_upto,Bs.enc_cells,hbu]
          ·simp [Says,St.get,putS,dropS,Go.Av.look,Sub.refl]
          ·simp [AObj.upto,uptoL,AVal.upto,aI_upto,Block.map_upto,Edge.map_upto,Ins.map_upto,bs_upto,Bs.enc_cells]
          refine zg0 ?_
          simp -dsimp only [simprocAttr,↓vpre,zp,Bs.enc_cells,Bs.enc_flat,Bs.enc_share,bs_fold]
          repeat(refine⟨by omega,?_⟩)
          refine zl0 ?_
          refine⟨⟨(z+1,⟨U.over.set ej N,U.seen.add ej,true⟩),by simp only;omega,by rw [←hdE'];exact hde.1,by rw [hUe,hdE']⟩,by simp;omega,?_⟩
          refine zq rfl ?_ ?_
          simp -dsimp only [simprocAttr,↓vpre,zp,Bs.enc_cells,Bs.enc_flat,Bs.enc_share,bs_fold,zc]
          all_goals first | rfl | exact Sub.refl _
        have hdN:decide (N=V)=false:=decide_eq_false hNV
        have hdE':domE k U e=⟨U.over.set ej N,U.seen.add ej,true⟩:=by rw [hdE,if_pos (.inl hNV)]
        refine zg1 ?_
        simp -dsimp only [simprocAttr,↓vpre,zp,Bs.enc_cells,Bs.enc_flat,Bs.enc_share,bs_fold,hej,Int.toNat_natCast,hge,hrl,vcBin_bs,hdN]
        repeat(refine⟨by omega,?_⟩)
        refine⟨ob (by kernel_rfl),?_⟩
        refine za0 ?_
        refine zw0 rfl ?_
        refine zg0 ?_
        simp -dsimp only [simprocAttr,↓vpre,zp,Bs.enc_cells,Bs.enc_flat,Bs.enc_share,bs_fold,hej,Int.toNat_natCast,hset,hrl]
        repeat(refine⟨by omega,?_⟩)
        refine .inl ⟨_,hsadd,by simp only [uptoL,AVal.upto,zt,zu,aI_upto,Bs.enc_upto,Bs.enc_share],later_intro ?_⟩
        simp -dsimp only [simprocAttr,↓vpre,zp,Bs.enc_cells,Bs.enc_flat,Bs.enc_share,bs_fold,hset,hrl]
        repeat(refine⟨by omega,?_⟩)
        refine⟨ob (by kernel_rfl),?_⟩
        refine za0 ?_
        refine awp_trunc' 5 [(1,.ip none [aI f.name,eBlocks f.blocks]),(3,.mp 1 0),(6,.ms 3 0 i i),(8,.mp 4 0),(47,eBlocks f.blocks),(48,aI i),(9,.v (.bool true)),(10,aI k),(49,aI k),(60,eEdges b.term.to),(61,aI b.term.to.length),(62,aI z)] (by simp) (by omega) [.gone,.cells [.v (.int .u64 0),.v (.int .u64 0)],.cells A.enc.cells,.cells (cellsAll ((U.over.set ej N).map Bs.enc)),.cells (U.seen.add ej).enc.cells] ?_ ?_ ?_ ?_ ?_
        ·rfl
        ·simp [AObj.upto,uptoL,AVal.upto,aI_upto,Block.map_upto,Edge.map_upto,Ins.map_upto,bs_upto,Bs.enc_cells,hbu]
        ·simp [Says,St.get,putS,dropS,Go.Av.look,Sub.refl]
        ·simp [AObj.upto,uptoL,AVal.upto,aI_upto,Block.map_upto,Edge.map_upto,Ins.map_upto,bs_upto,Bs.enc_cells]
        refine zg0 ?_
        simp -dsimp only [simprocAttr,↓vpre,zp,Bs.enc_cells,Bs.enc_flat,Bs.enc_share,bs_fold]
        repeat(refine⟨by omega,?_⟩)
        refine zl0 ?_
        refine⟨⟨(z+1,⟨U.over.set ej N,U.seen.add ej,true⟩),by simp only;omega,by rw [←hdE'];exact hde.1,by rw [hUe,hdE']⟩,by simp;omega,?_⟩
        refine zq rfl ?_ ?_
        simp -dsimp only [simprocAttr,↓vpre,zp,Bs.enc_cells,Bs.enc_flat,Bs.enc_share,bs_fold,zc]
        all_goals first | rfl | exact Sub.refl _
       exact FSub.mp rfl rfl
      refine awp_exit ?_
      simp -dsimp only [vend,ne_eq,Nat.reduceEqDiff,reduceCtorEq]
      have hze:z=b.term.to.length:=by simp at h;omega
      subst hze
      rw [List.drop_length] at hUe
      simp only [List.foldl_nil] at hUe
      refine zg0 ?_
      simp -dsimp only [simprocAttr,↓vpre,zp,Bs.enc_cells,Bs.enc_flat,Bs.enc_share,bs_fold]
      repeat(refine⟨by omega,?_⟩)
      refine zl0 ?_
      refine⟨⟨(k+1,U),by simp only;omega,hUo,by rw [hTe,hUe]⟩,by simp;omega,?_⟩
      refine zq rfl ?_ ?_
      simp -dsimp only [simprocAttr,↓vpre,zp,Bs.enc_cells,Bs.enc_flat,Bs.enc_share,bs_fold,zc]
      all_goals first | rfl | exact Sub.refl _
    exact FSub.mp rfl rfl
   refine awp_exit ?_
   simp -dsimp only [vend,ne_eq,Nat.reduceEqDiff,reduceCtorEq]
   have hki:k=i:=by simp at h;omega
   subst hki
   rw [hn,List.drop_length] at hTe
   simp only [domR] at hTe
   subst hTe
   have hlt2:S1.again=true→S1.weight<q:=fun hh=>by
    rcases ro3 hh with r | r
    ·cases r
    omega
   refine⟨⟨(S1,q),ro1,hRq',hlt2⟩,?_,?_⟩
   ·simp only [hag,if_true]
    cases hs1:S1.again
    ·simp;omega
    rcases ro3 hs1 with r | r
    ·cases r
    simp;omega
   refine zq rfl ?_ ?_
   simp -dsimp only [simprocAttr,↓vpre,zp,Bs.enc_cells,Bs.enc_flat,Bs.enc_share,bs_fold,zc]
   all_goals rfl
  refine awp_exit ?_
  simp -dsimp only [vend,ne_eq,Nat.reduceEqDiff,reduceCtorEq]
  have hag:S.again=false:=h
  rw [domI_done hag] at hRq
  subst hRq
  have hsz:=hSo.len
  refine awp_freeze1 6 3 (.lst 2 (R.over.map Bs.enc) .sh) rfl (by simp [AObj.isSpare]) trivial rfl ?_ ?_
  rotate_left
  simp -dsimp only [simprocAttr,↓vpre,zp,Bs.enc_cells,Bs.enc_flat,Bs.enc_share,bs_fold]
  ·refine zg1 ?_
   simp -dsimp only [simprocAttr,↓vpre,zp,Bs.enc_cells,Bs.enc_flat,Bs.enc_share,bs_fold]
   refine⟨ob (by kernel_rfl),?_⟩
   refine za0 ?_
   refine awp_ret ?_
   simp -dsimp only [simprocAttr,↓vpre,zp,Bs.enc_cells,Bs.enc_flat,Bs.enc_share,bs_fold,zr,Try.results78]
   exact⟨⟨bs_uptoL _ _,trivial⟩,Bs.enc_upto _ _,trivial⟩
  refine FSub.ms rfl (bs_sz R.over) (by simp [hsz]) ?_
  rw [List.drop_zero,List.take_of_length_le (by rw [bs_len,hsz];exact Nat.le_refl _),←cellsAll_share]
  simp [List.map_map,Function.comp_def,Bs.enc_share]
 exact FSub.mp rfl rfl
abbrev capsE(f:Func)(ds:Defs)(over:List Bs)(seen:Bs)(k:Nat)(A:Nat):List AVal:=[.ip none [.ip none [aI f.name,eBlocks f.blocks,.im (.int .i64) (ds.map dent)]],.ip none [aI (k:Int)],.mp A 0,.ip none [.lst 2 (over.map Bs.enc) .sh],.ip none [.v (.int .u64 seen.a),.v (.int .u64 seen.b)]]
def fineM(ds:Defs)(over:List Bs)(seen:Bs)(k:Nat)(at_:Int)(v:Int):Bool :=
 match lookD ds v with
 | none=>false
 | some p=>(decide (p.1=k)&&decide (p.2≤at_)) || ((!decide (p.1=k)&&(over[k]?.getD .none).has p.1.toNat) || !seen.has k)
def DefsOK(n:Nat)(ds:Defs):Prop:=∀v p,lookD ds v=some p→0≤p.1∧p.1.toNat<n
theorem fine_spec{O:List AObj}(hup:∀o∈O,o.upto O.length){f:Func}{ds:Defs}{over:List Bs}{seen:Bs}{k A:Nat}{at_:Int}(hA:O[A]?=some (.cells [aI at_]))(hn:over.length≤128)(hk:k<over.length)(hfit:∀s∈over,s.fit)(hfs:seen.fit)(hds:DefsOK over.length ds)(v:Int) :
  ECall Try.prog 79 O (aI v::capsE f ds over seen k A) (fun r O'=>r=.v (.bool (fineM ds over seen k at_ v))∧O'=O):=by
 have hAl:=lt_of_getElem? hA
 have hok:over[k]?=some over[k]:=List.getElem?_eq_getElem hk
 have hfk:=hfit _ (List.getElem_mem hk)
 obtain⟨s,hs⟩:∃s,s=over[k]:=⟨_,rfl⟩
 rw [←hs] at hok hfk
 have hseen:=has_spec seen hfs k (by omega)
 unfold fineM
 have hAX:∀X,(O++X)[A]?=some (.cells [aI at_]):=fun X=>at_left hA
 have hdu:=defs_upto O.length ds
 rw [hok]
 simp only [Option.getD_some]
 generalize hsk:seen.has k=sk at *
 cases hl:lookD ds v with
 | none =>
  refine zf true O.length Try.func79 Try.ntmps79 ?_
  dsimp only [Tmp,TypeId,slotsOf]
  refine zg1 ?_
  simp -dsimp only [simprocAttr,↓vpre,zp,Bs.enc_cells,Bs.enc_flat,Bs.enc_share,bs_fold]
  refine za0 ?_
  refine zg1 ?_
  simp -dsimp only [simprocAttr,↓vpre,zp,Bs.enc_cells,Bs.enc_flat,Bs.enc_share,bs_fold,lookD_ent,hl,Option.map_none,Option.getD_none,Option.isSome_none]
  refine za0 ?_
  refine awp_local 8 ([aI 0,aI 0]) [(9,.v (.bool false))] rfl (by rfl) (by omega) (by simp [putS,dropS,Go.Av.look]) ?_ ?_ ?_
  ·exact hup
  ·simp [AVal.upto]
  refine zg1 ?_
  simp -dsimp only [simprocAttr,↓vpre,zp,Bs.enc_cells,Bs.enc_flat,Bs.enc_share,bs_fold]
  refine⟨ob (by kernel_rfl),?_⟩
  refine za0 ?_
  refine awp_ret ?_
  simp -dsimp only [simprocAttr,↓vpre,zp,Bs.enc_cells,Bs.enc_flat,Bs.enc_share,bs_fold,zr,Try.results79]
  exact hup
 | some p =>
  have hq:eD p=.agg [aI p.1,aI p.2]:=rfl
  obtain⟨b0,b1⟩:=hds v p hl
  have hov:=has_spec s hfk p.1.toNat (by omega)
  rw [show((p.1.toNat:Nat):Int)=p.1 by omega] at hov
  simp only
  generalize s.has p.1.toNat=sv at *
  by_cases hpk:p.1=k
  ·have hd:decide (p.1=(k:Int))=true:=decide_eq_true hpk
   by_cases hpa:p.2≤at_
   ·have hd2:decide (p.2≤at_)=true:=decide_eq_true hpa
    rw [hd,hd2]
    refine zf true O.length Try.func79 Try.ntmps79 ?_
    dsimp only [Tmp,TypeId,slotsOf]
    refine zg1 ?_
    simp -dsimp only [simprocAttr,↓vpre,zp,Bs.enc_cells,Bs.enc_flat,Bs.enc_share,bs_fold]
    refine za0 ?_
    refine zg1 ?_
    simp -dsimp only [simprocAttr,↓vpre,zp,Bs.enc_cells,Bs.enc_flat,Bs.enc_share,bs_fold,lookD_ent,hl,hq,Option.map_some,Option.getD_some,Option.isSome_some]
    refine za0 ?_
    refine awp_local 8 ([aI p.1,aI p.2]) [(2,.ip none [aI k]),(3,.mp A 0),(4,.ip none [.lst 2 (over.map Bs.enc) .sh]),(5,.ip none [.v (.int .u64 seen.a),.v (.int .u64 seen.b)]),(8,.ip none [aI p.1,aI p.2]),(9,.v (.bool true))] rfl (by rfl) (by omega) (by simp [putS,dropS,Go.Av.look]) ?_ ?_ ?_
    ·exact hup
    ·simp [AVal.upto,uptoL,hAl,bs_uptoL]
    refine zg1 ?_
    simp -dsimp only [simprocAttr,↓vpre,zp,Bs.enc_cells,Bs.enc_flat,Bs.enc_share,bs_fold,hA,hok,Int.toNat_natCast,hd,hd2]
    refine⟨ob (by kernel_rfl),?_⟩
    refine za0 ?_
    refine awp_ret ?_
    simp -dsimp only [simprocAttr,↓vpre,zp,Bs.enc_cells,Bs.enc_flat,Bs.enc_share,bs_fold,zr,Try.results79]
    exact⟨hup,by simp⟩
   have hd2:decide (p.2≤at_)=false:=decide_eq_false hpa
   rw [hd,hd2]
   refine zf true O.length Try.func79 Try.ntmps79 ?_
   dsimp only [Tmp,TypeId,slotsOf]
   refine zg1 ?_
   simp -dsimp only [simprocAttr,↓vpre,zp,Bs.enc_cells,Bs.enc_flat,Bs.enc_share,bs_fold]
   refine za0 ?_
   refine zg1 ?_
   simp -dsimp only [simprocAttr,↓vpre,zp,Bs.enc_cells,Bs.enc_flat,Bs.enc_share,bs_fold,lookD_ent,hl,hq,Option.map_some,Option.getD_some,Option.isSome_some]
   refine za0 ?_
   refine awp_local 8 ([aI p.1,aI p.2]) [(2,.ip none [aI k]),(3,.mp A 0),(4,.ip none [.lst 2 (over.map Bs.enc) .sh]),(5,.ip none [.v (.int .u64 seen.a),.v (.int .u64 seen.b)]),(8,.ip none [aI p.1,aI p.2]),(9,.v (.bool true))] rfl (by rfl) (by omega) (by simp [putS,dropS,Go.Av.look]) ?_ ?_ ?_
   ·exact hup
   ·simp [AVal.upto,uptoL,hAl,bs_uptoL]
   refine zg1 ?_
   simp -dsimp only [simprocAttr,↓vpre,zp,Bs.enc_cells,Bs.enc_flat,Bs.enc_share,bs_fold,hA,hok,Int.toNat_natCast,hd,hd2]
   refine .inl ⟨_,hseen,by simp only [uptoL,AVal.upto,zt,zu,aI_upto,Bs.enc_upto,Bs.enc_share],later_intro ?_⟩
   simp -dsimp only [simprocAttr,↓vpre,zp,Bs.enc_cells,Bs.enc_flat,Bs.enc_share,bs_fold,hd,hd2,hA,hok,Int.toNat_natCast]
   refine⟨ob (by kernel_rfl),?_⟩
   refine za0 ?_
   refine awp_ret ?_
   simp -dsimp only [simprocAttr,↓vpre,zp,Bs.enc_cells,Bs.enc_flat,Bs.enc_share,bs_fold,zr,Try.results79]
   exact⟨hup,by simp⟩
  have hd:decide (p.1=(k:Int))=false:=decide_eq_false hpk
  rw [hd]
  cases sv with
  | true =>
   refine zf true O.length Try.func79 Try.ntmps79 ?_
   dsimp only [Tmp,TypeId,slotsOf]
   refine zg1 ?_
   simp -dsimp only [simprocAttr,↓vpre,zp,Bs.enc_cells,Bs.enc_flat,Bs.enc_share,bs_fold]
   refine za0 ?_
   refine zg1 ?_
   simp -dsimp only [simprocAttr,↓vpre,zp,Bs.enc_cells,Bs.enc_flat,Bs.enc_share,bs_fold,lookD_ent,hl,hq,Option.map_some,Option.getD_some,Option.isSome_some]
   refine za0 ?_
   refine awp_local 8 ([aI p.1,aI p.2]) [(2,.ip none [aI k]),(3,.mp A 0),(4,.ip none [.lst 2 (over.map Bs.enc) .sh]),(5,.ip none [.v (.int .u64 seen.a),.v (.int .u64 seen.b)]),(8,.ip none [aI p.1,aI p.2]),(9,.v (.bool true))] rfl (by rfl) (by omega) (by simp [putS,dropS,Go.Av.look]) ?_ ?_ ?_
   ·exact hup
   ·simp [AVal.upto,uptoL,hAl,bs_uptoL]
   refine zg1 ?_
   simp -dsimp only [simprocAttr,↓vpre,zp,Bs.enc_cells,Bs.enc_flat,Bs.enc_share,bs_fold,hA,hok,Int.toNat_natCast,hd]
   refine .inl ⟨_,hov,by simp only [uptoL,AVal.upto,zt,zu,aI_upto,Bs.enc_upto,Bs.enc_share],later_intro ?_⟩
   simp -dsimp only [simprocAttr,↓vpre,zp,Bs.enc_cells,Bs.enc_flat,Bs.enc_share,bs_fold,hd,hA,hok,Int.toNat_natCast]
   refine⟨ob (by kernel_rfl),?_⟩
   refine za0 ?_
   refine awp_ret ?_
   simp -dsimp only [simprocAttr,↓vpre,zp,Bs.enc_cells,Bs.enc_flat,Bs.enc_share,bs_fold,zr,Try.results79]
   exact⟨hup,by simp⟩
  | false =>
   refine zf true O.length Try.func79 Try.ntmps79 ?_
   dsimp only [Tmp,TypeId,slotsOf]
   refine zg1 ?_
   simp -dsimp only [simprocAttr,↓vpre,zp,Bs.enc_cells,Bs.enc_flat,Bs.enc_share,bs_fold]
   refine za0 ?_
   refine zg1 ?_
   simp -dsimp only [simprocAttr,↓vpre,zp,Bs.enc_cells,Bs.enc_flat,Bs.enc_share,bs_fold,lookD_ent,hl,hq,Option.map_some,Option.getD_some,Option.isSome_some]
   refine za0 ?_
   refine awp_local 8 ([aI p.1,aI p.2]) [(2,.ip none [aI k]),(3,.mp A 0),(4,.ip none [.lst 2 (over.map Bs.enc) .sh]),(5,.ip none [.v (.int .u64 seen.a),.v (.int .u64 seen.b)]),(8,.ip none [aI p.1,aI p.2]),(9,.v (.bool true))] rfl (by rfl) (by omega) (by simp [putS,dropS,Go.Av.look]) ?_ ?_ ?_
   ·exact hup
   ·simp [AVal.upto,uptoL,hAl,bs_uptoL]
   refine zg1 ?_
   simp -dsimp only [simprocAttr,↓vpre,zp,Bs.enc_cells,Bs.enc_flat,Bs.enc_share,bs_fold,hA,hok,Int.toNat_natCast,hd]
   refine .inl ⟨_,hov,by simp only [uptoL,AVal.upto,zt,zu,aI_upto,Bs.enc_upto,Bs.enc_share],later_intro ?_⟩
   simp -dsimp only [simprocAttr,↓vpre,zp,Bs.enc_cells,Bs.enc_flat,Bs.enc_share,bs_fold,hd,hA,hok,Int.toNat_natCast]
   refine .inl ⟨_,hseen,by simp only [uptoL,AVal.upto,zt,zu,aI_upto,Bs.enc_upto,Bs.enc_share],later_intro ?_⟩
   simp -dsimp only [simprocAttr,↓vpre,zp,Bs.enc_cells,Bs.enc_flat,Bs.enc_share,bs_fold,hd,hA,hok,Int.toNat_natCast]
   refine⟨ob (by kernel_rfl),?_⟩
   refine za0 ?_
   refine awp_ret ?_
   simp -dsimp only [simprocAttr,↓vpre,zp,Bs.enc_cells,Bs.enc_flat,Bs.enc_share,bs_fold,zr,Try.results79]
   exact⟨hup,by simp⟩
def usedM(t:Term)(p:Int→Bool):Bool:=((decide (t.kind=1) || decide (t.kind=4)) || p t.arg)&&t.to.all fun e=>e.args.all p
theorem all_drop{α:Type}{l:List α}{p:α→Bool}{j:Nat}{x:α}(h:l[j]?=some x):(l.drop j).all p=(p x&&(l.drop (j+1)).all p):=by
 rw [drop_at h]
 rfl
theorem used_spec{O:List AObj}(hup:∀o∈O,o.upto O.length)(id:Nat)(caps:List AVal)(hcu:uptoL O.length caps)(p:Int→Bool)(hp:∀v,ECall Try.prog id O (aI v::caps) (fun r O'=>r=.v (.bool (p v))∧O'=O))(t:Term) :
  ECall Try.prog 81 O [t.enc,.fn (.func id) [] caps] (fun r O'=>r=.v (.bool (usedM t p))∧O'=O):=by
 obtain⟨R,hR⟩:∃R,R=usedM t p:=⟨_,rfl⟩
 rw [←hR]
 unfold usedM at hR
 have hcn:AVal.upto O.length (.fn (.func id) [] caps):=⟨trivial,hcu⟩
 have hpa:=hp t.arg
 refine zf true O.length Try.func81 Try.ntmps81 ?_
 dsimp only [Tmp,TypeId,slotsOf]
 refine zg1 ?_
 simp -dsimp only [simprocAttr,↓vpre,zp,Bs.enc_cells,Bs.enc_flat,Bs.enc_share,bs_fold]
 refine za0 ?_
 refine awp_local 2 ([aI t.kind,aI t.arg,aI t.n,eIs t.cases,eEdges t.to]) [(1,.fn (.func id) [] caps),(2,.ip none [aI t.kind,aI t.arg,aI t.n,eIs t.cases,eEdges t.to]),(4,.v (.bool false))] rfl (by rfl) (by omega) (by simp [putS,dropS,Go.Av.look]) ?_ ?_ ?_
 ·exact hup
 ·simp [AVal.upto,uptoL,aI_upto,Edge.map_upto,hcu]
 cases hb:(decide (t.kind=1) || decide (t.kind=4)) || p t.arg with
 | false =>
  rw [hb] at hR
  obtain⟨h1,h4,hb2⟩:decide (t.kind=1)=false∧decide (t.kind=4)=false∧p t.arg=false:=by
   revert hb
   cases decide (t.kind=1)<;>cases decide (t.kind=4)<;>cases p t.arg<;>simp
  rw [hb2] at hpa
  refine zg2 ?_
  simp -dsimp only [simprocAttr,↓vpre,zp,Bs.enc_cells,Bs.enc_flat,Bs.enc_share,bs_fold,h1,h4]
  refine .inr (.inr ⟨_,hpa,later_intro ?_⟩)
  simp -dsimp only [simprocAttr,↓vpre,zp,Bs.enc_cells,Bs.enc_flat,Bs.enc_share,bs_fold]
  refine za0 ?_
  refine zw0 rfl ?_
  refine zg1 ?_
  simp -dsimp only [simprocAttr,↓vpre,zp,Bs.enc_cells,Bs.enc_flat,Bs.enc_share,bs_fold]
  refine za0 ?_
  refine awp_ret ?_
  simp -dsimp only [simprocAttr,↓vpre,zp,Bs.enc_cells,Bs.enc_flat,Bs.enc_share,bs_fold,zr,Try.results81]
  exact⟨hup,by rw [hR];rfl⟩
 | true =>
  rw [hb,Bool.true_and] at hR
  refine awp_mid (⟨44,[(1,.fn (.func id) [] caps),(2,.ip none [aI t.kind,aI t.arg,aI t.n,eIs t.cases,eEdges t.to]),(4,.v (.bool false))],O⟩) ?_ ?_
  ·cases h1:decide (t.kind=1) with
   | true =>
    refine zg1 ?_
    simp -dsimp only [simprocAttr,↓vpre,zp,Bs.enc_cells,Bs.enc_flat,Bs.enc_share,bs_fold,h1]
    refine za0 ?_
    refine zu0 rfl ?_
    refine awp_skip ?_
    show Covers _ _
    refine zq rfl ?_ ?_
    simp -dsimp only [simprocAttr,↓vpre,zp,Bs.enc_cells,Bs.enc_flat,Bs.enc_share,bs_fold,zc]
    rfl
   | false =>
    cases h4:decide (t.kind=4) with
    | true =>
     refine zg1 ?_
     simp -dsimp only [simprocAttr,↓vpre,zp,Bs.enc_cells,Bs.enc_flat,Bs.enc_share,bs_fold,h1,h4]
     refine za0 ?_
     refine zu0 rfl ?_
     refine awp_skip ?_
     show Covers _ _
     refine zq rfl ?_ ?_
     simp -dsimp only [simprocAttr,↓vpre,zp,Bs.enc_cells,Bs.enc_flat,Bs.enc_share,bs_fold,zc]
     rfl
    | false =>
     have hb2:p t.arg=true:=by
      rw [h1,h4] at hb
      simpa using hb
     rw [hb2] at hpa
     refine zg1 ?_
     simp -dsimp only [simprocAttr,↓vpre,zp,Bs.enc_cells,Bs.enc_flat,Bs.enc_share,bs_fold,h1,h4]
     refine .inr (.inr ⟨_,hpa,later_intro ?_⟩)
     simp -dsimp only [simprocAttr,↓vpre,zp,Bs.enc_cells,Bs.enc_flat,Bs.enc_share,bs_fold]
     refine za0 ?_
     refine zu0 rfl ?_
     refine awp_skip ?_
     show Covers _ _
     refine zq rfl ?_ ?_
     simp -dsimp only [simprocAttr,↓vpre,zp,Bs.enc_cells,Bs.enc_flat,Bs.enc_share,bs_fold,zc]
     rfl
  skip
  refine zg2 ?_
  simp -dsimp only [simprocAttr,↓vpre,zp,Bs.enc_cells,Bs.enc_flat,Bs.enc_share,bs_fold]
  refine za0 ?_
  refine awp_len 25 rfl (fun htl=>?_)
  simp only [List.length_map] at htl
  refine awp_block (awp_loop (ι:={j:Nat // j≤t.to.length∧R=(t.to.drop j).all fun e=>e.args.all p}) (fun j=>⟨44,[(1,.fn (.func id) [] caps),(4,.v (.bool false)),(25,eEdges t.to),(26,aI t.to.length),(27,aI j.1)],O⟩) (fun j=>t.to.length - j.1) ⟨0,by omega,hR⟩ ?_ ?_)
  ·refine zq rfl ?_ ?_
   simp -dsimp only [simprocAttr,↓vpre,zp,Bs.enc_cells,Bs.enc_flat,Bs.enc_share,bs_fold,zc]
   rfl
  rintro⟨j,hj,hje⟩
  refine zg1 ?_
  simp -dsimp only [simprocAttr,↓vpre,zp,Bs.enc_cells,Bs.enc_flat,Bs.enc_share,bs_fold]
  refine za0 ?_
  apply zk1 rfl<;>intro h
  ·refine zb0 ?_
   have hlt:j<t.to.length:=by simpa using h
   obtain⟨e,hee⟩:∃e,t.to[j]?=some e:=⟨t.to[j],by simp [hlt]⟩
   rw [all_drop hee] at hje
   refine awp_seq (awp_block ?_)
   refine zg1 ?_
   simp -dsimp only [simprocAttr,↓vpre,zp,Bs.enc_cells,Bs.enc_flat,Bs.enc_share,bs_fold,hee]
   refine za0 ?_
   refine awp_local 6 ([aI e.block,eIs e.args]) [(1,.fn (.func id) [] caps),(4,.v (.bool false)),(6,.ip none [aI e.block,eIs e.args]),(25,eEdges t.to),(26,aI t.to.length),(27,aI j)] rfl (by rfl) (by omega) (by simp [putS,dropS,Go.Av.look]) ?_ ?_ ?_
   ·exact hup
   ·simp [AVal.upto,uptoL,aI_upto,Edge.map_upto,hcu]
   refine zg1 ?_
   simp -dsimp only [simprocAttr,↓vpre,zp,Bs.enc_cells,Bs.enc_flat,Bs.enc_share,bs_fold]
   refine za0 ?_
   refine awp_len 32 rfl (fun hal=>?_)
   simp only [List.length_map] at hal
   refine awp_block (awp_loop (ι:={z:Nat // z≤e.args.length∧R=((e.args.drop z).all p&&(t.to.drop (j+1)).all fun e=>e.args.all p)}) (fun z=>⟨44,[(1,.fn (.func id) [] caps),(4,.v (.bool false)),(25,eEdges t.to),(26,aI t.to.length),(27,aI j),(32,eIs e.args),(33,aI e.args.length),(34,aI z.1)],O⟩) (fun z=>e.args.length - z.1) ⟨0,by omega,hje⟩ ?_ ?_)
   ·refine zq rfl ?_ ?_
    simp -dsimp only [simprocAttr,↓vpre,zp,Bs.enc_cells,Bs.enc_flat,Bs.enc_share,bs_fold,zc]
    rfl
   rintro⟨z,hz,hze⟩
   refine zg1 ?_
   simp -dsimp only [simprocAttr,↓vpre,zp,Bs.enc_cells,Bs.enc_flat,Bs.enc_share,bs_fold]
   refine za0 ?_
   apply zk1 rfl<;>intro h
   ·refine zb0 ?_
    have hltz:z<e.args.length:=by simpa using h
    obtain⟨v,hv⟩:∃v,e.args[z]?=some v:=⟨e.args[z],by simp [hltz]⟩
    rw [all_drop hv] at hze
    have hpv:=hp v
    refine awp_seq (awp_block ?_)
    refine zg1 ?_
    simp -dsimp only [simprocAttr,↓vpre,zp,Bs.enc_cells,Bs.enc_flat,Bs.enc_share,bs_fold,hv]
    refine za0 ?_
    refine zg1 ?_
    simp -dsimp only [simprocAttr,↓vpre,zp,Bs.enc_cells,Bs.enc_flat,Bs.enc_share,bs_fold]
    refine .inr (.inr ⟨_,hpv,later_intro ?_⟩)
    simp -dsimp only [simprocAttr,↓vpre,zp,Bs.enc_cells,Bs.enc_flat,Bs.enc_share,bs_fold]
    refine za0 ?_
    cases hb2:p v with
    | true =>
     rw [hb2,Bool.true_and] at hze
     refine zu0 rfl ?_
     refine zb1 ?_
     refine zg0 ?_
     simp -dsimp only [simprocAttr,↓vpre,zp,Bs.enc_cells,Bs.enc_flat,Bs.enc_share,bs_fold]
     repeat(refine⟨by omega,?_⟩)
     refine zl0 ?_
     refine⟨⟨z+1,hltz,hze⟩,by simp;omega,?_⟩
     refine zq rfl ?_ ?_
     simp -dsimp only [simprocAttr,↓vpre,zp,Bs.enc_cells,Bs.enc_flat,Bs.enc_share,bs_fold,zc]
     ·exact Sub.int (by simp)
     rfl
    | false =>
     rw [hb2] at hze
     refine zw0 rfl ?_
     refine zg1 ?_
     simp -dsimp only [simprocAttr,↓vpre,zp,Bs.enc_cells,Bs.enc_flat,Bs.enc_share,bs_fold]
     refine za0 ?_
     refine awp_ret ?_
     simp -dsimp only [simprocAttr,↓vpre,zp,Bs.enc_cells,Bs.enc_flat,Bs.enc_share,bs_fold,zr,Try.results81]
     exact⟨hup,by rw [hze];rfl⟩
   refine awp_exit ?_
   simp -dsimp only [vend,ne_eq,Nat.reduceEqDiff,reduceCtorEq]
   have hzz:z=e.args.length:=by simp at h;omega
   subst hzz
   rw [List.drop_length] at hze
   refine zg0 ?_
   simp -dsimp only [simprocAttr,↓vpre,zp,Bs.enc_cells,Bs.enc_flat,Bs.enc_share,bs_fold]
   repeat(refine⟨by omega,?_⟩)
   refine zl0 ?_
   refine⟨⟨j+1,hlt,by simpa using hze⟩,by simp;omega,?_⟩
   refine zq rfl ?_ ?_
   simp -dsimp only [simprocAttr,↓vpre,zp,Bs.enc_cells,Bs.enc_flat,Bs.enc_share,bs_fold,zc]
   ·exact Sub.int (by simp)
   rfl
  refine awp_exit ?_
  simp -dsimp only [vend,ne_eq,Nat.reduceEqDiff,reduceCtorEq]
  have hjj:j=t.to.length:=by simp at h;omega
  subst hjj
  rw [List.drop_length] at hje
  refine zg1 ?_
  simp -dsimp only [simprocAttr,↓vpre,zp,Bs.enc_cells,Bs.enc_flat,Bs.enc_share,bs_fold]
  refine za0 ?_
  refine awp_ret ?_
  simp -dsimp only [simprocAttr,↓vpre,zp,Bs.enc_cells,Bs.enc_flat,Bs.enc_share,bs_fold,zr,Try.results81]
  exact⟨hup,by rw [hje];rfl⟩
def insUses(ds:Defs)(over:List Bs)(seen:Bs)(k:Nat):Nat→List Ins→Bool
 | _,[]=>true
 | n,i::r=>i.args.all (fineM ds over seen k n)&&insUses ds over seen k (n+1) r
def blkUses(ds:Defs)(over:List Bs)(seen:Bs)(k:Nat)(b:Block):Bool:=insUses ds over seen k 0 b.ins&&usedM b.term (fineM ds over seen k b.ins.length)
def allUses(ds:Defs)(over:List Bs)(seen:Bs):Nat→List Block→Bool
 | _,[]=>true
 | k,b::r=>blkUses ds over seen k b&&allUses ds over seen (k+1) r
def usesM(f:Func)(ds:Defs):Int:=if allUses ds (domM f).1 (domM f).2 0 f.blocks then 0 else 6
theorem domM_ok(f:Func)(h0:f.blocks≠[])(h1:f.blocks.length≤128)(he:∀b∈f.blocks,∀e∈b.term.to,0≤e.block∧e.block.toNat<f.blocks.length):(domM f).1.length=f.blocks.length∧(∀s∈(domM f).1,s.fit)∧(domM f).2.fit:=by
 have key:∀(n:Nat) (S:Ds),DsOK f.blocks.length S→DsOK f.blocks.length (domI f n S):=fun n=>by
  induction n with
  | zero=>exact fun S h=>h
  | succ n ih =>
   intro S h
   simp only [domI]
   split
   ·exact ih _ (domR_ok f.blocks (k:=0) (S:=⟨S.over,S.seen,false⟩) ⟨h.few,h.len,h.fit,h.seen,h.self⟩ he).1
   exact h
 have h:=key 20000 _ (domS_ok h0 h1)
 exact⟨h.len,h.fit,h.seen⟩
theorem uses_spec(f:Func)(ds:Defs)(h0:f.blocks≠[])(h1:f.blocks.length≤128)(he:∀b∈f.blocks,∀e∈b.term.to,0≤e.block∧e.block.toNat<f.blocks.length)(hds:DefsOK f.blocks.length ds) :
  PCall Try.prog 63 [.ip none [aI f.name,eBlocks f.blocks,.im (.int .i64) (ds.map dent)]] (aI (usesM f ds)):=by
 have hdom:=dominators_spec f h0 h1 he
 obtain⟨d1,d2,d3⟩:=domM_ok f h0 h1 he
 obtain⟨R,hR⟩:∃R,R=usesM f ds:=⟨_,rfl⟩
 rw [←hR]
 unfold usesM at hR
 generalize domM f=D at *
 obtain⟨over,seen⟩:=D
 simp only at hdom d1 d2 d3 hR
 have hdu6:=defs_upto 6 ds
 have hdu3:=defs_upto 3 ds
 have hdu0:=defs_upto 0 ds
 have hfine:∀(k:Nat) (at_:Int) (v:Int),k<f.blocks.length→ECall Try.prog 79 [.gone,.gone,.gone,.gone,.gone,.cells [aI at_]] (aI v::capsE f ds over seen k 5) (fun r O'=>r=.v (.bool (fineM ds over seen k at_ v))∧O'=[.gone,.gone,.gone,.gone,.gone,.cells [aI at_]]):=fun k at_ v hk=>by
  refine fine_spec (O:=[.gone,.gone,.gone,.gone,.gone,.cells [aI at_]]) ?_ rfl (by omega) (by omega) d2 d3 (by rw [d1];exact hds) v
  simp [AObj.upto,uptoL,AVal.upto]
 refine zf true 0 Try.func63 Try.ntmps63 ?_
 dsimp only [Tmp,TypeId,slotsOf]
 refine zg1 ?_
 simp -dsimp only [simprocAttr,↓vpre,zp,Bs.enc_cells,Bs.enc_flat,Bs.enc_share,bs_fold]
 refine za0 ?_
 refine awp_freeze1 1 0 (.ip none [.ip none [aI f.name,eBlocks f.blocks,.im (.int .i64) (ds.map dent)]]) rfl (by simp [AObj.isSpare]) trivial rfl ?_ ?_
 rotate_left
 simp -dsimp only [simprocAttr,↓vpre,zp,Bs.enc_cells,Bs.enc_flat,Bs.enc_share,bs_fold]
 ·refine zg1 ?_
  simp -dsimp only [simprocAttr,↓vpre,zp,Bs.enc_cells,Bs.enc_flat,Bs.enc_share,bs_fold]
  refine .inl ⟨_,hdom,by simp only [uptoL,AVal.upto,zt,zu,aI_upto,Bs.enc_upto,Bs.enc_share],later_intro ?_⟩
  simp -dsimp only [simprocAttr,↓vpre,zp,Bs.enc_cells,Bs.enc_flat,Bs.enc_share,bs_fold]
  refine za0 ?_
  refine awp_freeze1 3 1 (.ip none [.lst 2 (over.map Bs.enc) .sh]) rfl (by simp [AObj.isSpare]) trivial rfl ?_ ?_
  rotate_left
  simp -dsimp only [simprocAttr,↓vpre,zp,Bs.enc_cells,Bs.enc_flat,Bs.enc_share,bs_fold]
  ·refine awp_freeze1 4 2 (.ip none [.v (.int .u64 seen.a),.v (.int .u64 seen.b)]) rfl (by simp [AObj.isSpare]) trivial rfl ?_ ?_
   rotate_left
   simp -dsimp only [simprocAttr,↓vpre,zp,Bs.enc_cells,Bs.enc_flat,Bs.enc_share,bs_fold]
   ·refine zg2 ?_
    simp -dsimp only [simprocAttr,↓vpre,zp,Bs.enc_cells,Bs.enc_flat,Bs.enc_share,bs_fold]
    refine za0 ?_
    refine awp_block (awp_loop (ι:={k:Nat // k≤f.blocks.length∧R=if allUses ds over seen k (f.blocks.drop k) then 0 else 6}) (fun k=>⟨64,[(1,.ip none [.ip none [aI f.name,eBlocks f.blocks,.im (.int .i64) (ds.map dent)]]),(2,aI 0),(3,.ip none [.lst 2 (over.map Bs.enc) .sh]),(4,.ip none [.v (.int .u64 seen.a),.v (.int .u64 seen.b)]),(25,eBlocks f.blocks),(26,aI f.blocks.length),(27,aI k.1)],[.gone,.gone,.gone]⟩) (fun k=>f.blocks.length - k.1) ⟨0,by omega,hR⟩ ?_ ?_)
    ·refine zq rfl ?_ ?_
     simp -dsimp only [simprocAttr,↓vpre,zp,Bs.enc_cells,Bs.enc_flat,Bs.enc_share,bs_fold,zc]
     rfl
    rintro⟨k,hk,hke⟩
    refine zg1 ?_
    simp -dsimp only [simprocAttr,↓vpre,zp,Bs.enc_cells,Bs.enc_flat,Bs.enc_share,bs_fold]
    refine za0 ?_
    apply zk1 rfl<;>intro h
    ·refine zb0 ?_
     have hlt:k<f.blocks.length:=by simpa using h
     obtain⟨b,hb⟩:∃b,f.blocks[k]?=some b:=⟨f.blocks[k],by simp [hlt]⟩
     rw [drop_at hb] at hke
     simp only [allUses,blkUses] at hke
     refine awp_seq (awp_block ?_)
     refine zg1 ?_
     simp -dsimp only [simprocAttr,↓vpre,zp,Bs.enc_cells,Bs.enc_flat,Bs.enc_share,bs_fold,hb]
     refine za0 ?_
     refine awp_freeze1 5 3 (.ip none [aI k]) rfl (by simp [AObj.isSpare]) trivial rfl ?_ ?_
     rotate_left
     simp -dsimp only [simprocAttr,↓vpre,zp,Bs.enc_cells,Bs.enc_flat,Bs.enc_share,bs_fold]
     ·refine awp_freeze1 6 4 (.ip none [eIs b.params,eInss b.ins,aI b.term.kind,aI b.term.arg,aI b.term.n,eIs b.term.cases,eEdges b.term.to]) rfl (by simp [AObj.isSpare]) trivial rfl ?_ ?_
      rotate_left
      simp -dsimp only [simprocAttr,↓vpre,zp,Bs.enc_cells,Bs.enc_flat,Bs.enc_share,bs_fold]
      ·refine zg1 ?_
       simp -dsimp only [simprocAttr,↓vpre,zp,Bs.enc_cells,Bs.enc_flat,Bs.enc_share,bs_fold]
       refine za0 ?_
       refine zg1 ?_
       simp -dsimp only [simprocAttr,↓vpre,zp,Bs.enc_cells,Bs.enc_flat,Bs.enc_share,bs_fold]
       refine za0 ?_
       refine zg2 ?_
       simp -dsimp only [simprocAttr,↓vpre,zp,Bs.enc_cells,Bs.enc_flat,Bs.enc_share,bs_fold]
       refine za0 ?_
       refine awp_len 34 rfl (fun hil=>?_)
       simp only [List.length_map] at hil
       refine awp_block (awp_loop (ι:={x:Nat×Int // x.1≤b.ins.length∧R=if (insUses ds over seen k x.1 (b.ins.drop x.1)&&usedM b.term (fineM ds over seen k b.ins.length))&&allUses ds over seen (k+1) (f.blocks.drop (k+1)) then 0 else 6}) (fun x=>⟨64,[(1,.ip none [.ip none [aI f.name,eBlocks f.blocks,.im (.int .i64) (ds.map dent)]]),(2,aI 0),(3,.ip none [.lst 2 (over.map Bs.enc) .sh]),(4,.ip none [.v (.int .u64 seen.a),.v (.int .u64 seen.b)]),(25,eBlocks f.blocks),(26,aI f.blocks.length),(27,aI k),(6,.ip none [eIs b.params,eInss b.ins,aI b.term.kind,aI b.term.arg,aI b.term.n,eIs b.term.cases,eEdges b.term.to]),(7,.mp 5 0),(8,.fn (.func 79) [] [.ip none [.ip none [aI f.name,eBlocks f.blocks,.im (.int .i64) (ds.map dent)]],.ip none [aI k],.mp 5 0,.ip none [.lst 2 (over.map Bs.enc) .sh],.ip none [.v (.int .u64 seen.a),.v (.int .u64 seen.b)]]),(34,eInss b.ins),(35,aI b.ins.length),(36,aI x.1.1)],[.gone,.gone,.gone,.gone,.gone,.cells [aI x.1.2]]⟩) (fun x=>b.ins.length - x.1.1) ⟨(0,0),by simp,hke⟩ ?_ ?_)
       ·refine zq rfl ?_ ?_
        simp -dsimp only [simprocAttr,↓vpre,zp,Bs.enc_cells,Bs.enc_flat,Bs.enc_share,bs_fold,zc]
        rfl
       rintro⟨⟨j,z⟩,hj,hje⟩
       simp only at hj hje
       refine zg1 ?_
       simp -dsimp only [simprocAttr,↓vpre,zp,Bs.enc_cells,Bs.enc_flat,Bs.enc_share,bs_fold]
       refine za0 ?_
       apply zk1 rfl<;>intro h
       ·refine zb0 ?_
        have hlj:j<b.ins.length:=by simpa using h
        obtain⟨i,hi⟩:∃i,b.ins[j]?=some i:=⟨b.ins[j],by simp [hlj]⟩
        rw [drop_at hi] at hje
        simp only [insUses] at hje
        refine awp_seq (awp_block ?_)
        refine zg1 ?_
        simp -dsimp only [simprocAttr,↓vpre,zp,Bs.enc_cells,Bs.enc_flat,Bs.enc_share,bs_fold,hi]
        refine za0 ?_
        refine awp_freeze1 10 6 (.ip none [aI i.to,aI i.op,aI i.n,eIs i.args]) rfl (by simp [AObj.isSpare]) trivial rfl ?_ ?_
        rotate_left
        simp -dsimp only [simprocAttr,↓vpre,zp,Bs.enc_cells,Bs.enc_flat,Bs.enc_share,bs_fold]
        ·refine awp_trunc' 6 [(1,.ip none [.ip none [aI f.name,eBlocks f.blocks,.im (.int .i64) (ds.map dent)]]),(2,aI 0),(3,.ip none [.lst 2 (over.map Bs.enc) .sh]),(4,.ip none [.v (.int .u64 seen.a),.v (.int .u64 seen.b)]),(25,eBlocks f.blocks),(26,aI f.blocks.length),(27,aI k),(6,.ip none [eIs b.params,eInss b.ins,aI b.term.kind,aI b.term.arg,aI b.term.n,eIs b.term.cases,eEdges b.term.to]),(7,.mp 5 0),(8,.fn (.func 79) [] [.ip none [.ip none [aI f.name,eBlocks f.blocks,.im (.int .i64) (ds.map dent)]],.ip none [aI k],.mp 5 0,.ip none [.lst 2 (over.map Bs.enc) .sh],.ip none [.v (.int .u64 seen.a),.v (.int .u64 seen.b)]]),(34,eInss b.ins),(35,aI b.ins.length),(36,aI j),(9,aI j),(10,.ip none [aI i.to,aI i.op,aI i.n,eIs i.args])] (by simp) (by omega) [.gone,.gone,.gone,.gone,.gone,.cells [aI z]] ?_ ?_ ?_ ?_ ?_
         ·rfl
         ·simp [AObj.upto,uptoL,AVal.upto,aI_upto,Block.map_upto,Edge.map_upto,Ins.map_upto,bs_uptoL,hdu6,hdu3]
         ·simp [Says,St.get,putS,dropS,Go.Av.look,Sub.refl]
         ·simp [AObj.upto,uptoL,AVal.upto,aI_upto,Block.map_upto,Edge.map_upto,Ins.map_upto,bs_uptoL,hdu6,hdu3]
         refine zg1 ?_
         simp -dsimp only [simprocAttr,↓vpre,zp,Bs.enc_cells,Bs.enc_flat,Bs.enc_share,bs_fold]
         refine za0 ?_
         refine zg1 ?_
         simp -dsimp only [simprocAttr,↓vpre,zp,Bs.enc_cells,Bs.enc_flat,Bs.enc_share,bs_fold]
         refine za0 ?_
         refine awp_len 43 rfl (fun hal=>?_)
         simp only [List.length_map] at hal
         refine awp_block (awp_loop (ι:={y:Nat // y≤i.args.length∧R=if (((i.args.drop y).all (fineM ds over seen k j)&&insUses ds over seen k (j+1) (b.ins.drop (j+1)))&&usedM b.term (fineM ds over seen k b.ins.length))&&allUses ds over seen (k+1) (f.blocks.drop (k+1)) then 0 else 6}) (fun y=>⟨64,[(1,.ip none [.ip none [aI f.name,eBlocks f.blocks,.im (.int .i64) (ds.map dent)]]),(2,aI 0),(3,.ip none [.lst 2 (over.map Bs.enc) .sh]),(4,.ip none [.v (.int .u64 seen.a),.v (.int .u64 seen.b)]),(25,eBlocks f.blocks),(26,aI f.blocks.length),(27,aI k),(6,.ip none [eIs b.params,eInss b.ins,aI b.term.kind,aI b.term.arg,aI b.term.n,eIs b.term.cases,eEdges b.term.to]),(7,.mp 5 0),(8,.fn (.func 79) [] [.ip none [.ip none [aI f.name,eBlocks f.blocks,.im (.int .i64) (ds.map dent)]],.ip none [aI k],.mp 5 0,.ip none [.lst 2 (over.map Bs.enc) .sh],.ip none [.v (.int .u64 seen.a),.v (.int .u64 seen.b)]]),(34,eInss b.ins),(35,aI b.ins.length),(36,aI j),(43,eIs i.args),(44,aI i.args.length),(45,aI y.1)],[.gone,.gone,.gone,.gone,.gone,.cells [aI j]]⟩) (fun y=>i.args.length - y.1) ⟨0,by omega,hje⟩ ?_ ?_)
         ·refine zq rfl ?_ ?_
          simp -dsimp only [simprocAttr,↓vpre,zp,Bs.enc_cells,Bs.enc_flat,Bs.enc_share,bs_fold,zc]
          rfl
         rintro⟨y,hy,hye⟩
         refine zg1 ?_
         simp -dsimp only [simprocAttr,↓vpre,zp,Bs.enc_cells,Bs.enc_flat,Bs.enc_share,bs_fold]
         refine za0 ?_
         apply zk1 rfl<;>intro h
         ·refine zb0 ?_
          have hly:y<i.args.length:=by simpa using h
          obtain⟨v,hv⟩:∃v,i.args[y]?=some v:=⟨i.args[y],by simp [hly]⟩
          rw [all_drop hv] at hye
          have hfv:=hfine k j v hlt
          refine awp_seq (awp_block ?_)
          refine zg1 ?_
          simp -dsimp only [simprocAttr,↓vpre,zp,Bs.enc_cells,Bs.enc_flat,Bs.enc_share,bs_fold,hv]
          refine za0 ?_
          refine zg1 ?_
          simp -dsimp only [simprocAttr,↓vpre,zp,Bs.enc_cells,Bs.enc_flat,Bs.enc_share,bs_fold]
          refine .inr (.inr ⟨_,hfv,later_intro ?_⟩)
          simp -dsimp only [simprocAttr,↓vpre,zp,Bs.enc_cells,Bs.enc_flat,Bs.enc_share,bs_fold]
          refine za0 ?_
          cases hb2:fineM ds over seen k j v with
          | true =>
           rw [hb2,Bool.true_and] at hye
           refine zu0 rfl ?_
           refine zb1 ?_
           refine zg0 ?_
           simp -dsimp only [simprocAttr,↓vpre,zp,Bs.enc_cells,Bs.enc_flat,Bs.enc_share,bs_fold]
           repeat(refine⟨by omega,?_⟩)
           refine zl0 ?_
           refine⟨⟨y+1,hly,hye⟩,by simp;omega,?_⟩
           refine zq rfl ?_ ?_
           simp -dsimp only [simprocAttr,↓vpre,zp,Bs.enc_cells,Bs.enc_flat,Bs.enc_share,bs_fold,zc]
           ·exact Sub.int (by simp)
           rfl
          | false =>
           rw [hb2] at hye
           refine zw0 rfl ?_
           refine zg1 ?_
           simp -dsimp only [simprocAttr,↓vpre,zp,Bs.enc_cells,Bs.enc_flat,Bs.enc_share,bs_fold]
           refine za0 ?_
           refine awp_ret ?_
           simp -dsimp only [simprocAttr,↓vpre,zp,Bs.enc_cells,Bs.enc_flat,Bs.enc_share,bs_fold,zr,Try.results63]
           rw [hye]
           simp
         refine awp_exit ?_
         simp -dsimp only [vend,ne_eq,Nat.reduceEqDiff,reduceCtorEq]
         have hyy:y=i.args.length:=by simp at h;omega
         subst hyy
         rw [List.drop_length] at hye
         refine zg0 ?_
         simp -dsimp only [simprocAttr,↓vpre,zp,Bs.enc_cells,Bs.enc_flat,Bs.enc_share,bs_fold]
         repeat(refine⟨by omega,?_⟩)
         refine zl0 ?_
         refine⟨⟨(j+1,j),hlj,by simpa using hye⟩,by simp;omega,?_⟩
         refine zq rfl ?_ ?_
         simp -dsimp only [simprocAttr,↓vpre,zp,Bs.enc_cells,Bs.enc_flat,Bs.enc_share,bs_fold,zc]
         ·exact Sub.int (by simp)
         rfl
        exact FSub.mp rfl rfl
       refine awp_exit ?_
       simp -dsimp only [vend,ne_eq,Nat.reduceEqDiff,reduceCtorEq]
       have hjj:j=b.ins.length:=by simp at h;omega
       subst hjj
       rw [List.drop_length] at hje
       simp only [insUses,Bool.true_and] at hje
       have hus:=used_spec (O:=[.gone,.gone,.gone,.gone,.gone,.cells [aI b.ins.length]]) (by simp [AObj.upto,uptoL,AVal.upto]) 79 (capsE f ds over seen k 5) (by simp [AObj.upto,uptoL,AVal.upto,aI_upto,Block.map_upto,bs_uptoL,hdu6]) (fineM ds over seen k b.ins.length) (fun v=>hfine k b.ins.length v hlt) b.term
       refine zg1 ?_
       simp -dsimp only [simprocAttr,↓vpre,zp,Bs.enc_cells,Bs.enc_flat,Bs.enc_share,bs_fold]
       refine za0 ?_
       refine zg1 ?_
       simp -dsimp only [simprocAttr,↓vpre,zp,Bs.enc_cells,Bs.enc_flat,Bs.enc_share,bs_fold]
       refine .inr (.inr ⟨_,hus,later_intro ?_⟩)
       simp -dsimp only [simprocAttr,↓vpre,zp,Bs.enc_cells,Bs.enc_flat,Bs.enc_share,bs_fold]
       refine za0 ?_
       cases hb2:usedM b.term (fineM ds over seen k b.ins.length) with
       | true =>
        rw [hb2,Bool.true_and] at hje
        refine zu0 rfl ?_
        refine zb1 ?_
        refine awp_trunc' 3 [(1,.ip none [.ip none [aI f.name,eBlocks f.blocks,.im (.int .i64) (ds.map dent)]]),(2,aI 0),(3,.ip none [.lst 2 (over.map Bs.enc) .sh]),(4,.ip none [.v (.int .u64 seen.a),.v (.int .u64 seen.b)]),(25,eBlocks f.blocks),(26,aI f.blocks.length),(27,aI k)] (by simp) (by omega) [.gone,.gone,.gone] ?_ ?_ ?_ ?_ ?_
        ·rfl
        ·simp [AObj.upto,uptoL,AVal.upto,aI_upto,Block.map_upto,Edge.map_upto,Ins.map_upto,bs_uptoL,hdu6,hdu3]
        ·simp [Says,St.get,putS,dropS,Go.Av.look,Sub.refl]
        ·simp [AObj.upto,uptoL,AVal.upto,aI_upto,Block.map_upto,Edge.map_upto,Ins.map_upto,bs_uptoL,hdu6,hdu3]
        refine zg0 ?_
        simp -dsimp only [simprocAttr,↓vpre,zp,Bs.enc_cells,Bs.enc_flat,Bs.enc_share,bs_fold]
        repeat(refine⟨by omega,?_⟩)
        refine zl0 ?_
        refine⟨⟨k+1,hlt,hje⟩,by simp;omega,?_⟩
        refine zq rfl ?_ ?_
        simp -dsimp only [simprocAttr,↓vpre,zp,Bs.enc_cells,Bs.enc_flat,Bs.enc_share,bs_fold,zc]
        ·exact Sub.int (by simp)
        rfl
       | false =>
        rw [hb2] at hje
        refine zw0 rfl ?_
        refine zg1 ?_
        simp -dsimp only [simprocAttr,↓vpre,zp,Bs.enc_cells,Bs.enc_flat,Bs.enc_share,bs_fold]
        refine za0 ?_
        refine awp_ret ?_
        simp -dsimp only [simprocAttr,↓vpre,zp,Bs.enc_cells,Bs.enc_flat,Bs.enc_share,bs_fold,zr,Try.results63]
        rw [hje]
        simp
      exact FSub.mp rfl rfl
     exact FSub.mp rfl rfl
    refine awp_exit ?_
    simp -dsimp only [vend,ne_eq,Nat.reduceEqDiff,reduceCtorEq]
    have hkk:k=f.blocks.length:=by simp at h;omega
    subst hkk
    rw [List.drop_length] at hke
    refine zg1 ?_
    simp -dsimp only [simprocAttr,↓vpre,zp,Bs.enc_cells,Bs.enc_flat,Bs.enc_share,bs_fold]
    refine za0 ?_
    refine awp_ret ?_
    simp -dsimp only [simprocAttr,↓vpre,zp,Bs.enc_cells,Bs.enc_flat,Bs.enc_share,bs_fold,zr,Try.results63]
    simp [hke,allUses]
   exact FSub.mp rfl rfl
  exact FSub.mp rfl rfl
 exact FSub.mp rfl rfl
end Go.Proofs.Ytkhnjeblbiocaaa
namespace Go.Av
theorem chain_shift{P:Program}{ops all:Array Oper}{k:Nat}(hk:∀i o,ops[i]?=some o→all[k+i]?=some o)(hg:∀o∈all.toList,o.guard=none):∀{l:List (Nat×Kind)} {σ τ:St},Chain P ops l σ τ→Chain P all (l.map fun p=>(k+p.1,p.2)) σ τ
 | [],_,_,h=>h
 | (i,q)::r,_,_,h=>by
  obtain⟨σ',⟨o,ho,h1⟩,h2⟩:=h
  refine⟨σ',⟨o,hk i o ho,?_⟩,chain_shift hk hg h2⟩
  have ho':=hk i o ho
  have hgo:o.guard=none:=hg o (by
   rw [←Array.getElem?_toList] at ho'
   exact List.mem_of_getElem? ho')
  have w1:∀(a:Array Oper) (σ:St),wantedA a o σ=some true:=fun a σ=>by simp [wantedA,hgo]
  rcases h1 with⟨_,h1⟩ | ⟨h1,_⟩
  ·exact .inl ⟨w1 _ _,h1⟩
  rw [w1] at h1
  cases h1
def MidOp(P:Program)(tab:Tab)(md:Md)(o:Oper)(l2:List Oper)(Q:AEx→St→Prop)(τ:St):Prop:=∃x m,Cert P o τ x m∧vcOps P tab md l2 0 [] ⟨τ.n,putO o.dst x τ.slots,m.post τ.objs⟩ [] fun ρ _=>At ρ (Q .norm)
theorem awp_mid_op{P:Program}{kb:Nat}{tab:Tab}(md:Md)(hT:TabOK P tab){id:Nat}{l l1 l2:List Oper}{o:Oper}{Q:AEx→St→Prop}{σ:St}(k:Nat)(h1:l.take k=l1)(h2:l[k]?=some o)(h3:l.drop (k+1)=l2)(hg:∀o∈l,o.guard=none)
  (h:vcOps P tab md l1 0 [] σ [] fun τ _=>MidOp P tab md o l2 Q τ):AWP P kb (.region id l.toArray false) Q σ:=by
 have hlt:=lt_of_getElem? h2
 obtain⟨τ,ks1,c1,n1,x,m,hc,h⟩:=vcOps_sound (all:=l1.toArray) hT l1 0 [] σ [] (fun j=>by simp) (fun j t hj=>by simp [slotAt] at hj) h
 obtain⟨ρ,ks2,c2,n2,hQ⟩:=vcOps_sound (all:=l2.toArray) hT l2 0 [] _ [] (fun j=>by simp) (fun j t hj=>by simp [slotAt] at hj) h
 intro base a g hb hr
 have hgo:o.guard=none:=hg o (List.mem_of_getElem? h2)
 have l1n:l1.length=k:=by rw [←h1,List.length_take];omega
 have l2n:l2.length=l.length - (k+1):=by rw [←h3,List.length_drop]
 have d1:=chain_shift (all:=l.toArray) (k:=0) (fun i o' hi=>by
  have hi':l1[i]?=some o':=by simpa using hi
  have:=lt_of_getElem? hi'
  rw [←h1,List.getElem?_take] at hi'
  split at hi'
  ·simpa using hi'
  cases hi') (by simpa using hg) c1
 have d2:=chain_shift (all:=l.toArray) (k:=k+1) (fun i o' hi=>by
  have hi':l2[i]?=some o':=by simpa using hi
  rw [←h3,List.getElem?_drop] at hi'
  simpa using hi') (by simpa using hg) c2
 have dm:Chain P l.toArray [(k,m.kind)] τ ⟨τ.n,putO o.dst x τ.slots,m.post τ.objs⟩:=⟨_,⟨o,by simpa using h2,.inl ⟨by simp [wantedA,hgo],x,m,hc,rfl,rfl⟩⟩,Same.refl _⟩
 have hch:=chain_append d1 (chain_append dm d2)
 obtain⟨ks,hks⟩:∃ks,ks=ks1++m.kind::ks2:=⟨_,rfl⟩
 have e:(List.range l.toArray.size).map (fun i=>(i,ks.getD i .write))=(List.map (fun p=>(0+p.1,p.2)) (List.map (fun p=>(p.2,p.1)) (ks1.zipIdx 0))++([(k,m.kind)]++List.map (fun p=>(k+1+p.1,p.2)) (List.map (fun p=>(p.2,p.1)) (ks2.zipIdx 0)))):=by
  have hsz:l.toArray.size=ks.length:=by
   rw [hks]
   simp only [List.size_toArray,List.length_append,List.length_cons]
   omega
  rw [hsz]
  apply List.ext_getElem?
  intro i
  rw [hks]
  simp only [List.getElem?_map]
  by_cases q1:i<ks1.length
  ·rw [List.getElem?_append_left (by simpa using q1),List.getElem?_range (by simp;omega)]
   simp [q1,List.getElem?_append_left]
  rw [List.getElem?_append_right (by simp;omega)]
  simp only [List.length_map,List.length_zipIdx]
  by_cases q2:i=ks1.length
  ·subst q2
   rw [List.getElem?_range (by simp)]
   simp [n1,l1n]
  rw [List.getElem?_append_right (by simp;omega)]
  obtain⟨j,hj⟩:∃j,i=ks1.length+1+j:=⟨i - ks1.length - 1,by omega⟩
  subst hj
  simp only [List.length_cons,List.length_nil,show ks1.length+1+j - ks1.length - (0+1)=j by omega,List.getElem?_map,List.getElem?_zipIdx]
  by_cases q3:j<ks2.length
  ·rw [List.getElem?_range (by simp;omega)]
   simp only [Option.map_some,List.getElem?_eq_getElem q3,Option.some.injEq,Prod.mk.injEq]
   refine⟨by omega,?_⟩
   rw [List.getD_eq_getElem?_getD,List.getElem?_append_right (by omega),show ks1.length+1+j - ks1.length=j+1 by omega,List.getElem?_cons_succ,List.getElem?_eq_getElem q3]
   rfl
  rw [List.getElem?_eq_none (l:=List.range _) (by simp;omega),List.getElem?_eq_none (l:=ks2) (by omega)]
  rfl
 rw [←e] at hch
 exact wp_region_lex hch hr fun a g hr'=>⟨g,ρ,rfl,hr',hQ⟩
theorem cert_addWrap{P:Program}{o:Oper}{σ:St}{t t':TypeId}{x y:Operand}{k:IntKind}{m n:Int}
  (ho:o.op=.binOp .add t x y t') (hd:∀d,o.dst=some d→d<σ.n) (hx:σ.ev x=some (.v (.int k m))) (hy:σ.ev y=some (.v (.int k n))) :
  Cert P o σ (.v (.int k (k.wrap (m+n)))) .pure :=
 Cert.ofQuiet .pure (.inl rfl) hd fun a g _ h _=>by
  have ex:=(h x (by simp [ho,Op.operands]) _ hx).v_inv.1
  have ey:=(h y (by simp [ho,Op.operands]) _ hy).v_inv.1
  have hg:=run_eqGuard_flat (P:=P) .add t x y (.int k m) (.int k n) g.w (by simp) (by simp)
  refine⟨.int k (k.wrap (m+n)),?_,.v (wrap_within k _)⟩
  have hb:(binOp .add t (.int k m) (.int k n)).run P g.w=.ok (.int k (k.wrap (m+n))) g.w:=by
   simp [binOp,Op.intArith]
  simp [execOp,ho,ex,ey,hg,hb]
theorem midOp_add{P:Program}{tab:Tab}{md:Md}{o:Oper}{l2:List Oper}{Q:AEx→St→Prop}{τ:St}{t t':TypeId}{x y:Operand}{k:IntKind}{m n:Int}{d:Nat}
  (ho:o.op=.binOp .add t x y t') (hdst:o.dst=some d) (hd:d<τ.n) (hx:τ.ev x=some (.v (.int k m))) (hy:τ.ev y=some (.v (.int k n)))
  (h:vcOps P tab md l2 0 [] ⟨τ.n,putO o.dst (.v (.int k (k.wrap (m+n)))) τ.slots,τ.objs⟩ [] fun ρ _=>At ρ (Q .norm)):MidOp P tab md o l2 Q τ :=
 ⟨_,.pure,cert_addWrap ho (fun d' e=>by rw [hdst] at e;cases e;exact hd) hx hy,h⟩
end Go.Av
namespace Go.Proofs.Ytkhnjeblbiocaaa
open Go.Av
theorem lookD_snoc(ds:Defs)(k v:Int)(p:Int×Int):lookD (ds++[(k,p)]) v=match lookD ds v with | some q=>some q | none=>if k=v then some p else none:=by
 induction ds with
 | nil=>rfl
 | cons e r ih =>
  obtain⟨a,q⟩:=e
  simp only [List.cons_append,lookD]
  split
  ·rfl
  exact ih
structure DefsW(n:Nat)(ds:Defs):Prop where
 ok:DefsOK n ds
 nodup:(ds.map (·.1)).Nodup
 range:∀e∈ds,0≤e.1∧e.1≤4095
theorem lookD_none{ds:Defs}{v:Int}(h:lookD ds v=none):∀e∈ds,e.1≠v:=by
 induction ds with
 | nil=>simp
 | cons e r ih =>
  obtain⟨a,q⟩:=e
  simp only [lookD] at h
  split at h
  ·cases h
  rename_i hne
  intro e he
  rcases List.mem_cons.1 he with q | q
  ·subst q
   exact hne
  exact ih h e q
theorem nodup_bound:∀(n:Nat) (l:List Nat),l.Nodup→(∀x∈l,x<n)→l.length≤n
 | 0,l,_,h=>by
  cases l with
  | nil=>simp
  | cons a r=>exact absurd (h a (by simp)) (by omega)
 | n+1,l,hn,h=>by
  by_cases hm:n∈l
  ·have:=nodup_bound n (l.erase n) (hn.erase n) (fun x hx=>by
    have h1:=(List.Nodup.mem_erase_iff hn).1 hx
    have h2:=h x h1.2
    have h3:=h1.1
    omega)
   rw [List.length_erase_of_mem hm] at this
   omega
  have:=nodup_bound n l hn (fun x hx=>by
   have h2:=h x hx
   have:x≠n:=fun e=>hm (e ▸ hx)
   omega)
  omega
theorem DefsW.few{n:Nat}{ds:Defs}(h:DefsW n ds):ds.length≤4096:=by
 have h1:(ds.map fun e=>e.1.toNat).Nodup:=by
  have h0:=h.nodup
  have hr:=h.range
  clear h
  induction ds with
  | nil=>simp
  | cons e r ih =>
   simp only [List.map_cons,List.nodup_cons,List.mem_map,not_exists,not_and] at h0 ⊢
   refine⟨fun x hx q=>h0.1 x hx ?_,ih h0.2 (fun e he=>hr e (by simp [he]))⟩
   have a:=hr e (by simp)
   have b:=hr x (by simp [hx])
   omega
 have:=nodup_bound 4096 _ h1 (fun x hx=>by
  obtain⟨e,he,rfl⟩:=List.mem_map.1 hx
  have:=h.range e he
  omega)
 simpa using this
theorem defineM_ok{n:Nat}{ds:Defs}(h:DefsW n ds)(v:Int){p:Int×Int}(h0:0≤p.1)(h1:p.1.toNat<n):DefsW n (defineM ds v p).2∧((defineM ds v p).1=0→(defineM ds v p).2.length=ds.length+1):=by
 unfold defineM
 split
 ·exact⟨h,fun q=>by simp at q⟩
 rename_i hw
 split
 ·exact⟨h,fun q=>by simp at q⟩
 rename_i hl
 have hl':lookD ds v=none:=by simpa using hl
 have hw':0≤v∧v≤4095:=by simpa [within] using hw
 refine⟨⟨fun w q hq=>?_,?_,fun e he=>?_⟩,fun _=>by simp⟩
 ·rw [lookD_snoc] at hq
  cases hd:lookD ds w with
  | some q' =>
   rw [hd] at hq
   simp only [Option.some.injEq] at hq
   exact hq ▸ h.ok w q' hd
  | none =>
   rw [hd] at hq
   simp only at hq
   split at hq
   ·simp only [Option.some.injEq] at hq
    exact hq ▸ ⟨h0,h1⟩
   cases hq
 ·rw [List.map_append,List.map_cons,List.map_nil,List.nodup_append]
  refine⟨h.nodup,by simp,fun a ha b hb=>?_⟩
  obtain⟨e,he,rfl⟩:=List.mem_map.1 ha
  simp only [List.mem_singleton] at hb
  subst hb
  exact lookD_none hl' e he
 rcases List.mem_append.1 he with q | q
 ·exact h.range e q
 simp only [List.mem_singleton] at q
 subst q
 exact hw'
theorem paramsM_ok{n:Nat}{k:Int}(h0:0≤k)(h1:k.toNat<n):∀(l:List Int) (ds:Defs),DefsW n ds→DefsW n (paramsM k ds l).2∧((paramsM k ds l).1=0→(paramsM k ds l).2.length=ds.length+l.length)
 | [],ds,h=>⟨h,fun _=>by simp [paramsM]⟩
 | p::r,ds,h=>by
  have hd:=defineM_ok h p (p:=(k,0)) h0 h1
  simp only [paramsM]
  split
  ·rename_i hne
   exact⟨hd.1,fun q=>absurd q hne⟩
  rename_i he
  have ih:=paramsM_ok h0 h1 r _ hd.1
  refine⟨ih.1,fun q=>?_⟩
  rw [ih.2 q,hd.2 (by simpa using he)]
  simp only [List.length_cons]
  omega
theorem insM_ok{n:Nat}{k:Int}(h0:0≤k)(h1:k.toNat<n):∀(l:List Ins) (j:Int) (ds:Defs),DefsW n ds→DefsW n (insM k j ds l).2∧((insM k j ds l).1=0→(insM k j ds l).2.length=ds.length+l.length∧∀i∈l,formE i=0)
 | [],j,ds,h=>⟨h,fun _=>by simp [insM]⟩
 | i::r,j,ds,h=>by
  have hd:=defineM_ok h i.to (p:=(k,j+1)) h0 h1
  simp only [insM]
  split
  ·rename_i hne
   exact⟨hd.1,fun q=>absurd q hne⟩
  rename_i he
  split
  ·rename_i hf
   exact⟨hd.1,fun q=>absurd q hf⟩
  rename_i hf
  have ih:=insM_ok h0 h1 r (j+1) _ hd.1
  refine⟨ih.1,fun q=>?_⟩
  obtain⟨a,b⟩:=ih.2 q
  refine⟨?_,fun x hx=>?_⟩
  ·rw [a,hd.2 (by simpa using he)]
   simp only [List.length_cons]
   omega
  rcases List.mem_cons.1 hx with e | e
  ·subst e
   simpa using hf
  exact b x e
structure BlkW(f:Func)(b:Block):Prop where
 forms:∀i∈b.ins,formE i=0
 fin:endE f b.term=0
 few:b.params.length+b.ins.length≤4096
theorem blockM_ok{f:Func}{ds:Defs}{k:Int}(h:DefsW f.blocks.length ds)(h0:0≤k)(h1:k.toNat<f.blocks.length):DefsW f.blocks.length (blockM f ds k).2∧((blockM f ds k).1=0→BlkW f (blkOf f k)):=by
 have hp:=paramsM_ok h0 h1 (blkOf f k).params ds h
 have hi:=insM_ok h0 h1 (blkOf f k).ins 0 _ hp.1
 unfold blockM
 split
 ·rename_i hne
  exact⟨hp.1,fun q=>absurd q hne⟩
 rename_i hpe
 split
 ·rename_i hne
  exact⟨hi.1,fun q=>absurd q hne⟩
 rename_i hie
 refine⟨hi.1,fun q=>?_⟩
 have a:=hp.2 (by simpa using hpe)
 have b:=hi.2 (by simpa using hie)
 have c:=hi.1.few
 exact⟨b.2,q,by rw [b.1,a] at c;omega⟩
theorem edges_of_end{f:Func}{t:Term}(h:endE f t=0):shapeM t=true∧t.cases.length≤256∧(t.kind=4→1≤t.n∧t.n≤6)∧∀e∈t.to,(1≤e.block∧e.block≤(f.blocks.length:Int) - 1)∧e.args.length=(blkOf f e.block).params.length:=by
 unfold endE at h
 split at h
 ·simp at h
 rename_i hs
 split at h
 ·simp at h
 rename_i hc
 split at h
 ·simp at h
 rename_i hk
 split at h
 ·rename_i hne
  exact absurd h hne
 refine⟨by simpa using hs,by omega,fun k4=>?_,?_⟩
 ·by_cases hw:within t.n 1 6=false
  ·exact absurd ⟨k4,hw⟩ hk
  simpa [within] using hw
 generalize t.to=l at h
 induction l with
 | nil=>simp
 | cons e r ih =>
  simp only [edgesE] at h
  split at h
  ·simp at h
  rename_i h1
  split at h
  ·simp at h
  rename_i h2
  intro x hx
  rcases List.mem_cons.1 hx with q | q
  ·subst q
   exact⟨by simpa [within] using h1,by simpa using h2⟩
  exact ih h x q
def wsum:Int→List Block→Int
 | m,[]=>m
 | m,b::r=>wsum (IntKind.i64.wrap (m+b.ins.length)) r
def blocksM(f:Func):Nat→Int→Defs→Int×Defs
 | 0,_,ds=>(0,ds)
 | n+1,k,ds=>if (blockM f ds k).1≠0 then blockM f ds k else blocksM f n (k+1) (blockM f ds k).2
def checkFuncM(f:Func):Int :=
 if f.blocks.length=0 then 3
 else if 128<f.blocks.length∨1024<wsum 0 f.blocks∨6<(blkOf f 0).params.length then 2
 else if within f.name (-1) 1048575=false then 4
 else if (blocksM f f.blocks.length 0 []).1≠0 then (blocksM f f.blocks.length 0 []).1
 else usesM f (blocksM f f.blocks.length 0 []).2
theorem blocksM_ok{f:Func}:∀(n:Nat) (k:Int) (ds:Defs),DefsW f.blocks.length ds→0≤k→k.toNat+n≤f.blocks.length→(blocksM f n k ds).1=0→DefsW f.blocks.length (blocksM f n k ds).2∧∀j:Nat,j<n→BlkW f (blkOf f (k+j))
 | 0,k,ds,h,_,_,_=>⟨h,fun j hj=>absurd hj (by omega)⟩
 | n+1,k,ds,h,h0,h1,he=>by
  have hb:=blockM_ok (k:=k) h h0 (by omega)
  simp only [blocksM] at he ⊢
  split at he
  ·rename_i hne
   exact absurd he hne
  rename_i hne
  rw [if_neg hne]
  have ih:=blocksM_ok n (k+1) _ hb.1 (by omega) (by omega) he
  refine⟨ih.1,fun j hj=>?_⟩
  cases j with
  | zero=>simpa using hb.2 (by simpa using hne)
  | succ j =>
   have:=ih.2 j (by omega)
   rwa [show k+((j+1:Nat):Int)=k+1+(j:Int) by omega]
theorem DefsW.nil(n:Nat):DefsW n []:=⟨fun v p h=>(by cases h),by simp,by simp⟩
theorem mem_blkOf{f:Func}{b:Block}(h:b∈f.blocks):∃j:Nat,j<f.blocks.length∧b=blkOf f (j:Int):=by
 obtain⟨j,hj,rfl⟩:=List.getElem_of_mem h
 exact⟨j,hj,by simp [blkOf,hj]⟩
theorem blocksM_all{f:Func}(he:(blocksM f f.blocks.length 0 []).1=0):∀b∈f.blocks,BlkW f b:=fun b hb=>by
 obtain⟨j,hj,rfl⟩:=mem_blkOf hb
 have:=(blocksM_ok f.blocks.length 0 [] (.nil _) (by omega) (by simp) he).2 j hj
 simpa using this
theorem checkFunc_spec(f:Func)(hfit:f.fit):PCall Try.prog 39 [f.enc] (aI (checkFuncM f)):=by
 have hw:=within_spec f.name (-1) 1048575
 have hfew:f.blocks.length≤2 ^ 47:=hfit.2.1
 obtain⟨R,hR⟩:∃R,R=checkFuncM f:=⟨_,rfl⟩
 rw [←hR]
 unfold checkFuncM at hR
 refine zf true 0 Try.func39 Try.ntmps39 ?_
 dsimp only [Tmp,TypeId,slotsOf]
 refine zh1 (za0 ?_)
 refine awp_freeze1 1 0 (.ip none [aI f.name,eBlocks f.blocks]) rfl (by simp [AObj.isSpare]) trivial rfl ?_ ?_
 rotate_left
 simp -dsimp only [simprocAttr,↓vpre,zp]
 ·refine zh1 (za0 ?_)
  refine zh2 (za0 ?_)
  refine awp_block (awp_loop (ι:={x:Nat×Int // x.1≤f.blocks.length∧wsum 0 f.blocks=wsum x.2 (f.blocks.drop x.1)}) (fun x=>⟨69,[(1,.ip none [aI f.name,eBlocks f.blocks]),(2,aI 0),(3,aI x.1.2),(10,eBlocks f.blocks),(11,aI f.blocks.length),(12,aI x.1.1)],[.gone]⟩) (fun x=>f.blocks.length - x.1.1) ⟨(0,0),by simp,rfl⟩ ?_ ?_)
  ·refine zq rfl ?_ ?_
   simp -dsimp only [simprocAttr,↓vpre,zp,zc]
   rfl
  rintro⟨⟨k,m⟩,hk,hke⟩
  simp only at hk hke
  refine zh1 (za0 ?_)
  apply zk1 rfl<;>intro h
  ·refine zb0 ?_
   have hlt:k<f.blocks.length:=by simpa using h
   obtain⟨b,hb⟩:∃b,f.blocks[k]?=some b:=⟨f.blocks[k],by simp [hlt]⟩
   rw [drop_at hb] at hke
   simp only [wsum] at hke
   refine awp_seq (awp_block ?_)
   refine zg1 ?_
   simp -dsimp only [simprocAttr,↓vpre,zp,hb]
   refine za0 ?_
   refine awp_freeze1 5 1 (.ip none [eIs b.params,eInss b.ins,aI b.term.kind,aI b.term.arg,aI b.term.n,eIs b.term.cases,eEdges b.term.to]) rfl (by simp [AObj.isSpare]) trivial rfl ?_ ?_
   rotate_left
   simp -dsimp only [simprocAttr,↓vpre,zp]
   ·refine awp_mid_op ⟨false,false⟩ hT 4 rfl rfl rfl (by simp) ?_
    simp -dsimp only [simprocAttr,↓vpre,zp]
    refine midOp_add rfl rfl (by simp) rfl rfl ?_
    simp -dsimp only [simprocAttr,↓vpre,zp]
    refine za0 ?_
    refine awp_trunc' 1 [(1,.ip none [aI f.name,eBlocks f.blocks]),(2,aI 0),(3,aI (IntKind.i64.wrap (m+b.ins.length))),(10,eBlocks f.blocks),(11,aI f.blocks.length),(12,aI k)] (by simp) (by omega) [.gone] ?_ ?_ ?_ ?_ ?_
    ·rfl
    ·simp [AObj.upto,uptoL,AVal.upto,aI_upto,Block.map_upto]
    ·simp [Says,St.get,putS,dropS,Go.Av.look,Sub.refl]
    ·simp [AObj.upto,uptoL,AVal.upto,aI_upto,Block.map_upto]
    refine zh0 ?_
    repeat(refine⟨by omega,?_⟩)
    refine zl0 ?_
    refine⟨⟨(k+1,IntKind.i64.wrap (m+b.ins.length)),by simp only;omega,hke⟩,by simp;omega,?_⟩
    refine zq rfl ?_ ?_
    simp -dsimp only [simprocAttr,↓vpre,zp,zc]
    ·exact Sub.int (by simp)
    rfl
   exact FSub.mp rfl rfl
  refine awp_exit ?_
  simp -dsimp only [vend,ne_eq,Nat.reduceEqDiff,reduceCtorEq]
  have hkk:k=f.blocks.length:=by simp at h;omega
  subst hkk
  rw [List.drop_length] at hke
  simp only [wsum] at hke
  rw [hke] at hR
  refine awp_seq (awp_block ?_)
  refine zh1 (za0 ?_)
  apply zk0 rfl<;>intro h
  ·have hl:f.blocks.length=0:=by simpa using h
   rw [if_pos hl] at hR
   refine zh1 (za0 ?_)
   refine awp_ret ?_
   simp -dsimp only [simprocAttr,↓vpre,zp,zr,Try.results39]
   rw [hR]
  have hl:¬f.blocks.length=0:=by simpa using h
  rw [if_neg hl] at hR
  have hB:f.blocks[0]?=some (blkOf f 0):=blkOf_at (f:=f) (k:=0) (by omega) (by omega)
  generalize blkOf f 0=B at *
  refine awp_mid (⟨69,[(1,.ip none [aI f.name,eBlocks f.blocks]),(2,aI 0),(27,.v (.bool (decide ((128:Int)<f.blocks.length) || decide ((1024:Int)<m) || decide ((6:Int)<B.params.length))))],[.gone]⟩) ?_ ?_
  ·cases hA:decide ((128:Int)<f.blocks.length)<;>cases hBB:decide ((1024:Int)<m)<;>cases hC:decide ((6:Int)<B.params.length)
   all_goals
    refine awp_region hT hm ?_
    simp -dsimp only [simprocAttr,↓vpre,zp,hA,hBB,hC,hB]
    refine at_intro ?_
    show Covers _ _
    refine zq rfl ?_ ?_
    simp -dsimp only [simprocAttr,↓vpre,zp,zc]
    ·exact Sub.refl _
    rfl
  by_cases hbig:128<f.blocks.length∨1024<m∨6<B.params.length
  ·rw [if_pos hbig] at hR
   have hd:(decide ((128:Int)<f.blocks.length) || decide ((1024:Int)<m) || decide ((6:Int)<B.params.length))=true:=by
    simp only [Bool.or_eq_true,decide_eq_true_eq]
    omega
   rw [hd]
   refine zw0 rfl ?_
   refine zh1 (za0 ?_)
   refine awp_ret ?_
   simp -dsimp only [simprocAttr,↓vpre,zp,zr,Try.results39]
   rw [hR]
  rw [if_neg hbig] at hR
  have hd:(decide ((128:Int)<f.blocks.length) || decide ((1024:Int)<m) || decide ((6:Int)<B.params.length))=false:=by
   simp only [Bool.or_eq_false_iff,decide_eq_false_iff_not]
   omega
  rw [hd]
  have hf128:f.blocks.length≤128:=by omega
  have hne:f.blocks≠[]:=fun e=>hl (by rw [e];rfl)
  cases hn:within f.name (-1) 1048575 with
  | false =>
   rw [if_pos hn] at hR
   rw [hn] at hw
   refine zu0 rfl ?_
   refine zh1 ?_
   refine .inl ⟨_,hw,by simp only [uptoL,AVal.upto,zt,zu,aI_upto,defs_upto],later_intro ?_⟩
   simp -dsimp only [simprocAttr,↓vpre,zp]
   refine za0 ?_
   refine zw0 rfl ?_
   refine zh1 (za0 ?_)
   refine awp_ret ?_
   simp -dsimp only [simprocAttr,↓vpre,zp,zr,Try.results39]
   rw [hR]
  | true =>
   rw [if_neg (by simp [hn])] at hR
   rw [hn] at hw
   apply zk0 rfl<;>intro h
   ·cases h
   refine zh1 ?_
   refine .inl ⟨_,hw,by simp only [uptoL,AVal.upto,zt,zu,aI_upto,defs_upto],later_intro ?_⟩
   simp -dsimp only [simprocAttr,↓vpre,zp]
   refine za0 ?_
   apply zk0 rfl<;>intro h
   ·cases h
   refine zb1 ?_
   refine zh1 (za0 ?_)
   refine zh2 (za0 ?_)
   have hblk:∀(ds:Defs) (k:Nat),k<f.blocks.length→ECall Try.prog 62 [.gone,.map (.int .i64) (ds.map dent),.cells [aI f.name,eBlocks f.blocks,.mm 1]] [.mp 2 0,aI k] (fun r O'=>r=aI (blockM f ds k).1∧O'=[.gone,.map (.int .i64) ((blockM f ds k).2.map dent),.cells [aI f.name,eBlocks f.blocks,.mm 1]]):=fun ds k hk=>by
    have hcl:(blkOf f k).term.cases.length≤2 ^ 60:=by
     have hb:=List.mem_of_getElem? (blkOf_at (f:=f) (k:=k) (by omega) (by omega))
     have:=(hfit.2.2 _ hb).2.2.2.2.2.2.2.2.1
     omega
    exact block_spec (O:=[.gone,.map (.int .i64) (ds.map dent),.cells [aI f.name,eBlocks f.blocks,.mm 1]]) (c:=2) (d:=1) (by simp [AObj.upto,uptoL,AVal.upto,Block.map_upto,defs_upto]) (by omega) rfl rfl k (by omega) (by omega) (by omega) hcl
   refine awp_block (awp_loop (ι:={x:Nat×Defs // x.1≤f.blocks.length∧blocksM f f.blocks.length 0 []=blocksM f (f.blocks.length - x.1) x.1 x.2}) (fun x=>⟨69,[(1,.ip none [aI f.name,eBlocks f.blocks]),(2,aI 0),(6,.mp 2 0),(56,aI f.blocks.length),(57,aI x.1.1)],[.gone,.map (.int .i64) (x.1.2.map dent),.cells [aI f.name,eBlocks f.blocks,.mm 1]]⟩) (fun x=>f.blocks.length - x.1.1) ⟨(0,[]),by simp,rfl⟩ ?_ ?_)
   ·refine zq rfl ?_ ?_
    simp -dsimp only [simprocAttr,↓vpre,zp,zc]
    rfl
   rintro⟨⟨k,ds⟩,hk,hke⟩
   simp only at hk hke
   refine zh1 (za0 ?_)
   apply zk1 rfl<;>intro h
   ·refine zb0 ?_
    have hlt:k<f.blocks.length:=by simpa using h
    rw [show f.blocks.length - k=f.blocks.length - (k+1)+1 by omega] at hke
    simp only [blocksM] at hke
    have hb:=hblk ds k hlt
    generalize blockM f ds k=X at *
    refine awp_seq (awp_block ?_)
    refine zh1 (za0 ?_)
    refine zh1 ?_
    refine .inr (.inl ⟨_,_,hb,.inl (later_intro (zj ?_))⟩)
    refine za0 ?_
    by_cases hX:X.1=0
    ·have hdx:decide (X.1=0)=true:=decide_eq_true hX
     rw [if_neg (by simp [hX])] at hke
     refine zg1 ?_
     simp -dsimp only [simprocAttr,↓vpre,zp,hdx]
     refine za0 ?_
     refine zu0 rfl ?_
     refine zb1 ?_
     refine zh0 ?_
     repeat(refine⟨by omega,?_⟩)
     refine zl0 ?_
     refine⟨⟨(k+1,X.2),by simp only;omega,hke⟩,by simp;omega,?_⟩
     refine zq rfl ?_ ?_
     simp -dsimp only [simprocAttr,↓vpre,zp,zc]
     ·exact Sub.int (by simp)
     rfl
    have hdx:decide (X.1=0)=false:=decide_eq_false hX
    rw [if_pos hX] at hke
    rw [hke,if_pos hX] at hR
    refine zg1 ?_
    simp -dsimp only [simprocAttr,↓vpre,zp,hdx]
    refine za0 ?_
    refine zw0 rfl ?_
    refine zh1 (za0 ?_)
    refine awp_ret ?_
    simp -dsimp only [simprocAttr,↓vpre,zp,zr,Try.results39]
    rw [hR]
   refine awp_exit ?_
   simp -dsimp only [vend,ne_eq,Nat.reduceEqDiff,reduceCtorEq]
   have hkk:k=f.blocks.length:=by simp at h;omega
   subst hkk
   rw [Nat.sub_self] at hke
   simp only [blocksM] at hke
   have hbe:(blocksM f f.blocks.length 0 []).1=0:=by rw [hke]
   have hall:=blocksM_all hbe
   have hdw:=(blocksM_ok f.blocks.length 0 [] (.nil _) (by omega) (by simp) hbe).1
   rw [hke] at hdw
   rw [hke,if_neg (by simp)] at hR
   have hus:=uses_spec f ds hne hf128 (fun b hb e he=>by
    have:=(edges_of_end (hall b hb).fin).2.2.2 e he
    omega) hdw.ok
   simp only at hR
   rw [←hR] at hus
   refine awp_freeze_in 1 rfl (by simp [AObj.isSpare]) trivial [(2,aI 0),(6,.mp 2 0)] ?_ 2 (by omega) _ [aI f.name,eBlocks f.blocks,.im (.int .i64) (ds.map dent)] rfl rfl ?_ ?_ ?_
   ·intro s y hy
    simp only [Go.Av.look] at hy
    split at hy
    ·cases hy
     rename_i e
     subst e
     exact⟨_,rfl,.refl _⟩
    split at hy
    ·cases hy
     rename_i e
     subst e
     exact⟨_,rfl,.refl _⟩
    cases hy
   ·simp [AVal.scalar]
   ·intro j c d hc hd
    match j,hc,hd with
    | 0,hc,hd =>
     cases hc
     cases hd
     exact .refl _
    | 1,hc,hd =>
     cases hc
     cases hd
     exact .refl _
    | 2,hc,hd =>
     cases hc
     cases hd
     exact .mm rfl
   show AWP Try.prog _ _ _ ⟨_,_,[.gone,.gone,.cells [aI f.name,eBlocks f.blocks,.im (.int .i64) (ds.map dent)]]⟩
   refine awp_freeze1 6 2 (.ip none [aI f.name,eBlocks f.blocks,.im (.int .i64) (ds.map dent)]) rfl (by simp [AObj.isSpare]) trivial rfl ?_ ?_
   rotate_left
   simp -dsimp only [simprocAttr,↓vpre,zp]
   ·refine zh1 ?_
    refine .inl ⟨_,hus,by simp only [uptoL,AVal.upto,zt,zu,aI_upto,defs_upto],later_intro ?_⟩
    simp -dsimp only [simprocAttr,↓vpre,zp]
    refine za0 ?_
    refine awp_ret ?_
    simp -dsimp only [simprocAttr,↓vpre,zp,zr,Try.results39]
   exact FSub.mp rfl rfl
 exact FSub.mp rfl rfl
def callsE(u:Unt)(i:Ins):Int :=
 if i.op≠13∧i.op≠9 then 0
 else if (u.fns.length:Int)≤i.n then 4
 else if (i.op=13∧(blkOf (fnOf u i.n) 0).params.length≠i.args.length)∨(i.op=9∧(blkOf (fnOf u i.n) 0).params.length=0) then 3
 else 0
theorem calls_spec(u:Unt)(i:Ins)(hn:i.op=13∨i.op=9→0≤i.n)(hne:∀f∈u.fns,f.blocks≠[]):PCall Try.prog 40 [u.enc,i.enc] (aI (callsE u i)):=by
 obtain⟨R,hR⟩:∃R,R=callsE u i:=⟨_,rfl⟩
 rw [←hR]
 unfold callsE at hR
 rcases (show(i.op≠13∧i.op≠9)∨i.op=13∨i.op=9 by omega) with h | h | h
 ·rw [if_pos h] at hR
  have h1:decide (i.op=13)=false:=decide_eq_false h.1
  have h2:decide (i.op=9)=false:=decide_eq_false h.2
  refine zf true 0 Try.func40 Try.ntmps40 ?_
  dsimp only [Tmp,TypeId,slotsOf]
  refine zh1 (za0 ?_)
  refine zg2 ?_
  simp -dsimp only [simprocAttr,↓vpre,zp,h1,h2]
  refine za0 ?_
  refine zw0 rfl ?_
  refine zh1 (za0 ?_)
  refine awp_ret ?_
  simp -dsimp only [simprocAttr,↓vpre,zp,zr,Try.results40]
  rw [hR]
 all_goals
  have hn:=hn (by omega)
  rw [if_neg (by omega)] at hR
  by_cases hl:(u.fns.length:Int)≤i.n
  ·rw [if_pos hl] at hR
   have h3:decide ((u.fns.length:Int)≤i.n)=true:=decide_eq_true hl
   have h12:(decide (i.op=13)=true∧decide (i.op=9)=false)∨(decide (i.op=13)=false∧decide (i.op=9)=true):=by
    simp only [decide_eq_true_eq,decide_eq_false_iff_not]
    omega
   rcases h12 with⟨h1,h2⟩ | ⟨h1,h2⟩
   all_goals
    refine zf true 0 Try.func40 Try.ntmps40 ?_
    dsimp only [Tmp,TypeId,slotsOf]
    refine zh1 (za0 ?_)
    refine zg2 ?_
    simp -dsimp only [simprocAttr,↓vpre,zp,h1,h2]
    refine za0 ?_
    refine zu0 rfl ?_
    refine zb0 ?_
    refine zg2 ?_
    simp -dsimp only [simprocAttr,↓vpre,zp,h3]
    refine za0 ?_
    refine zw0 rfl ?_
    refine zh1 (za0 ?_)
    refine awp_ret ?_
    simp -dsimp only [simprocAttr,↓vpre,zp,zr,Try.results40]
    rw [hR]
  rw [if_neg hl] at hR
  have h3:decide ((u.fns.length:Int)≤i.n)=false:=decide_eq_false hl
  have hF:=fnOf_at (u:=u) (k:=i.n) hn (by omega)
  have hfne:=hne _ (List.mem_of_getElem? hF)
  have hfl:0<(fnOf u i.n).blocks.length:=by
   cases hb:(fnOf u i.n).blocks with
   | nil=>exact absurd hb hfne
   | cons=>simp
  have hB:(fnOf u i.n).blocks[0]?=some (blkOf (fnOf u i.n) 0):=blkOf_at (f:=fnOf u i.n) (k:=0) (by omega) (by omega)
  generalize blkOf (fnOf u i.n) 0=B at *
  generalize fnOf u i.n=F at *
  have h12:(decide (i.op=13)=true∧decide (i.op=9)=false)∨(decide (i.op=13)=false∧decide (i.op=9)=true):=by
   simp only [decide_eq_true_eq,decide_eq_false_iff_not]
   omega
  rcases h12 with⟨h1,h2⟩ | ⟨h1,h2⟩
  ·have g1:=of_decide_eq_true h1
   have g2:=of_decide_eq_false h2
   by_cases hq':B.params.length=i.args.length
   ·rw [if_neg (by omega)] at hR
    have hq:decide ((B.params.length:Int)=i.args.length)=true:=decide_eq_true (by omega)
    refine zf true 0 Try.func40 Try.ntmps40 ?_
    dsimp only [Tmp,TypeId,slotsOf]
    refine zh1 (za0 ?_)
    refine zg2 ?_
    simp -dsimp only [simprocAttr,↓vpre,zp,h1,h2]
    refine za0 ?_
    refine zu0 rfl ?_
    refine zb0 ?_
    refine zg2 ?_
    simp -dsimp only [simprocAttr,↓vpre,zp,h3]
    refine za0 ?_
    refine zu0 rfl ?_
    refine zb0 ?_
    refine zg1 ?_
    simp -dsimp only [simprocAttr,↓vpre,zp,hF,hB]
    repeat(refine⟨by omega,?_⟩)
    refine za0 ?_
    refine zg2 ?_
    simp -dsimp only [simprocAttr,↓vpre,zp,h1,h2,hq]
    refine za0 ?_
    refine zu0 rfl ?_
    refine zb0 ?_
    refine zh1 (za0 ?_)
    refine awp_ret ?_
    simp -dsimp only [simprocAttr,↓vpre,zp,zr,Try.results40]
    rw [hR]
   rw [if_pos (.inl ⟨g1,hq'⟩)] at hR
   have hq:decide ((B.params.length:Int)=i.args.length)=false:=decide_eq_false (by omega)
   refine zf true 0 Try.func40 Try.ntmps40 ?_
   dsimp only [Tmp,TypeId,slotsOf]
   refine zh1 (za0 ?_)
   refine zg2 ?_
   simp -dsimp only [simprocAttr,↓vpre,zp,h1,h2]
   refine za0 ?_
   refine zu0 rfl ?_
   refine zb0 ?_
   refine zg2 ?_
   simp -dsimp only [simprocAttr,↓vpre,zp,h3]
   refine za0 ?_
   refine zu0 rfl ?_
   refine zb0 ?_
   refine zg1 ?_
   simp -dsimp only [simprocAttr,↓vpre,zp,hF,hB]
   repeat(refine⟨by omega,?_⟩)
   refine za0 ?_
   refine zg2 ?_
   simp -dsimp only [simprocAttr,↓vpre,zp,h1,h2,hq]
   refine za0 ?_
   refine zw0 rfl ?_
   refine zh1 (za0 ?_)
   refine awp_ret ?_
   simp -dsimp only [simprocAttr,↓vpre,zp,zr,Try.results40]
   rw [hR]
  have g1:=of_decide_eq_false h1
  have g2:=of_decide_eq_true h2
  by_cases hq':B.params.length=0
  ·rw [if_pos (.inr ⟨g2,hq'⟩)] at hR
   have hq:decide ((B.params.length:Int)=0)=true:=decide_eq_true (by omega)
   refine zf true 0 Try.func40 Try.ntmps40 ?_
   dsimp only [Tmp,TypeId,slotsOf]
   refine zh1 (za0 ?_)
   refine zg2 ?_
   simp -dsimp only [simprocAttr,↓vpre,zp,h1,h2]
   refine za0 ?_
   refine zu0 rfl ?_
   refine zb0 ?_
   refine zg2 ?_
   simp -dsimp only [simprocAttr,↓vpre,zp,h3]
   refine za0 ?_
   refine zu0 rfl ?_
   refine zb0 ?_
   refine zg1 ?_
   simp -dsimp only [simprocAttr,↓vpre,zp,hF,hB]
   repeat(refine⟨by omega,?_⟩)
   refine za0 ?_
   refine zg2 ?_
   simp -dsimp only [simprocAttr,↓vpre,zp,h1,h2,hq]
   refine za0 ?_
   refine zw0 rfl ?_
   refine zh1 (za0 ?_)
   refine awp_ret ?_
   simp -dsimp only [simprocAttr,↓vpre,zp,zr,Try.results40]
   rw [hR]
  rw [if_neg (by omega)] at hR
  have hq:decide ((B.params.length:Int)=0)=false:=decide_eq_false (by omega)
  refine zf true 0 Try.func40 Try.ntmps40 ?_
  dsimp only [Tmp,TypeId,slotsOf]
  refine zh1 (za0 ?_)
  refine zg2 ?_
  simp -dsimp only [simprocAttr,↓vpre,zp,h1,h2]
  refine za0 ?_
  refine zu0 rfl ?_
  refine zb0 ?_
  refine zg2 ?_
  simp -dsimp only [simprocAttr,↓vpre,zp,h3]
  refine za0 ?_
  refine zu0 rfl ?_
  refine zb0 ?_
  refine zg1 ?_
  simp -dsimp only [simprocAttr,↓vpre,zp,hF,hB]
  repeat(refine⟨by omega,?_⟩)
  refine za0 ?_
  refine zg2 ?_
  simp -dsimp only [simprocAttr,↓vpre,zp,h1,h2,hq]
  refine za0 ?_
  refine zu0 rfl ?_
  refine zb0 ?_
  refine zh1 (za0 ?_)
  refine awp_ret ?_
  simp -dsimp only [simprocAttr,↓vpre,zp,zr,Try.results40]
  rw [hR]
theorem wsum_ge:∀(l:List Block) (m:Int),0≤m→m+2 ^ 48 * (l.length:Int)≤2 ^ 60→(∀b∈l,b.ins.length≤2 ^ 47)→m≤wsum m l∧∀b∈l,(b.ins.length:Int)≤wsum m l
 | [],m,_,_,_=>⟨by simp [wsum],by simp⟩
 | b::r,m,h0,h1,h2=>by
  have hb:=h2 b (by simp)
  simp only [List.length_cons] at h1
  have hw:IntKind.i64.wrap (m+b.ins.length)=m+b.ins.length:=wrap_in _ _ (by simp [IntKind.min,IntKind.bits,IntKind.signed];omega) (by simp [IntKind.max,IntKind.bits,IntKind.signed];omega)
  have ih:=wsum_ge r (m+b.ins.length) (by omega) (by omega) (fun x hx=>h2 x (by simp [hx]))
  simp only [wsum,hw]
  refine⟨by omega,fun x hx=>?_⟩
  rcases List.mem_cons.1 hx with q | q
  ·subst q
   omega
  exact ih.2 x q
structure FnW(f:Func):Prop where
 ne:f.blocks≠[]
 few:f.blocks.length≤128
 name:-1≤f.name∧f.name≤1048575
 args:(blkOf f 0).params.length≤6
 ins:∀b∈f.blocks,b.ins.length≤1024
 blk:∀b∈f.blocks,BlkW f b
 uses:usesM f (blocksM f f.blocks.length 0 []).2=0
theorem checkFunc_ok{f:Func}(hfit:f.fit)(h:checkFuncM f=0):FnW f:=by
 unfold checkFuncM at h
 split at h
 ·simp at h
 rename_i h1
 split at h
 ·simp at h
 rename_i h2
 split at h
 ·simp at h
 rename_i h3
 split at h
 ·rename_i h4
  exact absurd h h4
 rename_i h4
 have hw:=wsum_ge f.blocks 0 (by omega) (by omega) (fun b hb=>(hfit.2.2 b hb).2.2.1)
 refine⟨fun e=>h1 (by rw [e];rfl),by omega,by simpa [within] using h3,by omega,fun b hb=>?_,blocksM_all (by simpa using h4),h⟩
 have:=hw.2 b hb
 omega
structure FormW(i:Ins):Prop where
 op:0≤i.op∧i.op≤24
 len:i.args.length≤16
 c0:i.op=0→isW i.n∧i.args.length=0
 c2:(1≤i.op∧i.op≤7)∨i.op=16∨i.op=18∨i.op=19∨i.op=21∨i.op=23→i.args.length=2
 c1:i.op=10∨i.op=11∨i.op=12∨i.op=15∨i.op=17∨i.op=24→i.args.length=1
 c3:i.op=20→i.args.length=3
 con:i.op=8→0≤i.n∧i.n≤255
 call:i.op=9∨i.op=13→0≤i.n∧i.n≤255
 app:i.op=14→1≤i.args.length
 sel:i.op=11∨i.op=24→0≤i.n
 pack:i.op=22→(i.n=2∨i.n=4)∧(i.args.length:Int)=i.n
 vec:i.op=23→i.n=1∨i.n=2∨i.n=3
theorem form_ok{i:Ins}(h:formE i=0):FormW i:=by
 unfold formE at h
 split at h
 ·simp at h
 rename_i hA
 split at h
 ·simp at h
 rename_i hBC
 split at h
 ·rename_i hN
  have hA':(operandsM i).2=true∧(0≤(operandsM i).1→(i.args.length:Int)=(operandsM i).1)∧(i.op=14→¬(i.args.length:Int)=0):=by
   simp only [formA,Bool.or_eq_true,Bool.not_eq_true',Bool.and_eq_true,decide_eq_true_eq,decide_eq_false_iff_not,not_or,not_and,Bool.not_eq_false,Decidable.not_not] at hA
   exact⟨hA.1.1,hA.1.2,hA.2⟩
  obtain⟨a1,a2,a3⟩:=hA'
  have hB:(i.op=8∨i.op=9→i.args.length≤16)∧(i.op=13∨i.op=14→i.args.length≤6):=by
   simp only [formB,formC,Bool.or_eq_true,Bool.and_eq_true,decide_eq_true_eq,not_or,not_and] at hBC
   exact⟨fun q=>by have:=hBC.1 q;omega,fun q=>by have:=hBC.2 q;omega⟩
  obtain⟨b1,b2⟩:=hB
  have hop:0≤i.op∧i.op≤24:=by
   unfold operandsM at a1
   split at a1
   ·omega
   split at a1
   ·omega
   split at a1
   ·omega
   split at a1
   ·omega
   split at a1
   ·omega
   split at a1
   ·omega
   simp at a1
  have o0:i.op=0→operandsM i=(0,true):=fun q=>by unfold operandsM;rw [if_pos q]
  have o2:(1≤i.op∧i.op≤7)∨i.op=16∨i.op=18∨i.op=19∨i.op=21∨i.op=23→operandsM i=(2,true):=fun q=>by unfold operandsM;rw [if_neg (by omega),if_pos q]
  have o3:i.op=20→operandsM i=(3,true):=fun q=>by unfold operandsM;rw [if_neg (by omega),if_neg (by omega),if_pos q]
  have o1:i.op=10∨i.op=11∨i.op=12∨i.op=15∨i.op=17∨i.op=24→operandsM i=(1,true):=fun q=>by unfold operandsM;rw [if_neg (by omega),if_neg (by omega),if_neg (by omega),if_pos q]
  have o22:i.op=22→operandsM i=(i.n,decide (i.n=2∨i.n=4)):=fun q=>by unfold operandsM;rw [if_neg (by omega),if_neg (by omega),if_neg (by omega),if_neg (by omega),if_neg (by omega),if_pos q]
  have l0:i.op=0→i.args.length=0:=fun q=>by rw [o0 q] at a2;have:=a2 (by decide);simp only at this;omega
  have l2:=fun q=>by have:=a2;rw [o2 q] at this;exact this (by decide)
  have l3:=fun q=>by have:=a2;rw [o3 q] at this;exact this (by decide)
  have l1:=fun q=>by have:=a2;rw [o1 q] at this;exact this (by decide)
  have l22:i.op=22→(i.n=2∨i.n=4)∧(i.args.length:Int)=i.n:=fun q=>by
   rw [o22 q] at a1 a2
   have:i.n=2∨i.n=4:=of_decide_eq_true a1
   exact⟨this,a2 (by simp only;omega)⟩
  have n0:i.op=0→isW i.n:=fun q=>by unfold numberM at hN;rw [if_pos q] at hN;exact of_decide_eq_true hN
  have n8:i.op=8→0≤i.n∧i.n≤255:=fun q=>by unfold numberM at hN;rw [if_neg (by omega),if_pos q] at hN;exact within_iff.1 hN
  have n11:i.op=11→0≤i.n∧i.n≤15:=fun q=>by unfold numberM at hN;rw [if_neg (by omega),if_neg (by omega),if_pos q] at hN;exact within_iff.1 hN
  have n9:i.op=9∨i.op=13→0≤i.n∧i.n≤255:=fun q=>by unfold numberM at hN;rw [if_neg (by omega),if_neg (by omega),if_neg (by omega),if_pos q] at hN;exact within_iff.1 hN
  have n23:i.op=23→i.n=1∨i.n=2∨i.n=3:=fun q=>by unfold numberM at hN;rw [if_neg (by omega),if_neg (by omega),if_neg (by omega),if_neg (by omega),if_pos q] at hN;exact of_decide_eq_true hN
  have n24:i.op=24→0≤i.n∧i.n≤3:=fun q=>by unfold numberM at hN;rw [if_neg (by omega),if_neg (by omega),if_neg (by omega),if_neg (by omega),if_neg (by omega),if_pos q] at hN;exact within_iff.1 hN
  have L2:(1≤i.op∧i.op≤7)∨i.op=16∨i.op=18∨i.op=19∨i.op=21∨i.op=23→i.args.length=2:=fun q=>by have:=l2 q;omega
  have L1:i.op=10∨i.op=11∨i.op=12∨i.op=15∨i.op=17∨i.op=24→i.args.length=1:=fun q=>by have:=l1 q;omega
  have L3:i.op=20→i.args.length=3:=fun q=>by have:=l3 q;omega
  refine⟨hop,?_,fun q=>⟨n0 q,l0 q⟩,L2,L1,L3,n8,n9,fun q=>by have:=a3 q;omega,fun q=>?_,l22,n23⟩
  ·rcases (show i.op=0∨((1≤i.op∧i.op≤7)∨i.op=16∨i.op=18∨i.op=19∨i.op=21∨i.op=23)∨i.op=20∨(i.op=10∨i.op=11∨i.op=12∨i.op=15∨i.op=17∨i.op=24)∨(i.op=8∨i.op=9)∨(i.op=13∨i.op=14)∨i.op=22 by omega) with q | q | q | q | q | q | q
   ·have:=l0 q;omega
   ·have:=L2 q;omega
   ·have:=L3 q;omega
   ·have:=L1 q;omega
   ·have:=b1 q;omega
   ·have:=b2 q;omega
   have:=l22 q;omega
  rcases q with q | q
  ·exact(n11 q).1
  exact(n24 q).1
 simp at h
structure EndW(f:Func)(t:Term):Prop where
 kind:0≤t.kind∧t.kind≤4
 to:t.kind=0∨t.kind=4→t.to=[]
 jump:t.kind=1→t.to.length=1
 cond:t.kind=2→t.to.length=2
 switch:t.kind=3→t.to.length=t.cases.length+1
 cases:t.cases.length≤256
 trap:t.kind=4→1≤t.n∧t.n≤6
 n:t.kind≠4→t.n=0
 edges:∀e∈t.to,(1≤e.block∧e.block≤(f.blocks.length:Int) - 1)∧e.args.length=(blkOf f e.block).params.length
theorem end_ok{f:Func}{t:Term}(h:endE f t=0):EndW f t:=by
 obtain⟨h1,h2,h3,h4⟩:=edges_of_end h
 simp only [shapeM,Bool.and_eq_true,Bool.or_eq_true,decide_eq_true_eq] at h1
 obtain⟨hk,⟨⟨he,_⟩,hn⟩,hc⟩:=h1
 refine⟨hk,fun q=>?_,fun q=>?_,fun q=>?_,fun q=>?_,h2,h3,fun q=>hn.resolve_left q,h4⟩
 ·have:edgesM t=0:=by rcases q with q | q<;>simp [edgesM,q]
  rw [this] at he
  exact List.length_eq_zero_iff.1 (by omega)
 ·have:edgesM t=1:=by simp [edgesM,q]
  omega
 ·have:edgesM t=2:=by simp [edgesM,q]
  omega
 have:edgesM t=t.cases.length+1:=by simp [edgesM,q]
 omega
def orE(a b:Int):Int:=if a≠0 then a else b
theorem orE_zero{a b:Int}(h:a=0):orE a b=b:=by simp [orE,h]
theorem orE_ne{a b:Int}(h:¬a=0):orE a b=a:=by simp [orE,h]
theorem orE_assoc(a b c:Int):orE (orE a b) c=orE a (orE b c):=by
 by_cases h:a=0
 ·rw [orE_zero h,orE_zero h]
 rw [orE_ne h,orE_ne h,orE_ne h]
theorem orE_eq{a b:Int}(h:orE a b=0):a=0∧b=0:=by
 by_cases q:a=0
 ·exact⟨q,by rwa [orE_zero q] at h⟩
 rw [orE_ne q] at h
 exact absurd h q
def funcsE:List Func→Int
 | []=>0
 | f::r=>orE (checkFuncM f) (funcsE r)
def callsI(u:Unt):List Ins→Int
 | []=>0
 | i::r=>orE (callsE u i) (callsI u r)
def callsB(u:Unt):List Block→Int
 | []=>0
 | b::r=>orE (callsI u b.ins) (callsB u r)
def callsF(u:Unt):List Func→Int
 | []=>0
 | f::r=>orE (callsB u f.blocks) (callsF u r)
def checkM(u:Unt):Int :=
 if u.fns.length=0 then 3
 else if 256<u.fns.length then 2
 else if within u.main 0 ((u.fns.length:Int) - 1)=false then 4
 else orE (funcsE u.fns) (if 0<(blkOf (fnOf u u.main) 0).params.length then 3 else callsF u u.fns)
theorem funcsE_all:∀{l:List Func},funcsE l=0→∀f∈l,checkFuncM f=0
 | [],_,f,h=>by simp at h
 | g::r,h,f,hf=>by
  have:=orE_eq h
  rcases List.mem_cons.1 hf with q | q
  ·subst q
   exact this.1
  exact funcsE_all this.2 f q
theorem check_spec(u:Unt)(hfit:u.fit):PCall Try.prog 18 [u.enc] (aI (checkM u)):=by
 obtain⟨R,hR⟩:∃R,R=checkM u:=⟨_,rfl⟩
 rw [←hR]
 unfold checkM at hR
 have hw:=within_spec u.main 0 ((u.fns.length:Int) - 1)
 have hfew:u.fns.length≤2 ^ 47:=hfit.2.1
 refine zf true 0 Try.func18 Try.ntmps18 ?_
 dsimp only [Tmp,TypeId,slotsOf]
 refine zh1 (za0 ?_)
 refine awp_freeze1 1 0 (.ip none [eFuncs u.fns,aI u.main]) rfl (by simp [AObj.isSpare]) trivial rfl ?_ ?_
 rotate_left
 simp -dsimp only [simprocAttr,↓vpre,zp]
 ·refine awp_seq (awp_block ?_)
  by_cases h0:u.fns.length=0
  ·rw [if_pos h0] at hR
   have hd:decide ((u.fns.length:Int)=0)=true:=decide_eq_true (by omega)
   refine zg1 ?_
   simp -dsimp only [simprocAttr,↓vpre,zp,hd]
   refine za0 ?_
   refine zw0 rfl ?_
   refine zh1 (za0 ?_)
   refine awp_ret ?_
   simp -dsimp only [simprocAttr,↓vpre,zp,zr,Try.results18]
   rw [hR]
  rw [if_neg h0] at hR
  have hd:decide ((u.fns.length:Int)=0)=false:=decide_eq_false (by omega)
  refine zg1 ?_
  simp -dsimp only [simprocAttr,↓vpre,zp,hd]
  refine za0 ?_
  apply zk0 rfl<;>intro h
  ·cases h
  by_cases h1:256<u.fns.length
  ·rw [if_pos h1] at hR
   have hd:decide ((256:Int)<u.fns.length)=true:=decide_eq_true (by omega)
   refine zg1 ?_
   simp -dsimp only [simprocAttr,↓vpre,zp,hd]
   refine za0 ?_
   refine zw0 rfl ?_
   refine zh1 (za0 ?_)
   refine awp_ret ?_
   simp -dsimp only [simprocAttr,↓vpre,zp,zr,Try.results18]
   rw [hR]
  rw [if_neg h1] at hR
  have hd:decide ((256:Int)<u.fns.length)=false:=decide_eq_false (by omega)
  refine zg1 ?_
  simp -dsimp only [simprocAttr,↓vpre,zp,hd]
  refine za0 ?_
  apply zk0 rfl<;>intro h
  ·cases h
  cases hwb:within u.main 0 ((u.fns.length:Int) - 1) with
  | false =>
   rw [if_pos hwb] at hR
   rw [hwb] at hw
   refine zh1 ?_
   repeat(refine⟨by omega,?_⟩)
   refine zi hw ?_
   refine za0 ?_
   refine zw0 rfl ?_
   refine zh1 (za0 ?_)
   refine awp_ret ?_
   simp -dsimp only [simprocAttr,↓vpre,zp,zr,Try.results18]
   rw [hR]
  | true =>
   have hmain:=within_iff.1 hwb
   rw [if_neg (by simp [hwb])] at hR
   rw [hwb] at hw
   refine zh1 ?_
   repeat(refine⟨by omega,?_⟩)
   refine zi hw ?_
   refine za0 ?_
   apply zk0 rfl<;>intro h
   ·cases h
   refine zb1 ?_
   refine zh2 (za0 ?_)
   refine awp_block (awp_loop (ι:={k:Nat // k≤u.fns.length∧funcsE u.fns=funcsE (u.fns.drop k)}) (fun k=>⟨87,[(1,.ip none [eFuncs u.fns,aI u.main]),(2,aI 0),(33,eFuncs u.fns),(34,aI u.fns.length),(35,aI k.1)],[.gone]⟩) (fun k=>u.fns.length - k.1) ⟨0,by omega,rfl⟩ ?_ ?_)
   ·refine zq rfl ?_ ?_
    simp -dsimp only [simprocAttr,↓vpre,zp,zc]
    rfl
   rintro⟨k,hk,hke⟩
   refine zh1 (za0 ?_)
   apply zk1 rfl<;>intro h
   ·refine zb0 ?_
    have hlt:k<u.fns.length:=by simpa using h
    obtain⟨f,hf⟩:∃f,u.fns[k]?=some f:=⟨u.fns[k],by simp [hlt]⟩
    have hcf:=checkFunc_spec f (hfit.2.2 f (List.mem_of_getElem? hf))
    rw [drop_at hf] at hke
    simp only [funcsE] at hke
    obtain⟨e,he0⟩:∃e,e=checkFuncM f:=⟨_,rfl⟩
    rw [←he0] at hke hcf
    refine awp_seq (awp_block ?_)
    refine zg1 ?_
    simp -dsimp only [simprocAttr,↓vpre,zp,hf]
    refine za0 ?_
    refine awp_freeze1 4 1 (.ip none [aI f.name,eBlocks f.blocks]) rfl (by simp [AObj.isSpare]) trivial rfl ?_ ?_
    rotate_left
    simp -dsimp only [simprocAttr,↓vpre,zp]
    ·refine awp_trunc' 1 [(1,.ip none [eFuncs u.fns,aI u.main]),(2,aI 0),(33,eFuncs u.fns),(34,aI u.fns.length),(35,aI k),(4,.ip none [aI f.name,eBlocks f.blocks])] (by simp) (by omega) [.gone] ?_ ?_ ?_ ?_ ?_
     ·rfl
     ·simp [AObj.upto,uptoL,AVal.upto,aI_upto,Func.map_upto,Block.map_upto,Edge.map_upto,Ins.map_upto]
     ·simp [Says,St.get,putS,dropS,Go.Av.look,Sub.refl]
     ·simp [AObj.upto,uptoL,AVal.upto,aI_upto,Func.map_upto,Block.map_upto,Edge.map_upto,Ins.map_upto]
     refine zh1 ?_
     refine zi hcf ?_
     refine za0 ?_
     by_cases he:e=0
     ·have hde:decide (e=0)=true:=decide_eq_true he
      rw [orE_zero he] at hke
      refine zg1 ?_
      simp -dsimp only [simprocAttr,↓vpre,zp,hde]
      refine za0 ?_
      refine zu0 rfl ?_
      refine zb1 ?_
      refine zh0 ?_
      repeat(refine⟨by omega,?_⟩)
      refine zl0 ?_
      refine⟨⟨k+1,hlt,hke⟩,by simp;omega,?_⟩
      refine zq rfl ?_ ?_
      simp -dsimp only [simprocAttr,↓vpre,zp,zc]
      ·exact Sub.int (by simp)
      rfl
     have hde:decide (e=0)=false:=decide_eq_false he
     rw [orE_ne he] at hke
     rw [hke,orE_ne he] at hR
     refine zg1 ?_
     simp -dsimp only [simprocAttr,↓vpre,zp,hde]
     refine za0 ?_
     refine zw0 rfl ?_
     refine zh1 (za0 ?_)
     refine awp_ret ?_
     simp -dsimp only [simprocAttr,↓vpre,zp,zr,Try.results18]
     rw [hR]
    exact FSub.mp rfl rfl
   refine awp_exit ?_
   simp -dsimp only [vend,ne_eq,Nat.reduceEqDiff,reduceCtorEq]
   have hkk:k=u.fns.length:=by simp at h;omega
   subst hkk
   rw [List.drop_length] at hke
   have hfe:funcsE u.fns=0:=by rw [hke];rfl
   rw [orE_zero hfe] at hR
   have hall:∀f∈u.fns,FnW f:=fun f hf=>checkFunc_ok (hfit.2.2 f hf) (funcsE_all hfe f hf)
   have hM:=fnOf_at (u:=u) (k:=u.main) hmain.1 (by omega)
   have hMl:0<(fnOf u u.main).blocks.length:=by
    have:=(hall _ (List.mem_of_getElem? hM)).ne
    cases hb:(fnOf u u.main).blocks with
    | nil=>exact absurd hb this
    | cons=>simp
   have hB:(fnOf u u.main).blocks[0]?=some (blkOf (fnOf u u.main) 0):=blkOf_at (f:=fnOf u u.main) (k:=0) (by omega) (by omega)
   generalize blkOf (fnOf u u.main) 0=B at *
   generalize fnOf u u.main=F at *
   by_cases hp:0<B.params.length
   ·rw [if_pos hp] at hR
    have hdp:decide ((0:Int)<B.params.length)=true:=decide_eq_true (by omega)
    refine zg2 ?_
    simp -dsimp only [simprocAttr,↓vpre,zp,hM,hB,hdp]
    repeat(refine⟨by omega,?_⟩)
    refine za0 ?_
    refine zw0 rfl ?_
    refine zh1 (za0 ?_)
    refine awp_ret ?_
    simp -dsimp only [simprocAttr,↓vpre,zp,zr,Try.results18]
    rw [hR]
   rw [if_neg hp] at hR
   have hdp:decide ((0:Int)<B.params.length)=false:=decide_eq_false (by omega)
   refine zg2 ?_
   simp -dsimp only [simprocAttr,↓vpre,zp,hM,hB,hdp]
   repeat(refine⟨by omega,?_⟩)
   refine za0 ?_
   apply zk0 rfl<;>intro h
   ·cases h
   refine zb0 ?_
   refine zh2 (za0 ?_)
   refine awp_block (awp_loop (ι:={k:Nat // k≤u.fns.length∧R=callsF u (u.fns.drop k)}) (fun k=>⟨87,[(1,.ip none [eFuncs u.fns,aI u.main]),(2,aI 0),(58,eFuncs u.fns),(59,aI u.fns.length),(60,aI k.1)],[.gone]⟩) (fun k=>u.fns.length - k.1) ⟨0,by omega,hR⟩ ?_ ?_)
   ·refine zq rfl ?_ ?_
    simp -dsimp only [simprocAttr,↓vpre,zp,zc]
    rfl
   rintro⟨k,hk,hke⟩
   refine zh1 (za0 ?_)
   apply zk1 rfl<;>intro h
   ·refine zb0 ?_
    have hlt:k<u.fns.length:=by simpa using h
    obtain⟨f,hf⟩:∃f,u.fns[k]?=some f:=⟨u.fns[k],by simp [hlt]⟩
    have hfm:=List.mem_of_getElem? hf
    have hbl:=(hall f hfm).few
    rw [drop_at hf] at hke
    simp only [callsF] at hke
    refine awp_seq (awp_block ?_)
    refine zg1 ?_
    simp -dsimp only [simprocAttr,↓vpre,zp,hf]
    refine za0 ?_
    refine awp_freeze1 7 1 (.ip none [aI f.name,eBlocks f.blocks]) rfl (by simp [AObj.isSpare]) trivial rfl ?_ ?_
    rotate_left
    simp -dsimp only [simprocAttr,↓vpre,zp]
    ·refine awp_trunc' 1 [(1,.ip none [eFuncs u.fns,aI u.main]),(2,aI 0),(58,eFuncs u.fns),(59,aI u.fns.length),(60,aI k),(7,.ip none [aI f.name,eBlocks f.blocks])] (by simp) (by omega) [.gone] ?_ ?_ ?_ ?_ ?_
     ·rfl
     ·simp [AObj.upto,uptoL,AVal.upto,aI_upto,Func.map_upto,Block.map_upto,Edge.map_upto,Ins.map_upto]
     ·simp [Says,St.get,putS,dropS,Go.Av.look,Sub.refl]
     ·simp [AObj.upto,uptoL,AVal.upto,aI_upto,Func.map_upto,Block.map_upto,Edge.map_upto,Ins.map_upto]
     refine zh1 (za0 ?_)
     refine awp_block (awp_loop (ι:={j:Nat // j≤f.blocks.length∧R=orE (callsB u (f.blocks.drop j)) (callsF u (u.fns.drop (k+1)))}) (fun j=>⟨87,[(1,.ip none [eFuncs u.fns,aI u.main]),(2,aI 0),(58,eFuncs u.fns),(59,aI u.fns.length),(60,aI k),(65,eBlocks f.blocks),(66,aI f.blocks.length),(67,aI j.1)],[.gone]⟩) (fun j=>f.blocks.length - j.1) ⟨0,by omega,hke⟩ ?_ ?_)
     ·refine zq rfl ?_ ?_
      simp -dsimp only [simprocAttr,↓vpre,zp,zc]
      rfl
     rintro⟨j,hj,hje⟩
     refine zh1 (za0 ?_)
     apply zk1 rfl<;>intro h
     ·refine zb0 ?_
      have hlj:j<f.blocks.length:=by simpa using h
      obtain⟨b,hb⟩:∃b,f.blocks[j]?=some b:=⟨f.blocks[j],by simp [hlj]⟩
      have hbm:=List.mem_of_getElem? hb
      have hil:=(hall f hfm).ins b hbm
      rw [drop_at hb] at hje
      simp only [callsB] at hje
      rw [orE_assoc] at hje
      refine awp_seq (awp_block ?_)
      refine zg1 ?_
      simp -dsimp only [simprocAttr,↓vpre,zp,hb]
      refine za0 ?_
      refine awp_freeze1 9 1 (.ip none [eIs b.params,eInss b.ins,aI b.term.kind,aI b.term.arg,aI b.term.n,eIs b.term.cases,eEdges b.term.to]) rfl (by simp [AObj.isSpare]) trivial rfl ?_ ?_
      rotate_left
      simp -dsimp only [simprocAttr,↓vpre,zp]
      ·refine awp_trunc' 1 [(1,.ip none [eFuncs u.fns,aI u.main]),(2,aI 0),(58,eFuncs u.fns),(59,aI u.fns.length),(60,aI k),(65,eBlocks f.blocks),(66,aI f.blocks.length),(67,aI j),(9,.ip none [eIs b.params,eInss b.ins,aI b.term.kind,aI b.term.arg,aI b.term.n,eIs b.term.cases,eEdges b.term.to])] (by simp) (by omega) [.gone] ?_ ?_ ?_ ?_ ?_
       ·rfl
       ·simp [AObj.upto,uptoL,AVal.upto,aI_upto,Func.map_upto,Block.map_upto,Edge.map_upto,Ins.map_upto]
       ·simp [Says,St.get,putS,dropS,Go.Av.look,Sub.refl]
       ·simp [AObj.upto,uptoL,AVal.upto,aI_upto,Func.map_upto,Block.map_upto,Edge.map_upto,Ins.map_upto]
       refine zh1 (za0 ?_)
       refine awp_block (awp_loop (ι:={z:Nat // z≤b.ins.length∧R=orE (callsI u (b.ins.drop z)) (orE (callsB u (f.blocks.drop (j+1))) (callsF u (u.fns.drop (k+1))))}) (fun z=>⟨87,[(1,.ip none [eFuncs u.fns,aI u.main]),(2,aI 0),(58,eFuncs u.fns),(59,aI u.fns.length),(60,aI k),(65,eBlocks f.blocks),(66,aI f.blocks.length),(67,aI j),(72,eInss b.ins),(73,aI b.ins.length),(74,aI z.1)],[.gone]⟩) (fun z=>b.ins.length - z.1) ⟨0,by omega,hje⟩ ?_ ?_)
       ·refine zq rfl ?_ ?_
        simp -dsimp only [simprocAttr,↓vpre,zp,zc]
        rfl
       rintro⟨z,hz,hze⟩
       refine zh1 (za0 ?_)
       apply zk1 rfl<;>intro h
       ·refine zb0 ?_
        have hlz:z<b.ins.length:=by simpa using h
        obtain⟨i,hi⟩:∃i,b.ins[z]?=some i:=⟨b.ins[z],by simp [hlz]⟩
        rw [drop_at hi] at hze
        simp only [callsI] at hze
        rw [orE_assoc] at hze
        have hfw:=form_ok (((hall f hfm).blk b hbm).forms i (List.mem_of_getElem? hi))
        have hcs:=calls_spec u i (fun q=>(hfw.call (by omega)).1) (fun f hf=>(hall f hf).ne)
        obtain⟨e,he0⟩:∃e,e=callsE u i:=⟨_,rfl⟩
        rw [←he0] at hze hcs
        refine awp_seq (awp_block ?_)
        refine zg1 ?_
        simp -dsimp only [simprocAttr,↓vpre,zp,hi]
        refine za0 ?_
        refine awp_freeze1 11 1 (.ip none [aI i.to,aI i.op,aI i.n,eIs i.args]) rfl (by simp [AObj.isSpare]) trivial rfl ?_ ?_
        rotate_left
        simp -dsimp only [simprocAttr,↓vpre,zp]
        ·refine awp_trunc' 1 [(1,.ip none [eFuncs u.fns,aI u.main]),(2,aI 0),(58,eFuncs u.fns),(59,aI u.fns.length),(60,aI k),(65,eBlocks f.blocks),(66,aI f.blocks.length),(67,aI j),(72,eInss b.ins),(73,aI b.ins.length),(74,aI z),(11,.ip none [aI i.to,aI i.op,aI i.n,eIs i.args])] (by simp) (by omega) [.gone] ?_ ?_ ?_ ?_ ?_
         ·rfl
         ·simp [AObj.upto,uptoL,AVal.upto,aI_upto,Func.map_upto,Block.map_upto,Edge.map_upto,Ins.map_upto]
         ·simp [Says,St.get,putS,dropS,Go.Av.look,Sub.refl]
         ·simp [AObj.upto,uptoL,AVal.upto,aI_upto,Func.map_upto,Block.map_upto,Edge.map_upto,Ins.map_upto]
         refine zh1 ?_
         refine zi hcs ?_
         refine za0 ?_
         by_cases he:e=0
         ·have hde:decide (e=0)=true:=decide_eq_true he
          rw [orE_zero he] at hze
          refine zg1 ?_
          simp -dsimp only [simprocAttr,↓vpre,zp,hde]
          refine za0 ?_
          refine zu0 rfl ?_
          refine zb1 ?_
          refine zh0 ?_
          repeat(refine⟨by omega,?_⟩)
          refine zl0 ?_
          refine⟨⟨z+1,hlz,hze⟩,by simp;omega,?_⟩
          refine zq rfl ?_ ?_
          simp -dsimp only [simprocAttr,↓vpre,zp,zc]
          ·exact Sub.int (by simp)
          rfl
         have hde:decide (e=0)=false:=decide_eq_false he
         rw [orE_ne he] at hze
         refine zg1 ?_
         simp -dsimp only [simprocAttr,↓vpre,zp,hde]
         refine za0 ?_
         refine zw0 rfl ?_
         refine zh1 (za0 ?_)
         refine awp_ret ?_
         simp -dsimp only [simprocAttr,↓vpre,zp,zr,Try.results18]
         rw [hze]
        exact FSub.mp rfl rfl
       refine awp_exit ?_
       simp -dsimp only [vend,ne_eq,Nat.reduceEqDiff,reduceCtorEq]
       have hzz:z=b.ins.length:=by simp at h;omega
       subst hzz
       rw [List.drop_length] at hze
       rw [orE_zero (by rfl)] at hze
       refine zh0 ?_
       repeat(refine⟨by omega,?_⟩)
       refine zl0 ?_
       refine⟨⟨j+1,hlj,hze⟩,by simp;omega,?_⟩
       refine zq rfl ?_ ?_
       simp -dsimp only [simprocAttr,↓vpre,zp,zc]
       ·exact Sub.int (by simp)
       rfl
      exact FSub.mp rfl rfl
     refine awp_exit ?_
     simp -dsimp only [vend,ne_eq,Nat.reduceEqDiff,reduceCtorEq]
     have hjj:j=f.blocks.length:=by simp at h;omega
     subst hjj
     rw [List.drop_length] at hje
     rw [orE_zero (by rfl)] at hje
     refine zh0 ?_
     repeat(refine⟨by omega,?_⟩)
     refine zl0 ?_
     refine⟨⟨k+1,hlt,hje⟩,by simp;omega,?_⟩
     refine zq rfl ?_ ?_
     simp -dsimp only [simprocAttr,↓vpre,zp,zc]
     ·exact Sub.int (by simp)
     rfl
    exact FSub.mp rfl rfl
   refine awp_exit ?_
   simp -dsimp only [vend,ne_eq,Nat.reduceEqDiff,reduceCtorEq]
   have hkk:k=u.fns.length:=by simp at h;omega
   subst hkk
   rw [List.drop_length] at hke
   refine zh1 (za0 ?_)
   refine awp_ret ?_
   simp -dsimp only [simprocAttr,↓vpre,zp,zr,Try.results18]
   rw [hke]
   rfl
 exact FSub.mp rfl rfl
theorem VOK.mono{u:Unt}{m m':Mach}(h:∀a∈m.heap,∃b∈m'.heap,b.vid=a.vid){v:SV}(k:VOK u m v):VOK u m' v :=
 SV.Wf.mono (fun id ⟨a,ha,e⟩=>by
  obtain⟨b,hb,e'⟩:=h a ha
  exact⟨b,hb,e'.trans e⟩) k
theorem VOK.of_heap{u:Unt}{m m':Mach}(h:m'.heap=m.heap){v:SV}(k:VOK u m v):VOK u m' v :=
 k.mono fun a ha=>⟨a,by rw [h];exact ha,rfl⟩
theorem VOK.word{u:Unt}{m:Mach}{n:Int}(h:isW n):VOK u m (.word n):=SV.Wf.word h
theorem VOK.zero{u:Unt}{m:Mach}:VOK u m .zero:=SV.Wf.zero
theorem argS_ok{u:Unt}{m:Mach}{l:List SV}(h:∀v∈l,VOK u m v)(k:Nat):VOK u m (argS l k):=by
 unfold argS
 cases hk:l[k]? with
 | none=>exact VOK.zero
 | some v=>exact h v (List.mem_of_getElem? hk)
theorem getS_ok{u:Unt}{m:Mach}{es:List (Int×SV)}(h:∀e∈es,VOK u m e.2)(k:Int):VOK u m (getS es k):=by
 unfold getS
 cases hl:lookS es k with
 | none=>exact VOK.zero
 | some v =>
  obtain⟨e,h1,rfl⟩:=mem_lookS hl
  exact h e h1
theorem takeS_ok{u:Unt}{m:Mach}{es:List (Int×SV)}(h:∀e∈es,VOK u m e.2)(l:List Int):∀v∈takeS es l,VOK u m v:=fun v hv=>by
 obtain⟨k,_,rfl⟩:=List.mem_map.1 hv
 exact getS_ok h k
theorem takeS_len(es:List (Int×SV))(l:List Int):(takeS es l).length=l.length:=by simp [takeS]
theorem putS_ok{u:Unt}{m:Mach}{es:List (Int×SV)}(h:∀e∈es,VOK u m e.2){k:Int}{v:SV}(hv:VOK u m v):∀e∈putS' es k v,VOK u m e.2:=fun e he=>by
 rcases mem_putS' he with q | q
 ·exact h e q
 rw [q]
 exact hv
theorem bindS_ok{u:Unt}{m:Mach}{es:List (Int×SV)}(h:∀e∈es,VOK u m e.2){ps:List Int}{l:List SV}(hl:∀v∈l,VOK u m v):∀e∈bindS es ps l,VOK u m e.2:=fun e he=>by
 rcases mem_bindS he with q | q
 ·exact h e q
 exact hl _ q
theorem binaryM_word(op a b:Int)(hb:isW b):(∃n,isW n∧(binaryM op a b).1=.word n)∧0≤(binaryM op a b).2∧(binaryM op a b).2≤6:=by
 have w1:=wrapW_range (a+b)
 have w2:=wrapW_range (a - b)
 have w3:=wrapW_range (a * b)
 have w4:=wrapW_range (a.tdiv b)
 have w0:isW 0:=by unfold isW;omega
 have w01:isW 1:=by unfold isW;omega
 unfold binaryM
 repeat' split
 all_goals first
  | exact⟨⟨_,w1,rfl⟩,by simp⟩
  | exact⟨⟨_,w2,rfl⟩,by simp⟩
  | exact⟨⟨_,w3,rfl⟩,by simp⟩
  | exact⟨⟨_,w4,rfl⟩,by simp⟩
  | exact⟨⟨_,w0,rfl⟩,by simp⟩
  | exact⟨⟨_,w01,rfl⟩,by simp⟩
  | exact⟨⟨_,tmod_range hb (by assumption),rfl⟩,by simp⟩
theorem objectM_ok{u:Unt}{m:Mach}{i:Ins}{args:List SV}(h:∀v∈args,VOK u m v):VOK u m (objectM i args).1∧0≤(objectM i args).2∧(objectM i args).2≤6:=by
 have h0:=argS_ok h 0
 have hk:∀k,VOK u m (argS (argS args 0).list k):=argS_ok (SV.Wf.kids h0)
 have hl:=SV.Wf.len h0
 unfold objectM
 repeat' split
 all_goals first
  | exact⟨VOK.zero,by simp⟩
  | exact⟨hk _,by simp⟩
  | exact⟨VOK.word (SV.Wf.num h0 (by omega)),by simp⟩
  | exact⟨VOK.word (by unfold isW;omega),by simp⟩
theorem zipM_ok{u:Unt}{m:Mach}{op:Int}:∀(l r:List SV),(∀v∈r,isW v.n)→∀v∈zipM op l r,VOK u m v∧v.kind=0
 | [],_,_,v,h=>by simp [zipM] at h
 | _::_,[],_,v,h=>by simp [zipM] at h
 | a::l,b::r,hr,v,h=>by
  simp only [zipM,List.mem_cons] at h
  rcases h with rfl | h
  ·obtain⟨⟨n,h1,h2⟩,_⟩:=binaryM_word op a.n b.n (hr b (by simp))
   rw [h2]
   exact⟨VOK.word h1,rfl⟩
  exact zipM_ok l r (fun v hv=>hr v (by simp [hv])) v h
theorem vec_words{u:Unt}{m:Mach}{v:SV}(h:VOK u m v)(hk:v.kind=4):v.list.length≤1000∧∀x∈v.list,isW x.n :=
 ⟨SV.Wf.len h,fun x hx=>SV.Wf.num (SV.Wf.kids h x hx) (.inl (SV.Wf.vec h hk x hx))⟩
theorem vectorM_ok{u:Unt}{m:Mach}{i:Ins}{args:List SV}(h:∀v∈args,VOK u m v)(hl:i.op=22→args.length≤1000)(h2:i.op≠22→i.op≠24→∃x y,args=[x,y]) :
  VOK u m (vectorM i args).1∧0≤(vectorM i args).2∧(vectorM i args).2≤6:=by
 have h0:=argS_ok h 0
 have hk:∀k,VOK u m (argS (argS args 0).list k):=argS_ok (SV.Wf.kids h0)
 by_cases e22:i.op=22
 ·unfold vectorM
  rw [if_pos e22]
  split
  ·rename_i ha
   refine⟨.mk (by omega) (by omega) (by omega) (by omega) (fun _ v hv=>?_) (hl e22) (by simp) h,by simp⟩
   simp only [allK,List.all_eq_true,decide_eq_true_eq] at ha
   exact ha v hv
  exact⟨VOK.zero,by simp⟩
 by_cases e24:i.op=24
 ·unfold vectorM
  rw [if_neg e22,if_pos e24]
  split
  ·exact⟨VOK.zero,by simp⟩
  exact⟨hk _,by simp⟩
 obtain⟨x,y,e⟩:=h2 e22 e24
 subst e
 unfold vectorM
 rw [if_neg e22,if_neg e24]
 split
 ·exact⟨VOK.zero,by simp⟩
 rename_i hn
 have hall:allK [x,y] 4=true:=by
  cases hh:allK [x,y] 4
  ·exact absurd (.inl (by simp [hh])) hn
  rfl
 have hkk:x.kind=4∧y.kind=4:=by simpa [allK] using hall
 have hx:=vec_words (h x (by simp)) hkk.1
 have hy:=vec_words (h y (by simp)) hkk.2
 have hz:=fun v hv=>zipM_ok (u:=u) (m:=m) (op:=i.n) x.list y.list hy.2 v hv
 refine⟨.mk (by omega) (by omega) (by omega) (by omega) (fun _ v hv=>(hz v hv).2) ?_ (by simp) (fun v hv=>(hz v hv).1),by simp⟩
 show(zipM i.n x.list y.list).length≤1000
 rw [zipM_len]
 omega
structure ExecOK(u:Unt)(m:Mach)(r:Mach×SV×Int):Prop where
 frames:r.1.frames=m.frames
 keep:∀a∈m.heap,∃b∈r.1.heap,b.vid=a.vid
 val:VOK u r.1 r.2.1
 trap:0≤r.2.2∧r.2.2≤6
 arrs:∀a∈r.1.heap,a.l.length≤1024∧∀v∈a.l,VOK u r.1 v
 left:0≤r.1.left∧r.1.left≤m.left
 out:r.1.out.length≤1000
 words:∀n∈r.1.out,isW n
 fin:r.1.fin=m.fin∧r.1.val=m.val
 over:r.1.over=false→m.over=false∧r.1.short=false
theorem ExecOK.same{u:Unt}{m:Mach}(hm:MachOK u m){v:SV}{t:Int}(hv:VOK u m v)(ht:0≤t∧t≤6):ExecOK u m (m,v,t) where
 frames:=rfl
 keep:=fun a ha=>⟨a,ha,rfl⟩
 val:=hv
 trap:=ht
 arrs:=hm.arrs
 left:=⟨hm.left,Int.le_refl _⟩
 out:=hm.out
 words:=hm.words
 fin:=⟨rfl,rfl⟩
 over:=fun h=>⟨h,(hm.over h).2⟩
theorem setArr_vids:∀(l:List Arr) (id:Option Nat) (x:List SV),(∀a∈l,∃b∈Mach.setArr l id x,b.vid=a.vid)∧(∀b∈Mach.setArr l id x,∃a∈l,a.vid=b.vid∧a.bid=b.bid∧(b=a∨b.l=x))
 | [],_,_=>⟨by simp,by simp [Mach.setArr]⟩
 | a::r,id,x=>by
  obtain⟨h1,h2⟩:=setArr_vids r id x
  unfold Mach.setArr
  split
  ·exact⟨fun c hc=>by
    rcases List.mem_cons.1 hc with rfl | hc
    ·exact⟨⟨c.vid,c.bid,x⟩,List.mem_cons_self,rfl⟩
    ·exact⟨c,by simp [hc],rfl⟩,fun b hb=>by
    rcases List.mem_cons.1 hb with rfl | hb
    ·exact⟨a,by simp,rfl,rfl,.inr rfl⟩
    exact⟨b,by simp [hb],rfl,rfl,.inl rfl⟩⟩
  exact⟨fun c hc=>by
   rcases List.mem_cons.1 hc with rfl | hc
   ·exact⟨_,by simp,rfl⟩
   ·obtain⟨b,hb,e⟩:=h1 c hc
    exact⟨b,by simp [hb],e⟩,fun b hb=>by
   rcases List.mem_cons.1 hb with rfl | hb
   ·exact⟨b,by simp,rfl,rfl,.inl rfl⟩
   obtain⟨c,hc,e⟩:=h2 b hb
   exact⟨c,by simp [hc],e⟩⟩
theorem arrOf_mem:∀(l:List Arr) (id:Nat),(∃a∈l,a.vid=id)→∃a∈l,a.vid=id∧Mach.arrOf l (some id)=a.l
 | [],_,h=>by simp at h
 | a::r,id,h=>by
  unfold Mach.arrOf
  by_cases e:id=a.vid
  ·exact⟨a,by simp,e.symm,by simp [e]⟩
  obtain⟨b,hb,hv⟩:=h
  rcases List.mem_cons.1 hb with rfl | hb
  ·exact absurd hv.symm e
  obtain⟨c,hc,h1,h2⟩:=arrOf_mem r id ⟨b,hb,hv⟩
  exact⟨c,by simp [hc],h1,by simp [e,h2]⟩
theorem arr_ok{u:Unt}{m:Mach}(hm:MachOK u m){v:SV}(hv:VOK u m v)(hk:v.kind=3):∃a∈m.heap,v.arr=some a.vid∧Mach.arrOf m.heap v.arr=a.l:=by
 obtain⟨id,e⟩:=SV.Wf.array hv hk
 obtain⟨a,ha,h1,h2⟩:=arrOf_mem m.heap id (SV.Wf.ref hv id e)
 exact⟨a,ha,by rw [h1];exact e,by rw [e];exact h2⟩
theorem pay_fields(m:Mach)(n:Int):(m.pay n).frames=m.frames∧(m.pay n).heap=m.heap∧(m.pay n).out=m.out∧(m.pay n).fin=m.fin∧(m.pay n).val=m.val∧(m.pay n).sid=m.sid∧(m.pay n).next=m.next:=by
 unfold Mach.pay
 split<;>simp
theorem pay_left{m:Mach}{n:Int}(h:0≤m.left)(hn:0≤n):0≤(m.pay n).left∧(m.pay n).left≤m.left:=by
 unfold Mach.pay
 split<;>simp<;>omega
theorem allocate_ok{u:Unt}{m:Mach}(hm:MachOK u m){x y:SV}(hy:VOK u m y):ExecOK u m (m.allocate x y):=by
 obtain⟨p1,p2,p3,p4,p5,p6,p7⟩:=pay_fields m x.n
 unfold Mach.allocate
 split
 ·exact ExecOK.same hm VOK.zero (by omega)
 split
 ·exact ExecOK.same hm VOK.zero (by omega)
 rename_i hx hr
 have hr':0≤x.n∧x.n≤1024:=by omega
 obtain⟨q1,q2⟩:=pay_left hm.left hr'.1
 split
 ·rename_i hs
  exact⟨p1,fun a ha=>⟨a,by rw [p2];exact ha,rfl⟩,VOK.zero,by simp,fun a ha=>by
   have ha':a∈m.heap:=p2 ▸ ha
   exact⟨(hm.arrs a ha').1,fun v hv=>((hm.arrs a ha').2 v hv).of_heap p2⟩,⟨q1,q2⟩,by rw [p3];exact hm.out,by rw [p3];exact hm.words,⟨p4,p5⟩,fun h=>by
   exfalso
   unfold Mach.pay at hs h
   split at hs
   ·rename_i hlt
    rw [if_pos hlt] at h
    cases h
   rename_i hlt
   rw [if_neg hlt] at h
   have:=(hm.over h).2
   simp only at hs
   rw [this] at hs
   cases hs⟩
 rename_i hs
 refine⟨p1,fun a ha=>⟨a,by simp [ha],rfl⟩,?_,by simp,fun a ha=>?_,⟨q1,q2⟩,by simp only [p3];exact hm.out,by simp only [p3];exact hm.words,⟨p4,p5⟩,fun h=>⟨?_,by simpa using hs⟩⟩
 ·exact .mk (by omega) (by omega) (by omega) (fun _=>⟨_,rfl⟩) (by omega) (by simp) (fun id e=>by
   simp only [Option.some.injEq] at e
   exact⟨_,List.mem_append_right _ (List.mem_singleton.2 rfl),e⟩) (by simp)
 ·have hk:∀v,VOK u m v→VOK u ({ m.pay x.n with heap:=m.heap++[⟨m.next+8,m.next+7,List.replicate x.n.toNat y⟩],next:=m.next+9 }:Mach) v:=fun v hv=>hv.mono fun b hb=>⟨b,by simp [hb],rfl⟩
  simp only [List.mem_append,List.mem_singleton] at ha
  rcases ha with ha | rfl
  ·exact⟨(hm.arrs a ha).1,fun v hv=>hk v ((hm.arrs a ha).2 v hv)⟩
  refine⟨by simp;omega,fun v hv=>?_⟩
  rw [(List.mem_replicate.1 hv).2]
  exact hk y hy
 simp only at h
 unfold Mach.pay at h
 split at h
 ·cases h
 exact h
theorem effect_ok{u:Unt}{m:Mach}(hm:MachOK u m){i:Ins}{args:List SV}(h:∀v∈args,VOK u m v):ExecOK u m (m.effect i args):=by
 have w0:isW 0:=by unfold isW;omega
 have h0:=argS_ok h 0
 have h1:=argS_ok h 1
 have h2:=argS_ok h 2
 unfold Mach.effect
 split
 ·split
  ·exact ExecOK.same hm VOK.zero (by omega)
  split
  ·exact ExecOK.same hm VOK.zero (by omega)
  rename_i hk hl
  refine⟨rfl,fun a ha=>⟨a,ha,rfl⟩,VOK.word w0,by simp,fun a ha=>⟨(hm.arrs a ha).1,fun v hv=>((hm.arrs a ha).2 v hv).of_heap rfl⟩,⟨hm.left,Int.le_refl _⟩,?_,fun n hn=>?_,⟨rfl,rfl⟩,fun h=>⟨h,(hm.over h).2⟩⟩
  ·have:=hm.out
   simp
   omega
  simp only [List.mem_append,List.mem_singleton] at hn
  rcases hn with hn | rfl
  ·exact hm.words n hn
  exact SV.Wf.num h0 (.inl (by omega))
 split
 ·exact allocate_ok hm h1
 split
 ·split
  ·exact ExecOK.same hm VOK.zero (by omega)
  split
  ·exact ExecOK.same hm VOK.zero (by omega)
  exact ExecOK.same hm (VOK.word w0) (by omega)
 split
 ·exact ExecOK.same hm VOK.zero (by omega)
 rename_i hk
 obtain⟨a,ha,e1,e2⟩:=arr_ok hm h0 (by omega)
 rw [e2]
 have hal:=(hm.arrs a ha).1
 split
 ·exact ExecOK.same hm (VOK.word (by unfold isW;omega)) (by omega)
 split
 ·exact ExecOK.same hm VOK.zero (by omega)
 split
 ·exact ExecOK.same hm (argS_ok (hm.arrs a ha).2 _) (by omega)
 obtain⟨s1,s2⟩:=setArr_vids m.heap (argS args 0).arr (a.l.set (argS args 1).n.toNat (argS args 2))
 have hk2:∀v,VOK u m v→VOK u ({ m with heap:=Mach.setArr m.heap (argS args 0).arr (a.l.set (argS args 1).n.toNat (argS args 2)) }:Mach) v:=fun v hv=>hv.mono s1
 refine⟨rfl,s1,VOK.word w0,by simp,fun b hb=>?_,⟨hm.left,Int.le_refl _⟩,hm.out,hm.words,⟨rfl,rfl⟩,fun h=>⟨h,(hm.over h).2⟩⟩
 obtain⟨c,hc,_,_,e⟩:=s2 b hb
 rcases e with e | e
 ·rw [e]
  exact⟨(hm.arrs c hc).1,fun v hv=>hk2 v ((hm.arrs c hc).2 v hv)⟩
 rw [e]
 refine⟨by simpa using hal,fun v hv=>hk2 v ?_⟩
 rcases List.mem_or_eq_of_mem_set hv with q | q
 ·exact(hm.arrs a ha).2 v q
 rw [q]
 exact h2
theorem exec_ok{u:Unt}{m:Mach}(hm:MachOK u m){i:Ins}(hi:InsOK u i){args:List SV}(hl:args.length=i.args.length)(h:∀v∈args,VOK u m v):ExecOK u m (m.exec i args):=by
 have h0:=argS_ok h 0
 unfold Mach.exec
 split
 ·exact ExecOK.same hm (VOK.word (hi.c0 (by assumption))) (by omega)
 split
 ·split
  ·exact ExecOK.same hm VOK.zero (by omega)
  rename_i ho hk
  have hall:allK args 0=true:=by simpa using hk
  have hl2:=hi.c2 (.inl ho)
  have h1m:argS args 1∈args:=by
   unfold argS
   rw [List.getElem?_eq_getElem (by omega)]
   exact List.getElem_mem _
  simp only [allK,List.all_eq_true,decide_eq_true_eq] at hall
  obtain⟨⟨n,q1,q2⟩,q3⟩:=binaryM_word i.op (argS args 0).n (argS args 1).n (SV.Wf.num (h _ h1m) (.inl (hall _ h1m)))
  have:binaryM i.op (argS args 0).n (argS args 1).n=(.word n,(binaryM i.op (argS args 0).n (argS args 1).n).2):=by rw [←q2]
  rw [this]
  exact ExecOK.same hm (VOK.word q1) q3
 split
 ·rename_i ho
  exact ExecOK.same hm (.mk (by omega) (fun _=>(hi.con ho).1) (by omega) (by omega) (by omega) (by have:=(hi.con ho).2;omega) (by simp) h) (by omega)
 split
 ·rename_i ho
  obtain⟨c1,c2,c3⟩:=hi.clos ho
  exact ExecOK.same hm (.mk (by omega) (by omega) (fun _=>⟨c1,c2⟩) (by omega) (by omega) (by omega) (by simp) h) (by omega)
 split
 ·obtain⟨q1,q2⟩:=objectM_ok (i:=i) h
  exact ExecOK.same hm q1 q2
 split
 ·rename_i ho
  obtain⟨q1,q2⟩:=vectorM_ok (i:=i) h (fun e=>by have:=hi.pack e;omega) (fun e1 e2=>by
   have:=hi.c2 (by omega)
   match args,hl with
   | [x,y],_=>exact⟨x,y,rfl⟩
   | [],hl=>simp at hl;omega
   | [x],hl=>simp at hl;omega
   | x::y::z::r,hl=>simp at hl;omega)
  exact ExecOK.same hm q1 q2
 split
 ·exact ExecOK.same hm h0 (by omega)
 exact effect_ok hm h
theorem FrOK.mono{u:Unt}{m m':Mach}(h:∀a∈m.heap,∃b∈m'.heap,b.vid=a.vid){f:Fr}(k:FrOK u m f):FrOK u m' f :=
 ⟨k.fn,k.blk,k.pos,fun e he=>(k.vals e he).mono h⟩
theorem FrOK.of_heap{u:Unt}{m m':Mach}(h:m'.heap=m.heap){f:Fr}(k:FrOK u m f):FrOK u m' f:=k.mono fun a ha=>⟨a,by rw [h];exact ha,rfl⟩
theorem fnOf_mem{u:Unt}{k:Int}(h0:0≤k)(h1:k<u.fns.length):fnOf u k∈u.fns:=List.mem_of_getElem? (fnOf_at h0 h1)
theorem blkOf_mem{f:Func}{k:Int}(h0:0≤k)(h1:k<f.blocks.length):blkOf f k∈f.blocks:=List.mem_of_getElem? (blkOf_at h0 h1)
theorem blk0{u:Unt}(hu:UnitOK u){k:Int}(h0:0≤k)(h1:k<u.fns.length):(0:Int)≤0∧(0:Int)<(fnOf u k).blocks.length:=by
 have:=List.length_pos_iff.2 (hu.ne _ (fnOf_mem h0 h1)).1
 omega
theorem MachOK.stop{u:Unt}{m:Mach}(hm:MachOK u m){e n:Int}(he:0≤e∧e≤6)(hn:isW n)(hz:e≠0→n=0):MachOK u (m.stop e n) where
 frames:=fun f hf=>(hm.frames f hf).of_heap (by rfl)
 arrs:=fun a ha=>⟨(hm.arrs a ha).1,fun v hv=>((hm.arrs a ha).2 v hv).of_heap (by rfl)⟩
 left:=hm.left
 depth:=hm.depth
 out:=hm.out
 words:=hm.words
 fin:=he
 val:=hn
 done:=hz
 over:=fun h=>by cases h
theorem MachOK.setTop{u:Unt}{m:Mach}(hm:MachOK u m){f:Fr}(hne:m.frames≠[])(hf:FrOK u m f):MachOK u (m.setTop f) where
 frames:=fun g hg=>by
  rcases List.mem_cons.1 hg with rfl | hg
  ·exact hf.of_heap (by rfl)
  exact(hm.frames g (List.mem_of_mem_tail hg)).of_heap (by rfl)
 arrs:=fun a ha=>⟨(hm.arrs a ha).1,fun v hv=>((hm.arrs a ha).2 v hv).of_heap (by rfl)⟩
 left:=hm.left
 depth:=by
  have h1:=hm.depth
  have h2:=List.length_pos_iff.2 hne
  have h3:(m.setTop f).frames.length=m.frames.length:=by
   simp only [Mach.setTop,List.length_cons,List.length_tail]
   omega
  rw [h3]
  exact h1
 out:=hm.out
 words:=hm.words
 fin:=hm.fin
 val:=hm.val
 done:=hm.done
 over:=fun h=>⟨by simp [Mach.setTop],(hm.over h).2⟩
theorem MachOK.enter{u:Unt}{m:Mach}(hu:UnitOK u)(hm:MachOK u m)(hs:m.over=false→m.short=false)(hd:m.frames.length+m.left+1≤2 ^ 40){fn:Int}(hfn:0≤fn∧fn<u.fns.length){args:List SV}(ha:∀v∈args,VOK u m v)(to:Int) :
  MachOK u (m.enter u fn args to) where
 frames:=fun g hg=>by
  rcases List.mem_cons.1 hg with rfl | hg
  ·exact⟨hfn,blk0 hu hfn.1 hfn.2,Nat.zero_le _,bindS_ok (by simp) (fun v hv=>(ha v hv).of_heap (by rfl))⟩
  exact(hm.frames g hg).of_heap (by rfl)
 arrs:=fun a ha=>⟨(hm.arrs a ha).1,fun v hv=>((hm.arrs a ha).2 v hv).of_heap (by rfl)⟩
 left:=hm.left
 depth:=by
  simp only [Mach.enter,List.length_cons]
  omega
 out:=hm.out
 words:=hm.words
 fin:=hm.fin
 val:=hm.val
 done:=hm.done
 over:=fun h=>⟨by simp [Mach.enter],hs h⟩
theorem MachOK.follow{u:Unt}{m:Mach}(hm:MachOK u m)(hne:m.frames≠[]){f:Fr}(hf:FrOK u m f){e:Edge}(he:EdgeOK (fnOf u f.fn) e):MachOK u (m.follow u f e) :=
 hm.setTop hne ⟨hf.fn,⟨he.lo,he.hi⟩,Nat.zero_le _,bindS_ok hf.vals (takeS_ok hf.vals _)⟩
theorem MachOK.leave{u:Unt}{m:Mach}(hm:MachOK u m)(hne:m.frames≠[]){f:Fr}{v:SV}(hv:VOK u m v)(ho:m.over=false):MachOK u (m.leave f v):=by
 have hz:isW 0:=by unfold isW;omega
 unfold Mach.leave
 cases ht:m.frames.tail with
 | nil =>
  simp only
  have h0:MachOK u ({ m with frames:=[],over:=true }:Mach) :=
   ⟨by simp,fun a ha=>⟨(hm.arrs a ha).1,fun v hv=>((hm.arrs a ha).2 v hv).of_heap (by rfl)⟩,hm.left,by have:=hm.depth;simp;omega,hm.out,hm.words,hm.fin,hm.val,hm.done,fun h=>by cases h⟩
  refine h0.stop (e:=0) (by omega) ?_ (by simp)
  split
  ·exact SV.Wf.num hv (by assumption)
  exact hz
 | cons g r =>
  simp only
  have hg:g∈m.frames:=List.mem_of_mem_tail (by rw [ht];simp)
  have hr:∀x∈r,x∈m.frames:=fun x hx=>List.mem_of_mem_tail (by rw [ht];simp [hx])
  have hl:r.length+1≤m.frames.length:=by
   have h1:m.frames.tail.length=r.length+1:=by rw [ht];rfl
   simp at h1
   omega
  have hfg:=hm.frames g hg
  exact⟨fun x hx=>by
   rcases List.mem_cons.1 hx with rfl | hx
   ·exact⟨hfg.fn,hfg.blk,hfg.pos,fun e he=>(putS_ok hfg.vals hv e he).of_heap (by rfl)⟩
   exact(hm.frames x (hr x hx)).of_heap (by rfl),fun a ha=>⟨(hm.arrs a ha).1,fun v hv=>((hm.arrs a ha).2 v hv).of_heap (by rfl)⟩,hm.left,by have:=hm.depth;simp only [List.length_cons];omega,hm.out,hm.words,hm.fin,hm.val,hm.done,fun h=>⟨by simp,(hm.over h).2⟩⟩
theorem choice_at{f:Func}{t:Term}(ht:TermOK f t)(h0:t.kind≠0)(h1:t.kind≠1)(h4:t.kind≠4)(n:Int):∃e,t.to[choiceM t n]?=some e:=by
 have hk:=ht.kind
 have hlt:choiceM t n<t.to.length:=by
  unfold choiceM
  by_cases h2:t.kind=2
  ·rw [if_pos h2,ht.cond h2]
   split<;>omega
  rw [if_neg h2,ht.switch (by omega)]
  have:=List.findIdx_le_length (xs:=t.cases) (p:=(· == n))
  omega
 exact⟨_,List.getElem?_eq_getElem hlt⟩
theorem MachOK.finish{u:Unt}{m:Mach}(hm:MachOK u m)(ho:m.over=false){f:Fr}(hf:FrOK u m f){t:Term}(ht:TermOK (fnOf u f.fn) t):MachOK u (m.finish u f t):=by
 have hz:isW 0:=by unfold isW;omega
 have hne:=(hm.over ho).1
 unfold Mach.finish
 split
 ·exact hm.stop ht.n hz (fun _=>rfl)
 rename_i h4
 split
 ·rename_i h1
  have hl:=ht.jump h1
  have he:t.to[0]?=some (t.to[0]'(by omega)):=List.getElem?_eq_getElem _
  rw [he]
  exact hm.follow hne hf (ht.edges _ (List.getElem_mem _))
 rename_i h1
 split
 ·exact hm.leave hne (getS_ok hf.vals _) ho
 rename_i h0
 split
 ·exact hm.stop (by omega) hz (fun _=>rfl)
 obtain⟨e,he⟩:=choice_at ht h0 h1 h4 (getS f.vals t.arg).n
 rw [he]
 exact hm.follow hne hf (ht.edges _ (List.mem_of_getElem? he))
theorem MachOK.settle{u:Unt}{m:Mach}(hm:MachOK u m)(hne:m.frames≠[]){f:Fr}(hf:FrOK u m f){r:Mach×SV×Int}(hr:ExecOK u m r)(to:Int):MachOK u (Mach.settle f to r):=by
 have hz:isW 0:=by unfold isW;omega
 have h1:MachOK u r.1:=⟨fun g hg=>(hm.frames g (hr.frames ▸ hg)).mono hr.keep,hr.arrs,hr.left.1,by
  have:=hm.depth
  have:=hr.left.2
  rw [hr.frames]
  omega,hr.out,hr.words,by rw [hr.fin.1];exact hm.fin,by rw [hr.fin.2];exact hm.val,by rw [hr.fin.1,hr.fin.2];exact hm.done,fun h=>⟨by rw [hr.frames];exact hne,(hr.over h).2⟩⟩
 have hfr:FrOK u r.1 f:=hf.mono hr.keep
 have hne1:r.1.frames≠[]:=by rw [hr.frames];exact hne
 unfold Mach.settle
 split
 ·refine(h1.stop hr.trap hz (fun _=>rfl)).setTop hne1 ?_
  have hfr':FrOK u (r.1.stop r.2.2 0) f:=hfr.of_heap (by rfl)
  exact⟨hfr'.fn,hfr'.blk,hfr'.pos,putS_ok hfr'.vals (hr.val.of_heap (by rfl))⟩
 exact h1.setTop hne1 ⟨hfr.fn,hfr.blk,hfr.pos,putS_ok hfr.vals hr.val⟩
theorem MachOK.step{u:Unt}{m:Mach}(hu:UnitOK u)(hm:MachOK u m)(ho:m.over=false)(hd:m.frames.length+m.left+1≤2 ^ 40):MachOK u (m.step u):=by
 have hz:isW 0:=by unfold isW;omega
 obtain⟨hne,hsh⟩:=hm.over ho
 unfold Mach.step
 cases hfr:m.frames with
 | nil=>exact absurd hfr hne
 | cons f r =>
  have hf:=hm.frames f (by rw [hfr];simp)
  have hF:=fnOf_mem hf.fn.1 hf.fn.2
  have hB:=blkOf_mem hf.blk.1 hf.blk.2
  have hb:=hu.blocks _ hF _ hB
  simp only
  cases hi:(blkOf (fnOf u f.fn) f.blk).ins[f.pos]? with
  | none=>exact hm.finish ho hf hb.term
  | some i =>
   simp only
   have hio:=hb.ins i (List.mem_of_getElem? hi)
   have hlt:=lt_of_getElem? hi
   have hf1:FrOK u m { f with pos:=f.pos+1 }:=⟨hf.fn,hf.blk,hlt,hf.vals⟩
   have h1:=hm.setTop hne hf1
   have hf2:FrOK u (m.setTop { f with pos:=f.pos+1 }) { f with pos:=f.pos+1 }:=hf1.of_heap (by rfl)
   have hl1:(m.setTop { f with pos:=f.pos+1 }).frames.length=m.frames.length:=by
    simp [Mach.setTop,hfr]
   have ha:=takeS_ok hf2.vals i.args
   have hal:=takeS_len f.vals i.args
   unfold Mach.act
   split
   ·rename_i h13
    obtain⟨c1,c2,c3⟩:=hio.call h13
    exact h1.enter hu (fun _=>hsh) (by rw [hl1];exact hd) ⟨c1,c2⟩ ha _
   split
   ·split
    ·rename_i hk
     exact h1.enter hu (fun _=>hsh) (by rw [hl1];exact hd) (SV.Wf.fn (argS_ok ha 0) hk.1) ha _
    exact h1.stop (by omega) hz (fun _=>rfl)
   exact h1.settle (by simp [Mach.setTop]) hf2 (exec_ok h1 hio hal ha) _
theorem step_left(u:Unt)(m:Mach)(hm:MachOK u m)(hu:UnitOK u)(ho:m.over=false):(m.step u).left≤m.left:=by
 obtain⟨hne,hsh⟩:=hm.over ho
 have hleave:∀(m:Mach) f v,(m.leave f v).left=m.left:=fun m f v=>by
  unfold Mach.leave
  split<;>rfl
 unfold Mach.step
 cases hfr:m.frames with
 | nil=>exact absurd hfr hne
 | cons f r =>
  have hf:=hm.frames f (by rw [hfr];simp)
  have hb:=hu.blocks _ (fnOf_mem hf.fn.1 hf.fn.2) _ (blkOf_mem hf.blk.1 hf.blk.2)
  simp only
  cases hi:(blkOf (fnOf u f.fn) f.blk).ins[f.pos]? with
  | none =>
   simp only
   unfold Mach.finish
   repeat' split
   all_goals first
    | exact Int.le_refl _
    | exact Int.le_of_eq (hleave _ _ _)
  | some i =>
   simp only
   have hio:=hb.ins i (List.mem_of_getElem? hi)
   have hlt:=lt_of_getElem? hi
   have hf1:FrOK u m { f with pos:=f.pos+1 }:=⟨hf.fn,hf.blk,hlt,hf.vals⟩
   have h1:=hm.setTop hne hf1
   unfold Mach.act
   split
   ·exact Int.le_refl _
   split
   ·split<;>exact Int.le_refl _
   have hx:=exec_ok h1 hio (takeS_len f.vals i.args) (takeS_ok (fun e he=>(hf.vals e he).of_heap (by rfl)) i.args)
   have hl:=hx.left.2
   unfold Mach.settle
   split<;>exact hl
def pushCells(cs:List AVal)(n:Nat)(id:Nat):List AVal:=cs.take n++[.mp id 0]
theorem cells_os(a b c:Nat):(AVal.os a b c).cells=[.os a b c]:=rfl
theorem cellsAll_mp(a b:Nat):cellsAll [.mp a b]=[.mp a b]:=rfl
theorem enter_push{u:Unt}{m:Mach}{O:List AObj}(hup:∀o∈O,o.upto O.length)(h0:O[2]?=some (.cells (mcells u m))){cs:List AVal}(hst:O[m.sid]?=some (.cells cs))(hcs:m.frames.length≤cs.length)(hne:m.sid≠2)(hN:O.length=m.next)
  (hd:m.frames.length≤2 ^ 41) (fn:Int) (hfn:0≤fn∧fn<u.fns.length) (hb:(fnOf u fn).blocks≠[]) (args:List SV) (hl:∀v∈args,SV.Under O.length v) (hp:(blkOf (fnOf u fn) 0).params.length=args.length) (to:Int) :
  ECall Try.prog 59 O [.mp 2 0,aI fn,.lst 4 (args.map SV.enc) .sh,aI to] (fun r O'=>r=.tup []∧O'=((O.set m.sid .gone).set 2 (.cells (mcells u (m.enter u fn args to)))) ++
   [.map (.int .i64) ((bindS [] (blkOf (fnOf u fn) 0).params args).map ent),.cells [aI fn,aI 0,aI 0,aI to,.mm O.length],.cells (pushCells cs m.frames.length (O.length+1))]):=by
 have hF:=fnOf_at hfn.1 hfn.2
 have hB:=blkOf_at (f:=fnOf u fn) (k:=0) (by omega) (by
  have:=List.length_pos_iff.2 hb
  omega)
 generalize hBB:blkOf (fnOf u fn) 0=B at *
 generalize hFF:fnOf u fn=F at *
 have hB:F.blocks[0]?=some B:=hB
 have h0':∀X,(O++X)[2]?=some (.cells (mcells u m)):=fun X=>at_left h0
 unfold mcells at h0'
 have hml0:=lt_of_getElem? h0
 have hst':∀X,(O++X)[m.sid]?=some (.cells cs):=fun X=>at_left hst
 have hg0:(O.set m.sid .gone)[2]?=some (.cells (mcells u m)):=at_set_ne h0 hne
 have e1:∀X,(O++X).set m.sid .gone=O.set m.sid .gone++X:=fun X=>set_left hst
 have e2:∀X,(O.set m.sid .gone++X)[2]?=some (.cells (mcells u m)):=fun X=>at_left hg0
 have e3:∀X y,(O.set m.sid .gone++X).set 2 y=(O.set m.sid .gone).set 2 y++X:=fun X y=>set_left hg0
 unfold mcells at e2
 have hl1:m.frames.length * 1≤cs.length:=by omega
 have hlen1:((m.frames.length:Nat):Int)+1=((m.frames.length+1:Nat):Int):=by omega
 have hp':[eFuncs u.fns,aI u.main,.os (O.length+2) (m.frames.length+1) 1,aI m.left,.v (.bool m.short),.v (.bool m.over),.lst 1 (m.out.map aI) (.tok 3),aI m.fin,aI m.val]=mcells u (m.enter u fn args to):=by
  simp [mcells,Mach.enter,hN]
 have hup2:=uptoO_cells (n:=O.length+3) (ds:=mcells u (m.enter u fn args to)) (uptoO_set (k:=m.sid) (x:=.gone) (fun o ho=>AObj.upto_mono (by omega) (hup o ho)) trivial) hg0 (fun h=>by
  simp only [mcells,uptoL,AVal.upto,aI_upto,Func.map_upto,true_and,and_true,Mach.enter] at h ⊢
  omega)
 obtain⟨O2,hO2⟩:∃O2,O2=(O.set m.sid .gone).set 2 (.cells (mcells u (m.enter u fn args to))):=⟨_,rfl⟩
 have hlen:O.length=O2.length:=by rw [hO2];simp
 simp only [←hO2] at hup2 ⊢
 rw [hlen] at hup2
 refine zf true (O.length+3) Try.func59 Try.ntmps59 ?_
 dsimp only [Tmp,TypeId,slotsOf]
 refine zh1 (za0 ?_)
 refine zg2 ?_
 simp -dsimp only [simprocAttr,↓vpre,zp,h0',hF,hB]
 repeat(refine⟨by omega,?_⟩)
 refine za0 ?_
 refine awp_len 2 rfl (fun hal=>?_)
 simp only [List.length_map] at hal
 refine awp_block (awp_loop (ι:={j:Nat // j≤B.params.length}) (fun j=>⟨54,[(0,.mp 2 0),(2,.lst 4 (args.map SV.enc) .sh),(8,.mp (O.length+1) 0),(27,eIs B.params),(28,aI B.params.length),(29,aI j.1)],O++[.map (.int .i64) ((bindS [] (B.params.take j.1) (args.take j.1)).map ent),.cells [aI fn,aI 0,aI 0,aI to,.mm O.length]]⟩) (fun j=>B.params.length - j.1) ⟨0,by omega⟩ ?_ ?_)
 ·refine zq rfl ?_ ?_
  simp -dsimp only [simprocAttr,↓vpre,zp,zc]
  rw [bindS_zero]
  rfl
 rintro⟨j,hj⟩
 refine zh1 (za0 ?_)
 apply zk1 rfl<;>intro h
 ·refine zb0 ?_
  have hlt:j<B.params.length:=by simpa using h
  obtain⟨p,hp⟩:∃p,B.params[j]?=some p:=⟨B.params[j],by simp [hlt]⟩
  obtain⟨a,ha⟩:∃a,args[j]?=some a:=⟨args[j]'(by omega),List.getElem?_eq_getElem _⟩
  refine awp_seq (awp_block ?_)
  refine zg1 ?_
  simp -dsimp only [simprocAttr,↓vpre,zp,hp]
  refine za0 ?_
  refine zg0 ?_
  simp -dsimp only [simprocAttr,↓vpre,zp,ha,put_ent,←bindS_snoc hp ha]
  repeat(refine⟨by omega,?_⟩)
  refine⟨ob (by kernel_rfl),?_⟩
  refine za0 ?_
  refine zh0 ?_
  repeat(refine⟨by omega,?_⟩)
  refine zl0 ?_
  refine⟨⟨j+1,hlt⟩,by simp;omega,?_⟩
  refine zq rfl ?_ ?_
  simp -dsimp only [simprocAttr,↓vpre,zp,zc]
  ·exact Sub.int (by simp)
  rfl
 refine awp_exit ?_
 simp -dsimp only [vend,ne_eq,Nat.reduceEqDiff,reduceCtorEq]
 have hjj:j=B.params.length:=by simp at h;omega
 subst hjj
 have hTT:args.take B.params.length=args:=List.take_of_length_le (by omega)
 refine zs0 ?_
 simp -dsimp only [simprocAttr,↓vpre,zp,h0',hTT,List.take_length,hst',e1,e2,e3,hl1,List.length_set,cells_os,hp',←hO2]
 refine⟨by omega,by omega,trivial,?_⟩
 refine at_intro ?_
 simp -dsimp only [simprocAttr,↓vpre,zp,zr,Try.results59,take_newk,hlen,cellsAll_mp]
 refine⟨fun o ho=>?_,trivial,by simp [pushCells]⟩
 rcases List.mem_append.1 ho with ho | ho
 ·exact hup2 o ho
 have hcu:=hup _ (List.mem_of_getElem? hst)
 simp only [AObj.upto,uptoL_iff] at hcu
 simp only [List.mem_cons,List.mem_nil_iff,or_false] at ho
 rcases ho with rfl | rfl | rfl
 ·refine entE fun x hx=>?_
  rcases mem_bindS hx with q | q
  ·simp at q
  exact(hl _ q).mono (by omega)
 ·simp [AObj.upto,uptoL,AVal.upto]
 simp only [AObj.upto,uptoL_iff]
 intro x hx
 rcases List.mem_append.1 hx with q | q
 ·exact AVal.upto_mono (by omega) _ (hcu x (List.mem_of_mem_take q))
 simp only [List.mem_singleton] at q
 subst q
 simp [AVal.upto]
def mcells0(u:Unt)(fuel:Int):List AVal:=[eFuncs u.fns,aI u.main,.lst 1 [] .ex,aI fuel,.v (.bool false),.v (.bool false),.lst 1 [] (.tok 3),aI 0,aI 0]
theorem enter_first{u:Unt}{fuel:Int}(hmain:0≤u.main∧u.main<u.fns.length)(hb:(fnOf u u.main).blocks≠[])(hp:(blkOf (fnOf u u.main) 0).params=[])(sz:Nat)(ow:Own) :
  ECall Try.prog 59 [.gone,.cells [.lst 1 [] .ex,aI 0,aI 0],.cells (mcells0 u fuel),.spare 0] [.mp 2 0,aI u.main,.lst sz [] ow,aI 0] (fun r O'=>r=.tup []∧O'=[.gone,.cells [.lst 1 [] .ex,aI 0,aI 0],.cells (mcells u ((Mach.start fuel).enter u u.main [] 0)),.spare 0,.map (.int .i64) [],.cells [aI u.main,aI 0,aI 0,aI 0,.mm 4],.cells [.mp 5 0]]):=by
 have hF:=fnOf_at hmain.1 hmain.2
 have hB:=blkOf_at (f:=fnOf u u.main) (k:=0) (by omega) (by
  have:=List.length_pos_iff.2 hb
  omega)
 have hp':mcells u ((Mach.start fuel).enter u u.main [] 0)=[eFuncs u.fns,aI u.main,.os 6 1 1,aI fuel,.v (.bool false),.v (.bool false),.lst 1 [] (.tok 3),aI 0,aI 0]:=by
  simp [mcells,Mach.enter,Mach.start]
 rw [hp']
 unfold mcells0
 generalize hBB:blkOf (fnOf u u.main) 0=B at *
 generalize hFF:fnOf u u.main=F at *
 have hB:F.blocks[0]?=some B:=hB
 have hpl:B.params.length=0:=by rw [hp];rfl
 refine zf true 7 Try.func59 Try.ntmps59 ?_
 dsimp only [Tmp,TypeId,slotsOf]
 refine zh1 (za0 ?_)
 refine zg2 ?_
 simp -dsimp only [simprocAttr,↓vpre,zp,hF,hB]
 repeat(refine⟨by omega,?_⟩)
 refine za0 ?_
 refine awp_block (awp_loop (ι:=Unit) (fun _=>⟨54,[(0,.mp 2 0),(8,.mp 5 0),(27,eIs B.params),(28,aI 0),(29,aI 0)],[.gone,.cells [.lst 1 [] .ex,aI 0,aI 0],.cells [eFuncs u.fns,aI u.main,.lst 1 [] .ex,aI fuel,.v (.bool false),.v (.bool false),.lst 1 [] (.tok 3),aI 0,aI 0],.spare 0,.map (.int .i64) [],.cells [aI u.main,aI 0,aI 0,aI 0,.mm 4]]⟩) (fun _=>0) () ?_ ?_)
 ·refine zq rfl ?_ ?_
  simp -dsimp only [simprocAttr,↓vpre,zp,zc]
  ·exact Sub.int (by simp [hpl])
  rfl
 rintro⟨⟩
 refine zh1 (za0 ?_)
 apply zk1 rfl<;>intro h
 ·simp at h
 refine awp_exit ?_
 simp -dsimp only [vend,ne_eq,Nat.reduceEqDiff,reduceCtorEq]
 refine zs0 ?_
 simp -dsimp only [simprocAttr,↓vpre,zp,cells_os,cellsAll_mp]
 refine⟨trivial,?_⟩
 refine at_intro ?_
 simp -dsimp only [simprocAttr,↓vpre,zp,zr,Try.results59]
 refine⟨?_,trivial⟩
 simp [AObj.upto,uptoL,uptoE,AVal.upto,Func.map_upto]
theorem leave_last{u:Unt}{m:Mach}{O:List AObj}(hup:∀o∈O,o.upto O.length)(h0:O[2]?=some (.cells (mcells u m)))(f:Fr)(hfr:m.frames=[f])(hfl:f.fid<O.length)(v:SV)(hv:SV.Under O.length v) :
  ECall Try.prog 93 O [.mp 2 0,.mp f.fid 0,v.enc] (fun r O'=>r=.tup []∧O'=O.set 2 (.cells (mcells u (m.leave f v)))):=by
 have hvu:=hv.enc_upto
 rw [SV.enc_eq] at hvu
 have hml0:=lt_of_getElem? h0
 have hp1:[eFuncs u.fns,aI u.main,.os m.sid 0 1,aI m.left,.v (.bool m.short),.v (.bool m.over),.lst 1 (m.out.map aI) (.tok 3),aI m.fin,aI m.val]=mcells u { m with frames:=[] }:=rfl
 have hs0:=set_self h0
 have hm0:O[2]?=some (.cells [eFuncs u.fns,aI u.main,.os m.sid 1 1,aI m.left,.v (.bool m.short),.v (.bool m.over),.lst 1 (m.out.map aI) (.tok 3),aI m.fin,aI m.val]):=by
  rw [h0]
  unfold mcells
  rw [hfr]
  rfl
 obtain⟨O1,hO1⟩:∃O1,O1=O.set 2 (.cells (mcells u { m with frames:=[] })):=⟨_,rfl⟩
 have hlen:O.length=O1.length:=by rw [hO1];simp
 have h01:O1[2]?=some (.cells (mcells u { m with frames:=[] })):=by rw [hO1];exact hs0 _
 have hup1:∀o∈O1,o.upto O1.length:=by
  rw [←hlen,hO1]
  exact uptoO_cells hup h0 (fun h=>mcells_upto h rfl)
 have hstop:=fun e n=>stop_spec hup1 h01 e n
 have hfin:∀n:Int,O1.set 2 (.cells (mcells u (({ m with frames:=[] }:Mach).stop 0 n)))=O.set 2 (.cells (mcells u (({ m with frames:=[] }:Mach).stop 0 n))):=fun n=>by
  rw [hO1,List.set_set]
 have hup2:∀n:Int,∀o∈O.set 2 (.cells (mcells u (({ m with frames:=[] }:Mach).stop 0 n))),o.upto O.length:=fun n=>uptoO_cells hup h0 (fun h=>mcells_upto h rfl)
 have hm1:O1[2]?=some (.cells [eFuncs u.fns,aI u.main,.os m.sid 0 1,aI m.left,.v (.bool m.short),.v (.bool m.over),.lst 1 (m.out.map aI) (.tok 3),aI m.fin,aI m.val]):=h01
 have hres:m.leave f v=({ m with frames:=[] }:Mach).stop 0 (if v.kind=0∨v.kind=1 then v.n else 0):=by
  unfold Mach.leave
  rw [hfr]
  rfl
 rw [hres]
 have htk:∀x,(O.set 2 x).take O1.length=O.set 2 x:=fun x=>by rw [←hlen];exact take_set_len
 by_cases hk:v.kind=0∨v.kind=1
 ·rw [if_pos hk]
  rcases (show v.kind=0∨(v.kind≠0∧v.kind=1) by omega) with e | ⟨e,e1⟩
  ·have hd:decide (v.kind=0)=true:=decide_eq_true e
   refine zf true O.length Try.func93 Try.ntmps93 ?_
   dsimp only [Tmp,TypeId,slotsOf]
   refine zh1 (za0 ?_)
   refine awp_local 5 ([aI v.kind,aI v.n,.lst 4 (v.list.map SV.enc) .sh,eP v.arr]) [(0,.mp 2 0),(1,.mp f.fid 0),(5,.ip none [aI v.kind,aI v.n,.lst 4 (v.list.map SV.enc) .sh,eP v.arr])] rfl (by simp only [List.map_cons,List.map_nil,shareCell_v,shareCell_lst,shareCell_mm,shareCell_mp,shareCell_ip,shareCell_fn,shareCell_im,eP_shareCell]) (by omega) (by simp [putS,dropS,Go.Av.look]) ?_ ?_ ?_
   ·exact hup
   ·simp only [AVal.upto] at hvu
    simp [AVal.upto,hfl,hml0,hvu]
   refine zg1 ?_
   simp -dsimp only [simprocAttr,↓vpre,zp,hm0,cells_os,hp1,←hO1]
   refine⟨trivial,?_⟩
   refine⟨ob (by kernel_rfl),?_⟩
   refine za0 ?_
   refine zg2 ?_
   simp -dsimp only [simprocAttr,↓vpre,zp,hm1]
   refine za0 ?_
   refine zu0 rfl ?_
   refine zb0 ?_
   refine zh1 (za0 ?_)
   refine zg2 ?_
   simp -dsimp only [simprocAttr,↓vpre,zp,hd]
   refine za0 ?_
   refine zw0 rfl ?_
   refine zh0 (za0 ?_)
   refine zh0 ?_
   refine .inr (.inl ⟨_,_,hstop 0 v.n,.inl (later_intro ?_)⟩)
   simp -dsimp only [simprocAttr,↓vpre,zp,hlen,hfin]
   refine at_intro ?_
   simp -dsimp only [simprocAttr,↓vpre,zp,zr,Try.results93,hlen,List.take_length,List.length_set,htk]
   exact⟨by rw [←hlen];exact hup2 v.n,trivial⟩
  have hd:decide (v.kind=0)=false:=decide_eq_false e
  have hd1:decide (v.kind=1)=true:=decide_eq_true e1
  refine zf true O.length Try.func93 Try.ntmps93 ?_
  dsimp only [Tmp,TypeId,slotsOf]
  refine zh1 (za0 ?_)
  refine awp_local 5 ([aI v.kind,aI v.n,.lst 4 (v.list.map SV.enc) .sh,eP v.arr]) [(0,.mp 2 0),(1,.mp f.fid 0),(5,.ip none [aI v.kind,aI v.n,.lst 4 (v.list.map SV.enc) .sh,eP v.arr])] rfl (by simp only [List.map_cons,List.map_nil,shareCell_v,shareCell_lst,shareCell_mm,shareCell_mp,shareCell_ip,shareCell_fn,shareCell_im,eP_shareCell]) (by omega) (by simp [putS,dropS,Go.Av.look]) ?_ ?_ ?_
  ·exact hup
  ·simp only [AVal.upto] at hvu
   simp [AVal.upto,hfl,hml0,hvu]
  refine zg1 ?_
  simp -dsimp only [simprocAttr,↓vpre,zp,hm0,cells_os,hp1,←hO1]
  refine⟨trivial,?_⟩
  refine⟨ob (by kernel_rfl),?_⟩
  refine za0 ?_
  refine zg2 ?_
  simp -dsimp only [simprocAttr,↓vpre,zp,hm1]
  refine za0 ?_
  refine zu0 rfl ?_
  refine zb0 ?_
  refine zh1 (za0 ?_)
  refine zg2 ?_
  simp -dsimp only [simprocAttr,↓vpre,zp,hd,hd1]
  refine za0 ?_
  refine zw0 rfl ?_
  refine zh0 (za0 ?_)
  refine zh0 ?_
  refine .inr (.inl ⟨_,_,hstop 0 v.n,.inl (later_intro ?_)⟩)
  simp -dsimp only [simprocAttr,↓vpre,zp,hlen,hfin]
  refine at_intro ?_
  simp -dsimp only [simprocAttr,↓vpre,zp,zr,Try.results93,hlen,List.take_length,List.length_set,htk]
  exact⟨by rw [←hlen];exact hup2 v.n,trivial⟩
 rw [if_neg hk]
 have hd:decide (v.kind=0)=false:=decide_eq_false (by omega)
 have hd1:decide (v.kind=1)=false:=decide_eq_false (by omega)
 refine zf true O.length Try.func93 Try.ntmps93 ?_
 dsimp only [Tmp,TypeId,slotsOf]
 refine zh1 (za0 ?_)
 refine awp_local 5 ([aI v.kind,aI v.n,.lst 4 (v.list.map SV.enc) .sh,eP v.arr]) [(0,.mp 2 0),(1,.mp f.fid 0),(5,.ip none [aI v.kind,aI v.n,.lst 4 (v.list.map SV.enc) .sh,eP v.arr])] rfl (by simp only [List.map_cons,List.map_nil,shareCell_v,shareCell_lst,shareCell_mm,shareCell_mp,shareCell_ip,shareCell_fn,shareCell_im,eP_shareCell]) (by omega) (by simp [putS,dropS,Go.Av.look]) ?_ ?_ ?_
 ·exact hup
 ·simp only [AVal.upto] at hvu
  simp [AVal.upto,hfl,hml0,hvu]
 refine zg1 ?_
 simp -dsimp only [simprocAttr,↓vpre,zp,hm0,cells_os,hp1,←hO1]
 refine⟨trivial,?_⟩
 refine⟨ob (by kernel_rfl),?_⟩
 refine za0 ?_
 refine zg2 ?_
 simp -dsimp only [simprocAttr,↓vpre,zp,hm1]
 refine za0 ?_
 refine zu0 rfl ?_
 refine zb0 ?_
 refine zh1 (za0 ?_)
 refine zg2 ?_
 simp -dsimp only [simprocAttr,↓vpre,zp,hd,hd1]
 refine za0 ?_
 refine zu0 rfl ?_
 refine zb0 ?_
 refine zh0 ?_
 refine .inr (.inl ⟨_,_,hstop 0 0,.inl (later_intro ?_)⟩)
 simp -dsimp only [simprocAttr,↓vpre,zp,hlen,hfin]
 refine at_intro ?_
 simp -dsimp only [simprocAttr,↓vpre,zp,zr,Try.results93,hlen,List.take_length,List.length_set,htk]
 exact⟨by rw [←hlen];exact hup2 0,trivial⟩
theorem leave_more{u:Unt}{m:Mach}{O:List AObj}(hup:∀o∈O,o.upto O.length)(h0:O[2]?=some (.cells (mcells u m)))(f g:Fr)(r:List Fr)(hfr:m.frames=f::g::r)(hf:O[f.fid]?=some (.cells (fcells f)))
  (hg:O[g.fid]?=some (.cells (fcells g))) (hgm:O[g.mid]?=some (.map (.int .i64) (g.vals.map ent))) (hgu:∀e∈g.vals,SV.Under O.length e.2) {cs:List AVal} (hst:O[m.sid]?=some (.cells cs)) (hcs:cs[r.length]?=some (.mp g.fid 0))
  (hs0:m.sid≠2) (hrl:r.length≤2 ^ 40) (hf0:f.fid≠2) (hg0:g.fid≠2) (hm0:g.mid≠2) (v:SV) (hv:SV.Under O.length v) :
  ECall Try.prog 93 O [.mp 2 0,.mp f.fid 0,v.enc] (fun r O'=>r=.tup []∧O'=(O.set 2 (.cells (mcells u (m.leave f v)))).set g.mid (.map (.int .i64) ((putS' g.vals f.to v).map ent))):=by
 have hvu:=hv.enc_upto
 rw [SV.enc_eq] at hvu
 have hml0:=lt_of_getElem? h0
 have hfl:=lt_of_getElem? hf
 have hres:mcells u (m.leave f v)=[eFuncs u.fns,aI u.main,.os m.sid (r.length+1) 1,aI m.left,.v (.bool m.short),.v (.bool m.over),.lst 1 (m.out.map aI) (.tok 3),aI m.fin,aI m.val]:=by
  simp [Mach.leave,hfr,mcells]
 have hm:O[2]?=some (.cells [eFuncs u.fns,aI u.main,.os m.sid (r.length+1+1) 1,aI m.left,.v (.bool m.short),.v (.bool m.over),.lst 1 (m.out.map aI) (.tok 3),aI m.fin,aI m.val]):=by
  rw [h0]
  unfold mcells
  rw [hfr]
  rfl
 obtain⟨O1,hO1⟩:∃O1,O1=O.set 2 (.cells (mcells u (m.leave f v))):=⟨_,rfl⟩
 have hlen:O.length=O1.length:=by rw [hO1];simp
 have hs:=set_self h0
 have h01:O1[2]?=some (.cells (mcells u (m.leave f v))):=by rw [hO1];exact hs _
 have hst1:O1[m.sid]?=some (.cells cs):=by rw [hO1];exact at_set_ne hst hs0.symm
 have hf1:O1[f.fid]?=some (.cells (fcells f)):=by rw [hO1];exact at_set_ne hf hf0.symm
 have hg1:O1[g.fid]?=some (.cells (fcells g)):=by rw [hO1];exact at_set_ne hg hg0.symm
 have hgm1:O1[g.mid]?=some (.map (.int .i64) (g.vals.map ent)):=by rw [hO1];exact at_set_ne hgm hm0.symm
 have hup1:∀o∈O1,o.upto O1.length:=by
  rw [←hlen,hO1]
  refine uptoO_cells hup h0 (fun h=>mcells_upto h ?_)
  simp [Mach.leave,hfr]
 rw [←hO1]
 have hup2:∀o∈O1.set g.mid (.map (.int .i64) ((putS' g.vals f.to v).map ent)),o.upto O1.length:=by
  refine uptoO_set hup1 (entE fun x hx=>?_)
  rw [←hlen]
  rcases mem_putS' hx with q | q
  ·exact hgu x q
  rw [q]
  exact hv
 have htk:∀x,(O1.set g.mid x).take O1.length=O1.set g.mid x:=fun x=>take_set_len
 have hc1:[eFuncs u.fns,aI u.main,.os m.sid (r.length+1) 1,aI m.left,.v (.bool m.short),.v (.bool m.over),.lst 1 (m.out.map aI) (.tok 3),aI m.fin,aI m.val]=mcells u (m.leave f v):=hres.symm
 rw [hres] at h01
 unfold fcells at hf1 hg1
 have hr1:((r.length+1+1:Nat):Int) - 1=((r.length+1:Nat):Int):=by omega
 have hr2:((r.length+1:Nat):Int) - 1=(r.length:Nat):=by omega
 have hr3:decide ((0:Int)<((r.length+1:Nat):Int))=true:=decide_eq_true (by omega)
 refine zf true O.length Try.func93 Try.ntmps93 ?_
 dsimp only [Tmp,TypeId,slotsOf]
 refine zh1 (za0 ?_)
 refine awp_local 5 ([aI v.kind,aI v.n,.lst 4 (v.list.map SV.enc) .sh,eP v.arr]) [(0,.mp 2 0),(1,.mp f.fid 0),(5,.ip none [aI v.kind,aI v.n,.lst 4 (v.list.map SV.enc) .sh,eP v.arr])] rfl (by simp only [List.map_cons,List.map_nil,shareCell_v,shareCell_lst,shareCell_mm,shareCell_mp,shareCell_ip,shareCell_fn,shareCell_im,eP_shareCell]) (by omega) (by simp [putS,dropS,Go.Av.look]) ?_ ?_ ?_
 ·exact hup
 ·simp only [AVal.upto] at hvu
  simp [AVal.upto,hfl,hml0,hvu]
 refine zg1 ?_
 simp -dsimp only [simprocAttr,↓vpre,zp,hm,cells_os,hr1,Int.toNat_natCast,hc1,←hO1]
 repeat(refine⟨by omega,?_⟩)
 refine⟨trivial,?_⟩
 refine⟨ob (by kernel_rfl),?_⟩
 refine za0 ?_
 refine zg2 ?_
 simp -dsimp only [simprocAttr,↓vpre,zp,h01,hr3]
 refine za0 ?_
 refine zw0 rfl ?_
 refine zg1 ?_
 simp -dsimp only [simprocAttr,↓vpre,zp,h01,hst1,hr2,Nat.mul_one,hcs,hf1,hg1,hgm1,put_ent]
 repeat(refine⟨by omega,?_⟩)
 refine⟨ob (by kernel_rfl),?_⟩
 refine za0 ?_
 refine awp_ret ?_
 simp -dsimp only [simprocAttr,↓vpre,zp,zr,Try.results93,hlen,htk,List.length_set]
 exact⟨hup2,trivial⟩
end Go.Proofs.Ytkhnjeblbiocaaa
