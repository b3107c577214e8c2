/-
  Texts bound together by a program of mine: YtkhnjeblbiocaaaPum, YtkhnjeblbiocaaaPj, YtkhnjeblbiocaaaPwf, YtkhnjeblbiocaaaPwi, YtkhnjeblbiocaaaPf, YtkhnjeblbiocaaaT48, YtkhnjeblbiocaaaPc, YtkhnjeblbiocaaaT41, YtkhnjeblbiocaaaT43, YtkhnjeblbiocaaaPg, YtkhnjeblbiocaaaPk, YtkhnjeblbiocaaaPun, YtkhnjeblbiocaaaPuo, YtkhnjeblbiocaaaT44, YtkhnjeblbiocaaaT45, YtkhnjeblbiocaaaT46, YtkhnjeblbiocaaaT54, YtkhnjeblbiocaaaPl, YtkhnjeblbiocaaaPdb, YtkhnjeblbiocaaaPdc, YtkhnjeblbiocaaaPdd, YtkhnjeblbiocaaaPua, YtkhnjeblbiocaaaPub, YtkhnjeblbiocaaaPuq, YtkhnjeblbiocaaaPur, YtkhnjeblbiocaaaPy, YtkhnjeblbiocaaaPz, YtkhnjeblbiocaaaPwa, YtkhnjeblbiocaaaPus, YtkhnjeblbiocaaaPut, YtkhnjeblbiocaaaPuu, YtkhnjeblbiocaaaPuv, YtkhnjeblbiocaaaPwb, YtkhnjeblbiocaaaPux, YtkhnjeblbiocaaaPva, YtkhnjeblbiocaaaPwd, YtkhnjeblbiocaaaPwe, YtkhnjeblbiocaaaPwg, YtkhnjeblbiocaaaPwh, YtkhnjeblbiocaaaT121, YtkhnjeblbiocaaaT122, YtakdmelemfnmdaaAvv, YtkhnjeblbiocaaaT134, YtkhnjeblbiocaaaT137, YtkhnjeblbiocaaaT138, YtkhnjeblbiocaaaPwj, YtkhnjeblbiocaaaT135, YtkhnjeblbiocaaaT139, YtkhnjeblbiocaaaPwk, YtkhnjeblbiocaaaT131, YtkhnjeblbiocaaaT123, YtkhnjeblbiocaaaT63, YtkhnjeblbiocaaaT136, YtkhnjeblbiocaaaT140.
-/
import Derived.Test.YtkhnjeblbiocaaaJ4
import Derived.Sort.Grow
set_option linter.all false
set_option maxRecDepth 100000
set_option maxHeartbeats 4000000

namespace Go.Av
def CertE(P:Program)(o:Oper)(σ0:St)(R:AVal→List AObj→Prop):Prop :=
 ∀(base:G) (σ:St) (a:Act) (g:G),Rel base σ a g→σ.n=σ0.n→(∀x∈o.op.operands,∀y,σ0.ev x=some y→σ.ev x=some y)→σ.objs=σ0.objs →
  ∀(K:Act→World→Prop) (Q:Exit→Act→World→Prop),(∀r u g',R r g'.objs→Rel base ⟨σ.n,putO o.dst r σ.slots,g'.objs⟩ (a.put o.dst u) g'→K (a.put o.dst u) g'.w)→o.wp P a g.w K Q
theorem cert_ecallE{P:Program}{o:Oper}{σ:St}{x:Operand}{args:Array Operand}{ats:Array TypeId}{f:FuncId}{fs cs ars:List AVal}{R:AVal→List AObj→Prop}
  (ho:o.op=.call ⟨.value x,args,ats⟩) (hd:∀d,o.dst=some d→d<σ.n) (hx:σ.ev x=some (.fn (.func f) fs cs)) (ha:σ.evs args.toList=some ars)
  (hcall:ECall P f σ.objs (fs++ars++cs) R):CertE P o σ R:=by
 intro base τ a g hrel hn hag hm K Q hK
 have hxe:σ.ev x=some (.fn (.func f) fs cs):=hx
 have h1:=hrel.eval (hag x (by simp [ho,Op.operands,Call.operands]) _ hx)
 obtain⟨us,vs,e1,l1,l2,r1,r2⟩:=h1.fn_inv
 have h2:=evs_rel (σ:=σ) (a:=a) (g:=g) (xs:=args.toList) (fun z hz y hy=>hrel.eval (hag z (by
  rw [ho]
  simp only [Op.operands,Call.operands,Array.mem_append]
  exact .inr (Array.mem_toList_iff.1 hz)) y hy)) ha
 have h2':RVs g ars (args.map a.eval):=by
  have e:args.map a.eval=(args.toList.map a.eval).toArray:=Array.ext' (by rw [Array.toList_map])
  rw [e]
  exact h2
 have hall:=(RVs.append_arr (RVs.append_arr ⟨l1,r1⟩ h2') ⟨l2,r2⟩)
 have hrun:=run_callv (P:=P) (w:=g.w) ho e1 hcall.1
 unfold Oper.wp
 rw [hrun,Oper.upon_enter]
 refine(hcall.2 g _ hrel.good (hrel.objs.trans hm) hall).mono ?_
 rintro e w' ⟨g',v,r',q1,q2,q3,q4,q5,q6⟩
 subst q1
 subst q2
 refine hK r' v g' q6 ?_
 cases hdst:o.dst with
 | none=>exact hrel.step q3 q4
 | some d=>exact hrel.put q3 q4 (d:=d) (by rw [hn];exact hd d hdst) q5
theorem wpOps_chain_app{P:Program}{ops:Array Oper}{base:G}{ρ:St}{Q:Exit→Act→World→Prop}{rest:List Nat}(hQ:∀a g,Rel base ρ a g→wpOps P ops Q rest a g.w) :
  ∀(l:List (Nat×Kind)) (σ:St) (a:Act) (g:G),Chain P ops l σ ρ→Rel base σ a g→wpOps P ops Q (l.map (·.1)++rest) a g.w
 | [],σ,a,g,hch,hrel=>hQ a g (Same.rel hch hrel)
 | (i,k)::r,σ,a,g,hch,hrel=>by
  obtain⟨σ',⟨o,ho,hstep⟩,hrest⟩:=hch
  simp only [List.map_cons,List.cons_append,wpOps,ho]
  rcases hstep with⟨hw,r',m,hcert,hk,hσ⟩ | ⟨hw,_,hσ⟩
  ·rw [if_pos (wantedA_spec hrel hw)]
   refine .inl (hcert.2 base σ a g hrel rfl (fun x _ y hy=>hy) (Mode.agree_of (.inr rfl)) _ _ fun u g' hrel'=>?_)
   subst hσ
   exact wpOps_chain_app hQ r _ _ _ hrest hrel'
  rw [if_neg (by rw [wantedA_spec hrel hw];simp)]
  subst hσ
  refine wpOps_chain_app hQ r _ _ g hrest ?_
  cases hdst:o.dst with
  | none=>exact hrel
  | some d=>exact hrel.skip d
theorem idx_map(ks:List Kind)(s:Nat):(((ks.zipIdx 0).map fun p=>(p.2,p.1)).map fun p=>(s+p.1,p.2)).map (·.1)=(List.range ks.length).map (s + ·):=by
 apply List.ext_getElem?
 intro i
 simp only [List.getElem?_map,List.getElem?_zipIdx]
 by_cases h:i<ks.length
 ·simp [h]
 rw [List.getElem?_eq_none (by omega),List.getElem?_eq_none (by simp;omega)]
 rfl
theorem range_mid{n k:Nat}(h:k<n):List.range n=(List.range k).map (0 + ·)++(k::(List.range (n - (k+1))).map (k+1 + ·)):=by
 apply List.ext_getElem?
 intro i
 by_cases h1:i<k
 ·rw [List.getElem?_append_left (by simpa using h1)]
  simp [h1,show i<n by omega]
 rw [List.getElem?_append_right (by simp;omega)]
 simp only [List.length_map,List.length_range]
 by_cases h2:i=k
 ·subst h2
  simp [h]
 rw [show i - k=(i - k - 1)+1 by omega,List.getElem?_cons_succ,List.getElem?_map]
 by_cases h3:i<n
 ·rw [List.getElem?_range h3,List.getElem?_range (by omega),Option.map_some]
  congr 1
  omega
 rw [List.getElem?_eq_none (by simp;omega),List.getElem?_eq_none (by simp;omega)]
 rfl
theorem awp_call_ex{P:Program}{kb:Nat}{tab:Tab}(md:Md)(hT:TabOK P tab){id:Nat}{l l1 l2:List Oper}{o:Oper}{Q:AEx→St→Prop}{σ:St}(k:Nat)(h1:l.take k=l1)(h2:l[k]?=some o)(h3:l.drop (k+1)=l2)(hg:∀o∈l,o.guard=none)
  (h:vcOps P tab md l1 0 [] σ [] fun τ _=>∃R,CertE P o τ R∧∀r O',R r O'→vcOps P tab md l2 0 [] ⟨τ.n,putO o.dst r τ.slots,O'⟩ [] fun ρ _=>At ρ (Q .norm)):AWP P kb (.region id l.toArray false) Q σ:=by
 have hlt:=lt_of_getElem? h2
 obtain⟨τ,ks1,c1,n1,R,hc,h⟩:=vcOps_sound (all:=l1.toArray) hT l1 0 [] σ [] (fun j=>by simp) (fun j t hj=>by simp [slotAt] at hj) h
 intro base a g hb hr
 have hgo:o.guard=none:=hg o (List.mem_of_getElem? h2)
 have l1n:l1.length=k:=by rw [←h1,List.length_take];omega
 have l2n:l2.length=l.length - (k+1):=by rw [←h3,List.length_drop]
 have d1:=chain_shift (all:=l.toArray) (k:=0) (fun i o' hi=>by
  have hi':l1[i]?=some o':=by simpa using hi
  have:=lt_of_getElem? hi'
  rw [←h1,List.getElem?_take] at hi'
  split at hi'
  ·simpa using hi'
  cases hi') (by simpa using hg) c1
 refine wp_region ?_
 rw [show l.toArray.size=l.length from List.size_toArray,range_mid hlt]
 have e1:=idx_map ks1 0
 rw [n1,l1n] at e1
 rw [←e1]
 refine wpOps_chain_app (ρ:=τ) (fun a g hr=>?_) _ _ _ _ d1 hr
 have ho:l.toArray[k]?=some o:=by simpa using h2
 simp only [wpOps,ho]
 have hw:wantedA l.toArray o τ=some true:=by simp [wantedA,hgo]
 rw [if_pos (wantedA_spec hr hw)]
 refine .inl (hc base τ a g hr rfl (fun x _ y hy=>hy) rfl _ _ fun r u g' hR hrel'=>?_)
 obtain⟨ρ,ks2,c2,n2,hQ⟩:=vcOps_sound (all:=l2.toArray) hT l2 0 [] _ [] (fun j=>by simp) (fun j t hj=>by simp [slotAt] at hj) (h r g'.objs hR)
 have d2:=chain_shift (all:=l.toArray) (k:=k+1) (fun i o' hi=>by
  have hi':l2[i]?=some o':=by simpa using hi
  rw [←h3,List.getElem?_drop] at hi'
  simpa using hi') (by simpa using hg) c2
 have e2:=idx_map ks2 (k+1)
 rw [n2,l2n] at e2
 rw [←e2]
 have:=wpOps_chain_app (rest:=[]) (Q:=Post base Q) (P:=P) (ops:=l.toArray) (base:=base) (ρ:=ρ) (fun a g hr=>⟨g,ρ,rfl,hr,hQ⟩) _ _ _ _ d2 hrel'
 rw [List.append_nil] at this
 exact this
def RetAll(tab:Tab)(rv:List ResultVar)(R:AVal→List AObj→Prop):AEx→St→Prop
 | .exit _,_=>False
 | _,σ=>on (retVals tab σ rv) fun rs=>R (mkRet rs) σ.objs
theorem ecall_all{P:Program}{tab:Tab}(hT:TabOK P tab){f:FuncId}{fn:Func}{c:Code}{O:List AObj}{args:List AVal}{R:AVal→List AObj→Prop}(hf:P.funcs[f]?=some fn)(hb:fn.body=some c)
  (hname : (fn.name == "runtime.NumGoroutine") = false) (hn : args.length ≤ fn.ntmps) (h : AWP P O.length c (RetAll tab fn.results.toList R) ⟨fn.ntmps, slotsOf 0 args, O⟩) : ECall P f O args R := by
 refine⟨⟨fn,hf,hname,by simp [hb]⟩,fun g vs hg ho ha=>?_⟩
 refine calls_of_wp hf hb ?_
 have hrel:Rel g ⟨fn.ntmps,slotsOf 0 args,O⟩ { tmps:=vs++Array.replicate (fn.ntmps - vs.size) undef,defers:=[] } g:={
  le:=Le.refl g
  good:=hg
  objs:=ho
  size:=by
   have:=ha.1
   simp only [Array.size_append,Array.size_replicate]
   omega
  defers:=rfl
  slot:=fun s x hx=>by
   obtain⟨_,h1⟩:=look_slotsOf args 0 s x hx
   simp only [Nat.sub_zero] at h1
   have hlt:=lt_of_getElem? h1
   have hlt':s<vs.size:=by rw [ha.1];exact hlt
   refine⟨vs[s],?_,ha.2 s x _ h1 (by simp [hlt'])⟩
   simp only
   rw [Array.getElem?_append,if_pos hlt']
   simp [hlt'] }
 refine wp_mono (h g _ g (by rw [ho];exact Nat.le_refl _) hrel) fun e a w hp=>?_
 have key:∀g' σ',g'.w=w→Rel g σ' a g'→(on (retVals tab σ' fn.results.toList) fun rs=>R (Av.mkRet rs) σ'.objs) →
   a.defers=[]∧∃v,(results fn a.tmps).run P w=.ok v w∧∃g' v' r,Ending.returned v=.returned v'∧g'.w=w∧Le g g'∧Good g'∧RV g' r v'∧R r g'.objs:=by
  intro g' σ' hw hr hq
  subst hw
  obtain⟨rs,hrs,h4⟩:=on_elim hq
  obtain⟨us,q1,q2⟩:=retVals_spec hT hr hrs
  have hO:g'.objs=σ'.objs:=hr.objs
  refine⟨hr.defers,(if h:us.toArray.size=1 then us.toArray[0] else .tuple us.toArray),?_,g',_,_,rfl,rfl,hr.le,hr.good,RV.mkRet q2,by rw [hO];exact h4⟩
  have hm:fn.results.mapM (retSem a)=Functor.map List.toArray (fn.results.toList.mapM (retSem a)):=Array.mapM_eq_mapM_toList
  have hres:results fn a.tmps=(do
   let vs ←fn.results.mapM (retSem a)
   pure (if h:vs.size=1 then vs[0] else .tuple vs)):=rfl
  rw [hres,hm]
  simp only [Sem.run_bind,Sem.run_map,q1,Result.andThen_ok,Sem.run_pure]
 cases e with
 | normal =>
  obtain⟨g',σ',h1,h2,h3⟩:=hp
  exact key g' σ' h1 h2 h3
 | ret =>
  obtain⟨g',σ',h1,h2,h3⟩:=hp
  exact key g' σ' h1 h2 h3
 | exit id =>
  obtain⟨g',σ',h1,h2,h3⟩:=hp
  exact h3.elim
 | goto l=>exact hp.elim
 | panic c=>exact hp.elim
 | outgrown=>exact hp.elim

theorem awp_retell2{P:Program}{kb:Nat}{c:Code}{Q:AEx→St→Prop}{n:Nat}{slots:List (Nat×AVal)}{O:List AObj}(k:Nat){cs:List AVal}(ds:List AVal)(hok:O[k]?=some (.cells cs))(hl:ds.length=cs.length)(hsc:∀d∈ds,d.scalar)
  (hs:∀(j:Nat) (c d:AVal),cs[j]?=some c→ds[j]?=some d→Sub O c d) (h:AWP P kb c Q ⟨n,slots,O.set k (.cells ds)⟩):AWP P kb c Q ⟨n,slots,O⟩ :=
 AWP.weaken h fun base a g hb hr=>by
  have hO:g.objs=O:=hr.objs
  have hok':g.objs[k]?=some (.cells cs):=by rw [hO];exact hok
  obtain⟨l,arr,t,e1,e2,e3,e4,e5,e6⟩:=hr.good.cells k cs hok'
  have ht:Turns g k (.cells cs) (some l) (.cells ds) g.w:={
   obj:=hok'
   os:=rfl
   tape:=rfl
   output:=rfl
   size:=Nat.le_refl _
   block:=fun _ _ _=>rfl
   cell:=fun b off x hx _=>hx
   place:=fun l1 h1 _=>by
    simp only [Option.some.injEq] at h1
    subst h1
    exact .inr ⟨l,e1,trivial,rfl,Nat.le_refl _⟩
   spare:=fun m h=>by cases h
   plain:=fun _=>⟨by simp [AObj.isSpare],e1⟩
   gone:=by simp }
  have hle:=Le.turn hr.good ht
  have hgood:=Good.turn hr.good ht ⟨l,arr,t,rfl,e2,e3,by omega,fun j d u hd hu=>by
   have hlt:=lt_of_getElem? hd
   have hc:cs[j]?=some cs[j]:=List.getElem?_eq_getElem (by omega)
   exact(hs j _ d hc hd g u hO (e5 j _ u hc hu)).mono hle,hsc,e6.2⟩ (fun l1 h1 _=>by
    simp only [Option.some.injEq] at h1
    subst h1
    exact lt_of_getElem?' e3)
  refine⟨g.turn k (some l) (.cells ds) g.w,rfl,{ le:=hr.le.trans hle,good:=hgood,objs:=by simp [G.turn,hO],size:=hr.size,defers:=hr.defers,slot:=fun s y hy=>?_ }⟩
  have hy':(St.mk n slots O).get s=some y:=hy
  obtain⟨u,h3,h4⟩:=hr.slot s y hy'
  exact⟨u,h3,h4.mono hle⟩
theorem Sub.nil_lst{O:List AObj}(sz:Nat):Sub O (.v (.slice none 0 0)) (.lst sz [] .ex):=fun g u _ h=>by
 obtain⟨e,_⟩:=h.v_inv
 rw [e]
 exact .nil (fun id q=>by cases q) (by simp)
theorem FSub.os{O:List AObj}{id len sz:Nat}{cs xs:List AVal}(hid:O[id]?=some (.cells cs))(hsz:∀x∈xs,x.cells.length=sz)(hlen:xs.length=len)(hd:((cs.drop 0).take (len * sz)).map AVal.shareCell=cellsAll xs):FSub O id (.os id len sz) (.lst sz xs .sh):=fun g u l' hg hO he hle h=>by
 obtain⟨l,o1,cap',h1,h2,_,hlc,_,hmax,eu⟩:=h.os_inv
 subst eu
 rw [he] at h1
 simp only [Option.some.injEq] at h1
 subst h1
 have hid':g.objs[id]?=some (.cells cs):=by rw [hO];exact hid
 obtain⟨arr,t',hlo,hrow,hal,hcs,hcsc,_⟩:=hg.row hid' he
 subst hlen
 have key:∀(j:Nat) (c:AVal),(cellsAll xs)[j]?=some c→∃c',cs[0+j]?=some c'∧c'.shareCell=c:=fun j c hj=>by
  rw [←hd,List.getElem?_map,Option.map_eq_some_iff] at hj
  obtain⟨c',hj,e⟩:=hj
  have:=take_get hj
  rw [List.getElem?_drop] at this
  exact⟨c',this,e⟩
 refine .lst hsz (fun x hx c hc=>?_) hlc hmax (fun _=>rfl) (fun j=>arr.getD (0+j) undef) (fun j c hj=>?_) (fun j c hj=>?_) trivial
 ·have hmem:c∈cellsAll xs:=by
   simp only [cellsAll,List.mem_flatMap]
   exact⟨x,hx,hc⟩
  obtain⟨j,hj⟩:=List.getElem?_of_mem hmem
  obtain⟨c',hj',e⟩:=key j c hj
  subst e
  exact AVal.scalar_shareCell (hcsc c' (List.mem_of_getElem? hj'))
 ·obtain⟨c',hj',e⟩:=key j c hj
  have hlt:=lt_of_getElem? hj'
  refine⟨?_,freeze_own hg he hid' trivial _⟩
  show g.w.cell? _=_
  simp only
  rw [cell_of_row hrow]
  simp [Array.getD_eq_getD_getElem?,show j<arr.size by omega]
 obtain⟨c',hj',e⟩:=key j c hj
 have hlt:=lt_of_getElem? hj'
 subst e
 exact((hcs _ c' _ hj' (by simp [Array.getD_eq_getD_getElem?,show j<arr.size by omega])).mono hle).shareCell
end Go.Av
namespace Go.Proofs.Ytkhnjeblbiocaaa
open Go.Av
section
variable {P:Program} {kb:Nat} {c:Code} {Q:AEx→St→Prop} {n:Nat} {slots:List (Nat×AVal)}
end
end Go.Proofs.Ytkhnjeblbiocaaa
namespace Go.Proofs.Ytkhnjeblbiocaaa
open Go.Av

end Go.Proofs.Ytkhnjeblbiocaaa
namespace Go.Av

end Go.Av
namespace Go.Proofs.Ytkhnjeblbiocaaa
open Go.Av
theorem splice_one{cs:List AVal}{j:Nat}(x:AVal)(h:j<cs.length):splice cs j [x]=cs.set j x:=by
 apply List.ext_getElem?
 intro i
 rw [splice_get (by simp;omega),List.getElem?_set]
 simp only [List.length_cons,List.length_nil,Nat.zero_add]
 by_cases e:j=i
 ·subst e
  simp [h]
 rw [if_neg (by omega),if_neg e]
theorem to_few{f:Func}{t:Term}(hend:EndW f t):t.to.length≤257:=by
 rcases (show(t.kind=0∨t.kind=4)∨t.kind=1∨t.kind=2∨t.kind=3 by have:=hend.kind;omega) with q | q | q | q
 ·rw [hend.to q];simp
 ·rw [hend.jump q];omega
 ·rw [hend.cond q];omega
 rw [hend.switch q];have:=hend.cases;omega
def blkVals(b:Block):List Int:=b.params++b.ins.map Ins.to
def valsF(f:Func):List Int:=f.blocks.flatMap blkVals
def ValsW(f:Func):Prop:=∀v∈valsF f,0≤v∧v≤4095
def parDefs(k:Int)(l:List Int):Defs:=l.map fun p=>(p,(k,0))
def insDefs(k:Int):Int→List Ins→Defs
 | _,[]=>[]
 | n,i::r=>(i.to,(k,n+1))::insDefs k (n+1) r
def blkDefs(k:Int)(b:Block):Defs:=parDefs k b.params++insDefs k 0 b.ins
def allDefs:Int→List Block→Defs
 | _,[]=>[]
 | k,b::r=>blkDefs k b++allDefs (k+1) r
theorem defineM_eq{ds:Defs}{v:Int}{p:Int×Int}(h:(defineM ds v p).1=0):(defineM ds v p).2=ds++[(v,p)]:=by
 unfold defineM at h ⊢
 split at h
 ·simp at h
 rename_i h1
 rw [if_neg h1]
 split at h
 ·simp at h
 rename_i h2
 rw [if_neg h2]
theorem paramsM_eq(k:Int):∀(l:List Int) (ds:Defs),(paramsM k ds l).1=0→(paramsM k ds l).2=ds++parDefs k l
 | [],ds,_=>by simp [paramsM,parDefs]
 | p::r,ds,h=>by
  simp only [paramsM] at h ⊢
  split at h
  ·rename_i hne
   exact absurd h hne
  rename_i he
  rw [if_neg he,paramsM_eq k r _ h,defineM_eq (by simpa using he)]
  simp [parDefs]
theorem insM_eq(k:Int):∀(l:List Ins) (n:Int) (ds:Defs),(insM k n ds l).1=0→(insM k n ds l).2=ds++insDefs k n l
 | [],n,ds,_=>by simp [insM,insDefs]
 | i::r,n,ds,h=>by
  simp only [insM] at h ⊢
  split at h
  ·rename_i hne
   exact absurd h hne
  rename_i he
  split at h
  ·rename_i hf
   exact absurd h hf
  rename_i hf
  rw [if_neg he,if_neg hf,insM_eq k r _ _ h,defineM_eq (by simpa using he)]
  simp [insDefs]
theorem blockM_eq{f:Func}{ds:Defs}{k:Int}(h:(blockM f ds k).1=0):(blockM f ds k).2=ds++blkDefs k (blkOf f k):=by
 unfold blockM at h ⊢
 split at h
 ·rename_i hne
  exact absurd h hne
 rename_i hp
 split at h
 ·rename_i hne
  exact absurd h hne
 rename_i hi
 rw [if_neg hp,if_neg hi]
 simp only
 rw [insM_eq k _ _ _ (by simpa using hi),paramsM_eq k _ _ (by simpa using hp),blkDefs,List.append_assoc]
theorem blocksM_eq{f:Func}:∀(n k:Nat) (ds:Defs),k+n=f.blocks.length→(blocksM f n k ds).1=0→(blocksM f n k ds).2=ds++allDefs k (f.blocks.drop k)
 | 0,k,ds,hk,_=>by
  rw [List.drop_of_length_le (by omega)]
  simp [blocksM,allDefs]
 | n+1,k,ds,hk,h=>by
  simp only [blocksM] at h ⊢
  split at h
  ·rename_i hne
   exact absurd h hne
  rename_i he
  rw [if_neg he]
  have hb:f.blocks[k]?=some f.blocks[k]:=List.getElem?_eq_getElem (by omega)
  have ih:=blocksM_eq n (k+1) (blockM f ds k).2 (by omega) h
  have e:((k+1:Nat):Int)=(k:Int)+1:=by omega
  rw [e] at ih
  rw [ih,blockM_eq (by simpa using he),drop_at hb,allDefs,List.append_assoc]
  congr 3
  simp [blkOf,hb]
def dsF(f:Func):Defs:=allDefs 0 f.blocks
theorem FnW.ds{f:Func}(hfit:f.fit)(h:checkFuncM f=0):(blocksM f f.blocks.length 0 []).2=dsF f∧DefsW f.blocks.length (dsF f):=by
 have he:(blocksM f f.blocks.length 0 []).1=0:=by
  unfold checkFuncM at h
  split at h
  ·simp at h
  split at h
  ·simp at h
  split at h
  ·simp at h
  split at h
  ·rename_i h4
   exact absurd h h4
  rename_i h4
  simpa using h4
 have e:=blocksM_eq f.blocks.length 0 [] (by omega) he
 rw [List.drop_zero,List.nil_append] at e
 have hw:=(blocksM_ok f.blocks.length 0 [] (.nil _) (by omega) (by simp) he).1
 have e':(blocksM f f.blocks.length 0 []).2=dsF f:=e
 rw [e'] at hw
 exact⟨e',hw⟩
theorem lookD_mem{ds:Defs}(hn:(ds.map (·.1)).Nodup){v:Int}{p:Int×Int}:lookD ds v=some p↔(v,p)∈ds:=by
 induction ds with
 | nil=>simp [lookD]
 | cons e r ih =>
  obtain⟨a,q⟩:=e
  simp only [List.map_cons,List.nodup_cons,List.mem_map,not_exists,not_and] at hn
  have ih:=ih hn.2
  simp only [lookD,List.mem_cons,Prod.mk.injEq]
  by_cases h:a=v
  ·subst h
   rw [if_pos rfl]
   constructor
   ·intro h
    simp only [Option.some.injEq] at h
    exact .inl ⟨rfl,h.symm⟩
   rintro(⟨_,h⟩ | h)
   ·rw [h]
   exact absurd rfl (hn.1 _ h)
  rw [if_neg h,ih]
  constructor
  ·exact .inr
  rintro(⟨h1,_⟩ | h1)
  ·exact absurd h1.symm h
  exact h1
theorem mem_insDefs{k:Int}{v:Int}{p:Int×Int}:∀(l:List Ins) (n:Int),(v,p)∈insDefs k n l↔∃(j:Nat) (i:Ins),l[j]?=some i∧i.to=v∧p=(k,n+j+1)
 | [],n=>by simp [insDefs]
 | i::r,n=>by
  simp only [insDefs,List.mem_cons,Prod.mk.injEq]
  rw [mem_insDefs r (n+1)]
  constructor
  ·rintro(⟨h1,h2⟩ | ⟨j,x,h1,h2,h3⟩)
   ·exact⟨0,i,rfl,h1.symm,by simpa using h2⟩
   exact⟨j+1,x,h1,h2,by rw [h3];congr 1;omega⟩
  rintro⟨j,x,h1,h2,h3⟩
  cases j with
  | zero =>
   simp only [List.getElem?_cons_zero,Option.some.injEq] at h1
   subst h1
   exact .inl ⟨h2.symm,by simpa using h3⟩
  | succ j=>exact .inr ⟨j,x,h1,h2,by rw [h3];congr 1;omega⟩
theorem mem_allDefs{v:Int}{p:Int×Int}:∀(l:List Block) (k:Int),(v,p)∈allDefs k l↔∃(j:Nat) (b:Block),l[j]?=some b∧(v,p)∈blkDefs (k+j) b
 | [],k=>by simp [allDefs]
 | b::r,k=>by
  rw [allDefs,List.mem_append,mem_allDefs r (k+1)]
  constructor
  ·rintro(h | ⟨j,x,h1,h2⟩)
   ·exact⟨0,b,rfl,by simpa using h⟩
   exact⟨j+1,x,h1,by rw [show k+((j+1:Nat):Int)=k+1+j by omega];exact h2⟩
  rintro⟨j,x,h1,h2⟩
  cases j with
  | zero =>
   simp only [List.getElem?_cons_zero,Option.some.injEq] at h1
   subst h1
   exact .inl (by simpa using h2)
  | succ j=>exact .inr ⟨j,x,h1,by rw [show k+((j+1:Nat):Int)=k+1+j by omega] at h2;exact h2⟩
def DefAt(f:Func)(v:Int)(p:Int×Int):Prop:=∃(k:Nat) (b:Block),f.blocks[k]?=some b∧p.1=k∧((p.2=0∧v∈b.params)∨∃(j:Nat) (i:Ins),b.ins[j]?=some i∧i.to=v∧p.2=j+1)
theorem mem_dsF{f:Func}{v:Int}{p:Int×Int}:(v,p)∈dsF f↔DefAt f v p:=by
 obtain⟨p1,p2⟩:=p
 rw [dsF,mem_allDefs]
 constructor
 ·rintro⟨k,b,h1,h2⟩
  rw [blkDefs,List.mem_append] at h2
  rcases h2 with h2 | h2
  ·simp only [parDefs,List.mem_map,Prod.mk.injEq] at h2
   obtain⟨x,h3,h4,h5,h6⟩:=h2
   subst h4
   exact⟨k,b,h1,by simp only;omega,.inl ⟨h6.symm,h3⟩⟩
  obtain⟨j,i,h3,h4,h5⟩:=(mem_insDefs _ _).1 h2
  simp only [Prod.mk.injEq] at h5
  exact⟨k,b,h1,by simp only;omega,.inr ⟨j,i,h3,h4,by simp only;omega⟩⟩
 rintro⟨k,b,h1,h2,h3⟩
 simp only at h2 h3
 subst h2
 refine⟨k,b,h1,?_⟩
 rw [blkDefs,List.mem_append]
 rcases h3 with⟨h3,h4⟩ | ⟨j,i,h3,h4,h5⟩
 ·subst h3
  exact .inl (by simpa [parDefs] using h4)
 exact .inr ((mem_insDefs _ _).2 ⟨j,i,h3,h4,by subst h5;simp⟩)
theorem insDefs_fst(k:Int):∀(l:List Ins) (n:Int),(insDefs k n l).map (·.1)=l.map Ins.to
 | [],_=>rfl
 | i::r,n=>by rw [insDefs,List.map_cons,insDefs_fst k r,List.map_cons]
theorem allDefs_fst:∀(l:List Block) (k:Int),(allDefs k l).map (·.1)=l.flatMap blkVals
 | [],_=>rfl
 | b::r,k=>by
  rw [allDefs,List.map_append,allDefs_fst r,List.flatMap_cons,blkDefs,List.map_append,insDefs_fst,blkVals,parDefs,List.map_map]
  congr 2
  exact List.map_id' _
theorem dsF_fst(f:Func):(dsF f).map (·.1)=valsF f:=allDefs_fst _ _
theorem domE_again{k:Nat}{S:Ds}{e:Edge}(h:(domE k S e).again=false):domE k S e=S∧((S.at_ e.block.toNat).meet (S.at_ k)).add e.block.toNat=S.at_ e.block.toNat∧S.seen.has e.block.toNat=true:=by
 unfold domE at h ⊢
 simp only at h ⊢
 split at h
 ·cases h
 rename_i hc
 rw [if_neg hc]
 simp only [ne_eq,not_or,Decidable.not_not,Bool.not_eq_false] at hc
 exact⟨rfl,hc⟩
theorem domF_again{k:Nat}:∀(l:List Edge) {S:Ds},(l.foldl (domE k) S).again=false→l.foldl (domE k) S=S∧∀e∈l,((S.at_ e.block.toNat).meet (S.at_ k)).add e.block.toNat=S.at_ e.block.toNat∧S.seen.has e.block.toNat=true
 | [],S,_=>⟨rfl,by simp⟩
 | e::r,S,h=>by
  rw [List.foldl_cons] at h
  have ih:=domF_again r h
  rw [ih.1] at h
  have h1:=domE_again h
  rw [List.foldl_cons,ih.1,h1.1]
  rw [h1.1] at ih
  refine⟨rfl,fun x hx=>?_⟩
  rcases List.mem_cons.1 hx with q | q
  ·subst q
   exact h1.2
  exact ih.2 x q
theorem domR_again:∀(l:List Block) (k:Nat) {S:Ds},(domR k S l).again=false→domR k S l=S∧∀(j:Nat) b,l[j]?=some b→S.seen.has (k+j)=true→∀e∈b.term.to,((S.at_ e.block.toNat).meet (S.at_ (k+j))).add e.block.toNat=S.at_ e.block.toNat∧S.seen.has e.block.toNat=true
 | [],k,S,_=>⟨rfl,fun j b h=>by simp at h⟩
 | b::r,k,S,h=>by
  rw [domR] at h
  have ih:=domR_again r (k+1) h
  rw [ih.1] at h
  have h1:domB k S b=S∧(S.seen.has k=true→∀e∈b.term.to,((S.at_ e.block.toNat).meet (S.at_ k)).add e.block.toNat=S.at_ e.block.toNat∧S.seen.has e.block.toNat=true):=by
   unfold domB at h ⊢
   split
   ·rename_i hs
    exact⟨rfl,fun q=>by rw [hs] at q;cases q⟩
   rename_i hs
   rw [if_neg hs] at h
   have:=domF_again _ h
   exact⟨this.1,fun _=>this.2⟩
  rw [domR,ih.1,h1.1]
  rw [h1.1] at ih
  refine⟨rfl,fun j x hj hs=>?_⟩
  cases j with
  | zero =>
   simp only [List.getElem?_cons_zero,Option.some.injEq] at hj
   subst hj
   exact h1.2 hs
  | succ j =>
   rw [show k+(j+1)=k+1+j by omega] at hs ⊢
   exact ih.2 j x hj hs
theorem domI_ends{f:Func}(he:∀b∈f.blocks,∀e∈b.term.to,0≤e.block∧e.block.toNat<f.blocks.length):∀(n:Nat) {S:Ds},DsOK f.blocks.length S→(S.again=true→S.weight<n)→(domI f n S).again=false
 | 0,S,_,h=>by
  cases hs:S.again with
  | false=>exact hs
  | true=>exact absurd (h hs) (by omega)
 | n+1,S,hS,h=>by
  simp only [domI]
  split
  ·rename_i ha
   have hw:=h ha
   have hr:=domR_ok f.blocks (k:=0) (S:=⟨S.over,S.seen,false⟩) ⟨hS.few,hS.len,hS.fit,hS.seen,hS.self⟩ he
   have hwS:(⟨S.over,S.seen,false⟩:Ds).weight=S.weight:=rfl
   refine domI_ends he n hr.1 fun q=>?_
   rcases hr.2.2 q with q | q
   ·cases q
   omega
  rename_i ha
  simpa using ha
structure Dz(S:Ds):Prop where
 zero:S.at_ 0=Bs.none.add 0
 seen:S.seen.has 0=true
theorem domE_z{n k:Nat}{S:Ds}(h:Dz S){e:Edge}(h1:1≤e.block)(h2:e.block.toNat<n)(h3:n≤128):Dz (domE k S e):=by
 unfold domE
 simp only
 split
 ·refine⟨?_,?_⟩
  ·have:=h.zero
   unfold Ds.at_ at this ⊢
   simp only
   rw [List.getElem?_set_ne (by omega)]
   exact this
  simp only
  rw [Bs.has_add _ _ _ (by omega) (by omega),h.seen]
  rfl
 exact h
theorem domF_z{n k:Nat}(h3:n≤128):∀(l:List Edge) {S:Ds},Dz S→(∀e∈l,1≤e.block∧e.block.toNat<n)→Dz (l.foldl (domE k) S)
 | [],_,h,_=>h
 | e::r,S,h,he=>domF_z h3 r (domE_z h (he e (by simp)).1 (he e (by simp)).2 h3) fun x hx=>he x (by simp [hx])
theorem domR_z{n:Nat}(h3:n≤128):∀(l:List Block) {k:Nat} {S:Ds},Dz S→(∀b∈l,∀e∈b.term.to,1≤e.block∧e.block.toNat<n)→Dz (domR k S l)
 | [],_,_,h,_=>h
 | b::r,k,S,h,he=>by
  refine domR_z h3 r (k:=k+1) ?_ fun x hx=>he x (by simp [hx])
  unfold domB
  split
  ·exact h
  exact domF_z h3 _ h (he b (by simp))
theorem domI_z{f:Func}(h3:f.blocks.length≤128)(he:∀b∈f.blocks,∀e∈b.term.to,1≤e.block∧e.block.toNat<f.blocks.length):∀(n:Nat) {S:Ds},Dz S→Dz (domI f n S)
 | 0,_,h=>h
 | n+1,S,h=>by
  simp only [domI]
  split
  ·exact domI_z h3 he n (domR_z h3 _ (S:=⟨S.over,S.seen,false⟩) ⟨h.zero,h.seen⟩ he)
  exact h
theorem domI_last{f:Func}:∀(n:Nat) {S:Ds},S.again=true→(domI f n S).again=false→∃T:Ds,domI f n S=domR 0 T f.blocks
 | 0,S,h1,h2=>by
  rw [domI,h1] at h2
  cases h2
 | n+1,S,h1,h2=>by
  simp only [domI,h1,if_true] at h2 ⊢
  cases hr:(domR 0 ⟨S.over,S.seen,false⟩ f.blocks).again with
  | false=>exact⟨_,domI_done hr n⟩
  | true=>exact domI_last n hr h2
def overF(f:Func)(k:Nat):Bs:=(domM f).1[k]?.getD .none
def seenF(f:Func)(k:Nat):Bool:=(domM f).2.has k
structure DomW(f:Func):Prop where
 seen:seenF f 0=true
 zero:∀j,j<128→((overF f 0).has j=true↔j=0)
 self:∀k,k<f.blocks.length→(overF f k).has k=true
 step:∀(k:Nat) b,f.blocks[k]?=some b→seenF f k=true→∀e∈b.term.to,seenF f e.block.toNat=true∧∀j,j<128→((overF f e.block.toNat).has j=true→j=e.block.toNat∨(overF f k).has j=true)
theorem domM_w{f:Func}(h0:f.blocks≠[])(h1:f.blocks.length≤128)(he:∀b∈f.blocks,∀e∈b.term.to,1≤e.block∧e.block<f.blocks.length):DomW f:=by
 have he':∀b∈f.blocks,∀e∈b.term.to,0≤e.block∧e.block.toNat<f.blocks.length:=fun b hb e hx=>by have:=he b hb e hx;omega
 have he1:∀b∈f.blocks,∀e∈b.term.to,1≤e.block∧e.block.toNat<f.blocks.length:=fun b hb e hx=>by have:=he b hb e hx;omega
 have hl:=List.length_pos_iff.2 h0
 have hS:=domS_ok h0 h1
 have hw0:=weight_le hS
 have hz0:Dz (domS f):=⟨by unfold Ds.at_ domS;simp only;rw [List.getElem?_set_self (by simpa using hl)];rfl,by show(Bs.none.add 0).has 0=true;decide⟩
 have hend:=domI_ends he' 20000 hS (fun _=>by omega)
 have hz:=domI_z h1 he1 20000 hz0
 obtain⟨T,hT⟩:=domI_last 20000 rfl hend
 have hok:DsOK f.blocks.length (domI f 20000 (domS f)):=by
  have key:∀(n:Nat) (S:Ds),DsOK f.blocks.length S→DsOK f.blocks.length (domI f n S):=fun n=>by
   induction n with
   | zero=>exact fun S h=>h
   | succ n ih =>
    intro S h
    simp only [domI]
    split
    ·exact ih _ (domR_ok f.blocks (k:=0) (S:=⟨S.over,S.seen,false⟩) ⟨h.few,h.len,h.fit,h.seen,h.self⟩ he').1
    exact h
  exact key _ _ hS
 have hTa:=domR_again f.blocks 0 (S:=T) (by rw [←hT];exact hend)
 have hfix:=hTa.2
 rw [show T=domI f 20000 (domS f) from hTa.1.symm.trans hT.symm] at hfix
 have hov:∀k,overF f k=(domI f 20000 (domS f)).at_ k:=fun k=>rfl
 have hse:∀k,seenF f k=(domI f 20000 (domS f)).seen.has k:=fun k=>rfl
 generalize domI f 20000 (domS f)=S at *
 refine⟨by rw [hse,hz.seen],fun j hj=>?_,fun k hk=>by rw [hov];exact hok.self k hk,fun k b hb hs e hx=>?_⟩
 ·rw [hov,hz.zero,Bs.has_add _ _ _ (by omega) hj]
  have:Bs.none.has j=false:=by unfold Bs.has Bs.none;simp
  simp [this]
 have hb1:=he1 b (List.mem_of_getElem? hb) e hx
 obtain⟨q1,q2⟩:=hfix k b hb (by rw [Nat.zero_add,←hse];exact hs) e hx
 rw [Nat.zero_add] at q1
 refine⟨by rw [hse];exact q2,fun j hj q=>?_⟩
 rw [hov,←q1,Bs.has_add _ _ _ (by omega) hj,Bs.has_meet] at q
 rw [hov]
 simp only [Bool.or_eq_true,Bool.and_eq_true,decide_eq_true_eq] at q
 rcases q with q | q
 ·exact .inr q.2
 exact .inl q
theorem lookD_some{ds:Defs}{v:Int}{p:Int×Int}(h:lookD ds v=some p):(v,p)∈ds:=by
 induction ds with
 | nil=>cases h
 | cons e r ih =>
  obtain⟨a,q⟩:=e
  simp only [lookD] at h
  split at h
  ·rename_i e
   simp only [Option.some.injEq] at h
   rw [e,h]
   simp
  exact List.mem_cons.2 (.inr (ih h))
def Fine(f:Func)(k:Nat)(n:Int)(v:Int):Prop:=∃p,DefAt f v p∧(seenF f k=true→(p.1=k∧p.2≤n)∨(p.1≠k∧(overF f k).has p.1.toNat=true))
theorem fine_of{f:Func}{k:Nat}{n v:Int}(h:fineM (dsF f) (domM f).1 (domM f).2 k n v=true):Fine f k n v:=by
 unfold fineM at h
 cases hl:lookD (dsF f) v with
 | none=>rw [hl] at h;cases h
 | some p =>
  rw [hl] at h
  refine⟨p,mem_dsF.1 (lookD_some hl),fun hs=>?_⟩
  have hs':(domM f).2.has k=true:=hs
  simp only [hs',Bool.not_true,Bool.or_false,Bool.or_eq_true,Bool.and_eq_true,decide_eq_true_eq,Bool.not_eq_true',decide_eq_false_iff_not] at h
  exact h
structure UsesW(f:Func):Prop where
 ins:∀(k:Nat) b,f.blocks[k]?=some b→∀(n:Nat) i,b.ins[n]?=some i→∀a∈i.args,Fine f k n a
 arg:∀(k:Nat) b,f.blocks[k]?=some b→b.term.kind≠1→b.term.kind≠4→Fine f k b.ins.length b.term.arg
 args:∀(k:Nat) b,f.blocks[k]?=some b→∀e∈b.term.to,∀a∈e.args,Fine f k b.ins.length a
theorem insUses_all{ds:Defs}{over:List Bs}{seen:Bs}{k:Nat}:∀(l:List Ins) (n:Nat),insUses ds over seen k n l=true→∀(j:Nat) i,l[j]?=some i→∀a∈i.args,fineM ds over seen k ((n+j:Nat):Int) a=true
 | [],_,_=>fun j i h=>by simp at h
 | x::r,n,h=>fun j i hj a ha=>by
  simp only [insUses,Bool.and_eq_true,List.all_eq_true] at h
  cases j with
  | zero =>
   simp only [List.getElem?_cons_zero,Option.some.injEq] at hj
   subst hj
   exact h.1 a ha
  | succ j =>
   rw [show n+(j+1)=n+1+j by omega]
   exact insUses_all r (n+1) h.2 j i hj a ha
theorem allUses_all{ds:Defs}{over:List Bs}{seen:Bs}:∀(l:List Block) (k:Nat),allUses ds over seen k l=true→∀(j:Nat) b,l[j]?=some b→blkUses ds over seen (k+j) b=true
 | [],_,_=>fun j i h=>by simp at h
 | x::r,k,h=>fun j b hj=>by
  simp only [allUses,Bool.and_eq_true] at h
  cases j with
  | zero =>
   simp only [List.getElem?_cons_zero,Option.some.injEq] at hj
   subst hj
   exact h.1
  | succ j =>
   rw [show k+(j+1)=k+1+j by omega]
   exact allUses_all r (k+1) h.2 j b hj
theorem uses_w{f:Func}(h:usesM f (dsF f)=0):UsesW f:=by
 have ha:allUses (dsF f) (domM f).1 (domM f).2 0 f.blocks=true:=by
  unfold usesM at h
  split at h
  ·assumption
  simp at h
 have hb:∀(k:Nat) b,f.blocks[k]?=some b→blkUses (dsF f) (domM f).1 (domM f).2 k b=true:=fun k b hk=>by
  have:=allUses_all f.blocks 0 ha k b hk
  rwa [Nat.zero_add] at this
 have hu:∀(k:Nat) b,f.blocks[k]?=some b→usedM b.term (fineM (dsF f) (domM f).1 (domM f).2 k b.ins.length)=true:=fun k b hk=>by
  have:=hb k b hk
  simp only [blkUses,Bool.and_eq_true] at this
  exact this.2
 refine⟨fun k b hk n i hn a ha=>?_,fun k b hk h1 h4=>?_,fun k b hk e he a ha=>?_⟩
 ·have:=hb k b hk
  simp only [blkUses,Bool.and_eq_true] at this
  have:=insUses_all b.ins 0 this.1 n i hn a ha
  rw [Nat.zero_add] at this
  exact fine_of this
 ·have:=hu k b hk
  simp only [usedM,Bool.and_eq_true,Bool.or_eq_true,decide_eq_true_eq,h1,h4,false_or] at this
  exact fine_of this.1
 have:=hu k b hk
 simp only [usedM,Bool.and_eq_true,List.all_eq_true] at this
 exact fine_of (this.2 e he a ha)
structure FnV(f:Func):Prop where
 fn:FnW f
 dom:DomW f
 uses:UsesW f
 vals:ValsW f
 nodup:(valsF f).Nodup
 edges:∀b∈f.blocks,∀e∈b.term.to,1≤e.block∧e.block<f.blocks.length
theorem checkFunc_v{f:Func}(hfit:f.fit)(h:checkFuncM f=0):FnV f:=by
 have hw:=checkFunc_ok hfit h
 obtain⟨hd,hdw⟩:=FnW.ds hfit h
 have he:∀b∈f.blocks,∀e∈b.term.to,1≤e.block∧e.block<f.blocks.length:=fun b hb e hx=>by
  have:=((end_ok (hw.blk b hb).fin).edges e hx).1
  omega
 refine⟨hw,domM_w hw.ne hw.few he,uses_w (by rw [←hd];exact hw.uses),fun v hv=>?_,?_,he⟩
 ·rw [←dsF_fst] at hv
  obtain⟨e,h1,rfl⟩:=List.mem_map.1 hv
  exact hdw.range e h1
 rw [←dsF_fst]
 exact hdw.nodup

theorem cellsAll_v(x:Value):cellsAll [AVal.v x]=[AVal.v x]:=rfl
theorem cells_os'(id len sz:Nat):(AVal.os id len sz).cells=[AVal.os id len sz]:=rfl
end Go.Proofs.Ytkhnjeblbiocaaa
namespace Go.Av

end Go.Av
namespace Go.Proofs.Ytkhnjeblbiocaaa
open Go.Av

structure GrW(f:Func):Prop where
 ne:f.blocks≠[]
 few:f.blocks.length≤128
 to:∀b∈f.blocks,b.term.to.length≤257
 edges:∀b∈f.blocks,∀e∈b.term.to,1≤e.block∧e.block<f.blocks.length
theorem FnW.gr{f:Func}(h:FnW f):GrW f :=
 ⟨h.ne,h.few,fun b hb=>to_few (end_ok (h.blk b hb).fin),fun b hb e he=>by
  have:=((end_ok (h.blk b hb).fin).edges e he).1
  omega⟩
structure SmW(f:Func):Prop where
 few:f.blocks.length≤128
 params:∀b∈f.blocks,b.params.length≤4096
 ins:∀b∈f.blocks,b.ins.length≤1024
 iargs:∀b∈f.blocks,∀i∈b.ins,i.args.length≤16
 cases:∀b∈f.blocks,b.term.cases.length≤256
 to:∀b∈f.blocks,b.term.to.length≤257
 eargs:∀b∈f.blocks,∀e∈b.term.to,e.args.length≤4096
def edC(es:List Edge):List AVal:=es.flatMap fun e=>[aI e.block,eIs e.args]
def outX(id:Nat)(es:List Edge):AVal:=if es=[] then .lst 2 [] .ex else .os id es.length 2
def outE(id:Nat)(es:List Edge):AVal:=if es=[] then .lst 2 [] .sh else .os id es.length 2
def blC(id:Nat)(b:Block):List AVal:=[eIs b.params,eInss b.ins,aI b.term.kind,aI b.term.arg,aI b.term.n,eIs b.term.cases,outE id b.term.to]
def blsC(ids:List Nat)(bs:List Block):List AVal:=(List.zipWith blC ids bs).flatten
def outBl(id:Nat)(bs:List Block):AVal:=if bs=[] then .lst 7 [] .ex else .os id bs.length 7
theorem outX_share(id:Nat)(es:List Edge):(outX id es).shareCell=outE id es:=by
 unfold outX outE
 split<;>rfl
theorem outE_share(id:Nat)(es:List Edge):(outE id es).shareCell=outE id es:=by
 unfold outE
 split<;>rfl
theorem edC_snoc(es:List Edge)(e:Edge):edC (es++[e])=edC es++[aI e.block,eIs e.args]:=by simp [edC]
theorem edC_len(es:List Edge):(edC es).length=es.length * 2:=by
 induction es with
 | nil=>rfl
 | cons e r ih =>
  have:edC (e::r)=[aI e.block,eIs e.args]++edC r:=rfl
  rw [this,List.length_append,ih]
  simp only [List.length_cons,List.length_nil]
  omega
theorem edC_upto(n:Nat)(es:List Edge):uptoL n (edC es):=by
 rw [uptoL_iff]
 intro c hc
 simp only [edC,List.mem_flatMap] at hc
 obtain⟨e,_,hc⟩:=hc
 simp only [List.mem_cons,List.not_mem_nil,or_false] at hc
 rcases hc with rfl | rfl
 ·trivial
 exact⟨aI_upto _ _,trivial⟩
theorem edC_share(es:List Edge):(edC es).map AVal.shareCell=cellsAll (es.map Edge.enc):=by
 induction es with
 | nil=>rfl
 | cons e r ih =>
  have h1:edC (e::r)=[aI e.block,eIs e.args]++edC r:=rfl
  have h2:cellsAll ((e::r).map Edge.enc)=[aI e.block,eIs e.args]++cellsAll (r.map Edge.enc):=rfl
  rw [h1,h2,List.map_append,ih]
  rfl
theorem blsC_snoc{ids:List Nat}{bs:List Block}(h:ids.length=bs.length)(id:Nat)(b:Block):blsC (ids++[id]) (bs++[b])=blsC ids bs++blC id b:=by
 unfold blsC
 rw [List.zipWith_append h]
 simp
theorem blsC_len:∀{ids:List Nat} {bs:List Block},ids.length=bs.length→(blsC ids bs).length=bs.length * 7
 | [],[],_=>rfl
 | i::ids,b::bs,h=>by
  have e:blsC (i::ids) (b::bs)=blC i b++blsC ids bs:=rfl
  rw [e,List.length_append,blsC_len (by simpa using h)]
  simp only [blC,List.length_cons,List.length_nil]
  omega
 | [],b::bs,h=>by simp at h
 | i::ids,[],h=>by simp at h
theorem blC_upto{n id:Nat}(b:Block)(h:b.term.to≠[]→id<n):uptoL n (blC id b):=by
 refine⟨⟨aI_upto _ _,trivial⟩,⟨Ins.map_upto _ _,trivial⟩,trivial,trivial,trivial,⟨aI_upto _ _,trivial⟩,?_,trivial⟩
 unfold outE
 split
 ·exact⟨trivial,trivial⟩
 rename_i q
 exact h q
structure CpO(b0:Nat)(ids:List Nat)(bs:List Block)(O:List AObj):Prop where
 li:ids.length=bs.length
 own:∀(j id:Nat) (b:Block),ids[j]?=some id→bs[j]?=some b→b.term.to≠[]→b0≤id∧O[id]?=some (.cells (edC b.term.to))
 inj:∀(i j id:Nat) (b c:Block),ids[i]?=some id→ids[j]?=some id→bs[i]?=some b→bs[j]?=some c→b.term.to≠[]→c.term.to≠[]→i=j
theorem blsC_upto{n:Nat}:∀{ids:List Nat} {bs:List Block},(∀(j id:Nat) (b:Block),ids[j]?=some id→bs[j]?=some b→b.term.to≠[]→id<n)→uptoL n (blsC ids bs):=by
 intro ids bs h
 rw [uptoL_iff]
 intro c hc
 unfold blsC at hc
 obtain⟨l,hl,hc⟩:=List.mem_flatten.1 hc
 obtain⟨j,hj⟩:=List.mem_iff_getElem?.1 hl
 rw [List.getElem?_zipWith] at hj
 cases h1:ids[j]? with
 | none=>rw [h1] at hj;cases hj
 | some id =>
  cases h2:bs[j]? with
  | none=>rw [h1,h2] at hj;cases hj
  | some b =>
   rw [h1,h2] at hj
   simp only [Option.some.injEq] at hj
   subst hj
   exact uptoL_iff.1 (blC_upto b (h j id b h1 h2)) c hc
structure CpI(O:List AObj)(cs:List AVal)(n:Nat)(O2:List AObj):Prop where
 len:O2.length=O.length+2
 up:∀o∈O2,o.upto O2.length
 keep:∀k,k<O.length→O2[k]?=O[k]?
 cell:O2[O.length]?=some (.cells cs)
 sp:O2[O.length+1]?=some (.spare n)
theorem CpI.start{O:List AObj}(hup:∀o∈O,o.upto O.length){cs:List AVal}(hcs:uptoL (O.length+2) cs):CpI O cs 0 (O++[.cells cs,.spare 0]) where
 len:=by simp
 up:=fun o ho=>by
  rw [List.length_append]
  rcases List.mem_append.1 ho with q | q
  ·exact AObj.upto_mono (by omega) (hup o q)
  simp only [List.mem_cons,List.not_mem_nil,or_false] at q
  rcases q with rfl | rfl
  ·exact hcs
  trivial
 keep:=fun k hk=>by rw [List.getElem?_append_left hk]
 cell:=by
  rw [List.getElem?_append_right (Nat.le_refl _),Nat.sub_self]
  rfl
 sp:=by
  rw [List.getElem?_append_right (by omega),show O.length+1 - O.length=1 by omega]
  rfl
theorem CpI.room{O:List AObj}{cs:List AVal}{n:Nat}{O2:List AObj}(h:CpI O cs n O2)(m:Nat):CpI O cs m (O2.set (O.length+1) (.spare m)) where
 len:=by rw [List.length_set,h.len]
 up:=by
  rw [List.length_set]
  exact uptoO_set h.up trivial
 keep:=fun k hk=>by rw [List.getElem?_set_ne (by omega),h.keep k hk]
 cell:=by rw [List.getElem?_set_ne (by omega),h.cell]
 sp:=by rw [List.getElem?_set_self (by rw [h.len];omega)]
structure CpE(O:List AObj)(cs:AVal→List AVal)(tid:Nat)(es:List Edge)(O3:List AObj):Prop where
 len:O.length+2≤O3.length
 up:∀o∈O3,o.upto O3.length
 keep:∀k,k<O.length→O3[k]?=O[k]?
 cell:O3[O.length]?=some (.cells (cs (outX tid es)))
 own:es≠[]→O.length+2≤tid∧O3[tid]?=some (.cells (edC es))
theorem CpE.start{O:List AObj}{cs:AVal→List AVal}{n:Nat}{O2:List AObj}(h:CpI O (cs (.lst 2 [] .ex)) n O2):CpE O cs 0 [] O2 where
 len:=by rw [h.len];omega
 up:=h.up
 keep:=h.keep
 cell:=h.cell
 own:=fun q=>absurd rfl q
theorem CpE.push{O:List AObj}{cs:AVal→List AVal}{tid:Nat}{es:List Edge}{O3 O4:List AObj}(h:CpE O cs tid es O3)(e:Edge)(hcs:∀v n,v.upto n→O.length+2≤n→uptoL n (cs v))(hlen:O4.length=O3.length)(hup:∀o∈O4,o.upto O3.length)
  (hsame:∀k,(es≠[]→k≠tid)→O4[k]?=O3[k]?) {c a:List AVal} (hc:c=edC (es++[e])) (ha:a=cs (.os O3.length (es.length+1) 2)):CpE O cs O3.length (es++[e]) ((O4++[AObj.cells c]).set O.length (.cells a)):=by
 have hl:=h.len
 have hx:outX O3.length (es++[e])=.os O3.length (es.length+1) 2:=by
  unfold outX
  rw [if_neg (by simp),List.length_append]
  rfl
 subst hc
 subst ha
 exact {
  len:=by rw [List.length_set,List.length_append,hlen];omega
  up:=by
   intro o ho
   rw [List.length_set,List.length_append,List.length_singleton,hlen]
   rcases List.mem_or_eq_of_mem_set ho with q | q
   ·rcases List.mem_append.1 q with q | q
    ·exact AObj.upto_mono (by omega) (hup o q)
    rw [List.mem_singleton] at q
    subst q
    exact edC_upto _ _
   subst q
   exact hcs _ _ (show O3.length<O3.length+1 by omega) (by omega)
  keep:=fun k hk=>by
   rw [List.getElem?_set_ne (by omega),List.getElem?_append_left (by omega),hsame k (fun q=>by have:=(h.own q).1;omega),h.keep k hk]
  cell:=by
   rw [List.getElem?_set_self (by rw [List.length_append];omega),hx]
  own:=fun _=>by
   refine⟨by omega,?_⟩
   rw [List.getElem?_set_ne (by omega),List.getElem?_append_right (by omega),hlen,Nat.sub_self]
   rfl }






def atI(l:List Int)(k:Int):Int:=l[k.toNat]?.getD (-1)

end Go.Proofs.Ytkhnjeblbiocaaa
namespace Go.Proofs.Ytkhnjeblbiocaaa
open Go.Av Go.Sort

end Go.Proofs.Ytkhnjeblbiocaaa
namespace Go.Proofs.Ytkhnjeblbiocaaa
open Go.Av

end Go.Proofs.Ytkhnjeblbiocaaa
namespace Go.Av
theorem awp_frzp{P:Program}{kb:Nat}{c:Code}{Q:AEx→St→Prop}{n:Nat}{slots:List (Nat×AVal)}{A:Nat}{C:Nat→List AVal}{N M:Nat}(pos:Nat→Nat)
  (hsc:∀i,∀d∈C i,d.scalar) (hl:∀i,(C i).length=M) (F:Nat→List AObj→Prop)
  (hF:∀i O,i<N→O[A]?=some (.cells (C i))→F i O→(C (i+1)=C i∧F (i+1) O) ∨
   ∃id o x y,id≠A∧O[id]?=some o∧¬o.isSpare∧o.live∧(C i)[pos i]?=some x∧(C (i+1))=(C i).set (pos i) y∧FSub O id x y∧F (i+1) ((O.set id .gone).set A (.cells (C (i+1))))) :
  ∀(m i:Nat) (O:List AObj),i+m=N→O[A]?=some (.cells (C i))→F i O→(∀O',O'.length=O.length→O'[A]?=some (.cells (C N))→F N O'→AWP P kb c Q ⟨n,slots,O'⟩)→AWP P kb c Q ⟨n,slots,O⟩
 | 0,i,O,hi,hA,hf,h=>by
  have:i=N:=by omega
  subst this
  exact h O rfl hA hf
 | m+1,i,O,hi,hA,hf,h=>by
  rcases hF i O (by omega) hA hf with⟨e,hf'⟩ | ⟨id,o,x,y,h1,h2,h3,h4,h5,h6,h7,hf'⟩
  ·exact awp_frzp pos hsc hl F hF m (i+1) O (by omega) (by rw [e];exact hA) hf' h
  have hAl:=lt_of_getElem? hA
  refine awp_freeze_in id h2 h3 h4 slots (fun s z hz=>⟨z,hz,.refl z⟩) A (Ne.symm h1) (C i) (C (i+1)) hA (by rw [hl,hl]) (hsc (i+1)) (fun j a b ha hb=>?_) (awp_frzp pos hsc hl F hF m (i+1) _ (by omega) (by rw [List.getElem?_set_self (by rw [List.length_set];exact hAl)]) hf' fun O' hO'=>h O' (by rw [hO',List.length_set,List.length_set]))
  rw [h6,List.getElem?_set] at hb
  split at hb
  ·rename_i e
   rw [←e,h5] at ha
   rw [if_pos (lt_of_getElem? h5)] at hb
   simp only [Option.some.injEq] at ha hb
   subst ha
   subst hb
   exact h7
  rw [ha] at hb
  simp only [Option.some.injEq] at hb
  subst hb
  exact .refl _
end Go.Av
namespace Go.Proofs.Ytkhnjeblbiocaaa
open Go.Av
def renE(A:List Int)(e:Edge):Edge:=⟨atI A e.block,e.args⟩
def renB(A:List Int)(b:Block):Block:=⟨b.params,b.ins,⟨b.term.kind,b.term.arg,b.term.n,b.term.cases,b.term.to.map (renE A)⟩⟩
theorem edC_append(a b:List Edge):edC (a++b)=edC a++edC b:=by simp [edC]
def mixE(A:List Int)(es:List Edge)(n:Nat):List Edge:=(es.take n).map (renE A)++es.drop n
theorem mixE_zero(A:List Int)(es:List Edge):mixE A es 0=es:=by simp [mixE]
theorem mixE_all(A:List Int){es:List Edge}{n:Nat}(h:es.length≤n):mixE A es n=es.map (renE A):=by
 unfold mixE
 rw [List.take_of_length_le h,List.drop_of_length_le h,List.append_nil]
theorem mixE_len(A:List Int)(es:List Edge)(n:Nat):(mixE A es n).length=es.length:=by
 unfold mixE
 rw [List.length_append,List.length_map,List.length_take,List.length_drop]
 omega
theorem edC_at{es:List Edge}{n:Nat}{e:Edge}(h:es[n]?=some e):(edC es)[n * 2]?=some (aI e.block)∧(edC es)[n * 2+1]?=some (eIs e.args):=by
 have hl:=lt_of_getElem? h
 have e1:es=es.take n++e::es.drop (n+1):=by
  rw [←drop_at h,List.take_append_drop]
 have hlen:(edC (es.take n)).length=n * 2:=by rw [edC_len,List.length_take];omega
 have e2:edC es=edC (es.take n)++(aI e.block::eIs e.args::edC (es.drop (n+1))):=by
  conv=>lhs;rw [e1]
  rw [edC_append]
  rfl
 rw [e2]
 refine⟨?_,?_⟩
 ·rw [List.getElem?_append_right (by omega),hlen,Nat.sub_self]
  rfl
 rw [List.getElem?_append_right (by omega),hlen,show n * 2+1 - n * 2=1 by omega]
 rfl
theorem mixE_at(A:List Int){es:List Edge}{n:Nat}{e:Edge}(h:es[n]?=some e):(mixE A es n)[n]?=some e:=by
 have hl:=lt_of_getElem? h
 unfold mixE
 rw [List.getElem?_append_right (by rw [List.length_map,List.length_take];omega),List.length_map,List.length_take,show n - min n es.length=0 by omega,List.getElem?_drop,Nat.add_zero,h]
theorem mixE_step(A:List Int){es:List Edge}{n:Nat}{e:Edge}(h:es[n]?=some e):splice (edC (mixE A es n)) (n * 2) [.v (.int .i64 (atI A e.block))]=edC (mixE A es (n+1)):=by
 have hl:=lt_of_getElem? h
 have hlen:(edC ((es.take n).map (renE A))).length=n * 2:=by rw [edC_len,List.length_map,List.length_take];omega
 have h1:edC (mixE A es n)=edC ((es.take n).map (renE A))++(aI e.block::eIs e.args::edC (es.drop (n+1))):=by
  unfold mixE
  rw [edC_append,drop_at h]
  rfl
 have h2:edC (mixE A es (n+1))=edC ((es.take n).map (renE A))++(aI (atI A e.block)::eIs e.args::edC (es.drop (n+1))):=by
  unfold mixE
  rw [edC_append,List.take_add_one,h,List.map_append,edC_append,List.append_assoc]
  rfl
 rw [splice_one _ (by rw [edC_len,mixE_len];omega),h1,h2,List.set_append_right _ _ (by omega),hlen,Nat.sub_self,List.set_cons_zero]
theorem renB_to(A:List Int)(b:Block):(renB A b).term.to=b.term.to.map (renE A):=rfl
theorem outE_ren(A:List Int)(id:Nat)(b:Block):outE id (b.term.to.map (renE A))=outE id b.term.to:=by
 unfold outE
 by_cases h:b.term.to=[]
 ·rw [if_pos h,if_pos (by rw [h];rfl)]
 rw [if_neg h,if_neg (by simpa using h),List.length_map]
theorem blC_ren(A:List Int)(id:Nat)(b:Block):blC id (renB A b)=blC id b:=by
 unfold blC
 rw [renB_to,outE_ren]
 rfl
def mixB:Nat→List Nat→List Block→List AVal
 | 0,ids,bs=>blsC ids bs
 | i+1,_::ids,b::bs=>b.enc.cells++mixB i ids bs
 | _+1,_,_=>[]
theorem blC_scalar(id:Nat)(b:Block):∀d∈blC id b,d.scalar:=fun d hd=>by
 simp only [blC,List.mem_cons,List.not_mem_nil,or_false] at hd
 rcases hd with rfl | rfl | rfl | rfl | rfl | rfl | rfl
 ·trivial
 ·trivial
 ·trivial
 ·trivial
 ·trivial
 ·trivial
 unfold outE
 split<;>trivial
theorem mixB_scalar:∀(i:Nat) (ids:List Nat) (bs:List Block),∀d∈mixB i ids bs,d.scalar
 | 0,ids,bs=>fun d hd=>by
  unfold mixB blsC at hd
  obtain⟨l,hl,hd⟩:=List.mem_flatten.1 hd
  obtain⟨j,hj⟩:=List.mem_iff_getElem?.1 hl
  rw [List.getElem?_zipWith] at hj
  cases h1:ids[j]? with
  | none=>rw [h1] at hj;cases hj
  | some id =>
   cases h2:bs[j]? with
   | none=>rw [h1,h2] at hj;cases hj
   | some b =>
    rw [h1,h2] at hj
    simp only [Option.some.injEq] at hj
    subst hj
    exact blC_scalar id b d hd
 | i+1,x::ids,b::bs=>fun d hd=>by
  rw [mixB] at hd
  rcases List.mem_append.1 hd with q | q
  ·simp only [Block.enc,AVal.cells,List.mem_cons,List.not_mem_nil,or_false] at q
   rcases q with rfl | rfl | rfl | rfl | rfl | rfl | rfl<;>trivial
  exact mixB_scalar i ids bs d q
 | i+1,[],[]=>fun d hd=>by cases hd
 | i+1,[],b::bs=>fun d hd=>by cases hd
 | i+1,x::ids,[]=>fun d hd=>by cases hd
theorem pay_ok{u:Unt}{m:Mach}(hm:MachOK u m)(ho:m.over=false)(hp:¬m.left<1):MachOK u (m.pay 1)∧(m.pay 1).over=false∧(m.pay 1).short=false∧(m.pay 1).left=m.left - 1∧(m.pay 1).frames=m.frames:=by
 have h0:=hm.left
 have hd:=hm.depth
 have hm1e:m.pay 1 = { m with left:=m.left - 1 }:=by simp [Mach.pay,hp]
 rw [hm1e]
 exact⟨⟨fun f hf=>(hm.frames f hf).of_heap (by rfl),fun a ha=>⟨(hm.arrs a ha).1,fun v hv=>((hm.arrs a ha).2 v hv).of_heap (by rfl)⟩,by simp only;omega,by simp only;omega,hm.out,hm.words,hm.fin,hm.val,hm.done,fun h=>hm.over h⟩,ho,(hm.over ho).2,rfl,rfl⟩
theorem pay_short{m:Mach}(hp:m.left<1):m.pay 1 = { m with short:=true,over:=true }:=by simp [Mach.pay,hp]
theorem run_ok{u:Unt}(hu:UnitOK u):∀(k:Nat) (m:Mach),MachOK u m→m.left.toNat+2≤k→(Mach.run u k m).over=true∧(Mach.run u k m).left≤m.left∧(m.over=false→(Mach.run u k m).short=false→(Mach.run u k m).left≤m.left - 1)∧((Mach.run u k m).short=false→MachOK u (Mach.run u k m))
 | 0,m,hm,hk=>by omega
 | k+1,m,hm,hk=>by
  cases hov:m.over with
  | true=>simp [Mach.run,hov,hm]
  | false =>
   have hl:=hm.left
   have hd:=hm.depth
   simp only [Mach.run,hov,Bool.false_eq_true,if_false]
   by_cases hp:m.left<1
   ·rw [pay_short hp]
    simp
   obtain⟨q1,q2,q3,q4,q5⟩:=pay_ok hm hov hp
   rw [if_neg (by simp [q3])]
   have hd1:(m.pay 1).frames.length+(m.pay 1).left+1≤2 ^ 40:=by rw [q4,q5];omega
   have hs:=MachOK.step hu q1 q2 hd1
   have hsl:=step_left u (m.pay 1) q1 hu q2
   have hs0:=hs.left
   have ih:=run_ok hu k _ hs (by omega)
   refine⟨ih.1,by have:=ih.2.1;omega,fun _ _=>by have:=ih.2.1;omega,ih.2.2.2⟩
namespace Mach
def shift(m:Mach)(c:Int):Mach:={ m with left:=m.left+c }
theorem shift_pay(m:Mach)(c n:Int)(h:¬m.left<n)(h':¬m.left+c<n):(m.shift c).pay n=(m.pay n).shift c:=by
 have h1:m.pay n = { m with left:=m.left - n }:=by simp [pay,h]
 have h2:(m.shift c).pay n = { m.shift c with left:=(m.shift c).left - n }:=by simp [pay,shift,h']
 rw [h1,h2]
 simp only [shift]
 congr 1
 omega
theorem shift_allocate(m:Mach)(c:Int)(size fill:SV)(hs:(m.allocate size fill).1.short=false)(hl:0≤(m.allocate size fill).1.left+c):(m.shift c).allocate size fill=((m.allocate size fill).1.shift c,(m.allocate size fill).2):=by
 unfold allocate at hs hl ⊢
 by_cases h1:size.kind≠0
 ·rw [if_pos h1,if_pos h1]
 rw [if_neg h1] at hs hl
 rw [if_neg h1,if_neg h1]
 by_cases h2:size.n<0∨1024<size.n
 ·rw [if_pos h2,if_pos h2]
 rw [if_neg h2] at hs hl
 rw [if_neg h2,if_neg h2]
 by_cases h3:(m.pay size.n).short=true
 ·rw [if_pos h3] at hs
  simp only at hs
  rw [hs] at h3
  cases h3
 rw [if_neg h3] at hl
 have h4:¬m.left<size.n:=fun q=>h3 (by simp [pay,q])
 have h5:m.pay size.n = { m with left:=m.left - size.n }:=by simp [pay,h4]
 have h7:(m.pay size.n).left=m.left - size.n:=by rw [h5]
 simp only [h7] at hl
 rw [shift_pay m c size.n h4 (by omega)]
 have h6:¬((m.pay size.n).shift c).short=true:=h3
 rw [if_neg h6,if_neg h3]
 rfl
theorem shift_effect(m:Mach)(c:Int)(i:Ins)(args:List SV)(hs:(m.effect i args).1.short=false)(hl:0≤(m.effect i args).1.left+c):(m.shift c).effect i args=((m.effect i args).1.shift c,(m.effect i args).2):=by
 unfold effect at hs hl ⊢
 by_cases h15:i.op=15
 ·rw [if_pos h15,if_pos h15]
  show(if _ then _ else if m.out.length=1000 then _ else _)=_
  split
  ·rfl
  split<;>rfl
 rw [if_neg h15] at hs hl
 rw [if_neg h15,if_neg h15]
 by_cases h16:i.op=16
 ·rw [if_pos h16] at hs hl
  rw [if_pos h16,if_pos h16]
  exact shift_allocate m c _ _ hs hl
 rw [if_neg h16,if_neg h16]
 by_cases h18:i.op=18
 ·rw [if_pos h18,if_pos h18]
  split
  ·rfl
  split<;>rfl
 have hh:(m.shift c).heap=m.heap:=rfl
 rw [if_neg h18,if_neg h18,hh]
 by_cases k1:(argS args 0).kind≠3∨(i.op≠17∧(argS args 1).kind≠0)
 ·rw [if_pos k1,if_pos k1]
 rw [if_neg k1,if_neg k1]
 by_cases k2:i.op=17
 ·rw [if_pos k2,if_pos k2]
 rw [if_neg k2,if_neg k2]
 by_cases k3:(argS args 1).n<0∨((arrOf m.heap (argS args 0).arr).length:Int)≤(argS args 1).n
 ·rw [if_pos k3,if_pos k3]
 rw [if_neg k3,if_neg k3]
 by_cases k4:i.op=19
 ·rw [if_pos k4,if_pos k4]
 rw [if_neg k4,if_neg k4]
 rfl
theorem shift_exec(m:Mach)(c:Int)(i:Ins)(args:List SV)(hs:(m.exec i args).1.short=false)(hl:0≤(m.exec i args).1.left+c):(m.shift c).exec i args=((m.exec i args).1.shift c,(m.exec i args).2):=by
 unfold exec at hs hl ⊢
 by_cases h0:i.op=0
 ·rw [if_pos h0,if_pos h0]
 rw [if_neg h0] at hs hl
 rw [if_neg h0,if_neg h0]
 by_cases h1:1≤i.op∧i.op≤7
 ·rw [if_pos h1,if_pos h1]
  split<;>rfl
 rw [if_neg h1] at hs hl
 rw [if_neg h1,if_neg h1]
 by_cases h8:i.op=8
 ·rw [if_pos h8,if_pos h8]
 rw [if_neg h8] at hs hl
 rw [if_neg h8,if_neg h8]
 by_cases h9:i.op=9
 ·rw [if_pos h9,if_pos h9]
 rw [if_neg h9] at hs hl
 rw [if_neg h9,if_neg h9]
 by_cases h10:i.op=10∨i.op=11∨i.op=12∨i.op=21
 ·rw [if_pos h10,if_pos h10]
 rw [if_neg h10] at hs hl
 rw [if_neg h10,if_neg h10]
 by_cases h22:i.op=22∨i.op=23∨i.op=24
 ·rw [if_pos h22,if_pos h22]
 rw [if_neg h22] at hs hl
 rw [if_neg h22,if_neg h22]
 by_cases h100:i.op=100
 ·rw [if_pos h100,if_pos h100]
 rw [if_neg h100] at hs hl
 rw [if_neg h100,if_neg h100]
 exact shift_effect m c i args hs hl
theorem settle_short(f:Fr)(to:Int)(r:Mach×SV×Int):(settle f to r).short=r.1.short∧(settle f to r).left=r.1.left:=by
 unfold settle
 split<;>exact⟨rfl,rfl⟩
end Mach
theorem run_over'{u:Unt}{m:Mach}(h:m.over=true)(k:Nat):Mach.run u k m=m:=by
 cases k with
 | zero=>rfl
 | succ k=>simp [Mach.run,h]
end Go.Proofs.Ytkhnjeblbiocaaa
namespace Go.Proofs.Ytkhnjeblbiocaaa
open Go.Av
def trI(s:Int→Int)(i:Ins):Ins:=⟨s i.to,i.op,i.n,i.args.map s⟩
theorem getS_put(es:List (Int×SV))(k j:Int)(v:SV):getS (putS' es k v) j=if k=j then v else getS es j:=by
 unfold getS
 induction es with
 | nil =>
  simp only [putS',lookS]
  split<;>rfl
 | cons p r ih =>
  obtain⟨a,x⟩:=p
  simp only [putS']
  by_cases h:a=k
  ·rw [if_pos h]
   subst h
   simp only [lookS]
   split<;>rfl
  rw [if_neg h]
  simp only [lookS]
  by_cases h2:a=j
  ·rw [if_pos h2,if_pos h2,if_neg (fun q=>h (by rw [h2,q]))]
  rw [if_neg h2,if_neg h2]
  exact ih
def VR(D:Int→Prop)(s:Int→Int)(es es':List (Int×SV)):Prop:=∀k,D k→getS es' (s k)=getS es k
section
variable {D:Int→Prop} {s:Int→Int}
theorem VR.put(hi:∀j k,D j→D k→s j=s k→j=k){es es':List (Int×SV)}(h:VR D s es es'){k:Int}(hk:D k)(v:SV):VR D s (putS' es k v) (putS' es' (s k) v):=fun j hj=>by
 rw [getS_put,getS_put]
 by_cases e:k=j
 ·rw [if_pos e,if_pos (by rw [e])]
 rw [if_neg e,if_neg (fun q=>e (hi k j hk hj q)),h j hj]
theorem VR.bind(hi:∀j k,D j→D k→s j=s k→j=k):∀(ps:List Int) (l:List SV) {es es':List (Int×SV)},(∀p∈ps,D p)→VR D s es es'→VR D s (bindS es ps l) (bindS es' (ps.map s) l)
 | [],l,es,es',_,h=>by simpa [bindS] using h
 | p::ps,[],es,es',_,h=>by simpa [bindS] using h
 | p::ps,a::l,es,es',hp,h=>by
  simp only [bindS,List.map_cons]
  exact VR.bind hi ps l (fun q hq=>hp q (List.mem_cons_of_mem _ hq)) (h.put hi (hp p List.mem_cons_self) a)
theorem VR.take{es es':List (Int×SV)}(h:VR D s es es'){l:List Int}(hl:∀a∈l,D a):takeS es' (l.map s)=takeS es l:=by
 unfold takeS
 rw [List.map_map]
 exact List.map_congr_left fun a ha=>h a (hl a ha)
theorem VR.other{es es':List (Int×SV)}(h:VR D s es es'){j:Int}(hj:∀k,D k→s k≠j)(v:SV):VR D s es (putS' es' j v):=fun k hk=>by
 rw [getS_put,if_neg fun q=>hj k hk q.symm,h k hk]
end
structure EdgeTr(v:Unt)(s:Int→Int)(D L:Int→Prop)(β:Int→Int)(pre:Int→List Ins)(c:Int)(fn:Int)(e e':Edge):Prop where
 live:L e.block
 args:∀a∈e.args,D a
 way:(e'.block=β e.block∧e'.args=e.args.map s∧1+((pre e.block).length:Int)≤c) ∨
  ∃(C:Block) (e2:Edge),C=blkOf (fnOf v fn) e'.block∧C.ins=[]∧C.term.kind=1∧C.term.to=[e2]∧e2.block=β e.block∧2+((pre e.block).length:Int)≤c ∧
   ∀es,takeS (bindS es C.params (takeS es e'.args)) e2.args=takeS es (e.args.map s)∧∀k,D k→getS (bindS es C.params (takeS es e'.args)) (s k)=getS es (s k)
structure BlkTr(v:Unt)(s:Int→Int)(D L:Int→Prop)(β:Int→Int)(pre:Int→List Ins)(c:Int)(fn:Int)(b:Int)(B B':Block):Prop where
 params:B'.params=B.params.map s∧∀p∈B.params,D p
 ins:B'.ins=pre b++B.ins.map (trI s)
 vals:∀i∈B.ins,D i.to∧∀a∈i.args,D a
 hd:∀i∈pre b,i.op=0∧∀k,D k→s k≠i.to
 term:B'.term.kind=B.term.kind∧B'.term.n=B.term.n∧B'.term.cases=B.term.cases∧B'.term.to.length=B.term.to.length
 arg:B.term.kind≠1→B.term.kind≠4→B'.term.arg=s B.term.arg∧D B.term.arg
 edges:∀(k:Nat) e e',B.term.to[k]?=some e→B'.term.to[k]?=some e'→EdgeTr v s D L β pre c fn e e'
structure UntTr(u v:Unt)(s:Int→Int)(D L:Int→Int→Prop)(β:Int→Int→Int)(pre:Int→Int→List Ins)(c:Int):Prop where
 fns:v.fns.length=u.fns.length
 main:v.main=u.main
 inj:∀fn j k:Int,D fn j→D fn k→s j=s k→j=k
 zero:∀fn:Int,0≤fn→fn<u.fns.length→L fn 0∧β fn 0=0∧1+((pre fn 0).length:Int)≤c
 blks:∀fn b:Int,0≤fn→fn<u.fns.length→L fn b→BlkTr v s (D fn) (L fn) (β fn) (pre fn) c fn b (blkOf (fnOf u fn) b) (blkOf (fnOf v fn) (β fn b))
namespace Mach
def put(m:Mach)(fs:List Fr)(l:Int):Mach:={ m with frames:=fs,left:=l }
theorem frames_allocate(m:Mach)(fs:List Fr)(size fill:SV):({ m with frames:=fs }:Mach).allocate size fill=({ (m.allocate size fill).1 with frames:=fs },(m.allocate size fill).2):=by
 unfold allocate
 by_cases h1:size.kind≠0
 ·rw [if_pos h1,if_pos h1]
 rw [if_neg h1,if_neg h1]
 by_cases h2:size.n<0∨1024<size.n
 ·rw [if_pos h2,if_pos h2]
 rw [if_neg h2,if_neg h2]
 have e:({ m with frames:=fs }:Mach).pay size.n = { m.pay size.n with frames:=fs }:=by
  unfold pay
  by_cases h3:m.left<size.n
  ·rw [if_pos h3,if_pos h3]
  rw [if_neg h3,if_neg h3]
 rw [e]
 by_cases h4:(m.pay size.n).short=true
 ·rw [if_pos h4,if_pos h4]
 rw [if_neg h4,if_neg h4]
theorem frames_effect(m:Mach)(fs:List Fr)(i:Ins)(args:List SV):({ m with frames:=fs }:Mach).effect i args=({ (m.effect i args).1 with frames:=fs },(m.effect i args).2):=by
 unfold effect
 by_cases h15:i.op=15
 ·rw [if_pos h15,if_pos h15]
  show(if _ then _ else if m.out.length=1000 then _ else _)=_
  split
  ·rfl
  split<;>rfl
 rw [if_neg h15,if_neg h15]
 by_cases h16:i.op=16
 ·rw [if_pos h16,if_pos h16]
  exact frames_allocate m fs _ _
 rw [if_neg h16,if_neg h16]
 by_cases h18:i.op=18
 ·rw [if_pos h18,if_pos h18]
  split
  ·rfl
  split<;>rfl
 rw [if_neg h18,if_neg h18]
 by_cases k1:(argS args 0).kind≠3∨(i.op≠17∧(argS args 1).kind≠0)
 ·rw [if_pos k1,if_pos k1]
 rw [if_neg k1,if_neg k1]
 by_cases k2:i.op=17
 ·rw [if_pos k2,if_pos k2]
 rw [if_neg k2,if_neg k2]
 show(if (argS args 1).n<0∨((arrOf m.heap (argS args 0).arr).length:Int)≤(argS args 1).n then _ else _)=_
 by_cases k3:(argS args 1).n<0∨((arrOf m.heap (argS args 0).arr).length:Int)≤(argS args 1).n
 ·rw [if_pos k3,if_pos k3]
 rw [if_neg k3,if_neg k3]
 by_cases k4:i.op=19
 ·rw [if_pos k4,if_pos k4]
 rw [if_neg k4,if_neg k4]
theorem frames_exec(m:Mach)(fs:List Fr)(i:Ins)(args:List SV):({ m with frames:=fs }:Mach).exec i args=({ (m.exec i args).1 with frames:=fs },(m.exec i args).2):=by
 unfold exec
 by_cases h0:i.op=0
 ·rw [if_pos h0,if_pos h0]
 rw [if_neg h0,if_neg h0]
 by_cases h1:1≤i.op∧i.op≤7
 ·rw [if_pos h1,if_pos h1]
  split<;>rfl
 rw [if_neg h1,if_neg h1]
 by_cases h8:i.op=8
 ·rw [if_pos h8,if_pos h8]
 rw [if_neg h8,if_neg h8]
 by_cases h9:i.op=9
 ·rw [if_pos h9,if_pos h9]
 rw [if_neg h9,if_neg h9]
 by_cases h10:i.op=10∨i.op=11∨i.op=12∨i.op=21
 ·rw [if_pos h10,if_pos h10]
 rw [if_neg h10,if_neg h10]
 by_cases h22:i.op=22∨i.op=23∨i.op=24
 ·rw [if_pos h22,if_pos h22]
 rw [if_neg h22,if_neg h22]
 by_cases h100:i.op=100
 ·rw [if_pos h100,if_pos h100]
 rw [if_neg h100,if_neg h100]
 exact frames_effect m fs i args
theorem put_exec(m:Mach)(fs:List Fr)(l:Int)(i:Ins)(args:List SV)(hs:(m.exec i args).1.short=false)(h0:0≤(m.exec i args).1.left)(hl:m.left≤l) :
  (m.put fs l).exec i args=((m.exec i args).1.put fs (l - (m.left - (m.exec i args).1.left)),(m.exec i args).2):=by
 have e:m.put fs l = { m.shift (l - m.left) with frames:=fs }:=by
  unfold put shift
  simp only [Mach.mk.injEq,true_and,and_true]
  omega
 rw [e,frames_exec,shift_exec m _ i args hs (by omega)]
 unfold put shift
 simp only [Prod.mk.injEq,Mach.mk.injEq,true_and,and_true]
 omega
inductive Steps(u:Unt):Nat→Mach→Mach→Prop
 | refl (m:Mach):Steps u 0 m m
 | cons {n:Nat} {m m':Mach}:m.over=false→m.short=false→1≤m.left→Steps u n (step u { m with left:=m.left - 1 }) m'→Steps u (n+1) m m'
theorem pay_one{m:Mach}(h:1≤m.left):m.pay 1 = { m with left:=m.left - 1 }:=by
 unfold pay
 rw [if_neg (by omega)]
theorem Steps.trans{u:Unt}{a b:Nat}{m m' m'':Mach}(h:Steps u a m m')(k:Steps u b m' m''):Steps u (a+b) m m'':=by
 induction h with
 | refl m=>rw [Nat.zero_add];exact k
 | cons h1 h2 h3 _ ih =>
  rw [Nat.add_right_comm]
  exact .cons h1 h2 h3 (ih k)
theorem Steps.run{u:Unt}{n:Nat}{m m':Mach}(h:Steps u n m m')(k:Nat):Mach.run u (n+k) m=Mach.run u k m':=by
 induction h with
 | refl m=>rw [Nat.zero_add]
 | cons h1 h2 h3 _ ih =>
  rw [Nat.add_right_comm]
  simp only [Mach.run]
  rw [if_neg (by rw [h1];simp),pay_one h3,if_neg (by simp only;rw [h2];simp)]
  exact ih
theorem Steps.before{u:Unt}{n:Nat}{m m':Mach}(h:Steps u n m m'):∀k,k<n→(Mach.run u k m).over=false:=by
 induction h with
 | refl m=>intro k hk;omega
 | cons h1 h2 h3 _ ih =>
  intro k hk
  cases k with
  | zero=>exact h1
  | succ k =>
   simp only [Mach.run]
   rw [if_neg (by rw [h1];simp),pay_one h3,if_neg (by simp only;rw [h2];simp)]
   exact ih k (by omega)
end Mach
section
variable (u v:Unt) (s:Int→Int) (D L:Int→Int→Prop) (β:Int→Int→Int) (pre:Int→Int→List Ins)
structure FR(f f':Fr):Prop where
 ids:f'.fid=f.fid∧f'.mid=f.mid∧f'.fn=f.fn
 fn:0≤f.fn∧f.fn<u.fns.length
 live:L f.fn f.blk
 blk:f'.blk=β f.fn f.blk
 pos:f'.pos=(pre f.fn f.blk).length+f.pos
 vals:VR (D f.fn) s f.vals f'.vals
def ToR(f f':Fr):List Fr→Prop
 | []=>True
 | g::_=>f'.to=s f.to∧D g.fn f.to
def FsR:List Fr→List Fr→Prop
 | [],[]=>True
 | f::r,f'::r'=>FR u s D L β pre f f'∧ToR s D f f' r∧FsR r r'
 | _,_=>False
def Rel(c d:Int)(m m':Mach):Prop:=∃fs l,m'=m.put fs l∧FsR u s D L β pre m.frames fs∧c * m.left≤l∧l≤m.left+d
end
section
variable {u v:Unt} {s:Int→Int} {D L:Int→Int→Prop} {β:Int→Int→Int} {pre:Int→Int→List Ins} {c d:Int}
theorem FsR.cons{f:Fr}{r:List Fr}{fs:List Fr}(h:FsR u s D L β pre (f::r) fs):∃f' r',fs=f'::r'∧FR u s D L β pre f f'∧ToR s D f f' r∧FsR u s D L β pre r r':=by
 cases fs with
 | nil=>exact False.elim h
 | cons f' r'=>exact⟨f',r',rfl,h.1,h.2.1,h.2.2⟩
theorem ahead{fn b:Int}{B':Block}{rest:List Ins}(hb:blkOf (fnOf v fn) (β fn b)=B')(hi:B'.ins=pre fn b++rest)(hp:∀i∈pre fn b,i.op=0∧∀k,D fn k→s k≠i.to){m:Mach}(ho:m.over=false)(hs:m.short=false){f':Fr}{r':List Fr}(h1:f'.fn=fn)(h2:f'.blk=β fn b){es:List (Int×SV)} :
  ∀(n:Nat) (k:Nat) (vals':List (Int×SV)) (l:Int),k+n=(pre fn b).length→(n:Int)≤l→VR (D fn) s es vals' →
   ∃vals'',VR (D fn) s es vals''∧Mach.Steps v n (m.put ({ f' with pos:=k,vals:=vals' }::r') l) (m.put ({ f' with pos:=(pre fn b).length,vals:=vals'' }::r') (l - n))
 | 0,k,vals',l,hk,hl,hv=>⟨vals',hv,by
   have:l - ((0:Nat):Int)=l:=by omega
   rw [this,show k=(pre fn b).length by omega]
   exact .refl _⟩
 | n+1,k,vals',l,hk,hl,hv=>by
  obtain⟨i,hi2⟩:∃i,(pre fn b)[k]?=some i:=⟨(pre fn b)[k]'(by omega),List.getElem?_eq_getElem _⟩
  obtain⟨q1,q2⟩:=hp i (List.mem_of_getElem? hi2)
  obtain⟨vals'',e1,e2⟩:=ahead hb hi hp ho hs (f':=f') (r':=r') h1 h2 n (k+1) (putS' vals' i.to (.word i.n)) (l - 1) (by omega) (by omega) (hv.other q2 _)
  refine⟨vals'',e1,.cons ho hs (by show 1≤l;omega) ?_⟩
  have hst:Mach.step v { m.put ({ f' with pos:=k,vals:=vals' }::r') l with left:=l - 1 }=m.put ({ f' with pos:=k+1,vals:=putS' vals' i.to (.word i.n) }::r') (l - 1):=by
   unfold Mach.step Mach.put
   simp only
   rw [h1,h2,hb,hi,List.getElem?_append_left (lt_of_getElem? hi2),hi2]
   simp only
   unfold Mach.act
   rw [if_neg (by omega),if_neg (by omega)]
   unfold Mach.exec
   rw [if_pos q1]
   rfl
  rw [show l - ((n+1:Nat):Int)=l - 1 - n by omega]
  show Mach.Steps v n (Mach.step v { m.put ({ f' with pos:=k,vals:=vals' }::r') l with left:=l - 1 }) _
  rw [hst]
  exact e2
theorem mul_down{c x l a:Int}(hc:1≤c)(h:c * x≤l)(ha:0≤a):c * (x - a)≤l - a:=by
 have h1:c * (x - a)=c * x - c * a:=Int.mul_sub ..
 have h2:1 * a≤c * a:=Int.mul_le_mul_of_nonneg_right hc ha
 omega
def Goes(u v:Unt)(s:Int→Int)(D L:Int→Int→Prop)(β:Int→Int→Int)(pre:Int→Int→List Ins)(c d:Int)(m m':Mach):Prop:=∃n m'',Mach.Steps v n m' m''∧Rel u s D L β pre c d m m''
theorem Goes.now{m m':Mach}(h:Rel u s D L β pre c d m m'):Goes u v s D L β pre c d m m':=⟨0,m',.refl _,h⟩
theorem arrive(T:UntTr u v s D L β pre c){m:Mach}(ho:m.over=false)(hs:m.short=false){f f':Fr}{r r':List Fr}{l:Int}(hm:m.frames=f::r)
  (h1:f'.fid=f.fid∧f'.mid=f.mid∧f'.fn=f.fn) (h2:0≤f.fn∧f.fn<u.fns.length) (h3:L f.fn f.blk) (h4:f'.blk=β f.fn f.blk) (h5:f.pos=0) (h6:f'.pos=0) (hv:VR (D f.fn) s f.vals f'.vals)
  (ht:ToR s D f f' r) (hr:FsR u s D L β pre r r') (l0:0≤m.left) (l1:c * m.left+(pre f.fn f.blk).length≤l) (l2:l - (pre f.fn f.blk).length≤m.left+d) (hc:1≤c):Goes u v s D L β pre c d m (m.put (f'::r') l):=by
 have hB:=T.blks f.fn f.blk h2.1 h2.2 h3
 have hcl:0≤c * m.left:=Int.mul_nonneg (by omega) l0
 obtain⟨vals'',e1,e2⟩:=ahead (s:=s) (D:=D) (pre:=pre) (β:=β) (v:=v) rfl hB.ins hB.hd ho hs (f':=f') (r':=r') h1.2.2 h4 (es:=f.vals) (pre f.fn f.blk).length 0 f'.vals l (by omega) (by omega) hv
 have e:({ f' with pos:=0,vals:=f'.vals }:Fr)=f':=by
  rw [←h6]
 rw [e] at e2
 refine⟨_,_,e2,_,_,rfl,?_,by omega,by omega⟩
 rw [hm]
 exact⟨⟨h1,h2,h3,h4,by rw [h5];rfl,e1⟩,by cases r<;>exact ht,hr⟩
theorem follow_rel(T:UntTr u v s D L β pre c)(hc:1≤c){m:Mach}(ho:m.over=false)(hs:m.short=false){f f':Fr}{r r':List Fr}{y:Int}(hm:m.frames=f::r)(hF:FR u s D L β pre f f')(hT:ToR s D f f' r)(hR:FsR u s D L β pre r r')
  (l0:0≤m.left) (l1:c * m.left+(c - 1)≤y) (l2:y≤m.left+d) {e e':Edge} (he:EdgeTr v s (D f.fn) (L f.fn) (β f.fn) (pre f.fn) c f.fn e e'):Goes u v s D L β pre c d (m.follow u f e) ((m.put (f'::r') y).follow v f' e'):=by
 obtain⟨fid',mid',fn',blk',pos',to',vals'⟩:=f'
 obtain⟨⟨h1,h2,h3⟩,g2,g3,g4,g5,g6⟩:=hF
 simp only at h1 h2 h3 g4 g5 g6
 subst h1 h2 h3
 have hB:=T.blks f.fn e.block g2.1 g2.2 he.live
 have ht:takeS vals' (e.args.map s)=takeS f.vals e.args:=g6.take he.args
 have hfr:(m.follow u f e).frames = { f with blk:=e.block,pos:=0,vals:=bindS f.vals (blkOf (fnOf u f.fn) e.block).params (takeS f.vals e.args) }::r:=by
  show _::m.frames.tail=_
  rw [hm]
  rfl
 rcases he.way with⟨w1,w2,w3⟩ | ⟨C,e2,w1,w2,w3,w4,w5,w6,w7⟩
 ·have e0:(m.put (⟨f.fid,f.mid,f.fn,blk',pos',to',vals'⟩::r') y).follow v ⟨f.fid,f.mid,f.fn,blk',pos',to',vals'⟩ e'=(m.follow u f e).put (⟨f.fid,f.mid,f.fn,β f.fn e.block,0,to',bindS vals' ((blkOf (fnOf u f.fn) e.block).params.map s) (takeS f.vals e.args)⟩::r') y:=by
   unfold Mach.follow
   simp only
   rw [w1,w2,hB.params.1,ht]
   rfl
  rw [e0]
  exact arrive T (m:=m.follow u f e) ho hs hfr ⟨rfl,rfl,rfl⟩ g2 he.live rfl rfl rfl (VR.bind (T.inj f.fn) _ _ hB.params.2 g6) hT hR l0 (by
   show c * m.left+(pre f.fn e.block).length≤y
   omega) (by
   show y - (pre f.fn e.block).length≤m.left+d
   omega) hc
 obtain⟨x1,x2⟩:=w7 vals'
 have hcl:0≤c * m.left:=Int.mul_nonneg (by omega) l0
 have hv1:VR (D f.fn) s f.vals (bindS vals' C.params (takeS vals' e'.args)):=fun k hk=>by rw [x2 k hk,g6 k hk]
 generalize hes:bindS vals' C.params (takeS vals' e'.args)=es1 at *
 have e0:(m.put (⟨f.fid,f.mid,f.fn,blk',pos',to',vals'⟩::r') y).follow v ⟨f.fid,f.mid,f.fn,blk',pos',to',vals'⟩ e'=m.put (⟨f.fid,f.mid,f.fn,e'.block,0,to',es1⟩::r') y:=by
  unfold Mach.follow
  simp only
  rw [←w1,hes]
  rfl
 have e1:Mach.step v { m.put (⟨f.fid,f.mid,f.fn,e'.block,0,to',es1⟩::r') y with left:=y - 1 }=(m.follow u f e).put (⟨f.fid,f.mid,f.fn,β f.fn e.block,0,to',bindS es1 ((blkOf (fnOf u f.fn) e.block).params.map s) (takeS f.vals e.args)⟩::r') (y - 1):=by
  unfold Mach.step Mach.put
  simp only
  rw [←w1,w2]
  simp only [List.getElem?_nil]
  unfold Mach.finish
  rw [w3,if_neg (by decide),if_pos rfl,w4]
  simp only [List.getElem?_cons_zero,Option.getD_some]
  unfold Mach.follow
  simp only
  rw [x1,ht,w5,hB.params.1]
  rfl
 rw [e0]
 obtain⟨n,m'',s1,s2⟩:=arrive T (m:=m.follow u f e) (l:=y - 1) ho hs hfr (f':=⟨f.fid,f.mid,f.fn,β f.fn e.block,0,to',bindS es1 ((blkOf (fnOf u f.fn) e.block).params.map s) (takeS f.vals e.args)⟩) ⟨rfl,rfl,rfl⟩ g2 he.live rfl rfl rfl (VR.bind (T.inj f.fn) _ _ hB.params.2 hv1) hT hR l0 (by
  show c * m.left+(pre f.fn e.block).length≤y - 1
  omega) (by
  show y - 1 - (pre f.fn e.block).length≤m.left+d
  omega) hc
 refine⟨n+1,m'',.cons ho hs (by show 1≤y;omega) ?_,s2⟩
 show Mach.Steps v n (Mach.step v { m.put (⟨f.fid,f.mid,f.fn,e'.block,0,to',es1⟩::r') y with left:=y - 1 }) m''
 rw [e1]
 exact s1
theorem leave_rel(T:UntTr u v s D L β pre c){m:Mach}{f f':Fr}{r r':List Fr}{y:Int}(hm:m.frames=f::r)(hT:ToR s D f f' r)(hR:FsR u s D L β pre r r')(l1:c * m.left≤y)(l2:y≤m.left+d)(x:SV) :
  Goes u v s D L β pre c d (m.leave f x) ((m.put (f'::r') y).leave f' x):=by
 refine .now ?_
 unfold Mach.leave
 rw [hm]
 simp only [List.tail_cons,Mach.put]
 cases r with
 | nil =>
  cases r' with
  | nil=>exact⟨[],y,rfl,trivial,l1,l2⟩
  | cons g' r'=>exact False.elim hR
 | cons g r =>
  obtain⟨g',r2,rfl,hG,hT2,hR2⟩:=hR.cons
  obtain⟨t1,t2⟩:=hT
  simp only
  refine⟨{ g' with vals:=putS' g'.vals f'.to x }::r2,y,rfl,⟨⟨hG.ids,hG.fn,hG.live,hG.blk,hG.pos,?_⟩,by cases r<;>exact hT2,hR2⟩,l1,l2⟩
  show VR (D g.fn) s (putS' g.vals f.to x) (putS' g'.vals f'.to x)
  rw [t1]
  exact hG.vals.put (T.inj g.fn) t2 x
theorem enter_rel(T:UntTr u v s D L β pre c)(hc:1≤c){m:Mach}(ho:m.over=false)(hs:m.short=false){fs':List Fr}{y:Int}{g:Fr}{r:List Fr}(hm:m.frames=g::r)(hR:FsR u s D L β pre m.frames fs')(l0:0≤m.left)(l1:c * m.left+(c - 1)≤y)(l2:y≤m.left+d)
  {fn:Int} (hfn:0≤fn∧fn<u.fns.length) (args:List SV) {to to':Int} (ht:to'=s to∧D g.fn to):Goes u v s D L β pre c d (m.enter u fn args to) ((m.put fs' y).enter v fn args to'):=by
 obtain⟨z1,z2,z3⟩:=T.zero fn hfn.1 hfn.2
 have hB:=T.blks fn 0 hfn.1 hfn.2 z1
 rw [z2] at hB
 have e0:(m.put fs' y).enter v fn args to'=(m.enter u fn args to).put (⟨m.next+1,m.next,fn,0,0,to',bindS [] ((blkOf (fnOf u fn) 0).params.map s) args⟩::fs') y:=by
  unfold Mach.enter
  rw [hB.params.1]
  rfl
 rw [e0]
 refine arrive T (m:=m.enter u fn args to) ho hs (f:=⟨m.next+1,m.next,fn,0,0,to,bindS [] (blkOf (fnOf u fn) 0).params args⟩) (r:=m.frames) rfl ⟨rfl,rfl,rfl⟩ hfn z1 z2.symm rfl rfl (VR.bind (T.inj fn) _ _ hB.params.2 (fun _ _=>rfl)) ?_ hR l0 (by
  show c * m.left+(pre fn 0).length≤y
  omega) (by
  show y - (pre fn 0).length≤m.left+d
  omega) hc
 rw [hm]
 exact ht
theorem settle_put(E:Mach)(E2:SV×Int)(f f':Fr)(fs:List Fr)(to to' y:Int):Mach.settle f' to' (E.put fs y,E2)=(Mach.settle f to (E,E2)).put ({ f' with vals:=putS' f'.vals to' E2.1 }::fs.tail) y:=by
 unfold Mach.settle
 simp only
 split<;>rfl
theorem settle_frames(E:Mach)(E2:SV×Int)(f:Fr)(to:Int):(Mach.settle f to (E,E2)).frames = { f with vals:=putS' f.vals to E2.1 }::E.frames.tail∧(Mach.settle f to (E,E2)).left=E.left:=by
 unfold Mach.settle
 simp only
 split<;>exact⟨rfl,rfl⟩
theorem step_rel(T:UntTr u v s D L β pre c)(hu:UnitOK u)(hc:1≤c){m m':Mach}(hm:MachOK u m)(ho:m.over=false)(h1:1≤m.left)(hs:(Mach.step u { m with left:=m.left - 1 }).short=false)(hr:Rel u s D L β pre c d m m') :
  ∃n m'',Mach.Steps v (n+1) m' m''∧Rel u s D L β pre c d (Mach.step u { m with left:=m.left - 1 }) m'':=by
 obtain⟨fs,l,rfl,hfs,l1,l2⟩:=hr
 obtain⟨hne,hsh⟩:=hm.over ho
 have hcl:1 * m.left≤c * m.left:=Int.mul_le_mul_of_nonneg_right hc (by omega)
 have hcs:c * (m.left - 1)=c * m.left - c:=by rw [Int.mul_sub,Int.mul_one]
 suffices h:Goes u v s D L β pre c d (Mach.step u { m with left:=m.left - 1 }) (Mach.step v (({ m with left:=m.left - 1 }:Mach).put fs (l - 1))) by
  obtain⟨n,m'',q1,q2⟩:=h
  exact⟨n,m'',.cons ho hsh (by show 1≤l;omega) q1,q2⟩
 have hm1:MachOK u { m with left:=m.left - 1 }:=by
  have:=(pay_ok hm ho (by omega)).1
  rwa [Mach.pay_one h1] at this
 have e1:({ m with left:=m.left - 1 }:Mach).left=m.left - 1:=rfl
 have k1:c * ({ m with left:=m.left - 1 }:Mach).left+(c - 1)≤l - 1:=by rw [e1];omega
 have k2:l - 1≤({ m with left:=m.left - 1 }:Mach).left+d:=by rw [e1];omega
 have k0:0≤({ m with left:=m.left - 1 }:Mach).left:=by rw [e1];omega
 have ho1:({ m with left:=m.left - 1 }:Mach).over=false:=ho
 have hs1:({ m with left:=m.left - 1 }:Mach).short=false:=hsh
 have hfs1:FsR u s D L β pre ({ m with left:=m.left - 1 }:Mach).frames fs:=hfs
 have hne1:({ m with left:=m.left - 1 }:Mach).frames≠[]:=hne
 generalize ({ m with left:=m.left - 1 }:Mach)=M at *
 generalize l - 1=y at *
 clear hm hcl hcs l1 l2 hfs hne e1 hsh h1 ho
 cases hfr:M.frames with
 | nil=>exact absurd hfr hne1
 | cons f r =>
  rw [hfr] at hfs1
  obtain⟨f',r',rfl,hF,hT,hR⟩:=hfs1.cons
  have hfo:=hm1.frames f (by rw [hfr];simp)
  have hb:=hu.blocks _ (fnOf_mem hfo.fn.1 hfo.fn.2) _ (blkOf_mem hfo.blk.1 hfo.blk.2)
  have hB:=T.blks f.fn f.blk hF.fn.1 hF.fn.2 hF.live
  have hget:(blkOf (fnOf v f'.fn) f'.blk).ins[f'.pos]?=((blkOf (fnOf u f.fn) f.blk).ins[f.pos]?).map (trI s):=by
   rw [hF.ids.2.2,hF.blk,hB.ins,hF.pos,List.getElem?_append_right (by omega),Nat.add_sub_cancel_left,List.getElem?_map]
  have hput:(M.put (f'::r') y).frames=f'::r':=rfl
  have k3:c * M.left≤y:=by omega
  unfold Mach.step at hs ⊢
  rw [hfr] at hs ⊢
  rw [hput]
  simp only at hs ⊢
  rw [hget]
  cases hi:(blkOf (fnOf u f.fn) f.blk).ins[f.pos]? with
  | none =>
   simp only [Option.map_none]
   rw [hF.ids.2.2,hF.blk]
   generalize blkOf (fnOf v f.fn) (β f.fn f.blk)=B' at *
   generalize hBB:blkOf (fnOf u f.fn) f.blk=B at *
   obtain⟨t1,t2,t3,t4⟩:=hB.term
   unfold Mach.finish
   rw [t1,t2]
   by_cases q4:B.term.kind=4
   ·rw [if_pos q4,if_pos q4]
    exact .now ⟨f'::r',y,rfl,by show FsR u s D L β pre M.frames _;rw [hfr];exact⟨hF,hT,hR⟩,k3,k2⟩
   rw [if_neg q4,if_neg q4]
   by_cases q1:B.term.kind=1
   ·rw [if_pos q1,if_pos q1]
    have hl:=hb.term.jump q1
    obtain⟨e,he⟩:∃e,B.term.to[0]?=some e:=⟨B.term.to[0]'(by omega),List.getElem?_eq_getElem _⟩
    obtain⟨e',he'⟩:∃e',B'.term.to[0]?=some e':=⟨B'.term.to[0]'(by omega),List.getElem?_eq_getElem _⟩
    rw [he,he']
    exact follow_rel T hc ho1 hs1 hfr hF hT hR k0 k1 k2 (hB.edges 0 e e' he he')
   rw [if_neg q1,if_neg q1]
   obtain⟨a1,a2⟩:=hB.arg q1 q4
   have hga:getS f'.vals B'.term.arg=getS f.vals B.term.arg:=by rw [a1];exact hF.vals _ a2
   rw [hga]
   by_cases q0:B.term.kind=0
   ·rw [if_pos q0,if_pos q0]
    exact leave_rel T hfr hT hR k3 k2 _
   rw [if_neg q0,if_neg q0]
   by_cases qk:(getS f.vals B.term.arg).kind≠0
   ·rw [if_pos qk,if_pos qk]
    exact .now ⟨f'::r',y,rfl,by show FsR u s D L β pre M.frames _;rw [hfr];exact⟨hF,hT,hR⟩,k3,k2⟩
   rw [if_neg qk,if_neg qk]
   have hch:choiceM B'.term (getS f.vals B.term.arg).n=choiceM B.term (getS f.vals B.term.arg).n:=by
    unfold choiceM
    rw [t1,t3]
   rw [hch]
   obtain⟨e,he⟩:=choice_at hb.term q0 q1 q4 (getS f.vals B.term.arg).n
   have hlt:=lt_of_getElem? he
   obtain⟨e',he'⟩:∃e',B'.term.to[choiceM B.term (getS f.vals B.term.arg).n]?=some e':=⟨B'.term.to[choiceM B.term (getS f.vals B.term.arg).n]'(by omega),List.getElem?_eq_getElem _⟩
   rw [he,he']
   exact follow_rel T hc ho1 hs1 hfr hF hT hR k0 k1 k2 (hB.edges _ e e' he he')
  | some i =>
   rw [hi] at hs
   simp only [Option.map_some] at hs ⊢
   have him:=List.mem_of_getElem? hi
   have hio:=hb.ins i him
   have hlt:=lt_of_getElem? hi
   obtain⟨d1,d2⟩:=hB.vals i him
   have hargs:takeS f'.vals (trI s i).args=takeS f.vals i.args:=hF.vals.take d2
   rw [hargs]
   have hf1:FrOK u M { f with pos:=f.pos+1 }:=⟨hfo.fn,hfo.blk,hlt,hfo.vals⟩
   have hf2:FrOK u (M.setTop { f with pos:=f.pos+1 }) { f with pos:=f.pos+1 }:=hf1.of_heap (by rfl)
   have hM2:=hm1.setTop hne1 hf1
   have ha:=takeS_ok hf2.vals i.args
   have hal:=takeS_len f.vals i.args
   have hF1:FR u s D L β pre { f with pos:=f.pos+1 } { f' with pos:=f'.pos+1 }:=⟨hF.ids,hF.fn,hF.live,hF.blk,by show f'.pos+1=_+(f.pos+1);rw [hF.pos];rfl,hF.vals⟩
   have hfr2:(M.setTop { f with pos:=f.pos+1 }).frames = { f with pos:=f.pos+1 }::r:=by
    show _::M.frames.tail=_
    rw [hfr]
    rfl
   have e2:(M.put (f'::r') y).setTop { f' with pos:=f'.pos+1 }=(M.setTop { f with pos:=f.pos+1 }).put ({ f' with pos:=f'.pos+1 }::r') y:=rfl
   rw [e2]
   have hT2:ToR s D { f with pos:=f.pos+1 } { f' with pos:=f'.pos+1 } r:=by cases r<;>exact hT
   have hFs2:FsR u s D L β pre (M.setTop { f with pos:=f.pos+1 }).frames ({ f' with pos:=f'.pos+1 }::r'):=by
    rw [hfr2]
    exact⟨hF1,hT2,hR⟩
   have k0':0≤(M.setTop { f with pos:=f.pos+1 }).left:=k0
   have k1':c * (M.setTop { f with pos:=f.pos+1 }).left+(c - 1)≤y:=k1
   have k2':y≤(M.setTop { f with pos:=f.pos+1 }).left+d:=k2
   have ho2:(M.setTop { f with pos:=f.pos+1 }).over=false:=ho1
   have hs2:(M.setTop { f with pos:=f.pos+1 }).short=false:=hs1
   have hvk:(({ f with pos:=f.pos+1 }:Fr)).vals=f.vals:=rfl
   rw [hvk] at ha
   unfold Mach.act at hs ⊢
   have o1:(trI s i).op=i.op:=rfl
   have o2:(trI s i).n=i.n:=rfl
   have o3:(trI s i).to=s i.to:=rfl
   rw [o1,o2,o3]
   by_cases h13:i.op=13
   ·rw [if_pos h13,if_pos h13]
    obtain⟨c1,c2,c3⟩:=hio.call h13
    exact enter_rel T hc ho2 hs2 hfr2 hFs2 k0' k1' k2' ⟨c1,c2⟩ _ ⟨rfl,d1⟩
   rw [if_neg h13] at hs
   rw [if_neg h13,if_neg h13]
   by_cases h14:i.op=14
   ·rw [if_pos h14,if_pos h14]
    by_cases hk2:(argS (takeS f.vals i.args) 0).kind=2
    ·have hfn:=SV.Wf.fn (argS_ok ha 0) hk2
     obtain⟨z1,z2,z3⟩:=T.zero _ hfn.1 hfn.2
     have hP:=(T.blks _ 0 hfn.1 hfn.2 z1).params.1
     rw [z2] at hP
     rw [hP,List.length_map]
     by_cases hcn:(argS (takeS f.vals i.args) 0).kind=2∧(blkOf (fnOf u (argS (takeS f.vals i.args) 0).n) 0).params.length=(takeS f.vals i.args).length
     ·rw [if_pos hcn,if_pos hcn]
      exact enter_rel T hc ho2 hs2 hfr2 hFs2 k0' k1' k2' hfn _ ⟨rfl,d1⟩
     rw [if_neg hcn,if_neg hcn]
     exact .now ⟨_,y,rfl,hFs2,k3,k2⟩
    rw [if_neg (fun q=>hk2 q.1),if_neg (fun q=>hk2 q.1)]
    exact .now ⟨_,y,rfl,hFs2,k3,k2⟩
   rw [if_neg h14] at hs
   rw [if_neg h14,if_neg h14]
   have hx:=exec_ok hM2 hio hal ha
   have htr:((M.setTop { f with pos:=f.pos+1 }).put ({ f' with pos:=f'.pos+1 }::r') y).exec (trI s i) (takeS f.vals i.args)=((M.setTop { f with pos:=f.pos+1 }).put ({ f' with pos:=f'.pos+1 }::r') y).exec i (takeS f.vals i.args):=rfl
   have hss:=(Mach.settle_short { f with pos:=f.pos+1 } i.to ((M.setTop { f with pos:=f.pos+1 }).exec i (takeS f.vals i.args))).1
   rw [hss] at hs
   have hml:(M.setTop { f with pos:=f.pos+1 }).left≤y:=by
    have:1 * M.left≤c * M.left:=Int.mul_le_mul_of_nonneg_right hc k0
    show M.left≤y
    omega
   rw [htr,Mach.put_exec _ _ _ _ _ hs hx.left.1 hml]
   generalize (M.setTop { f with pos:=f.pos+1 }).exec i (takeS f.vals i.args)=X at *
   obtain⟨E,E2⟩:=X
   have hxf:E.frames = { f with pos:=f.pos+1 }::r:=by
    rw [←hfr2]
    exact hx.frames
   have hxl:E.left≤M.left:=hx.left.2
   obtain⟨w1,w2⟩:=settle_frames E E2 { f with pos:=f.pos+1 } i.to
   refine .now ⟨_,_,settle_put E E2 { f with pos:=f.pos+1 } _ _ i.to _ _,?_,?_,?_⟩
   ·rw [w1,hxf]
    refine⟨⟨hF1.ids,hF1.fn,hF1.live,hF1.blk,hF1.pos,hF1.vals.put (T.inj f.fn) d1 _⟩,by cases r<;>exact hT,hR⟩
   ·rw [w2]
    have:=mul_down hc k3 (a:=M.left - E.left) (by omega)
    rw [show M.left - (M.left - E.left)=E.left by omega] at this
    exact this
   rw [w2]
   show y - (M.left - E.left)≤E.left+d
   omega
theorem Rel.core{m m':Mach}(h:Rel u s D L β pre c d m m'):m'.over=m.over∧m'.short=m.short∧m'.out=m.out∧m'.fin=m.fin∧m'.val=m.val∧c * m.left≤m'.left∧m'.left≤m.left+d:=by
 obtain⟨fs,l,rfl,_,l1,l2⟩:=h
 exact⟨rfl,rfl,rfl,rfl,rfl,l1,l2⟩
theorem run_rel(T:UntTr u v s D L β pre c)(hu:UnitOK u)(hc:1≤c):∀(k:Nat) (m m':Mach),MachOK u m→Rel u s D L β pre c d m m'→(Mach.run u k m).short=false→∃n m'',Mach.Steps v n m' m''∧Rel u s D L β pre c d (Mach.run u k m) m''
 | 0,m,m',hm,hr,hs=>⟨0,m',.refl _,hr⟩
 | k+1,m,m',hm,hr,hs=>by
  cases ho:m.over with
  | true =>
   rw [run_over' ho] at hs ⊢
   exact⟨0,m',.refl _,hr⟩
  | false =>
   have hrun:Mach.run u (k+1) m=if (m.pay 1).short then m.pay 1 else Mach.run u k (Mach.step u (m.pay 1)):=by simp [Mach.run,ho]
   rw [hrun] at hs ⊢
   by_cases hp:m.left<1
   ·rw [pay_short hp] at hs
    simp at hs
   obtain⟨q1,q2,q3,q4,q5⟩:=pay_ok hm ho hp
   rw [if_neg (by simp [q3])] at hs ⊢
   have hd1:(m.pay 1).frames.length+(m.pay 1).left+1≤2 ^ 40:=by
    have:=hm.depth
    rw [q4,q5];omega
   have hst:=MachOK.step hu q1 q2 hd1
   have hss:(Mach.step u (m.pay 1)).short=false:=by
    cases hx:(Mach.step u (m.pay 1)).short with
    | false=>rfl
    | true =>
     have ho:(Mach.step u (m.pay 1)).over=true:=by
      cases hy:(Mach.step u (m.pay 1)).over with
      | true=>rfl
      | false=>rw [(hst.over hy).2] at hx;cases hx
     rw [run_over' ho,hx] at hs
     cases hs
   rw [Mach.pay_one (by omega)] at hst hss hs ⊢
   obtain⟨n,m1,s1,s2⟩:=step_rel T hu hc hm ho (by omega) hss hr
   obtain⟨n2,m2,s3,s4⟩:=run_rel T hu hc k _ m1 hst s2 hs
   exact⟨n+1+n2,m2,s1.trans s3,s4⟩
theorem perform_rel(T:UntTr u v s D L β pre c)(hu:UnitOK u)(hv:UnitOK v)(hc:1≤c){F G:Int}(hF:0≤F∧F≤1000000)(hG:G≤1000000)(hlo:c * F+(c - 1)≤G)(he:(performM u F).e=0) :
  (performM v G).e=0∧(performM v G).out=(performM u F).out∧(performM v G).fin=(performM u F).fin∧(performM v G).val=(performM u F).val∧(performM v G).n≤G - c * (F - (performM u F).n)∧(performM u F).n+(pre u.main 0).length≤(performM v G).n:=by
 have hcF:1 * F≤c * F:=Int.mul_le_mul_of_nonneg_right hc hF.1
 obtain⟨z1,z2,z3⟩:=T.zero u.main hu.main.1 hu.main.2
 have hB:=T.blks u.main 0 hu.main.1 hu.main.2 z1
 rw [z2] at hB
 have hsu:=start_ok hu (fuel:=F) hF.1 hF.2
 have hsv:=start_ok hv (fuel:=G) (by omega) hG
 have hstart:Goes u v s D L β pre c (G - F - (pre u.main 0).length) ((Mach.start F).enter u u.main [] 0) ((Mach.start G).enter v v.main [] 0):=by
  have e0:(Mach.start G).enter v v.main [] 0=((Mach.start F).enter u u.main [] 0).put [⟨5,4,u.main,0,0,0,bindS [] ((blkOf (fnOf u u.main) 0).params.map s) []⟩] G:=by
   rw [T.main]
   unfold Mach.enter
   rw [hB.params.1]
   rfl
  rw [e0]
  refine arrive T (m:=(Mach.start F).enter u u.main [] 0) rfl rfl (f:=⟨5,4,u.main,0,0,0,bindS [] (blkOf (fnOf u u.main) 0).params []⟩) (r:=[]) rfl ⟨rfl,rfl,rfl⟩ hu.main z1 z2.symm rfl rfl (VR.bind (T.inj u.main) _ _ hB.params.2 (fun _ _=>rfl)) trivial trivial hF.1 (by
   show c * F+(pre u.main 0).length≤G
   omega) (by
   show G - (pre u.main 0).length≤F+(G - F - (pre u.main 0).length)
   omega) hc
 obtain⟨n0,m0,s0,r0⟩:=hstart
 unfold performM at he ⊢
 simp only at he ⊢
 have hru:=run_ok hu (F.toNat+2) _ hsu (by simp [Mach.enter,Mach.start])
 have hrv:=run_ok hv (G.toNat+2) _ hsv (by simp [Mach.enter,Mach.start])
 have hsim:=fun h=>run_rel T hu hc (F.toNat+2) _ m0 hsu r0 h
 generalize Mach.run u (F.toNat+2) ((Mach.start F).enter u u.main [] 0)=E at *
 cases hs:E.short with
 | true =>
  rw [hs] at he
  simp at he
 | false =>
  obtain⟨n1,m1,s1,r1⟩:=hsim hs
  have S:=s0.trans s1
  obtain⟨b1,b2,b3,b4,b5,b6,b7⟩:=r1.core
  have hle:n0+n1≤G.toNat+2:=Classical.byContradiction fun q=>by
   have:=S.before (G.toNat+2) (by omega)
   rw [hrv.1] at this
   cases this
  have hend:Mach.run v (G.toNat+2) ((Mach.start G).enter v v.main [] 0)=m1:=by
   have:=S.run (G.toNat+2 - (n0+n1))
   rw [show n0+n1+(G.toNat+2 - (n0+n1))=G.toNat+2 by omega] at this
   rw [this]
   exact run_over' (by rw [b1];exact hru.1) _
  rw [hend,b2,hs]
  simp only [Bool.false_eq_true,if_false]
  refine⟨trivial,b3,b4,b5,?_,?_⟩
  ·rw [show F - (F - E.left)=E.left by omega]
   omega
  omega
end
end Go.Proofs.Ytkhnjeblbiocaaa
namespace Go.Proofs.Ytkhnjeblbiocaaa
open Go.Av
theorem lookD_no{ds:Defs}{v:Int}(h:v ∉ ds.map (·.1)):lookD ds v=none:=by
 cases hl:lookD ds v with
 | none=>rfl
 | some p=>exact absurd (List.mem_map.2 ⟨_,lookD_some hl,rfl⟩) h
theorem defineM_zero{ds:Defs}{v:Int}{p:Int×Int}(hv:0≤v∧v≤4095)(h:v ∉ ds.map (·.1)):(defineM ds v p).1=0:=by
 unfold defineM
 rw [lookD_no h]
 simp [within,hv]
theorem paramsM_zero(k:Int):∀(l:List Int) (ds:Defs),(∀v∈l,0≤v∧v≤4095)→(ds.map (·.1)++l).Nodup→(paramsM k ds l).1=0
 | [],_,_,_=>rfl
 | p::r,ds,hv,hn=>by
  have hp:p ∉ ds.map (·.1):=fun q=>by
   rw [List.nodup_append] at hn
   exact hn.2.2 p q p List.mem_cons_self rfl
  have h0:=defineM_zero (p:=(k,0)) (hv p List.mem_cons_self) hp
  simp only [paramsM]
  rw [if_neg (by rw [h0];simp),defineM_eq h0]
  refine paramsM_zero k r _ (fun v h=>hv v (List.mem_cons_of_mem _ h)) ?_
  rw [List.map_append,List.append_assoc]
  exact hn
theorem insM_zero(k:Int):∀(l:List Ins) (n:Int) (ds:Defs),(∀i∈l,0≤i.to∧i.to≤4095∧formE i=0)→(ds.map (·.1)++l.map Ins.to).Nodup→(insM k n ds l).1=0
 | [],_,_,_,_=>rfl
 | i::r,n,ds,hv,hn=>by
  have hp:i.to ∉ ds.map (·.1):=fun q=>by
   rw [List.nodup_append] at hn
   exact hn.2.2 _ q _ List.mem_cons_self rfl
  have hi:=hv i List.mem_cons_self
  have h0:=defineM_zero (p:=(k,n+1)) ⟨hi.1,hi.2.1⟩ hp
  simp only [insM]
  rw [if_neg (by rw [h0];simp),if_neg (by rw [hi.2.2];simp),defineM_eq h0]
  refine insM_zero k r _ _ (fun j h=>hv j (List.mem_cons_of_mem _ h)) ?_
  rw [List.map_append,List.append_assoc]
  exact hn
theorem blockM_zero{f:Func}{ds:Defs}{k:Int}{b:Block}(hb:blkOf f k=b)(hp:∀v∈b.params,0≤v∧v≤4095)(hi:∀i∈b.ins,0≤i.to∧i.to≤4095∧formE i=0)(he:endE f b.term=0)(hn:(ds.map (·.1)++blkVals b).Nodup):(blockM f ds k).1=0:=by
 unfold blockM
 rw [hb]
 unfold blkVals at hn
 rw [←List.append_assoc] at hn
 have h1:=paramsM_zero k b.params ds hp (by
  rw [List.nodup_append] at hn
  exact hn.1)
 rw [if_neg (by rw [h1];simp),paramsM_eq k b.params ds h1]
 have h2:=insM_zero k b.ins 0 (ds++parDefs k b.params) hi (by
  rw [List.map_append]
  have:(parDefs k b.params).map (·.1)=b.params:=by
   unfold parDefs
   rw [List.map_map]
   exact List.map_id' _
  rw [this]
  exact hn)
 rw [if_neg (by rw [h2];simp)]
 exact he
theorem blkDefs_fst(k:Int)(b:Block):(blkDefs k b).map (·.1)=blkVals b:=by
 rw [blkDefs,List.map_append,insDefs_fst,blkVals,parDefs,List.map_map]
 congr 1
 exact List.map_id' _
theorem blocksM_zero{f:Func}(hp:∀b∈f.blocks,(∀v∈b.params,0≤v∧v≤4095)∧(∀i∈b.ins,0≤i.to∧i.to≤4095∧formE i=0)∧endE f b.term=0) :
  ∀(n k:Nat) (ds:Defs),k+n=f.blocks.length→(ds.map (·.1)++(f.blocks.drop k).flatMap blkVals).Nodup→(blocksM f n k ds).1=0
 | 0,_,_,_,_=>rfl
 | n+1,k,ds,hk,hn=>by
  have hb:f.blocks[k]?=some f.blocks[k]:=List.getElem?_eq_getElem (by omega)
  have hbo:blkOf f (k:Int)=f.blocks[k]:=by simp [blkOf,hb]
  rw [drop_at hb,List.flatMap_cons,←List.append_assoc] at hn
  obtain⟨p1,p2,p3⟩:=hp _ (List.mem_of_getElem? hb)
  have h0:=blockM_zero (ds:=ds) hbo p1 p2 p3 (by
   rw [List.nodup_append] at hn
   exact hn.1)
  simp only [blocksM]
  rw [if_neg (by rw [h0];simp),blockM_eq h0,hbo]
  have e:(k:Int)+1=((k+1:Nat):Int):=by omega
  rw [e]
  refine blocksM_zero hp n (k+1) _ (by omega) ?_
  rw [List.map_append,blkDefs_fst]
  exact hn
theorem insUses_intro{ds:Defs}{over:List Bs}{seen:Bs}{k:Nat}:∀(l:List Ins) (n:Nat),(∀(j:Nat) i,l[j]?=some i→∀a∈i.args,fineM ds over seen k ((n+j:Nat):Int) a=true)→insUses ds over seen k n l=true
 | [],_,_=>rfl
 | x::r,n,h=>by
  simp only [insUses,Bool.and_eq_true,List.all_eq_true]
  refine⟨fun a ha=>h 0 x rfl a ha,insUses_intro r (n+1) fun j i hj a ha=>?_⟩
  rw [show n+1+j=n+(j+1) by omega]
  exact h (j+1) i (by simpa using hj) a ha
theorem allUses_intro{ds:Defs}{over:List Bs}{seen:Bs}:∀(l:List Block) (k:Nat),(∀(j:Nat) b,l[j]?=some b→blkUses ds over seen (k+j) b=true)→allUses ds over seen k l=true
 | [],_,_=>rfl
 | x::r,k,h=>by
  simp only [allUses,Bool.and_eq_true]
  refine⟨h 0 x rfl,allUses_intro r (k+1) fun j b hj=>?_⟩
  rw [show k+1+j=k+(j+1) by omega]
  exact h (j+1) b (by simpa using hj)
theorem fine_intro{f:Func}(hn:(valsF f).Nodup){k:Nat}{n v:Int}(h:Fine f k n v):fineM (dsF f) (domM f).1 (domM f).2 k n v=true:=by
 obtain⟨p,h1,h2⟩:=h
 have hl:lookD (dsF f) v=some p:=(lookD_mem (by rw [dsF_fst];exact hn)).2 (mem_dsF.2 h1)
 unfold fineM
 rw [hl]
 simp only [Bool.or_eq_true,Bool.and_eq_true,decide_eq_true_eq,Bool.not_eq_true',decide_eq_false_iff_not]
 cases hs:seenF f k with
 | false=>exact .inr (.inr hs)
 | true =>
  rcases h2 hs with q | q
  ·exact .inl q
  exact .inr (.inl q)
theorem uses_intro{f:Func}(hn:(valsF f).Nodup)(h:UsesW f):usesM f (dsF f)=0:=by
 unfold usesM
 rw [if_pos]
 refine allUses_intro f.blocks 0 fun j b hj=>?_
 rw [Nat.zero_add]
 unfold blkUses usedM
 simp only [Bool.and_eq_true,Bool.or_eq_true,decide_eq_true_eq,List.all_eq_true]
 refine⟨insUses_intro b.ins 0 fun n i hi a ha=>?_,?_,fun e he a ha=>fine_intro hn (h.args j b hj e he a ha)⟩
 ·rw [Nat.zero_add]
  exact fine_intro hn (h.ins j b hj n i hi a ha)
 by_cases h1:b.term.kind=1
 ·exact .inl (.inl h1)
 by_cases h4:b.term.kind=4
 ·exact .inl (.inr h4)
 exact .inr (fine_intro hn (h.arg j b hj h1 h4))
def sumI(bs:List Block):Nat:=(bs.map fun b=>b.ins.length).sum
theorem wsum_eq:∀(bs:List Block) (m:Nat),(∀b∈bs,b.ins.length≤1024)→m+bs.length * 1024≤1000000→wsum m bs=((m+sumI bs:Nat):Int)
 | [],m,_,_=>by simp [wsum,sumI]
 | b::r,m,h,hm=>by
  have h1:=h b List.mem_cons_self
  rw [List.length_cons] at hm
  have hw:IntKind.i64.wrap ((m:Int)+(b.ins.length:Int))=((m+b.ins.length:Nat):Int):=by
   rw [wrap_in .i64 _ (by show(-9223372036854775808:Int)≤_;omega) (by show _≤(9223372036854775807:Int);omega)]
   omega
  simp only [wsum]
  rw [hw,wsum_eq r (m+b.ins.length) (fun x hx=>h x (List.mem_cons_of_mem _ hx)) (by omega)]
  unfold sumI
  rw [List.map_cons,List.sum_cons,Nat.add_assoc]
theorem check_intro{f:Func}(hne:f.blocks≠[])(hfew:f.blocks.length≤128)(hname:-1≤f.name∧f.name≤1048575)(hins:∀b∈f.blocks,b.ins.length≤1024)(hsum:sumI f.blocks≤1024)(hpar:(blkOf f 0).params.length≤6)
  (hv:∀v∈valsF f,0≤v∧v≤4095) (hn:(valsF f).Nodup) (hb:∀b∈f.blocks,(∀i∈b.ins,formE i=0)∧endE f b.term=0) (hu:UsesW f):checkFuncM f=0:=by
 have hbv:∀b∈f.blocks,(∀v∈b.params,0≤v∧v≤4095)∧(∀i∈b.ins,0≤i.to∧i.to≤4095∧formE i=0)∧endE f b.term=0:=fun b h=>by
  have hin:∀v∈blkVals b,0≤v∧v≤4095:=fun v q=>hv v (List.mem_flatMap.2 ⟨b,h,q⟩)
  refine⟨fun v q=>hin v (List.mem_append_left _ q),fun i q=>?_,(hb b h).2⟩
  have:=hin i.to (List.mem_append_right _ (List.mem_map.2 ⟨i,q,rfl⟩))
  exact⟨this.1,this.2,(hb b h).1 i q⟩
 have h0:=blocksM_zero hbv f.blocks.length 0 [] (by omega) (by
  rw [List.drop_zero]
  exact hn)
 have h1:=blocksM_eq f.blocks.length 0 [] (by omega) h0
 rw [List.drop_zero,List.nil_append] at h1
 have hw:=wsum_eq f.blocks 0 hins (by omega)
 rw [Nat.zero_add] at hw
 have hl:=List.length_pos_iff.2 hne
 unfold checkFuncM
 have hww:wsum 0 f.blocks=((sumI f.blocks:Nat):Int):=hw
 rw [if_neg (by omega),if_neg (by rw [hww];omega),if_neg (by simp [within,hname]),if_neg (by
  have h0':(blocksM f f.blocks.length 0 []).1=0:=h0
  rw [h0']
  simp)]
 have h1':(blocksM f f.blocks.length 0 []).2=dsF f:=h1
 rw [h1']
 exact uses_intro hn hu
theorem sum_few{f:Func}(hfit:f.fit)(h:checkFuncM f=0):sumI f.blocks≤1024:=by
 have hw:=checkFunc_ok hfit h
 have he:=wsum_eq f.blocks 0 hw.ins (by have:=hw.few;omega)
 unfold checkFuncM at h
 split at h
 ·simp at h
 split at h
 ·simp at h
 rename_i h2
 rw [Nat.zero_add] at he
 have he':wsum 0 f.blocks=((sumI f.blocks:Nat):Int):=he
 rw [he'] at h2
 omega
theorem dmax_E{n k:Nat}{D:Nat→Nat→Prop}{R:Nat→Prop}{S:Ds}(hn:n≤128)(hl:S.over.length=n)(h1:∀i j,j<n→D i j→i<n∧(S.at_ j).has i=true)(h2:∀j,j<128→S.seen.has j=true→R j)(hk:k<n){e:Edge}(he:0≤e.block∧e.block.toNat<n)(hR:R k→R e.block.toNat)
  (hD:R k→∀i,D i e.block.toNat→i=e.block.toNat∨D i k) (hs:R k):(∀i j,j<n→D i j→i<n∧((domE k S e).at_ j).has i=true)∧(∀j,j<128→(domE k S e).seen.has j=true→R j)∧(domE k S e).over.length=n:=by
 unfold domE
 simp only
 split
 ·refine⟨fun i j hj hij=>?_,fun j hj hsj=>?_,by simp only;rw [List.length_set,hl]⟩
  ·refine⟨(h1 i j hj hij).1,?_⟩
   have hi:=(h1 i j hj hij).1
   unfold Ds.at_
   simp only
   rw [List.getElem?_set]
   split
   ·rename_i q
    rw [if_pos (by rw [hl];exact he.2),Option.getD_some,Bs.has_add _ _ _ (by omega) (by omega),Bs.has_meet]
    simp only [Bool.or_eq_true,Bool.and_eq_true,decide_eq_true_eq]
    rw [←q] at hij
    rcases hD hs i hij with r | r
    ·exact .inr r
    exact .inl ⟨(h1 i _ he.2 hij).2,(h1 i k hk r).2⟩
   exact(h1 i j hj hij).2
  simp only at hsj
  rw [Bs.has_add _ _ _ (by omega) hj] at hsj
  simp only [Bool.or_eq_true,decide_eq_true_eq] at hsj
  rcases hsj with q | q
  ·exact h2 j hj q
  rw [q]
  exact hR hs
 exact⟨h1,h2,hl⟩
structure DmX(n:Nat)(D:Nat→Nat→Prop)(R:Nat→Prop)(S:Ds):Prop where
 len:S.over.length=n
 dom:∀i j,j<n→D i j→i<n∧(S.at_ j).has i=true
 seen:∀j,j<128→S.seen.has j=true→R j
structure DmC(f:Func)(D:Nat→Nat→Prop)(R:Nat→Prop):Prop where
 few:f.blocks.length≤128
 edges:∀b∈f.blocks,∀e∈b.term.to,0≤e.block∧e.block.toNat<f.blocks.length
 next:∀(k:Nat) b,f.blocks[k]?=some b→R k→∀e∈b.term.to,R e.block.toNat∧∀i,D i e.block.toNat→i=e.block.toNat∨D i k
theorem dmx_F{f:Func}{D:Nat→Nat→Prop}{R:Nat→Prop}(hc:DmC f D R){k:Nat}{b:Block}(hb:f.blocks[k]?=some b)(hR:R k):∀(l:List Edge) {S:Ds},(∀e∈l,e∈b.term.to)→DmX f.blocks.length D R S→DmX f.blocks.length D R (l.foldl (domE k) S)
 | [],_,_,h=>h
 | e::r,S,hl,h=>by
  have hn:=hc.next k b hb hR e (hl e List.mem_cons_self)
  obtain⟨a1,a2,a3⟩:=dmax_E hc.few h.len h.dom h.seen (lt_of_getElem? hb) (hc.edges b (List.mem_of_getElem? hb) e (hl e List.mem_cons_self)) (fun _=>hn.1) (fun _=>hn.2) hR
  rw [List.foldl_cons]
  exact dmx_F hc hb hR r (fun x hx=>hl x (List.mem_cons_of_mem _ hx)) ⟨a3,a1,a2⟩
theorem dmx_R{f:Func}{D:Nat→Nat→Prop}{R:Nat→Prop}(hc:DmC f D R):∀(l:List Block) (k:Nat) {S:Ds},l=f.blocks.drop k→DmX f.blocks.length D R S→DmX f.blocks.length D R (domR k S l)
 | [],_,_,_,h=>h
 | b::r,k,S,hl,h=>by
  have hb:f.blocks[k]?=some b:=by
   have:=congrArg (fun l=>l[0]?) hl
   simpa using this.symm
  have hr:r=f.blocks.drop (k+1):=by
   rw [drop_at hb] at hl
   simpa using hl
  rw [domR]
  refine dmx_R hc r (k+1) hr ?_
  unfold domB
  split
  ·exact h
  rename_i hs
  have hk:=lt_of_getElem? hb
  exact dmx_F hc hb (h.seen k (by have:=hc.few;omega) (by simpa using hs)) _ (fun e he=>he) h
theorem dmx_I{f:Func}{D:Nat→Nat→Prop}{R:Nat→Prop}(hc:DmC f D R):∀(n:Nat) {S:Ds},DmX f.blocks.length D R S→DmX f.blocks.length D R (domI f n S)
 | 0,_,h=>h
 | n+1,S,h=>by
  simp only [domI]
  split
  ·exact dmx_I hc n (dmx_R hc f.blocks 0 (S:=⟨S.over,S.seen,false⟩) (by rw [List.drop_zero]) ⟨h.len,h.dom,h.seen⟩)
  exact h
theorem allB_in:∀(n j:Nat),n≤128→j<n→(allB n).has j=true
 | 0,_,_,h=>absurd h (Nat.not_lt_zero _)
 | n+1,j,hn,hj=>by
  rw [allB,Bs.has_add _ _ _ (by omega) (by omega)]
  by_cases e:j=n
  ·simp [e]
  rw [allB_in n j (by omega) (by omega)]
  rfl
theorem dom_max{f:Func}{D:Nat→Nat→Prop}{R:Nat→Prop}(hne:f.blocks≠[])(hc:DmC f D R)(h0:R 0)(hz:∀i,D i 0→i=0)(hlt:∀i j,D i j→i<f.blocks.length){i j:Nat}(hj:j<f.blocks.length)(h:D i j):(overF f j).has i=true:=by
 have hl:=List.length_pos_iff.2 hne
 have hs:DmX f.blocks.length D R (domS f):=by
  refine⟨by simp [domS],fun i j hj hij=>⟨hlt i j hij,?_⟩,fun j hj hsj=>?_⟩
  ·unfold Ds.at_ domS
   simp only
   rw [List.getElem?_set]
   split
   ·rename_i e
    subst e
    rw [if_pos (by simpa using hl),Option.getD_some,hz i hij]
    decide
   rw [List.getElem?_replicate,if_pos hj,Option.getD_some]
   exact allB_in _ _ hc.few (hlt i j hij)
  have:(Bs.none.add 0).has j=true:=hsj
  rw [Bs.has_add _ _ _ (by omega) hj] at this
  have hn:Bs.none.has j=false:=by unfold Bs.has Bs.none;simp
  rw [hn] at this
  simp only [Bool.false_or,decide_eq_true_eq] at this
  rw [this]
  exact h0
 exact((dmx_I hc 20000 hs).dom i j hj h).2
end Go.Proofs.Ytkhnjeblbiocaaa
namespace Go.Proofs.Ytkhnjeblbiocaaa
open Go.Av
section
variable {f:Func}
theorem blk_at{k:Int}(h0:0≤k)(h1:k<f.blocks.length):f.blocks[k.toNat]?=some (blkOf f k):=by
 unfold blkOf
 rw [List.getElem?_eq_getElem (by omega)]
 rfl
end
theorem DefAt.range{f:Func}{v:Int}{p:Int×Int}(h:DefAt f v p):0≤p.1∧p.1<f.blocks.length:=by
 obtain⟨k,b,h1,h2,_⟩:=h
 have:=lt_of_getElem? h1
 omega
theorem end_intro{f:Func}{t:Term}(h1:shapeM t=true)(h2:t.cases.length≤256)(h3:t.kind=4→1≤t.n∧t.n≤6)(h4:casesE t.cases t.cases.length=0)(h5:∀e∈t.to,(1≤e.block∧e.block≤(f.blocks.length:Int) - 1)∧e.args.length=(blkOf f e.block).params.length):endE f t=0:=by
 unfold endE
 rw [if_neg (by simp [h1]),if_neg (by omega),if_neg (fun q=>by
  have:=h3 q.1
  have q2:=q.2
  simp [within,this] at q2),if_neg (by rw [h4];simp)]
 generalize t.to=l at h5
 induction l with
 | nil=>rfl
 | cons e r ih =>
  have he:=h5 e List.mem_cons_self
  simp only [edgesE]
  rw [if_neg (by simp [within,he.1]),if_neg (by rw [he.2];simp)]
  exact ih fun x hx=>h5 x (List.mem_cons_of_mem _ hx)
theorem end_cases{f:Func}{t:Term}(h:endE f t=0):casesE t.cases t.cases.length=0:=by
 unfold endE at h
 split at h
 ·simp at h
 split at h
 ·simp at h
 split at h
 ·simp at h
 split at h
 ·rename_i q
  exact absurd h q
 rename_i q
 simpa using q
end Go.Proofs.Ytkhnjeblbiocaaa
namespace Go.Proofs.Ytkhnjeblbiocaaa
open Go.Av

end Go.Proofs.Ytkhnjeblbiocaaa
namespace Go.Proofs.Ytkhnjeblbiocaaa
open Go.Av
section
variable {f:Func}
end
end Go.Proofs.Ytkhnjeblbiocaaa
namespace Go.Proofs.Ytkhnjeblbiocaaa
open Go.Av
theorem funcsE_intro:∀{l:List Func},(∀f∈l,checkFuncM f=0)→funcsE l=0
 | [],_=>rfl
 | g::r,h=>by
  unfold funcsE
  rw [orE_zero (h g List.mem_cons_self)]
  exact funcsE_intro fun f hf=>h f (List.mem_cons_of_mem _ hf)
theorem callsI_intro{u:Unt}:∀{l:List Ins},(∀i∈l,callsE u i=0)→callsI u l=0
 | [],_=>rfl
 | g::r,h=>by
  unfold callsI
  rw [orE_zero (h g List.mem_cons_self)]
  exact callsI_intro fun f hf=>h f (List.mem_cons_of_mem _ hf)
theorem callsB_intro{u:Unt}:∀{l:List Block},(∀b∈l,∀i∈b.ins,callsE u i=0)→callsB u l=0
 | [],_=>rfl
 | g::r,h=>by
  unfold callsB
  rw [orE_zero (callsI_intro (h g List.mem_cons_self))]
  exact callsB_intro fun f hf=>h f (List.mem_cons_of_mem _ hf)
theorem callsF_intro{u:Unt}:∀{l:List Func},(∀f∈l,∀b∈f.blocks,∀i∈b.ins,callsE u i=0)→callsF u l=0
 | [],_=>rfl
 | g::r,h=>by
  unfold callsF
  rw [orE_zero (callsB_intro (h g List.mem_cons_self))]
  exact callsF_intro fun f hf=>h f (List.mem_cons_of_mem _ hf)
theorem check_parts{u:Unt}(h:checkM u=0):u.fns.length≠0∧u.fns.length≤256∧within u.main 0 ((u.fns.length:Int) - 1)=true∧(∀f∈u.fns,checkFuncM f=0)∧(blkOf (fnOf u u.main) 0).params.length=0∧callsF u u.fns=0:=by
 unfold checkM at h
 split at h
 ·simp at h
 rename_i h1
 split at h
 ·simp at h
 rename_i h2
 split at h
 ·simp at h
 rename_i h3
 obtain⟨h4,h5⟩:=orE_eq h
 split at h5
 ·simp at h5
 rename_i h6
 exact⟨h1,by omega,by simpa using h3,funcsE_all h4,by omega,h5⟩
theorem check_unit{u:Unt}(h1:u.fns.length≠0)(h2:u.fns.length≤256)(h3:within u.main 0 ((u.fns.length:Int) - 1)=true)(h4:∀f∈u.fns,checkFuncM f=0)(h5:(blkOf (fnOf u u.main) 0).params.length=0)(h6:callsF u u.fns=0):checkM u=0:=by
 unfold checkM
 rw [if_neg h1,if_neg (by omega),if_neg (by simp [h3]),orE_zero (funcsE_intro h4),if_neg (by omega)]
 exact h6
theorem calls_same{u v:Unt}(h1:v.fns.length=u.fns.length)(h2:∀k:Int,0≤k→k<u.fns.length→(blkOf (fnOf v k) 0).params.length=(blkOf (fnOf u k) 0).params.length){i j:Ins}(ho:j.op=i.op)(hn:j.n=i.n)(hl:j.args.length=i.args.length)(h0:i.op=13∨i.op=9→0≤i.n):callsE v j=callsE u i:=by
 unfold callsE
 rw [ho,hn,hl,h1]
 split
 ·rfl
 split
 ·rfl
 rw [h2 i.n (h0 (by omega)) (by omega)]
section
variable {u:Unt} (hfit:u.fit) (hc:checkM u=0)
include hfit hc
theorem pruneU_gr{f:Func}(hf:f∈u.fns):GrW f:=(checkFunc_ok (hfit.2.2 f hf) ((check_parts hc).2.2.2.1 f hf)).gr
end
end Go.Proofs.Ytkhnjeblbiocaaa
namespace Go.Proofs.Ytkhnjeblbiocaaa
open Go.Av

end Go.Proofs.Ytkhnjeblbiocaaa
namespace Go.Proofs.Ytkhnjeblbiocaaa
open Go.Av
section
variable {f:Func}
end
theorem dom_seen{f:Func}{D:Nat→Nat→Prop}{R:Nat→Prop}(hne:f.blocks≠[])(hc:DmC f D R)(h0:R 0)(hz:∀i,D i 0→i=0)(hlt:∀i j,D i j→i<f.blocks.length){j:Nat}(hj:j<128)(h:seenF f j=true):R j:=by
 have hl:=List.length_pos_iff.2 hne
 have hs:DmX f.blocks.length D R (domS f):=by
  refine⟨by simp [domS],fun i j hj hij=>⟨hlt i j hij,?_⟩,fun j hj hsj=>?_⟩
  ·unfold Ds.at_ domS
   simp only
   rw [List.getElem?_set]
   split
   ·rename_i e
    subst e
    rw [if_pos (by simpa using hl),Option.getD_some,hz i hij]
    decide
   rw [List.getElem?_replicate,if_pos hj,Option.getD_some]
   exact allB_in _ _ hc.few (hlt i j hij)
  have:(Bs.none.add 0).has j=true:=hsj
  rw [Bs.has_add _ _ _ (by omega) hj] at this
  have hn:Bs.none.has j=false:=by unfold Bs.has Bs.none;simp
  rw [hn] at this
  simp only [Bool.false_or,decide_eq_true_eq] at this
  rw [this]
  exact h0
 exact(dmx_I hc 20000 hs).seen j hj h
end Go.Proofs.Ytkhnjeblbiocaaa
namespace Go.Proofs.Ytkhnjeblbiocaaa
open Go.Av
def trE(s:Int→Int)(β:Nat→Nat)(e:Edge):Edge:=⟨((β e.block.toNat:Nat):Int),e.args.map s⟩
def trB(s:Int→Int)(β:Nat→Nat)(p:List Ins)(b:Block):Block :=
 ⟨b.params.map s,p++b.ins.map (trI s),⟨b.term.kind,if b.term.kind=1∨b.term.kind=4 then b.term.arg else s b.term.arg,b.term.n,b.term.cases,b.term.to.map (trE s β)⟩⟩
structure FunTr(f g:Func)(s:Int→Int)(β:Nat→Nat)(pre:Nat→List Ins):Prop where
 name:g.name=f.name
 len:g.blocks.length=f.blocks.length
 zero:β 0=0
 lt:∀k,k<f.blocks.length→β k<f.blocks.length
 inj:∀i j,i<f.blocks.length→j<f.blocks.length→β i=β j→i=j
 all:∀j,j<f.blocks.length→∃k,k<f.blocks.length∧β k=j
 blk:∀(k:Nat) b,f.blocks[k]?=some b→g.blocks[β k]?=some (trB s β (pre k) b)
theorem form_tr(s:Int→Int)(i:Ins):formE (trI s i)=formE i:=by
 unfold formE formA formB formC operandsM numberM trI
 simp only [List.length_map]
theorem shape_tr{t t':Term}(h1:t'.kind=t.kind)(h3:t'.n=t.n)(h4:t'.cases=t.cases)(h5:t'.to.length=t.to.length)(h2:t.kind=1∨t.kind=4→t'.arg=t.arg)(h:shapeM t=true):shapeM t'=true:=by
 obtain⟨k,a,n,c,to⟩:=t
 obtain⟨k',a',n',c',to'⟩:=t'
 simp only at h1 h2 h3 h4 h5
 subst h1 h3 h4
 unfold shapeM edgesM argM at h ⊢
 simp only [h5,Bool.and_eq_true,Bool.or_eq_true,decide_eq_true_eq] at h ⊢
 obtain⟨a1,⟨⟨a2,a3⟩,a4⟩,a5⟩:=h
 refine⟨a1,⟨⟨a2,?_⟩,a4⟩,a5⟩
 by_cases q:k'=1∨k'=4
 ·rw [h2 q]
  exact a3
 exact .inl (by omega)
theorem fine_val{f:Func}{k:Nat}{n v:Int}(h:Fine f k n v):v∈valsF f:=by
 obtain⟨p,⟨k',b,h1,h2,h3⟩,_⟩:=h
 refine List.mem_flatMap.2 ⟨b,List.mem_of_getElem? h1,?_⟩
 rcases h3 with⟨_,q⟩ | ⟨j,i,q1,q2,q3⟩
 ·exact List.mem_append_left _ q
 exact List.mem_append_right _ (List.mem_map.2 ⟨i,List.mem_of_getElem? q1,q2⟩)
section
variable {f g:Func} {s:Int→Int} {β:Nat→Nat} {pre:Nat→List Ins}
theorem FunTr.get(T:FunTr f g s β pre){j:Nat}{c:Block}(h:g.blocks[j]?=some c):∃k b,f.blocks[k]?=some b∧β k=j∧c=trB s β (pre k) b:=by
 have hj:=lt_of_getElem? h
 rw [T.len] at hj
 obtain⟨k,hk,rfl⟩:=T.all j hj
 have hb:f.blocks[k]?=some (f.blocks[k]'hk):=List.getElem?_eq_getElem _
 have:=T.blk k _ hb
 rw [h] at this
 simp only [Option.some.injEq] at this
 exact⟨k,_,hb,rfl,this⟩
theorem def_tr(T:FunTr f g s β pre){v:Int}{p:Int×Int}(h:DefAt f v p):DefAt g (s v) (((β p.1.toNat:Nat):Int),if p.2=0 then 0 else p.2+(pre p.1.toNat).length):=by
 obtain⟨k,b,h1,h2,h3⟩:=h
 rw [h2,Int.toNat_natCast]
 refine⟨β k,_,T.blk k b h1,rfl,?_⟩
 rcases h3 with⟨q1,q2⟩ | ⟨j,i,q1,q2,q3⟩
 ·rw [if_pos q1]
  exact .inl ⟨rfl,List.mem_map.2 ⟨v,q2,rfl⟩⟩
 rw [if_neg (by omega)]
 refine .inr ⟨(pre k).length+j,trI s i,?_,by rw [←q2];rfl,by rw [q3];simp only;omega⟩
 show(pre k++b.ins.map (trI s))[(pre k).length+j]?=_
 rw [List.getElem?_append_right (by omega),Nat.add_sub_cancel_left,List.getElem?_map,q1]
 rfl
def TrD(f:Func)(β:Nat→Nat)(i j:Nat):Prop:=∃ki kj,ki<f.blocks.length∧kj<f.blocks.length∧β ki=i∧β kj=j∧(overF f kj).has ki=true
def TrR(f:Func)(β:Nat→Nat)(j:Nat):Prop:=∃k,k<f.blocks.length∧β k=j∧seenF f k=true
theorem tr_c(T:FunTr f g s β pre)(hg:GrW f)(hd:DomW f):DmC g (TrD f β) (TrR f β) where
 few:=by rw [T.len];exact hg.few
 edges:=fun c hc e he=>by
  obtain⟨j,hj⟩:=List.mem_iff_getElem?.1 hc
  obtain⟨k,b,h1,h2,h3⟩:=T.get hj
  rw [h3] at he
  obtain⟨x,hx,rfl⟩:=List.mem_map.1 he
  have hr:=hg.edges b (List.mem_of_getElem? h1) x hx
  have:=T.lt x.block.toNat (by omega)
  rw [T.len]
  show 0≤((β x.block.toNat:Nat):Int)∧((β x.block.toNat:Nat):Int).toNat<_
  omega
 next:=fun j c hj hR e he=>by
  obtain⟨k,b,h1,h2,h3⟩:=T.get hj
  obtain⟨k0,r1,r2,r3⟩:=hR
  have hk:=lt_of_getElem? h1
  have hkk:=T.inj k0 k r1 hk (by rw [r2,h2])
  subst hkk
  rw [h3] at he
  obtain⟨x,hx,rfl⟩:=List.mem_map.1 he
  have hr:=hg.edges b (List.mem_of_getElem? h1) x hx
  have hfew:=hg.few
  obtain⟨t1,t2⟩:=hd.step k0 b h1 r3 x hx
  have eb:(trE s β x).block.toNat=β x.block.toNat:=Int.toNat_natCast _
  rw [eb]
  refine⟨⟨x.block.toNat,by omega,rfl,t1⟩,fun i hi=>?_⟩
  obtain⟨ki,kj,i1,i2,i3,i4,i5⟩:=hi
  have hjj:=T.inj kj x.block.toNat i2 (by omega) i4
  subst hjj
  rcases t2 ki (by omega) i5 with u | u
  ·exact .inl (by rw [←i3,u])
  exact .inr ⟨ki,k0,i1,r1,i3,r2,u⟩
theorem fine_tr(T:FunTr f g s β pre)(hg:GrW f)(hd:DomW f){k:Nat}(hk:k<f.blocks.length){n v:Int}(hn:0≤n)(h:Fine f k n v):Fine g (β k) (n+(pre k).length) (s v):=by
 obtain⟨p,h1,h2⟩:=h
 have hne:g.blocks≠[]:=fun q=>by
  have:=congrArg List.length q
  rw [T.len] at this
  simp only [List.length_nil] at this
  omega
 have hfew:=hg.few
 have hC:=tr_c T hg hd
 have h0:TrR f β 0:=⟨0,by omega,T.zero,hd.seen⟩
 have hz:∀i,TrD f β i 0→i=0:=fun i hi=>by
  obtain⟨ki,kj,i1,i2,i3,i4,i5⟩:=hi
  have:kj=0:=T.inj kj 0 i2 (by omega) (by rw [i4,T.zero])
  subst this
  have:=(hd.zero ki (by omega)).1 i5
  subst this
  rw [←i3,T.zero]
 have hlt:∀i j,TrD f β i j→i<g.blocks.length:=fun i j hi=>by
  obtain⟨ki,kj,i1,i2,i3,i4,i5⟩:=hi
  rw [←i3,T.len]
  exact T.lt ki i1
 have hpr:=h1.range
 have hkl:=T.lt k hk
 refine⟨_,def_tr T h1,fun hs=>?_⟩
 obtain⟨k0,r1,r2,r3⟩:=dom_seen hne hC h0 hz hlt (by omega) hs
 have hkk:=T.inj k0 k r1 hk r2
 subst hkk
 rcases h2 r3 with⟨e1,e2⟩ | ⟨e1,e2⟩
 ·refine .inl ⟨?_,?_⟩
  ·simp only
   rw [e1,Int.toNat_natCast]
  simp only
  rw [e1,Int.toNat_natCast]
  split<;>omega
 refine .inr ⟨fun q=>e1 ?_,?_⟩
 ·simp only at q
  have:=T.inj p.1.toNat k0 (by omega) hk (by omega)
  omega
 simp only [Int.toNat_natCast]
 exact dom_max hne hC h0 hz hlt (by rw [T.len];exact hkl) ⟨p.1.toNat,k0,by omega,hk,rfl,rfl,e2⟩
theorem check_tr(T:FunTr f g s β pre)(hfit:f.fit)(hc:checkFuncM f=0)(hpre:∀k,∀i∈pre k,formE i=0∧i.args=[])(hins:∀c∈g.blocks,c.ins.length≤1024)(hsum:sumI g.blocks≤1024)
  (hv:∀v∈valsF g,0≤v∧v≤4095) (hn:(valsF g).Nodup):checkFuncM g=0:=by
 have hfv:=checkFunc_v hfit hc
 have hf:=hfv.fn
 have hg:=hf.gr
 have hd:=hfv.dom
 have hpos:=List.length_pos_iff.2 hg.ne
 have hb0:blkOf g 0=trB s β (pre 0) (blkOf f 0):=by
  have:=T.blk 0 _ (blk_at (f:=f) (k:=0) (by omega) (by omega))
  rw [T.zero] at this
  conv=>lhs;unfold blkOf
  rw [show(0:Int).toNat=0 from rfl,this]
  rfl
 have hbk:∀k:Nat,k<f.blocks.length→blkOf g ((β k:Nat):Int)=trB s β (pre k) (blkOf f (k:Int)):=fun k hk=>by
  have:=T.blk k _ (blk_at (f:=f) (k:=(k:Int)) (by omega) (by omega))
  conv=>lhs;unfold blkOf
  rw [Int.toNat_natCast,this]
  rfl
 refine check_intro (fun q=>?_) (by rw [T.len];exact hg.few) (by rw [T.name];exact hf.name) hins hsum ?_ hv hn (fun c hcm=>?_) ?_
 ·have:=congrArg List.length q
  rw [T.len] at this
  simp only [List.length_nil] at this
  omega
 ·rw [hb0]
  show((blkOf f 0).params.map s).length≤6
  rw [List.length_map]
  exact hf.args
 ·obtain⟨j,hj⟩:=List.mem_iff_getElem?.1 hcm
  obtain⟨k,b,h1,h2,h3⟩:=T.get hj
  have hbw:=hf.blk b (List.mem_of_getElem? h1)
  obtain⟨m1,m2,m3,m4⟩:=edges_of_end hbw.fin
  subst h3
  refine⟨fun i hi=>?_,?_⟩
  ·rcases List.mem_append.1 hi with q | q
   ·exact(hpre k i q).1
   obtain⟨x,hx,rfl⟩:=List.mem_map.1 q
   rw [form_tr]
   exact hbw.forms x hx
  refine end_intro ?_ m2 m3 (end_cases (f:=f) (t:=b.term) hbw.fin) fun e he=>?_
  ·exact shape_tr (t:=b.term) rfl rfl rfl (List.length_map ..) (fun q=>by
    show(if b.term.kind=1∨b.term.kind=4 then b.term.arg else s b.term.arg)=_
    rw [if_pos q]) m1
  obtain⟨x,hx,rfl⟩:=List.mem_map.1 he
  have hxr:=hg.edges b (List.mem_of_getElem? h1) x hx
  have hl:=T.lt x.block.toNat (by omega)
  show(1≤((β x.block.toNat:Nat):Int)∧((β x.block.toNat:Nat):Int)≤(g.blocks.length:Int) - 1)∧(x.args.map s).length=(blkOf g ((β x.block.toNat:Nat):Int)).params.length
  rw [hbk _ (by omega),T.len]
  refine⟨⟨?_,by omega⟩,?_⟩
  ·have:β x.block.toNat≠0:=fun q=>by
    have:=T.inj x.block.toNat 0 (by omega) hpos (by rw [q,T.zero])
    omega
   omega
  show _=((blkOf f ((x.block.toNat:Nat):Int)).params.map s).length
  rw [List.length_map,List.length_map,show((x.block.toNat:Nat):Int)=x.block by omega]
  exact(m4 x hx).2
 refine⟨fun j c hj n i hi a ha=>?_,fun j c hj h1 h4=>?_,fun j c hj e he a ha=>?_⟩
 ·obtain⟨k,b,h1,h2,h3⟩:=T.get hj
  subst h3
  rw [←h2]
  have hi':(pre k++b.ins.map (trI s))[n]?=some i:=hi
  by_cases hn:n<(pre k).length
  ·rw [List.getElem?_append_left hn] at hi'
   rw [(hpre k i (List.mem_of_getElem? hi')).2] at ha
   cases ha
  rw [List.getElem?_append_right (by omega),List.getElem?_map,Option.map_eq_some_iff] at hi'
  obtain⟨x,hx,rfl⟩:=hi'
  obtain⟨a0,ha0,rfl⟩:=List.mem_map.1 ha
  have:=fine_tr T hg hd (lt_of_getElem? h1) (by omega) (hfv.uses.ins k b h1 _ x hx a0 ha0)
  rw [show(((n - (pre k).length:Nat):Int)+((pre k).length:Int))=n by omega] at this
  exact this
 ·obtain⟨k,b,q1,q2,q3⟩:=T.get hj
  subst q3
  rw [←q2]
  have hk1:b.term.kind≠1:=h1
  have hk4:b.term.kind≠4:=h4
  have:=fine_tr T hg hd (lt_of_getElem? q1) (by omega) (hfv.uses.arg k b q1 hk1 hk4)
  have e1:(trB s β (pre k) b).term.arg=s b.term.arg:=by
   show(if b.term.kind=1∨b.term.kind=4 then b.term.arg else s b.term.arg)=_
   rw [if_neg (by omega)]
  have e2:(((trB s β (pre k) b).ins.length:Nat):Int)=(b.ins.length:Int)+(pre k).length:=by
   show(((pre k++b.ins.map (trI s)).length:Nat):Int)=_
   rw [List.length_append,List.length_map]
   omega
  rw [e1,e2]
  exact this
 obtain⟨k,b,q1,q2,q3⟩:=T.get hj
 subst q3
 rw [←q2]
 obtain⟨x,hx,rfl⟩:=List.mem_map.1 he
 obtain⟨a0,ha0,rfl⟩:=List.mem_map.1 ha
 have:=fine_tr T hg hd (lt_of_getElem? q1) (by omega) (hfv.uses.args k b q1 x hx a0 ha0)
 have e2:(((trB s β (pre k) b).ins.length:Nat):Int)=(b.ins.length:Int)+(pre k).length:=by
  show(((pre k++b.ins.map (trI s)).length:Nat):Int)=_
  rw [List.length_append,List.length_map]
  omega
 rw [e2]
 exact this
end
theorem blk_val{f:Func}{k:Int}(h0:0≤k)(h1:k<f.blocks.length){v:Int}(h:v∈blkVals (blkOf f k)):v∈valsF f :=
 List.mem_flatMap.2 ⟨_,List.mem_of_getElem? (blk_at h0 h1),h⟩
theorem untTr_of{u v:Unt}{s:Int→Int}{β:Int→Nat→Nat}{pre:Int→Nat→List Ins}{c:Int}(hfit:u.fit)(hc:checkM u=0)(hlen:v.fns.length=u.fns.length)(hmain:v.main=u.main)
  (hT:∀fn:Int,0≤fn→fn<u.fns.length→FunTr (fnOf u fn) (fnOf v fn) s (β fn) (pre fn)) (hinj:∀fn:Int,0≤fn→fn<u.fns.length→∀a b,a∈valsF (fnOf u fn)→b∈valsF (fnOf u fn)→s a=s b→a=b)
  (hpre:∀fn:Int,0≤fn→fn<u.fns.length→∀k,∀i∈pre fn k,i.op=0∧∀a∈valsF (fnOf u fn),s a≠i.to) (hcc:∀fn k,1+((pre fn k).length:Int)≤c) :
  UntTr u v s (fun fn a=>0≤fn∧fn<u.fns.length∧a∈valsF (fnOf u fn)) (fun fn b=>0≤b∧b<(fnOf u fn).blocks.length) (fun fn b=>((β fn b.toNat:Nat):Int)) (fun fn b=>pre fn b.toNat) c:=by
 refine⟨hlen,hmain,fun fn j k h1 h2 h3=>hinj fn h1.1 h1.2.1 j k h1.2.2 h2.2.2 h3,fun fn h0 h1=>?_,fun fn b h0 h1 hL=>?_⟩
 ·have hg:=pruneU_gr hfit hc (fnOf_mem h0 h1)
  have:=List.length_pos_iff.2 hg.ne
  refine⟨⟨by omega,by omega⟩,?_,hcc fn _⟩
  show((β fn 0:Nat):Int)=0
  rw [(hT fn h0 h1).zero]
  rfl
 have hf:=fnOf_mem h0 h1
 have T:=hT fn h0 h1
 have hfv:=checkFunc_v (hfit.2.2 _ hf) ((check_parts hc).2.2.2.1 _ hf)
 have hg:=hfv.fn.gr
 have hba:=blk_at hL.1 hL.2
 have hbm:=List.mem_of_getElem? hba
 have hv:=fun v (h:v∈blkVals (blkOf (fnOf u fn) b))=>blk_val hL.1 hL.2 h
 have hB:blkOf (fnOf v fn) ((β fn b.toNat:Nat):Int)=trB s (β fn) (pre fn b.toNat) (blkOf (fnOf u fn) b):=by
  have:=T.blk _ _ hba
  conv=>lhs;unfold blkOf
  rw [Int.toNat_natCast,this]
  rfl
 show BlkTr _ _ _ _ _ _ _ _ _ _ (blkOf (fnOf v fn) ((β fn b.toNat:Nat):Int))
 rw [hB]
 refine⟨⟨rfl,fun p hp=>⟨h0,h1,hv p (List.mem_append_left _ hp)⟩⟩,rfl,fun i hi=>⟨⟨h0,h1,hv i.to (List.mem_append_right _ (List.mem_map.2 ⟨i,hi,rfl⟩))⟩,fun a ha=>⟨h0,h1,?_⟩⟩,fun i hi=>⟨(hpre fn h0 h1 _ i hi).1,fun k hk=>(hpre fn h0 h1 _ i hi).2 k hk.2.2⟩,⟨rfl,rfl,rfl,List.length_map ..⟩,fun q1 q4=>⟨?_,h0,h1,?_⟩,fun k e e' he he'=>?_⟩
 ·obtain⟨n,hn⟩:=List.mem_iff_getElem?.1 hi
  exact fine_val (hfv.uses.ins _ _ hba n i hn a ha)
 ·show(if _ then _ else _)=_
  rw [if_neg (by omega)]
 ·exact fine_val (hfv.uses.arg _ _ hba q1 q4)
 have he2:((blkOf (fnOf u fn) b).term.to.map (trE s (β fn)))[k]?=some e':=he'
 rw [List.getElem?_map,he] at he2
 simp only [Option.map_some,Option.some.injEq] at he2
 subst he2
 have hem:=List.mem_of_getElem? he
 have her:=hg.edges _ hbm e hem
 exact⟨⟨by omega,her.2⟩,fun a ha=>⟨h0,h1,fine_val (hfv.uses.args _ _ hba e hem a ha)⟩,.inl ⟨rfl,rfl,hcc fn _⟩⟩
theorem checkU_tr{u v:Unt}{s:Int→Int}{β:Int→Nat→Nat}{pre:Int→Nat→List Ins}(hc:checkM u=0)(hfit:u.fit)(hlen:v.fns.length=u.fns.length)(hmain:v.main=u.main)
  (hT:∀fn:Int,0≤fn→fn<u.fns.length→FunTr (fnOf u fn) (fnOf v fn) s (β fn) (pre fn)) (hpre:∀fn:Int,0≤fn→fn<u.fns.length→∀k,∀i∈pre fn k,i.op=0) (hck:∀fn:Int,0≤fn→fn<u.fns.length→checkFuncM (fnOf v fn)=0):checkM v=0:=by
 obtain⟨c1,c2,c3,c4,c5,c6⟩:=check_parts hc
 have hmr:=within_iff.1 c3
 have hpar:∀k:Int,0≤k→k<u.fns.length→(blkOf (fnOf v k) 0).params.length=(blkOf (fnOf u k) 0).params.length:=fun k h0 h1=>by
  have T:=hT k h0 h1
  have hg:=pruneU_gr hfit hc (fnOf_mem h0 h1)
  have hpos:=List.length_pos_iff.2 hg.ne
  have:=T.blk 0 _ (blk_at (f:=fnOf u k) (k:=0) (by omega) (by omega))
  rw [T.zero] at this
  have hb0:blkOf (fnOf v k) 0=trB s (β k) (pre k 0) (blkOf (fnOf u k) 0):=by
   conv=>lhs;unfold blkOf
   rw [show(0:Int).toNat=0 from rfl,this]
   rfl
  rw [hb0]
  exact List.length_map ..
 have hat:∀g∈v.fns,∃fn:Int,0≤fn∧fn<u.fns.length∧fnOf v fn=g:=fun g hg=>by
  obtain⟨k,hk⟩:=List.mem_iff_getElem?.1 hg
  have:=lt_of_getElem? hk
  refine⟨k,by omega,by omega,?_⟩
  unfold fnOf
  rw [Int.toNat_natCast,hk]
  rfl
 refine check_unit (by rw [hlen];exact c1) (by rw [hlen];exact c2) (by rw [hlen,hmain];exact c3) (fun g hg=>?_) (by rw [hmain,hpar u.main (by omega) (by omega)];exact c5) (callsF_intro fun g hg b hb i hi=>?_)
 ·obtain⟨fn,h0,h1,rfl⟩:=hat g hg
  exact hck fn h0 h1
 obtain⟨fn,h0,h1,rfl⟩:=hat g hg
 obtain⟨j,hj⟩:=List.mem_iff_getElem?.1 hb
 obtain⟨k,c,q1,q2,q3⟩:=(hT fn h0 h1).get hj
 subst q3
 rcases List.mem_append.1 hi with q | q
 ·have:=hpre fn h0 h1 k i q
  unfold callsE
  rw [if_pos (by omega)]
 obtain⟨x,hx,rfl⟩:=List.mem_map.1 q
 have hf:=fnOf_mem h0 h1
 have hbm:=List.mem_of_getElem? q1
 have hform:=form_ok (((checkFunc_ok (hfit.2.2 _ hf) (c4 _ hf)).blk _ hbm).forms x hx)
 rw [calls_same (u:=u) hlen (fun k h0 h1=>hpar k h0 h1) (i:=x) (j:=trI s x) rfl rfl (List.length_map ..) (fun q=>(hform.call (by omega)).1)]
 exact callsF_all c6 _ hf _ hbm x hx
end Go.Proofs.Ytkhnjeblbiocaaa
namespace Go.Proofs.Ytkhnjeblbiocaaa
open Go.Av
theorem blkVals_tr(s:Int→Int)(β:Nat→Nat)(p:List Ins)(b:Block):blkVals (trB s β p b)=b.params.map s++(p.map Ins.to++(b.ins.map Ins.to).map s):=by
 unfold blkVals trB
 simp only [List.map_append,List.map_map]
 rfl
theorem blkVals_ren(s:Int→Int)(β:Nat→Nat)(b:Block):blkVals (trB s β [] b)=(blkVals b).map s:=by
 rw [blkVals_tr]
 unfold blkVals
 simp only [List.map_append,List.map_nil,List.nil_append]
theorem sumI_map{F:Block→Block}(h:∀b,(F b).ins.length=b.ins.length)(l:List Block):sumI (l.map F)=sumI l:=by
 unfold sumI
 rw [List.map_map]
 congr 1
 exact List.map_congr_left fun b _=>h b
theorem perform_eq{u v:Unt}{s:Int→Int}{D L:Int→Int→Prop}{β:Int→Int→Int}{pre:Int→Int→List Ins}(T:UntTr u v s D L β pre 1)(hu:UnitOK u)(hv:UnitOK v){F:Int}(hF:0≤F∧F≤1000000)(he:(performM u F).e=0):performM v F=performM u F:=by
 obtain⟨q1,q2,q3,q4,q5,q6⟩:=perform_rel T hu hv (Int.le_refl 1) hF hF.2 (by omega) he
 have hn:(performM v F).n=(performM u F).n:=by omega
 generalize performM v F=A at *
 generalize performM u F=B at *
 obtain⟨a1,a2,a3,a4,a5⟩:=A
 obtain⟨b1,b2,b3,b4,b5⟩:=B
 simp only at *
 subst q2 q3 q4 hn
 rw [q1,he]
theorem fnOf_map{G:Func→Func}{u:Unt}{k:Int}(h0:0≤k)(h1:k<u.fns.length):fnOf ⟨u.fns.map G,u.main⟩ k=G (fnOf u k):=by
 unfold fnOf
 simp only
 rw [List.getElem?_map,List.getElem?_eq_getElem (by omega)]
 rfl
theorem trB_fit{s:Int→Int}{β:Nat→Nat}{p:List Ins}{b:Block}(h:b.fit)(hs:∀v,fitI v→fitI (s v))(hβ:∀e∈b.term.to,fitI (((β e.block.toNat:Nat):Int)))(hp:p.length+b.ins.length≤2 ^ 47∧∀i∈p,i.fit):(trB s β p b).fit:=by
 have hl:∀l:List Int,fitIs l→fitIs (l.map s):=fun l hl n hn=>by
  obtain⟨a,ha,rfl⟩:=List.mem_map.1 hn
  exact hs a (hl a ha)
 obtain⟨h1,h2,h3,h4,h5⟩:=h
 obtain⟨t1,t2,t3,t4,t5,t6,t7⟩:=h5
 refine⟨hl _ h1,by show(b.params.map s).length≤_;rw [List.length_map];exact h2,by show(p++b.ins.map (trI s)).length≤_;rw [List.length_append,List.length_map];exact hp.1,fun i hi=>?_,t1,?_,t3,t4,t5,by show(b.term.to.map _).length≤_;rw [List.length_map];exact t6,fun e he=>?_⟩
 ·rcases List.mem_append.1 hi with q | q
  ·exact hp.2 i q
  obtain⟨x,hx,rfl⟩:=List.mem_map.1 q
  obtain⟨x1,x2,x3,x4,x5⟩:=h4 x hx
  exact⟨hs _ x1,x2,x3,hl _ x4,by show(x.args.map s).length≤_;rw [List.length_map];exact x5⟩
 ·show fitI (if _ then _ else _)
  split
  ·exact t2
  exact hs _ t2
 obtain⟨x,hx,rfl⟩:=List.mem_map.1 he
 obtain⟨x1,x2,x3⟩:=t7 x hx
 exact⟨hβ x hx,hl _ x2,by show(x.args.map s).length≤_;rw [List.length_map];exact x3⟩
section
variable {u:Unt} (hfit:u.fit) (hc:checkM u=0)
include hfit hc
end
def ordK(n k:Nat):Nat:=if k=0 then 0 else n - k
def ordB(n:Nat):Block→Block:=trB (fun a=>a) (ordK n) []
def ordF(f:Func):Func:=⟨f.name,match f.blocks with | []=>[] | b::r=>ordB f.blocks.length b::(r.map (ordB f.blocks.length)).reverse⟩
def ordU(u:Unt):Unt:=⟨u.fns.map ordF,u.main⟩
theorem ordF_tr(f:Func):FunTr f (ordF f) (fun a=>a) (ordK f.blocks.length) (fun _=>[]):=by
 refine⟨rfl,?_,rfl,fun k h=>?_,fun i j hi hj h=>?_,fun j hj=>?_,fun k b h=>?_⟩
 ·unfold ordF
  cases f.blocks with
  | nil=>rfl
  | cons b r=>simp
 ·unfold ordK
  split<;>omega
 ·unfold ordK at h
  split at h<;>split at h<;>omega
 ·refine⟨ordK f.blocks.length j,?_,?_⟩
  ·unfold ordK
   split<;>omega
  unfold ordK
  split
  ·rename_i q
   simp only [q]
   rfl
  rw [if_neg (by omega)]
  omega
 have hk:=lt_of_getElem? h
 unfold ordF ordK
 cases hb:f.blocks with
 | nil=>rw [hb] at h;simp at h
 | cons c r =>
  rw [hb] at h hk
  simp only [List.length_cons] at hk ⊢
  cases k with
  | zero =>
   simp only [List.getElem?_cons_zero,Option.some.injEq] at h
   subst h
   rw [if_pos rfl]
   rfl
  | succ k =>
   simp only [List.getElem?_cons_succ] at h
   rw [if_neg (by omega),show r.length+1 - (k+1)=(r.length - k - 1)+1 by omega,List.getElem?_cons_succ,List.getElem?_reverse (by rw [List.length_map];omega),List.length_map,show r.length - 1 - (r.length - k - 1)=k by omega,List.getElem?_map,h]
   rfl
theorem ordB_vals(n:Nat)(b:Block):blkVals (ordB n b)=blkVals b:=by
 unfold ordB
 rw [blkVals_ren,List.map_id']
theorem ordF_perm(f:Func):(ordF f).blocks.Perm (f.blocks.map (ordB f.blocks.length)):=by
 unfold ordF
 generalize f.blocks.length=n
 cases f.blocks with
 | nil=>exact .refl _
 | cons b r=>exact .cons _ (List.reverse_perm _)
theorem ordF_vals(f:Func):(valsF (ordF f)).Perm (valsF f):=by
 have h:=(ordF_perm f).flatMap_right blkVals
 rw [List.flatMap_map] at h
 simp only [ordB_vals] at h
 exact h
theorem ordB_len(n:Nat)(b:Block):(ordB n b).ins.length=b.ins.length:=by
 show([]++b.ins.map _).length=_
 simp
theorem ordF_check{f:Func}(hfit:f.fit)(hc:checkFuncM f=0):checkFuncM (ordF f)=0:=by
 have hv:=checkFunc_v hfit hc
 refine check_tr (ordF_tr f) hfit hc (fun k i hi=>by cases hi) (fun c hcm=>?_) ?_ (fun v h=>hv.vals v ((ordF_vals f).mem_iff.1 h)) ((ordF_vals f).nodup_iff.2 hv.nodup)
 ·obtain⟨b,hb,rfl⟩:=List.mem_map.1 ((ordF_perm f).mem_iff.1 hcm)
  rw [ordB_len]
  exact hv.fn.ins b hb
 have h1:sumI (ordF f).blocks=sumI (f.blocks.map (ordB f.blocks.length)):=by
  unfold sumI
  exact((ordF_perm f).map _).sum_nat
 rw [h1,sumI_map (ordB_len _)]
 exact sum_few hfit hc
section
variable {u:Unt} (hfit:u.fit) (hc:checkM u=0)
include hfit hc
theorem ordU_fit:(ordU u).fit:=by
 refine⟨hfit.1,by unfold ordU;rw [List.length_map];exact hfit.2.1,fun g hg=>?_⟩
 obtain⟨f,hf,rfl⟩:=List.mem_map.1 hg
 obtain⟨f1,f2,f3⟩:=hfit.2.2 f hf
 refine⟨f1,by rw [(ordF_tr f).len];exact f2,fun c hcm=>?_⟩
 obtain⟨b,hb,rfl⟩:=List.mem_map.1 ((ordF_perm f).mem_iff.1 hcm)
 have hg:=pruneU_gr hfit hc hf
 exact trB_fit (f3 b hb) (fun v h=>h) (fun e he=>by
  have:=hg.edges b hb e he
  have:=hg.few
  have:=(ordF_tr f).lt e.block.toNat (by omega)
  exact⟨by omega,by omega⟩) ⟨by simpa using (f3 b hb).2.2.1,fun i hi=>by cases hi⟩
theorem ordU_check:checkM (ordU u)=0:=by
 refine checkU_tr (v:=ordU u) (s:=fun a=>a) (β:=fun fn=>ordK (fnOf u fn).blocks.length) (pre:=fun _ _=>[]) hc hfit (List.length_map ..) rfl (fun fn h0 h1=>?_) (fun fn _ _ k i hi=>by cases hi) fun fn h0 h1=>?_
 ·rw [show fnOf (ordU u) fn=ordF (fnOf u fn) from fnOf_map h0 h1]
  exact ordF_tr _
 rw [show fnOf (ordU u) fn=ordF (fnOf u fn) from fnOf_map h0 h1]
 have hf:=fnOf_mem h0 h1
 exact ordF_check (hfit.2.2 _ hf) ((check_parts hc).2.2.2.1 _ hf)
theorem ordU_law{F:Int}(hF:0≤F∧F≤1000000)(he:(performM u F).e=0):performM (ordU u) F=performM u F:=by
 have hu:=unit_ok hfit hc
 have hv:=unit_ok (ordU_fit hfit hc) (ordU_check hfit hc)
 refine perform_eq (untTr_of (v:=ordU u) (s:=fun a=>a) (β:=fun fn=>ordK (fnOf u fn).blocks.length) (pre:=fun _ _=>[]) hfit hc (List.length_map ..) rfl (fun fn h0 h1=>?_) (fun fn h0 h1 a b ha hb h=>h) (fun fn _ _ k i hi=>by cases hi) (fun _ _=>by simp)) hu hv hF he
 rw [show fnOf (ordU u) fn=ordF (fnOf u fn) from fnOf_map h0 h1]
 exact ordF_tr _
end
section
variable {u:Unt} (hfit:u.fit) (hc:checkM u=0)
include hfit hc
end
end Go.Proofs.Ytkhnjeblbiocaaa
namespace Go.Av
inductive PR(π:List Nat)(k:Nat):AVal→AVal→Prop
 | same {x:AVal} (h:x.upto k):PR π k x x
 | os {a b n sz:Nat} (h:π[b]?=some a):PR π k (.os a n sz) (.os b n sz)
inductive OR(π:List Nat)(k:Nat):AObj→AObj→Prop
 | same {o:AObj} (h:o.upto k):OR π k o o
 | cells {cs ds:List AVal} (hl:ds.length=cs.length) (hs:∀d∈ds,d.scalar) (h:∀(j:Nat) (c d:AVal),cs[j]?=some c→ds[j]?=some d→PR π k c d):OR π k (.cells cs) (.cells ds)
structure Ren(O O':List AObj)(π:List Nat)(k:Nat):Prop where
 len:O'.length=π.length
 kle:k≤π.length
 low:∀i:Nat,i<k→π[i]?=some i
 inj:∀i j a:Nat,π[i]?=some a→π[j]?=some a→i=j
 obj:∀i a:Nat,π[i]?=some a→∃o o',O[a]?=some o∧O'[i]?=some o'∧OR π k o o'
def gren(g:G)(π:List Nat)(O':List AObj):G:=⟨g.w,g.fr,π.map fun a=>(g.env[a]?).getD none,O'⟩
theorem OR.live{π:List Nat}{k:Nat}{o o':AObj}(h:OR π k o o'):(o'.live↔o.live)∧(o'.isSpare↔o.isSpare):=by
 cases h with
 | same=>exact⟨Iff.rfl,Iff.rfl⟩
 | cells=>exact⟨Iff.rfl,Iff.rfl⟩
theorem OR.spare{π:List Nat}{k:Nat}{o:AObj}{m:Nat}(h:OR π k o (.spare m)):o=.spare m:=by
 cases h with
 | same=>rfl
theorem OR.spare'{π:List Nat}{k:Nat}{o:AObj}{m:Nat}(h:OR π k (.spare m) o):o=.spare m:=by
 cases h with
 | same=>rfl
section
variable {g:G} {O':List AObj} {π:List Nat} {k:Nat}
theorem gren_env{i a:Nat}(h:π[i]?=some a):(gren g π O').env[i]?=some ((g.env[a]?).getD none):=by
 show(π.map _)[i]?=_
 rw [List.getElem?_map,h]
 rfl
theorem gren_at(hr:Ren g.objs O' π k){i:Nat}{o':AObj}(h:O'[i]?=some o'):∃a o,π[i]?=some a∧g.objs[a]?=some o∧OR π k o o':=by
 have hl:=lt_of_getElem? h
 rw [hr.len] at hl
 have ha:π[i]?=some (π[i]'hl):=List.getElem?_eq_getElem _
 obtain⟨o,o2,h1,h2,h3⟩:=hr.obj i _ ha
 rw [h] at h2
 simp only [Option.some.injEq] at h2
 subst h2
 exact⟨_,o,ha,h1,h3⟩
theorem gren_loc{a:Nat}{l:Loc}(h:(g.env[a]?).getD none=some l):g.env[a]?=some (some l):=by
 cases he:g.env[a]? with
 | none=>rw [he] at h;cases h
 | some e=>rw [he] at h;simp only [Option.getD_some] at h;rw [h]
theorem gren_own(hr:Ren g.objs O' π k){b off:Nat}(h:OwnL (gren g π O') b off):OwnL g b off:=by
 obtain⟨id,l,o',h1,h2,h3,h4,h5⟩:=h
 obtain⟨a,o,a1,a2,a3⟩:=gren_at hr h2
 rw [gren_env a1] at h1
 simp only [Option.some.injEq] at h1
 exact⟨a,l,o,gren_loc h1,a2,a3.live.1.1 h3,h4,h5⟩
theorem gren_ownB(hr:Ren g.objs O' π k){b:Nat}(h:OwnLB (gren g π O') b):OwnLB g b:=by
 obtain⟨id,l,o',h1,h2,h3,h4⟩:=h
 obtain⟨a,o,a1,a2,a3⟩:=gren_at hr h2
 rw [gren_env a1] at h1
 simp only [Option.some.injEq] at h1
 exact⟨a,l,o,gren_loc h1,a2,a3.live.1.1 h3,h4⟩
theorem gren_ownC(hr:Ren g.objs O' π k){b off:Nat}(h:OwnC (gren g π O') b off):OwnC g b off:=h.imp id (gren_own hr)
theorem gren_low(hg:Good g)(hr:Ren g.objs O' π k){i:Nat}(hi:i<k):(gren g π O').env[i]?=g.env[i]?∧∃o o',g.objs[i]?=some o∧O'[i]?=some o'∧OR π k o o':=by
 have hp:=hr.low i hi
 obtain⟨o,o',h1,h2,h3⟩:=hr.obj i i hp
 refine⟨?_,o,o',h1,h2,h3⟩
 rw [gren_env hp]
 have hlt:=lt_of_getElem? h1
 rw [←hg.len] at hlt
 have he:g.env[i]?=some (g.env[i]'hlt):=List.getElem?_eq_getElem _
 rw [he]
 rfl
theorem own_ren(hg:Good g)(hr:Ren g.objs O' π k){id:Nat}(hid:id<k){a:Addr}{sz len cap:Nat}(ho:OwnOK g (.tok id) a sz len cap):OwnOK (gren g π O') (.tok id) a sz len cap:=by
 obtain⟨e1,o,o',e2,e3,e4⟩:=gren_low hg hr hid
 obtain⟨q1,q2⟩:=ho
 refine⟨by have:=lt_of_getElem? e3;exact this,fun m hm'=>?_⟩
 have hm2:O'[id]?=some (.spare m):=hm'
 rw [e3] at hm2
 simp only [Option.some.injEq] at hm2
 subst hm2
 rw [e4.spare] at e2
 obtain⟨r1,r2⟩:=q2 m e2
 refine⟨r1,fun e=>(r2 e).imp (fun h=>h) ?_⟩
 rintro⟨l,arr,t,p1,p2,p3,p4,p5⟩
 exact⟨l,arr,t,e1.trans p1,p2,p3,p4,p5⟩
theorem rv_ren(hg:Good g)(hr:Ren g.objs O' π k){x:AVal}{u:Value}(h:RV g x u)(hb:x.upto k):RV (gren g π O') x u:=by
 induction h with
 | v hx=>exact .v hx
 | agg hl hsc _ ih =>
  simp only [AVal.upto,uptoL_iff] at hb
  exact .agg hl hsc fun i c u a b=>ih i c u a b (hb c (List.mem_of_getElem? a))
 | nil ho hnn =>
  simp only [AVal.upto] at hb
  refine .nil (fun id e=>?_) hnn
  subst e
  obtain⟨_,o,o',e2,e3,e4⟩:=gren_low hg hr (i:=id) hb.2
  exact lt_of_getElem? e3
 | lst hsz hsc hcap hmax hs f hm hr' ho ih =>
  rename_i sz xs o a cap
  simp only [AVal.upto,uptoL_iff] at hb
  refine .lst hsz hsc hcap hmax hs f (fun j c hj=>⟨(hm j c hj).1,fun q=>(hm j c hj).2 (gren_ownC hr q)⟩) (fun j c hj=>ih j c hj ?_) ?_
  ·have hc:=List.mem_of_getElem? hj
   simp only [cellsAll,List.mem_flatMap] at hc
   obtain⟨x,hx,hc⟩:=hc
   have:=hb.1 x hx
   cases x with
   | agg cs =>
    simp only [AVal.upto,uptoL_iff] at this
    exact this c hc
   | _=>simp only [AVal.cells,List.mem_singleton] at hc;subst hc;exact this
  cases o with
  | sh=>trivial
  | nn=>trivial
  | ex=>exact ho
  | loc a=>exact ho
  | tok id=>exact own_ren hg hr hb.2 ho
 | ip ha hsc f hm _ ih =>
  simp only [AVal.upto,uptoL_iff] at hb
  exact .ip ha hsc f (fun j c hj=>⟨(hm j c hj).1,fun q=>(hm j c hj).2 (gren_ownC hr q)⟩) fun j c hj=>ih j c hj (hb c (List.mem_of_getElem? hj))
 | mp he ho hn =>
  obtain⟨e1,o,o',e2,e3,e4⟩:=gren_low hg hr hb
  rw [ho] at e2
  simp only [Option.some.injEq] at e2
  subst e2
  exact .mp (e1.trans he) e3 fun q=>hn (e4.live.2.1 q)
 | ms he ho hn hc hc' hmax =>
  obtain⟨e1,o,o',e2,e3,e4⟩:=gren_low hg hr hb
  rw [ho] at e2
  simp only [Option.some.injEq] at e2
  subst e2
  exact .ms (e1.trans he) e3 (fun q=>hn (e4.live.2.1 q)) hc hc' hmax
 | os he ho hn hc hc' hmax =>
  obtain⟨e1,o,o',e2,e3,e4⟩:=gren_low hg hr hb
  rw [ho] at e2
  simp only [Option.some.injEq] at e2
  subst e2
  exact .os (e1.trans he) e3 (fun q=>hn (e4.live.2.1 q)) hc hc' hmax
 | raw hnn ho=>exact .raw hnn (own_ren hg hr hb ho)
 | mm he ho hn =>
  obtain⟨e1,o,o',e2,e3,e4⟩:=gren_low hg hr hb
  rw [ho] at e2
  simp only [Option.some.injEq] at e2
  subst e2
  exact .mm (e1.trans he) e3 fun q=>hn (e4.live.2.1 q)
 | im hh hn' hl hk hkt _ ih =>
  simp only [AVal.upto,uptoE_iff] at hb
  exact .im hh (fun off q=>hn' off (gren_ownC hr q)) hl hk hkt fun i e kx a b=>ih i e kx a b (hb kx (List.mem_of_getElem? b))
 | fn hl hl' _ _ ih ih' =>
  simp only [AVal.upto,uptoL_iff] at hb
  exact .fn hl hl' (fun i c u a b=>ih i c u a b (hb.1 c (List.mem_of_getElem? a))) fun i c u a b=>ih' i c u a b (hb.2 c (List.mem_of_getElem? a))
 | tup hl _ ih =>
  simp only [AVal.upto,uptoL_iff] at hb
  exact .tup hl fun i c u a b=>ih i c u a b (hb c (List.mem_of_getElem? a))
theorem pr_ren(hg:Good g)(hr:Ren g.objs O' π k){x y:AVal}{u:Value}(h:RV g x u)(hp:PR π k x y):RV (gren g π O') y u:=by
 cases hp with
 | same hb=>exact rv_ren hg hr h hb
 | os hb =>
  obtain⟨l,o,cap,h1,h2,h3,h4,h5,h6,rfl⟩:=h.os_inv
  obtain⟨o1,o',e1,e2,e3⟩:=hr.obj _ _ hb
  rw [h2] at e1
  simp only [Option.some.injEq] at e1
  subst e1
  exact .os (by rw [gren_env hb,h1];rfl) e2 (fun q=>h3 (e3.live.2.1 q)) h4 h5 h6
theorem good_ren(hg:Good g)(hr:Ren g.objs O' π k):Good (gren g π O') where
 frlt:=hg.frlt
 frown:=fun id l o h1 h2 h3=>by
  obtain⟨a,o1,a1,a2,a3⟩:=gren_at hr h2
  rw [gren_env a1] at h1
  simp only [Option.some.injEq] at h1
  exact hg.frown a l o1 (gren_loc h1) a2 (a3.live.1.1 h3)
 len:=by
  show(π.map _).length=O'.length
  rw [List.length_map,hr.len]
 loc:=fun id l o h1 h2 h3=>by
  obtain⟨a,o1,a1,a2,a3⟩:=gren_at hr h2
  rw [gren_env a1] at h1
  simp only [Option.some.injEq] at h1
  exact hg.loc a l o1 (gren_loc h1) a2 (a3.live.1.1 h3)
 apart:=fun id id' l l' o o' h1 h2 h3 k1 k2 k3 hb=>by
  obtain⟨a,o1,a1,a2,a3⟩:=gren_at hr h2
  obtain⟨b,o2,b1,b2,b3⟩:=gren_at hr k2
  rw [gren_env a1] at h1
  rw [gren_env b1] at k1
  simp only [Option.some.injEq] at h1 k1
  have:=hg.apart a b l l' o1 o2 (gren_loc h1) a2 (a3.live.1.1 h3) (gren_loc k1) b2 (b3.live.1.1 k3) hb
  subst this
  exact hr.inj id id' a a1 b1
 cells:=fun id cs h=>by
  obtain⟨a,o,a1,a2,a3⟩:=gren_at hr h
  cases a3 with
  | same hb =>
   obtain⟨l,arr,t,e1,e0,e2,e3,e4,e5,e6⟩:=hg.cells a cs a2
   simp only [AObj.upto,uptoL_iff] at hb
   exact⟨l,arr,t,by rw [gren_env a1,e1];rfl,e0,e2,e3,fun j c u p q=>rv_ren hg hr (e4 j c u p q) (hb c (List.mem_of_getElem? p)),e5,e6⟩
  | cells hl hs hp =>
   rename_i cs0
   obtain⟨l,arr,t,e1,e0,e2,e3,e4,e5,e6⟩:=hg.cells a cs0 a2
   refine⟨l,arr,t,by rw [gren_env a1,e1];rfl,e0,e2,by omega,fun j c u p q=>?_,hs,e6⟩
   have hj:=lt_of_getElem? p
   have h0:cs0[j]?=some (cs0[j]'(by omega)):=List.getElem?_eq_getElem _
   exact pr_ren hg hr (e4 j _ u h0 q) (hp j _ c h0 p)
 spare:=fun id m l h1 h2=>by
  obtain⟨a,o,a1,a2,a3⟩:=gren_at hr h1
  rw [gren_env a1] at h2
  simp only [Option.some.injEq] at h2
  rw [a3.spare] at a2
  exact hg.spare a m l a2 (gren_loc h2)
 map:=fun id kt es h=>by
  obtain⟨a,o,a1,a2,a3⟩:=gren_at hr h
  cases a3 with
  | same hb =>
   obtain⟨l,arr,clk,e1,e0,e2,e3,e6,e4⟩:=hg.map a kt es a2
   simp only [AObj.upto,uptoE_iff] at hb
   exact⟨l,arr,clk,by rw [gren_env a1,e1];rfl,e0,e2,e3,e6,fun i e kx p q=>⟨(e4 i e kx p q).1,(e4 i e kx p q).2.1,rv_ren hg hr (e4 i e kx p q).2.2 (hb kx (List.mem_of_getElem? q))⟩⟩
theorem le_ren{g0:G}(hg:Good g)(hr:Ren g.objs O' π k)(h:Le g0 g)(hk:g0.objs.length≤k):Le g0 (gren g π O') where
 os:=h.os
 tape:=h.tape
 output:=h.output
 fr:=h.fr
 size:=h.size
 block:=fun i hi hh=>⟨(h.block i hi hh).1,fun q=>(h.block i hi hh).2 (gren_ownB hr q)⟩
 cell:=fun b off x hx hh=>⟨(h.cell b off x hx hh).1,fun q=>(h.cell b off x hx hh).2 (gren_own hr q)⟩
 len:=by
  have:=hr.len
  have:=hr.kle
  show _≤O'.length
  omega
 spare:=fun id m hm=>by
  have hlt:=lt_of_getElem? hm
  obtain⟨_,o,o',e2,e3,e4⟩:=gren_low hg hr (i:=id) (by omega)
  rcases h.spare id m hm with⟨m',q1,q2⟩ | ⟨o2,q1,q2⟩
  ·rw [q1] at e2
   simp only [Option.some.injEq] at e2
   subst e2
   have e5:=e4.spare'
   subst e5
   exact .inl ⟨m',e3,q2⟩
  rw [q1] at e2
  simp only [Option.some.injEq] at e2
  subst e2
  exact .inr ⟨o',e3,fun q=>q2 (e4.live.2.1 q)⟩
 plain:=fun id o ho hs=>by
  have hlt:=lt_of_getElem? ho
  obtain⟨e1,o1,o',e2,e3,e4⟩:=gren_low hg hr (i:=id) (by omega)
  obtain⟨⟨o2,q1,q2⟩,q3⟩:=h.plain id o ho hs
  rw [q1] at e2
  simp only [Option.some.injEq] at e2
  subst e2
  exact⟨⟨o',e3,fun q=>q2 (e4.live.2.1 q)⟩,e1.trans q3⟩
 gone:=fun id ho=>by
  have hlt:=lt_of_getElem? ho
  obtain⟨_,o1,o',e2,e3,e4⟩:=gren_low hg hr (i:=id) (by omega)
  rw [h.gone id ho] at e2
  simp only [Option.some.injEq] at e2
  subst e2
  cases e4 with
  | same=>exact e3
 tok:=fun id m hm hm'=>by
  have hlt:=lt_of_getElem? hm
  obtain⟨e1,o1,o',e2,e3,e4⟩:=gren_low hg hr (i:=id) (by omega)
  have hm2:O'[id]?=some (.spare m):=hm'
  rw [e3] at hm2
  simp only [Option.some.injEq] at hm2
  subst hm2
  rw [e4.spare] at e2
  obtain⟨q1,q2⟩:=h.tok id m hm e2
  exact⟨e1.trans q1,q2⟩
end
def RR(π:List Nat)(k:Nat)(r r':AVal):Prop:=PR π k r r'∨∃cs ds,r=.agg cs∧r'=.agg ds∧ds.length=cs.length∧(∀d∈ds,d.scalar)∧∀(j:Nat) (c d:AVal),cs[j]?=some c→ds[j]?=some d→PR π k c d
theorem ecall_ren{P:Program}{f:FuncId}{O:List AObj}{args:List AVal}{R R':AVal→List AObj→Prop}(h:ECall P f O args R)(hR:∀r O1,R r O1→∃r' O' π,Ren O1 O' π O.length∧RR π O.length r r'∧R' r' O'):ECall P f O args R' :=
 ⟨h.1,fun g vs hg ho ha=>(h.2 g vs hg ho ha).mono fun _ _ ⟨g',v,r,h1,h2,h3,h4,h5,h6⟩=>by
  obtain⟨r',O',π,q1,q2,q3⟩:=hR _ _ h6
  refine⟨gren g' π O',v,r',h1,h2,le_ren h4 q1 h3 (by rw [ho];exact Nat.le_refl _),good_ren h4 q1,?_,q3⟩
  rcases q2 with q | ⟨cs,ds,rfl,rfl,e1,e2,e3⟩
  ·exact pr_ren h4 q1 h5 q
  obtain⟨us,rfl,u1,u2,u3⟩:=h5.agg_inv
  refine .agg (by omega) e2 fun i d u hd hu=>?_
  have hi:=lt_of_getElem? hd
  have hc:cs[i]?=some (cs[i]'(by omega)):=List.getElem?_eq_getElem _
  exact pr_ren h4 q1 (u3 i _ u hc hu) (e3 i _ d hc hd)⟩
end Go.Av
namespace Go.Av
theorem RV.pushRow{g:G}(hg:Good g){xs:List AVal}{sz cap:Nat}{arr:Array Value}{t:TypeId}(hsz:∀x∈xs,x.cells.length=sz)(hsc:∀c∈cellsAll xs,c.scalar)(hmax:xs.length≤2 ^ 62)(hcap:xs.length≤cap)(hc:cap * sz≤arr.size)
  (hr:∀(j:Nat) (c:AVal) (u:Value),(cellsAll xs)[j]?=some c→arr[j]?=some u→RV g c u):RV (g.push (.cells arr t)) (.lst sz xs .sh) (.slice (some ⟨g.w.heap.size,0,none⟩) xs.length cap):=by
 have hle:=Le.push g hg (.cells arr t)
 have hl:=cellsAll_length hsz
 have hle2:xs.length * sz≤cap * sz:=Nat.mul_le_mul_right _ hcap
 refine .lst hsz (fun x hx c hc=>hsc c (by simp only [cellsAll,List.mem_flatMap];exact⟨x,hx,hc⟩)) hcap hmax (fun _=>rfl) (fun j=>arr.getD j undef) (fun j c hj=>?_) (fun j c hj=>?_) trivial
 ·have hlt:=lt_of_getElem? hj
  rw [hl] at hlt
  refine⟨?_,?_⟩
  ·simp only [G.cell,G.push,Nat.zero_add]
   rw [cell_of_row (heap_push_new _ _)]
   simp [Array.getD_eq_getD_getElem?,show j<arr.size by omega]
  rintro(hf | ⟨id,l,o,h1,h2,h3,h4,_⟩)
  ·have hf':g.fr g.w.heap.size (0+j):=hf
   have:=hg.frlt _ _ hf'
   omega
  have:=hg.loc id l o h1 h2 h3
  have h4':l.block=g.w.heap.size:=h4
  omega
 have hlt:=lt_of_getElem? hj
 rw [hl] at hlt
 exact(hr j c _ hj (by simp [Array.getD_eq_getD_getElem?,show j<arr.size by omega])).mono hle
theorem cert_append_sh{P:Program}{tab:Tab}(hT:TabOK P tab){o:Oper}{σ:St}{t e:TypeId}{x y:Operand}{ti te:TInfo}{sz:Nat}{xs ys:List AVal}{ow:Own}
  (ho:o.op=.call ⟨.builtin .append,#[x,y],#[t,t]⟩) (hd:∀d,o.dst=some d→d<σ.n) (ht:tab t=some ti) (hdesc:ti.desc=.slice e) (he:tab e=some te) (hsz:te.size=sz) (hx:σ.ev x=some (.lst sz xs .ex)) (hy:σ.ev y=some (.lst sz ys ow))
  (hlen:xs.length+ys.length≤2 ^ 62) (hb:(xs.length+ys.length) * te.bytes≤2 ^ 47) :
  Cert P o σ (.lst sz (xs++ys.map AVal.share) .sh) .pure :=
 Cert.ofRun hd fun base σ' a g hrel h _=>by
  have hg:=hrel.good
  have hu:=slice_desc hT ht hdesc
  subst hsz
  have hx':=h x (by simp [ho,Op.operands,Call.operands]) _ hx
  have hy':=h y (by simp [ho,Op.operands,Call.operands]) _ hy
  obtain⟨adx,capx,olds,ex,hx1,hx2,hx3,hx4,hx5,hx6⟩:=hx'.lst_read (P:=P)
  obtain⟨ady,capy,news,ey,hy1,hy2,hy3,hy4,hy5,hy6⟩:=hy'.lst_read (P:=P)
  obtain⟨⟨i,z,h1,h2,h3,h4,h5,h6,h7,h8,h9⟩,_⟩:=hT e te he
  have hcapx:capx=xs.length:=by
   rcases hx'.lst_inv with⟨q1,q2⟩ | ⟨ad,cap,f,q1,_,_,_,_,_,_,_,q2⟩
   ·rw [ex] at q1
    cases q2
    simp at q1
    simp [q1]
   rw [ex] at q1
   simp only [Value.slice.injEq] at q1
   rw [q1.2.2]
   exact q2
  subst hcapx
  have hexec:=run_builtin1 (P:=P) ho a g.w
  simp only [builtin,List.map_toArray,List.map_cons,List.map_nil] at hexec
  by_cases hn:ys.length=0
  ·have hys:ys=[]:=List.length_eq_zero_iff.1 hn
   subst hys
   have hnews:news=[]:=by
    have:news.length=0:=by simpa using hy6
    exact List.length_eq_zero_iff.1 this
   subst hnews
   have hrun:(Builtin.append_ #[t,t] o.type #[a.eval x,a.eval y]).run P g.w=.ok (a.eval x) g.w:=by
    rw [ex]
    cases adx with
    | none =>
     have hx0:xs=[]:=by
      rcases hx'.lst_inv with⟨_,q2⟩ | ⟨ad,cap,f,q1,_⟩
      ·exact q2
      rw [ex] at q1
      simp at q1
     subst hx0
     have q:=hy2 g.w rfl
     simp only [List.length_nil] at q
     simp [Builtin.append_,run_underlying hu,Go.sizeOf,typeInfo,h1,hy1,h2,q]
    | some ad =>
     have:=run_append_in (P:=P) g.w g.w t o.type e i hu h1 ad xs.length xs.length 0 (a.eval y) [] (fun w=>by simpa using hy1 w) (by rw [h2];simpa using hy2 g.w rfl) (by omega) (by simp [storeCells])
     simpa using this
   refine⟨a.eval x,g,.inl (by rw [hexec];simp [hrun]),Le.refl _,hg,rfl,?_⟩
   simp only [List.map_nil,List.append_nil]
   exact hx'.shareCell
  have hrun:=run_append_new (P:=P) g.w t o.type e i z hu h1 h4 adx xs.length xs.length ys.length (a.eval y) olds news hy1 (by rw [h2];exact hy2 g.w.drew rfl) (by rw [h2,←ex];exact hx2 g.w.drew rfl) (by omega) hlen (by rw [h3];exact hb)
  rw [←ex] at hrun
  obtain⟨cap,hcap⟩:∃cap,cap=grownCap g.w (xs.length+ys.length) xs.length e:=⟨_,rfl⟩
  obtain⟨rest,hrest⟩:∃rest,rest=Builtin.zeroCells z.cells (cap - (xs.length+ys.length)):=⟨_,rfl⟩
  have hge:=grownCap_ge g.w (xs.length+ys.length) xs.length e
  rw [←hcap] at hrun hge
  rw [←hrest] at hrun
  have hrs:rest.size=(cap - (xs.length+ys.length)) * te.size:=by rw [hrest,size_zeroCells,h5,h6]
  obtain⟨arr,harr⟩:∃arr,arr=olds.toArray++news.toArray++rest:=⟨_,rfl⟩
  rw [←harr] at hrun
  have hgd:=hg.heap (w':=g.w.drew) rfl rfl rfl rfl
  have hled:=Le.heap (g:=g) (w':=g.w.drew) rfl rfl rfl rfl
  obtain⟨g1,hg1⟩:∃g1:G,g1=⟨g.w.drew,g.fr,g.env,g.objs⟩:=⟨_,rfl⟩
  rw [←hg1] at hgd hled
  have hw1:g1.w=g.w.drew:=by rw [hg1]
  have ho1:g1.objs=g.objs:=by rw [hg1]
  have hle:=hled.trans (Le.push g1 hgd (.cells arr e))
  refine⟨.slice (some ⟨g.w.heap.size,0,none⟩) (xs.length+ys.length) cap,g1.push (.cells arr e),.inl ?_,hle,hgd.push _,?_,?_⟩
  ·rw [hexec]
   simp [hrun,G.push,hw1]
  ·show g1.objs=_
   rw [ho1]
   rfl
  have hlen':(xs++ys.map AVal.share).length=xs.length+ys.length:=by simp
  have hcells:=hx3.append hy3.share_list
  rw [←cellsAll_append] at hcells
  have hcl:(cellsAll (xs++ys.map AVal.share)).length=(xs.length+ys.length) * te.size:=by
   rw [cellsAll_length (sz:=te.size) (fun x hx=>by
    rcases List.mem_append.1 hx with q | q
    ·exact hx4 x q
    exact map_share_size hy4 x q),hlen']
  have hsz:∀x∈xs++ys.map AVal.share,x.cells.length=te.size:=fun x hx=>by
   rcases List.mem_append.1 hx with q | q
   ·exact hx4 x q
   exact map_share_size hy4 x q
  have hsc:∀c∈cellsAll (xs++ys.map AVal.share),c.scalar:=fun c hc=>by
   rw [cellsAll_append] at hc
   rcases List.mem_append.1 hc with q | q
   ·exact hx5 c q
   exact map_share_scalar hy5 c q
  have:=RV.pushRow hgd (t:=e) (arr:=arr) (cap:=cap) hsz hsc (by rw [hlen'];exact hlen) (by rw [hlen'];exact hge) (by
    rw [harr]
    simp only [Array.size_append,List.size_toArray,hx6,hy6,hrs,←Nat.add_mul]
    rw [show xs.length+ys.length+(cap - (xs.length+ys.length))=cap by omega]
    exact Nat.le_refl _) (fun j c u hj hu=>by
    have hlt:=lt_of_getElem? hj
    rw [hcl] at hlt
    rw [harr] at hu
    have hu2:=append_cells_get hu (by simp only [List.size_toArray,hx6,hy6,←Nat.add_mul];exact hlt)
    exact(hcells.2 j c u hj (by simpa using hu2)).mono hled)
  rw [hlen',hw1] at this
  exact this
end Go.Av
namespace Go.Proofs.Ytkhnjeblbiocaaa
open Go.Av

structure Cx where
 k:Nat
 bid:Nat
 ids:List Nat
 O:List AObj
structure Ce where
 z:Nat
 tid:Nat
 O:List AObj
theorem ins_take{l:List Ins}{j:Nat}{i:Ins}(h:l[j]?=some i):(l.take (j+1)).map Ins.enc=(l.take j).map Ins.enc++[i.enc]:=by
 rw [List.take_add_one,h,List.map_append]
 rfl
theorem own_norm(O:List AObj)(C0:List AVal):(O++[AObj.cells C0]++[AObj.spare 0]).set O.length (.cells (C0.set 1 (.lst 4 [] (.tok (O++[AObj.cells C0]).length))))=O++[.cells (C0.set 1 (.lst 4 [] (.tok (O.length+1)))),.spare 0]:=by simp
abbrev bcC0(id:Nat)(b:Block)(l:List AVal)(t:AVal):List AVal:=[eIs b.params,.lst 4 l (.tok id),aI b.term.kind,aI b.term.arg,aI b.term.n,eIs b.term.cases,t]
abbrev bcC(id:Nat)(b:Block)(l:List Ins)(t:AVal):List AVal:=[eIs b.params,.lst 4 (l.map Ins.enc) (.tok id),aI b.term.kind,aI b.term.arg,aI b.term.n,eIs b.term.cases,t]
theorem bcC_upto{n id:Nat}(b:Block)(l:List Ins){t:AVal}(h:id<n)(ht:t.upto n):uptoL n (bcC id b l t):=⟨⟨aI_upto _ _,trivial⟩,⟨Ins.map_upto _ _,h⟩,trivial,trivial,trivial,⟨aI_upto _ _,trivial⟩,ht,trivial⟩
end Go.Proofs.Ytkhnjeblbiocaaa
namespace Go.Av
def ChP(P:Program)(all:List Oper)(k:Nat)(σ:St)(ks:List Kind)(R:St→List Kind→Prop):Prop :=
 ∃(ρ:St) (ks':List Kind),ks'.length+k=all.length∧Chain P all.toArray ((ks'.zipIdx k).map fun p=>(p.2,p.1)) σ ρ∧R ρ (ks++ks')
theorem ChP.fin{P:Program}{all:List Oper}{k:Nat}{σ:St}{ks:List Kind}{R:St→List Kind→Prop}(hk:k=all.length)(h:R σ ks):ChP P all k σ ks R :=
 ⟨σ,[],by simpa using hk,Same.refl σ,by simpa using h⟩
theorem ChP.op{P:Program}{all:List Oper}{k:Nat}{σ:St}{ks:List Kind}{R:St→List Kind→Prop}{o:Oper}{x:AVal}{m:Mode}(ho:all[k]?=some o)(hg:o.guard=none)(hc:Cert P o σ x m)
  (h:ChP P all (k+1) ⟨σ.n,putO o.dst x σ.slots,m.post σ.objs⟩ (ks++[m.kind]) R):ChP P all k σ ks R:=by
 obtain⟨ρ,ks',h1,h2,h3⟩:=h
 refine⟨ρ,m.kind::ks',by simp only [List.length_cons];omega,?_,by simpa using h3⟩
 rw [List.zipIdx_cons,List.map_cons]
 exact⟨_,⟨o,by simpa using ho,.inl ⟨by simp [wantedA,hg],x,m,hc,rfl,rfl⟩⟩,h2⟩
theorem chain_app{P:Program}{ops:Array Oper}:∀{l1 l2:List (Nat×Kind)} {σ τ ρ:St},Chain P ops l1 σ τ→Chain P ops l2 τ ρ→Chain P ops (l1++l2) σ ρ
 | [],_,_,_,_,h1,h2=>h2.same h1.symm
 | _::_,_,_,_,_,⟨σ',h,h1⟩,h2=>⟨σ',h,chain_app h1 h2⟩
theorem chain_off{P:Program}{ops all:Array Oper}{k:Nat}(hk:∀i o,ops[i]?=some o→all[k+i]?=some o)(hg:∀o∈all.toList,o.guard=none):∀{l:List (Nat×Kind)} {σ τ:St},Chain P ops l σ τ→Chain P all (l.map fun p=>(k+p.1,p.2)) σ τ
 | [],_,_,h=>h
 | (i,q)::r,_,_,h=>by
  obtain⟨σ',⟨o,ho,h1⟩,h2⟩:=h
  refine⟨σ',⟨o,hk i o ho,?_⟩,chain_off hk hg h2⟩
  have ho':=hk i o ho
  have hgo:o.guard=none:=hg o (by
   rw [←Array.getElem?_toList] at ho'
   exact List.mem_of_getElem? ho')
  have w1:∀(a:Array Oper) (σ:St),wantedA a o σ=some true:=fun a σ=>by simp [wantedA,hgo]
  rcases h1 with⟨_,h1⟩ | ⟨h1,_⟩
  ·exact .inl ⟨w1 _ _,h1⟩
  rw [w1] at h1
  cases h1
theorem ChP.seg{P:Program}{tab:Tab}(md:Md)(hT:TabOK P tab){all l1:List Oper}{k:Nat}{σ:St}{ks:List Kind}{R:St→List Kind→Prop}(n:Nat)(h1:(all.drop k).take n=l1)(hn:l1.length=n)(hg:∀o∈all,o.guard=none)
  (h:vcOps P tab md l1 0 [] σ [] fun τ ks1=>ChP P all (k+n) τ (ks++ks1.reverse) R):ChP P all k σ ks R:=by
 obtain⟨τ,ks1,c1,n1,ρ,ks2,h3,c2,hR⟩:=vcOps_sound (all:=l1.toArray) hT l1 0 [] σ [] (fun j=>by simp) (fun j t hj=>by simp [slotAt] at hj) h
 have hl:k+n≤all.length:=by
  have:l1.length≤all.length - k:=by rw [←h1,List.length_take,List.length_drop];omega
  by_cases hz:n=0
  ·omega
  omega
 have d1:=chain_off (all:=all.toArray) (k:=k) (fun i o hi=>by
  have hi':l1[i]?=some o:=by simpa using hi
  rw [←h1,List.getElem?_take] at hi'
  split at hi'
  ·rw [List.getElem?_drop] at hi'
   simpa using hi'
  cases hi') (by simpa using hg) c1
 refine⟨ρ,ks1++ks2,by rw [List.length_append];omega,?_,by simpa using hR⟩
 rw [List.zipIdx_append,List.map_append]
 have e1:(ks1.zipIdx k).map (fun p=>(p.2,p.1))=((ks1.zipIdx 0).map fun p=>(p.2,p.1)).map fun p=>(k+p.1,p.2):=by
  apply List.ext_getElem?
  intro i
  simp only [List.getElem?_map,List.getElem?_zipIdx]
  cases ks1[i]?<;>simp
 rw [e1]
 refine chain_app d1 ?_
 rw [show k+ks1.length=k+n by omega]
 exact c2
theorem awp_pieces{P:Program}{kb:Nat}(hm:P.follows .mixedOrders=true){id:Nat}{l:List Oper}{draw:Bool}{Q:AEx→St→Prop}{σ:St}
  (h:ChP P l 0 σ [] fun τ ks=>Draws draw (fun _=>OrderOK l.toArray ks)∧At τ (Q .norm)):AWP P kb (.region id l.toArray draw) Q σ:=by
 obtain⟨τ,ks,h1,h2,h3,h4⟩:=h
 intro base a g hb hr
 have hch:Chain P l.toArray ((List.range l.toArray.size).map fun i=>(i,ks.getD i .write)) σ τ:=by
  have e:(ks.zipIdx 0).map (fun p=>(p.2,p.1))=(List.range l.toArray.size).map fun i=>(i,ks.getD i .write):=by
   apply List.ext_getElem?
   intro i
   simp only [List.getElem?_map]
   have hlen:ks.length=l.toArray.size:=by simpa using h1
   by_cases hi:i<l.toArray.size
   ·have hi':i<ks.length:=by omega
    rw [List.getElem?_range hi]
    simp [hi']
   rw [List.getElem?_eq_none (by simp only [List.length_zipIdx];omega),List.getElem?_eq_none (by simp only [List.length_range];omega)]
   rfl
  rw [←e]
  exact h2
 cases draw with
 | false=>exact wp_region_lex hch hr fun a g hr'=>⟨g,τ,rfl,hr',h4⟩
 | true =>
  have hB:=h3 rfl
  simp only [List.nil_append] at hB
  exact wp_region_chain hm hB hch hr fun a g hr'=>⟨g,τ,rfl,hr',h4⟩
end Go.Av
namespace Go.Proofs.Ytkhnjeblbiocaaa
open Go.Av

structure CgS(Oz:List AObj)(X:Nat)(f:Func)(done:List Block)(bid:Nat)(ids:List Nat)(O:List AObj):Prop where
 up:∀o∈O,o.upto O.length
 len:X<O.length
 keep:∀i,i<X→O[i]?=Oz[i]?
 out:O[X]?=some (.cells [aI f.name,outBl bid done])
 blk:done≠[]→X+1≤bid∧O[bid]?=some (.cells (blsC ids done))
 cp:CpO (X+1) ids done O
 ne:∀(j id:Nat) (b:Block),ids[j]?=some id→done[j]?=some b→b.term.to≠[]→id≠bid
def CgR(Oz:List AObj)(f:Func)(r:AVal)(O:List AObj):Prop:=∃(ids:List Nat) (bid:Nat),r=.agg [aI f.name,.os bid f.blocks.length 7]∧(∀o∈O,o.upto O.length)∧(∀i,i<Oz.length→O[i]?=Oz[i]?) ∧
 (Oz.length≤bid∧O[bid]?=some (.cells (blsC ids f.blocks)))∧CpO Oz.length ids f.blocks O∧∀(j id:Nat) (b:Block),ids[j]?=some id→f.blocks[j]?=some b→b.term.to≠[]→id≠bid
theorem CgS.snoc{Oz:List AObj}{X:Nat}{f:Func}{done:List Block}{bid:Nat}{ids:List Nat}{O O1:List AObj}(h:CgS Oz X f done bid ids O){b:Block}{tid:Nat}(hlen:O.length≤O1.length)(hup:∀o∈O1,o.upto O1.length)
  (hsame:∀k,k<O.length→(done≠[]→k≠bid)→O1[k]?=O[k]?) (ht:b.term.to≠[]→O.length≤tid∧O1[tid]?=some (.cells (edC b.term.to))) {cs ar:List AVal} (hcs:cs=blsC (ids++[tid]) (done++[b])) (har:ar=[aI f.name,.os O1.length (done.length+1) 7]) :
  CgS Oz X f (done++[b]) O1.length (ids++[tid]) ((O1++[AObj.cells cs]).set X (.cells ar)):=by
 have h4:=h.len
 have hli:=h.cp.li
 have hkeep:∀k,k<O.length→k≠X→(done≠[]→k≠bid)→((O1++[AObj.cells cs]).set X (.cells ar))[k]?=O[k]?:=fun k hk hk4 hkb=>by
  rw [List.getElem?_set_ne (Ne.symm hk4),List.getElem?_append_left (by omega),hsame k hk hkb]
 have hb5:done≠[]→X+1≤bid:=fun q=>(h.blk q).1
 have hids:∀(j id:Nat) (c:Block),(ids++[tid])[j]?=some id→(done++[b])[j]?=some c→(ids[j]?=some id∧done[j]?=some c)∨(j=ids.length∧id=tid∧c=b):=fun j id c h1 h2=>by
  by_cases hj:j<ids.length
  ·rw [List.getElem?_append_left hj] at h1
   rw [List.getElem?_append_left (by omega)] at h2
   exact .inl ⟨h1,h2⟩
  have hj1:=lt_of_getElem? h1
  rw [List.length_append,List.length_singleton] at hj1
  have hje:j=ids.length:=by omega
  subst hje
  rw [List.getElem?_append_right (Nat.le_refl _),Nat.sub_self] at h1
  rw [List.getElem?_append_right (by omega),←hli,Nat.sub_self] at h2
  simp only [List.getElem?_cons_zero,Option.some.injEq] at h1 h2
  exact .inr ⟨rfl,h1.symm,h2.symm⟩
 have hdn:∀(j id:Nat) (c:Block),ids[j]?=some id→done[j]?=some c→c.term.to≠[]→X+1≤id∧id<O.length∧O1[id]?=some (.cells (edC c.term.to)):=fun j id c h1 h2 h3=>by
  obtain⟨o1,o2⟩:=h.cp.own j id c h1 h2 h3
  have hl:=lt_of_getElem? o2
  refine⟨o1,hl,?_⟩
  rw [hsame id hl (fun _=>h.ne j id c h1 h2 h3)]
  exact o2
 have hown:∀(j id:Nat) (c:Block),(ids++[tid])[j]?=some id→(done++[b])[j]?=some c→c.term.to≠[]→X+1≤id∧id<O1.length∧O1[id]?=some (.cells (edC c.term.to)):=fun j id c h1 h2 h3=>by
  rcases hids j id c h1 h2 with⟨q1,q2⟩ | ⟨_,q2,q3⟩
  ·obtain⟨p1,p2,p3⟩:=hdn j id c q1 q2 h3
   exact⟨p1,by omega,p3⟩
  rw [q3] at h3 ⊢
  rw [q2]
  obtain⟨t1,t2⟩:=ht h3
  exact⟨by omega,lt_of_getElem? t2,t2⟩
 subst hcs
 subst har
 exact {
  up:=by
   intro o ho
   rw [List.length_set,List.length_append,List.length_singleton]
   rcases List.mem_or_eq_of_mem_set ho with q | q
   ·rcases List.mem_append.1 q with q | q
    ·exact AObj.upto_mono (by omega) (hup o q)
    rw [List.mem_singleton] at q
    subst q
    exact blsC_upto fun j id c h1 h2 h3=>by
     have:=(hown j id c h1 h2 h3).2.1
     omega
   subst q
   exact⟨trivial,show _<_ by omega,trivial⟩
  len:=by rw [List.length_set,List.length_append];omega
  keep:=fun i hi=>by rw [hkeep i (by omega) (by omega) (fun q=>by have:=hb5 q;omega)];exact h.keep i hi
  out:=by
   rw [List.getElem?_set_self (by rw [List.length_append];omega)]
   have:outBl O1.length (done++[b])=.os O1.length (done.length+1) 7:=by
    unfold outBl
    rw [if_neg (by simp),List.length_append]
    rfl
   rw [this]
  blk:=fun _=>by
   refine⟨by omega,?_⟩
   rw [List.getElem?_set_ne (by omega),List.getElem?_append_right (Nat.le_refl _),Nat.sub_self]
   rfl
  cp:={
   li:=by rw [List.length_append,List.length_append,hli];rfl
   own:=fun j id c h1 h2 h3=>by
    obtain⟨p1,p2,p3⟩:=hown j id c h1 h2 h3
    refine⟨p1,?_⟩
    rw [List.getElem?_set_ne (by omega),List.getElem?_append_left p2]
    exact p3
   inj:=fun i j id c d h1 h2 h3 h4 h5 h6=>by
    rcases hids i id c h1 h3 with⟨p1,p2⟩ | ⟨p1,p2,p3⟩
    ·rcases hids j id d h2 h4 with⟨q1,q2⟩ | ⟨q1,q2,q3⟩
     ·exact h.cp.inj i j id c d p1 q1 p2 q2 h5 h6
     have:=(hdn i id c p1 p2 h5).2.1
     rw [q3] at h6
     have:=(ht h6).1
     omega
    rcases hids j id d h2 h4 with⟨q1,q2⟩ | ⟨q1,q2,q3⟩
    ·have:=(hdn j id d q1 q2 h6).2.1
     rw [p3] at h5
     have:=(ht h5).1
     omega
    omega }
  ne:=fun j id c h1 h2 h3=>by
   have:=(hown j id c h1 h2 h3).2.1
   omega }
theorem copyF_edges(f:Func)(hs:SmW f)(hne:f.blocks≠[])(O0:List AObj)(hup:∀o∈O0,o.upto O0.length):ECall Try.prog 35 O0 [f.enc] (CgR O0 f):=by
 obtain⟨N,hN⟩:∃N,N=f.blocks.length:=⟨_,rfl⟩
 have hn:=hs.few
 rw [←hN] at hn
 refine ecall_all hT Try.func35 rfl (by kernel_rfl) (by simp [Try.ntmps35]) ?_
 show AWP Try.prog _ _ _ ⟨87,_,_⟩
 dsimp only [Tmp,TypeId,slotsOf]
 refine zh1 (za0 ?_)
 show AWP Try.prog _ _ _ ⟨_,_,O0++[.cells [aI f.name,eBlocks f.blocks],.cells [aI 0,.lst 7 [] .ex]]⟩
 refine awp_frzk 1 0 ([aI f.name,eBlocks f.blocks]) rfl rfl (by rfl) ?_
 simp -dsimp only [simprocAttr,↓vpre,zp]
 refine zh1 (za0 ?_)
 refine zg2 ?_
 simp -dsimp only [simprocAttr,↓vpre,zp,←hN]
 refine za0 ?_
 have hB:∀o∈O0++[AObj.gone,.cells [aI 0,.lst 7 [] .ex],.cells [aI f.name,.lst 7 [] .ex]],o.upto (O0++[AObj.gone,.cells [aI 0,.lst 7 [] .ex],.cells [aI f.name,.lst 7 [] .ex]]).length:=fun o ho=>by
  rw [List.length_append]
  rcases List.mem_append.1 ho with q | q
  ·exact AObj.upto_mono (by simp) (hup o q)
  simp only [List.mem_cons,List.not_mem_nil,or_false] at q
  rcases q with rfl | rfl | rfl
  ·trivial
  ·exact⟨trivial,⟨trivial,trivial⟩,trivial⟩
  exact⟨trivial,⟨trivial,trivial⟩,trivial⟩
 show AWP Try.prog _ _ _ ⟨_,_,O0++[.gone,.cells [aI 0,.lst 7 [] .ex],.cells [aI f.name,.lst 7 [] .ex]]⟩
 have hBl:(O0++[AObj.gone,.cells [aI 0,.lst 7 [] .ex],.cells [aI f.name,.lst 7 [] .ex]]).length=O0.length+3:=by simp
 have hBk:∀i,i<O0.length→(O0++[AObj.gone,.cells [aI 0,.lst 7 [] .ex],.cells [aI f.name,.lst 7 [] .ex]])[i]?=O0[i]?:=fun i hi=>List.getElem?_append_left hi
 have hBr:(O0++[AObj.gone,.cells [aI 0,.lst 7 [] .ex],.cells [aI f.name,.lst 7 [] .ex]])[O0.length+1]?=some (.cells [aI 0,.lst 7 [] .ex]):=by
  rw [List.getElem?_append_right (by omega),show O0.length+1 - O0.length=1 by omega]
  rfl
 have hBo:(O0++[AObj.gone,.cells [aI 0,.lst 7 [] .ex],.cells [aI f.name,.lst 7 [] .ex]])[O0.length+2]?=some (.cells [aI f.name,.lst 7 [] .ex]):=by
  rw [List.getElem?_append_right (by omega),show O0.length+2 - O0.length=2 by omega]
  rfl
 generalize O0++[AObj.gone,.cells [aI 0,.lst 7 [] .ex],.cells [aI f.name,.lst 7 [] .ex]]=B at *
 have hS0:CgS B (O0.length+2) f [] 0 [] B:=⟨hB,by omega,fun _ _=>rfl,hBo,fun q=>absurd rfl q,⟨rfl,fun j id b h=>by simp at h,fun i j id b c h=>by simp at h⟩,fun j id b h=>by simp at h⟩
 refine awp_block (awp_loop (ι:={X:Cx // X.k≤N∧CgS B (O0.length+2) f (f.blocks.take X.k) X.bid X.ids X.O}) (fun X=>⟨87,[(1,.ip none [aI f.name,eBlocks f.blocks]),(2,.mp (O0.length+1) 0),(3,.mp (O0.length+2) 0),(15,eBlocks f.blocks),(16,aI N),(17,aI X.1.k)],X.1.O⟩) (fun X=>N - X.1.k) ⟨⟨0,0,[],B⟩,by simp,hS0⟩ ?_ ?_)
 ·refine zq rfl ?_ ?_
  simp -dsimp only [simprocAttr,↓vpre,zp,zc]
  all_goals rfl
 rintro⟨⟨k,bid,ids,O⟩,hk,hS⟩
 simp only at hk hS
 refine zh1 (za0 ?_)
 apply zk1 rfl<;>intro h
 ·refine zb0 ?_
  have hlt:k<N:=by simpa using h
  obtain⟨b,hb⟩:∃b,f.blocks[k]?=some b:=⟨f.blocks[k]'(by omega),List.getElem?_eq_getElem _⟩
  have hbm:=List.mem_of_getElem? hb
  have htk:f.blocks.take (k+1)=f.blocks.take k++[b]:=by rw [List.take_add_one,hb];rfl
  have htkl:(f.blocks.take k).length=k:=by rw [List.length_take];omega
  have hbp:=hs.params b hbm
  have hbi:=hs.ins b hbm
  have hba:=hs.iargs b hbm
  have hbc:=hs.cases b hbm
  have hbt:=hs.to b hbm
  have hbe:=hs.eargs b hbm
  have hX:=hS.len
  have hSu:=hS.up
  refine awp_seq (awp_block ?_)
  refine zg1 ?_
  simp -dsimp only [simprocAttr,↓vpre,zp,hb]
  refine za0 ?_
  refine awp_local 5 ([eIs b.params,eInss b.ins,aI b.term.kind,aI b.term.arg,aI b.term.n,eIs b.term.cases,eEdges b.term.to]) [(1,.ip none [aI f.name,eBlocks f.blocks]),(2,.mp (O0.length+1) 0),(3,.mp (O0.length+2) 0),(15,eBlocks f.blocks),(16,aI N),(17,aI k),(5,.ip none [eIs b.params,eInss b.ins,aI b.term.kind,aI b.term.arg,aI b.term.n,eIs b.term.cases,eEdges b.term.to])] (by simp [putS,dropS,Go.Av.look]) (by rfl) (by omega) (by simp [putS,dropS,Go.Av.look]) ?_ ?_ ?_
  ·exact hSu
  ·simp [AVal.upto,uptoL,aI_upto,Edge.map_upto,Ins.map_upto,Block.map_upto]
   omega
  refine awp_seq (awp_pieces hm (ChP.seg ⟨false,false⟩ hT 3 rfl rfl (by simp) ?_))
  simp -dsimp only [simprocAttr,↓vpre,zp]
  refine ChP.op rfl rfl (cert_append_sh hT rfl (by simp) tab_26 rfl tab_3 rfl rfl rfl (by simp;omega) (by simp;omega)) ?_
  simp -dsimp only [simprocAttr,↓vpre,zp]
  refine ChP.seg ⟨false,false⟩ hT 5 rfl rfl (by simp) ?_
  simp -dsimp only [simprocAttr,↓vpre,zp]
  refine ChP.fin rfl ⟨ob (by kernel_rfl),?_⟩
  refine za0 ?_
  refine awp_ownCell O.length 1 (sz:=4) (xs:=[]) (snoc_get _ _) rfl ?_
  show AWP Try.prog _ _ _ ⟨_,_,(O++[AObj.cells [eIs b.params,.lst 4 [] .ex,aI b.term.kind,aI b.term.arg,aI b.term.n,eIs b.term.cases,eEdges b.term.to]]++[AObj.spare 0]).set O.length (.cells ([eIs b.params,.lst 4 [] .ex,aI b.term.kind,aI b.term.arg,aI b.term.n,eIs b.term.cases,eEdges b.term.to].set 1 (.lst 4 [] (.tok (O++[AObj.cells [eIs b.params,.lst 4 [] .ex,aI b.term.kind,aI b.term.arg,aI b.term.n,eIs b.term.cases,eEdges b.term.to]]).length))))⟩
  rw [own_norm]
  show AWP Try.prog _ _ _ ⟨_,_,O++[AObj.cells (bcC (O.length+1) b (b.ins.take 0) (eEdges b.term.to)),.spare 0]⟩
  have hOk:∀(X:List AObj) o,o∈O++X→o∈O∨o∈X:=fun X o ho=>List.mem_append.1 ho
  refine zh2 (za0 ?_)
  refine awp_block (awp_loop (ι:={j:Nat // j≤b.ins.length}) (fun j=>⟨87,[(1,.ip none [aI f.name,eBlocks f.blocks]),(2,.mp (O0.length+1) 0),(3,.mp (O0.length+2) 0),(15,eBlocks f.blocks),(16,aI N),(17,aI k),(5,.ip none [eIs b.params,eInss b.ins,aI b.term.kind,aI b.term.arg,aI b.term.n,eIs b.term.cases,eEdges b.term.to]),(6,.mp O.length 0),(29,eInss b.ins),(30,aI b.ins.length),(31,aI j.1)],O++[AObj.cells (bcC (O.length+1) b (b.ins.take j.1) (eEdges b.term.to)),.spare j.1]⟩) (fun j=>b.ins.length - j.1) ⟨0,by omega⟩ ?_ ?_)
  ·refine zq rfl ?_ ?_
   simp -dsimp only [simprocAttr,↓vpre,zp,zc]
   all_goals rfl
  rintro⟨j,hj⟩
  refine zh1 (za0 ?_)
  apply zk1 rfl<;>intro h
  ·refine zb0 ?_
   have hlj:j<b.ins.length:=by simpa using h
   obtain⟨i,hi⟩:∃i,b.ins[j]?=some i:=⟨b.ins[j],by simp [hlj]⟩
   have hia:=hba i (List.mem_of_getElem? hi)
   have htl:((b.ins.take j).map Ins.enc).length=j:=by rw [List.length_map,List.length_take];omega
   have hit:=ins_take hi
   refine awp_seq (awp_block ?_)
   refine zg1 ?_
   simp -dsimp only [simprocAttr,↓vpre,zp,hi]
   refine za0 ?_
   refine awp_seq (awp_pieces hm (ChP.seg ⟨false,false⟩ hT 3 rfl rfl (by simp) ?_))
   simp -dsimp only [simprocAttr,↓vpre,zp]
   refine ChP.op rfl rfl (cert_append_sh hT rfl (by simp) tab_26 rfl tab_3 rfl rfl rfl (by simp;omega) (by simp;omega)) ?_
   simp -dsimp only [simprocAttr,↓vpre,zp]
   refine ChP.seg ⟨false,false⟩ hT 2 rfl rfl (by simp) ?_
   simp -dsimp only [simprocAttr,↓vpre,zp]
   refine ChP.fin rfl ?_
   refine za0 ?_
   show AWP Try.prog _ _ _ ⟨_,_,O++[AObj.cells (bcC (O.length+1) b (b.ins.take j) (eEdges b.term.to)),.spare j,.cells [aI i.to,aI i.op,aI i.n,eIs i.args]]⟩
   refine awp_frzk 8 2 ([aI i.to,aI i.op,aI i.n,eIs i.args]) rfl rfl (by rfl) ?_
   simp -dsimp only [simprocAttr,↓vpre,zp]
   refine awp_cut 2 ([.cells (bcC (O.length+1) b (b.ins.take j) (eEdges b.term.to)),.spare j]) [(1,.ip none [aI f.name,eBlocks f.blocks]),(2,.mp (O0.length+1) 0),(3,.mp (O0.length+2) 0),(15,eBlocks f.blocks),(16,aI N),(17,aI k),(5,.ip none [eIs b.params,eInss b.ins,aI b.term.kind,aI b.term.arg,aI b.term.n,eIs b.term.cases,eEdges b.term.to]),(6,.mp O.length 0),(29,eInss b.ins),(30,aI b.ins.length),(31,aI j),(8,.ip none [aI i.to,aI i.op,aI i.n,eIs i.args])] rfl (by simp) (by omega) (by simp [putS,dropS,Go.Av.look]) ?_ ?_ ?_ ?_
   ·exact fun o ho=>AObj.upto_mono (by omega) (hSu o ho)
   ·simp [AObj.upto,bcC,uptoL,AVal.upto,aI_upto,Ins.map_upto,Edge.map_upto]
    rw [←List.map_take]
    exact Ins.map_upto _ _
   ·simp [AVal.upto,uptoL,aI_upto,Edge.map_upto,Ins.map_upto,Block.map_upto]
    omega
   refine zg0 ?_
   simp -dsimp only [simprocAttr,↓vpre,zp,htl]
   repeat(refine⟨by omega,?_⟩)
   refine za0 ?_
   refine zh0 ?_
   repeat(refine⟨by omega,?_⟩)
   refine zl0 ?_
   refine⟨⟨j+1,hlj⟩,by simp;omega,?_⟩
   dsimp only [bcC,bcC0]
   rw [hit]
   refine zq rfl ?_ ?_
   simp -dsimp only [simprocAttr,↓vpre,zp,zc]
   ·exact Sub.int (by simp)
   rfl
  refine awp_exit ?_
  simp -dsimp only [vend,ne_eq,Nat.reduceEqDiff,reduceCtorEq]
  have hjl:b.ins.length≤j:=by
   have:=of_decide_eq_false h
   omega
  rw [List.take_of_length_le hjl]
  refine awp_seq (awp_pieces hm (ChP.seg ⟨false,false⟩ hT 4 rfl rfl (by simp) ?_))
  simp -dsimp only [simprocAttr,↓vpre,zp,bcC]
  refine ChP.op rfl rfl (cert_append_sh hT rfl (by simp) tab_26 rfl tab_3 rfl rfl rfl (by simp;omega) (by simp;omega)) ?_
  simp -dsimp only [simprocAttr,↓vpre,zp,bcC]
  refine ChP.seg ⟨false,false⟩ hT 3 rfl rfl (by simp) ?_
  simp -dsimp only [simprocAttr,↓vpre,zp,bcC]
  refine ChP.fin rfl ?_
  refine za0 ?_
  refine zg1 ?_
  simp -dsimp only [simprocAttr,↓vpre,zp,bcC]
  refine za0 ?_
  refine awp_retell2 (cs:=bcC (O.length+1) b b.ins (.v (.slice none 0 0))) O.length (bcC (O.length+1) b b.ins (.lst 2 [] .ex)) (by rw [at_newz];rfl) rfl (fun d hd=>?_) (fun j c d hc hd=>?_) ?_
  ·simp only [bcC,bcC0,List.mem_cons,List.not_mem_nil,or_false] at hd
   rcases hd with rfl | rfl | rfl | rfl | rfl | rfl | rfl<;>trivial
  ·match j,hc,hd with
   | 0,hc,hd=>exact Sub.of_eq (by simpa [bcC,bcC0] using hc.symm.trans hd)
   | 1,hc,hd=>exact Sub.of_eq (by simpa [bcC,bcC0] using hc.symm.trans hd)
   | 2,hc,hd=>exact Sub.of_eq (by simpa [bcC,bcC0] using hc.symm.trans hd)
   | 3,hc,hd=>exact Sub.of_eq (by simpa [bcC,bcC0] using hc.symm.trans hd)
   | 4,hc,hd=>exact Sub.of_eq (by simpa [bcC,bcC0] using hc.symm.trans hd)
   | 5,hc,hd=>exact Sub.of_eq (by simpa [bcC,bcC0] using hc.symm.trans hd)
   | 6,hc,hd =>
    simp only [bcC,bcC0,List.getElem?_cons_succ,List.getElem?_cons_zero,Option.some.injEq] at hc hd
    subst hc
    subst hd
    exact Sub.nil_lst 2
   | j+7,hc,hd=>simp at hc
  show AWP Try.prog _ _ _ ⟨_,_,(O++[AObj.cells (bcC (O.length+1) b b.ins (.v (.slice none 0 0))),.spare j]).set O.length (.cells (bcC (O.length+1) b b.ins (.lst 2 [] .ex)))⟩
  rw [set_newz,set_zero]
  have hI:CpI O (bcC (O.length+1) b b.ins (.lst 2 [] .ex)) j (O++[AObj.cells (bcC (O.length+1) b b.ins (.lst 2 [] .ex)),.spare j]):=by
   have:=(CpI.start hSu (cs:=bcC (O.length+1) b b.ins (.lst 2 [] .ex)) (bcC_upto b _ (by omega) ⟨trivial,trivial⟩)).room j
   simpa using this
  have hE:=CpE.start (cs:=bcC (O.length+1) b b.ins) hI
  show AWP Try.prog _ _ _ ⟨_,_,O++[AObj.cells (bcC (O.length+1) b b.ins (.lst 2 [] .ex)),.spare j]⟩
  generalize O++[AObj.cells (bcC (O.length+1) b b.ins (.lst 2 [] .ex)),.spare j]=O6 at *
  refine zh2 (za0 ?_)
  refine awp_block (awp_loop (ι:={X:Ce // X.z≤b.term.to.length∧CpE O (bcC (O.length+1) b b.ins) X.tid (b.term.to.take X.z) X.O}) (fun X=>⟨87,[(1,.ip none [aI f.name,eBlocks f.blocks]),(2,.mp (O0.length+1) 0),(3,.mp (O0.length+2) 0),(15,eBlocks f.blocks),(16,aI N),(17,aI k),(5,.ip none [eIs b.params,eInss b.ins,aI b.term.kind,aI b.term.arg,aI b.term.n,eIs b.term.cases,eEdges b.term.to]),(6,.mp O.length 0),(58,eEdges b.term.to),(59,aI b.term.to.length),(60,aI X.1.z)],X.1.O⟩) (fun X=>b.term.to.length - X.1.z) ⟨⟨0,0,O6⟩,by simp,hE⟩ ?_ ?_)
  ·refine zq rfl ?_ ?_
   simp -dsimp only [simprocAttr,↓vpre,zp,zc]
   all_goals rfl
  rintro⟨⟨z,tid,O3⟩,hz,hE⟩
  simp only at hz hE
  have hE2:=hE.len
  refine zh1 (za0 ?_)
  apply zk1 rfl<;>intro h
  ·refine zb0 ?_
   have hlz:z<b.term.to.length:=by simpa using h
   obtain⟨e,he⟩:∃e,b.term.to[z]?=some e:=⟨b.term.to[z],by simp [hlz]⟩
   have hea:=hbe e (List.mem_of_getElem? he)
   have hcell:=hE.cell
   have hti:b.term.to.take (z+1)=b.term.to.take z++[e]:=by rw [List.take_add_one,he];rfl
   have htl:(b.term.to.take z).length=z:=by rw [List.length_take];omega
   have h6l:=lt_of_getElem? hcell
   refine awp_seq (awp_block ?_)
   refine zg1 ?_
   simp -dsimp only [simprocAttr,↓vpre,zp,he]
   refine za0 ?_
   refine awp_local 10 ([aI e.block,eIs e.args]) [(1,.ip none [aI f.name,eBlocks f.blocks]),(2,.mp (O0.length+1) 0),(3,.mp (O0.length+2) 0),(15,eBlocks f.blocks),(16,aI N),(17,aI k),(5,.ip none [eIs b.params,eInss b.ins,aI b.term.kind,aI b.term.arg,aI b.term.n,eIs b.term.cases,eEdges b.term.to]),(6,.mp O.length 0),(58,eEdges b.term.to),(59,aI b.term.to.length),(60,aI z),(10,.ip none [aI e.block,eIs e.args])] (by simp [putS,dropS,Go.Av.look]) (by rfl) (by omega) (by simp [putS,dropS,Go.Av.look]) ?_ ?_ ?_
   ·exact hE.up
   ·simp [AVal.upto,uptoL,aI_upto,Edge.map_upto,Ins.map_upto,Block.map_upto,h6l,show O0.length+1<O3.length by omega,show O0.length+2<O3.length by omega]
   by_cases hzn:b.term.to.take z=[]
   ·have hox:outX tid (b.term.to.take z)=.lst 2 [] .ex:=if_pos hzn
    rw [hox] at hcell
    have hcell':∀X,(O3++X)[O.length]?=some (.cells (bcC (O.length+1) b b.ins (.lst 2 [] .ex))):=fun X=>at_left hcell
    refine awp_pieces hm (ChP.seg ⟨false,false⟩ hT 8 rfl rfl (by simp) ?_)
    simp -dsimp only [simprocAttr,↓vpre,zp,hcell,bcC]
    refine ChP.op rfl rfl (cert_append_sh hT rfl (by simp) tab_26 rfl tab_3 rfl rfl rfl (by simp;omega) (by simp;omega)) ?_
    simp -dsimp only [simprocAttr,↓vpre,zp,hcell,hcell',bcC,cellsAll_v,cells_os']
    refine ChP.seg ⟨true,true⟩ hT 6 rfl rfl (by simp) ?_
    simp -dsimp only [simprocAttr,↓vpre,zp,hcell,hcell',bcC,cellsAll_v,cells_os']
    repeat(refine⟨by omega,?_⟩)
    refine⟨trivial,?_⟩
    refine ChP.fin rfl ⟨ob (by kernel_rfl),?_⟩
    refine za0 ?_
    have hput:CpE O (bcC (O.length+1) b b.ins) O3.length (b.term.to.take z++[e]) ((O3++[AObj.cells [aI e.block,eIs e.args]]).set O.length (.cells (bcC (O.length+1) b b.ins (.os O3.length 1 2)))):=hE.push e (fun v n hv hn=>bcC_upto b _ (by omega) hv) rfl hE.up (fun _ _=>rfl) (by rw [hzn];rfl) (by rw [hzn];rfl)
    show AWP Try.prog _ _ _ ⟨_,_,(O3++[AObj.cells [aI e.block,eIs e.args]]).set O.length (.cells (bcC (O.length+1) b b.ins (.os O3.length 1 2)))⟩
    generalize (O3++[AObj.cells [aI e.block,eIs e.args]]).set O.length (.cells (bcC (O.length+1) b b.ins (.os O3.length 1 2)))=O7 at *
    refine zh0 ?_
    repeat(refine⟨by omega,?_⟩)
    refine zl0 ?_
    refine⟨⟨⟨z+1,O3.length,O7⟩,hlz,by rw [hti];exact hput⟩,by simp;omega,?_⟩
    refine zq rfl ?_ ?_
    simp -dsimp only [simprocAttr,↓vpre,zp,zc]
    ·exact Sub.int (by simp)
    rfl
   obtain⟨o1,o2⟩:=hE.own hzn
   have hox:outX tid (b.term.to.take z)=.os tid z 2:=by
    unfold outX
    rw [if_neg hzn,htl]
   rw [hox] at hcell
   have hcell':∀X,(O3.set tid .gone++X)[O.length]?=some (.cells (bcC (O.length+1) b b.ins (.os tid z 2))):=fun X=>at_left (at_set_ne hcell (by omega))
   have hTT:(edC (b.term.to.take z)).take (z * 2)=edC (b.term.to.take z):=List.take_of_length_le (by rw [edC_len];omega)
   have hel:=edC_len (b.term.to.take z)
   rw [htl] at hel
   refine awp_pieces hm (ChP.seg ⟨false,false⟩ hT 8 rfl rfl (by simp) ?_)
   simp -dsimp only [simprocAttr,↓vpre,zp,hcell,bcC]
   refine ChP.op rfl rfl (cert_append_sh hT rfl (by simp) tab_26 rfl tab_3 rfl rfl rfl (by simp;omega) (by simp;omega)) ?_
   simp -dsimp only [simprocAttr,↓vpre,zp,hcell,hcell',bcC,o2,hTT,hel,cellsAll_v,cells_os']
   refine ChP.seg ⟨false,false⟩ hT 6 rfl rfl (by simp) ?_
   simp -dsimp only [simprocAttr,↓vpre,zp,hcell,hcell',bcC,o2,hTT,hel,cellsAll_v,cells_os']
   repeat(refine⟨by omega,?_⟩)
   refine⟨trivial,?_⟩
   refine ChP.fin rfl ⟨ob (by kernel_rfl),?_⟩
   refine za0 ?_
   have hput:CpE O (bcC (O.length+1) b b.ins) O3.length (b.term.to.take z++[e]) ((O3.set tid .gone++[AObj.cells (edC (b.term.to.take z)++[aI e.block,eIs e.args])]).set O.length (.cells (bcC (O.length+1) b b.ins (.os O3.length (z+1) 2)))):=hE.push (O4:=O3.set tid .gone) e (fun v n hv hn=>bcC_upto b _ (by omega) hv) (List.length_set) (uptoO_set hE.up trivial) (fun k hk=>by rw [List.getElem?_set_ne (Ne.symm (hk hzn))]) (by rw [edC_snoc]) (by rw [htl])
   show AWP Try.prog _ _ _ ⟨_,_,(O3.set tid .gone++[AObj.cells (edC (b.term.to.take z)++[aI e.block,eIs e.args])]).set O.length (.cells (bcC (O.length+1) b b.ins (.os O3.length (z+1) 2)))⟩
   generalize (O3.set tid .gone++[AObj.cells (edC (b.term.to.take z)++[aI e.block,eIs e.args])]).set O.length (.cells (bcC (O.length+1) b b.ins (.os O3.length (z+1) 2)))=O7 at *
   refine zh0 ?_
   repeat(refine⟨by omega,?_⟩)
   refine zl0 ?_
   refine⟨⟨⟨z+1,O3.length,O7⟩,hlz,by rw [hti];exact hput⟩,by simp;omega,?_⟩
   refine zq rfl ?_ ?_
   simp -dsimp only [simprocAttr,↓vpre,zp,zc]
   ·exact Sub.int (by simp)
   rfl
  refine awp_exit ?_
  simp -dsimp only [vend,ne_eq,Nat.reduceEqDiff,reduceCtorEq]
  have hzl:b.term.to.length≤z:=by
   have:=of_decide_eq_false h
   omega
  rw [List.take_of_length_le hzl] at hE
  have hcell:=hE.cell
  have hout:=hS.out
  have ho4:=hE.keep (O0.length+2) (by omega)
  rw [hout] at ho4
  have hown:=hE.own
  have h6l:=lt_of_getElem? hcell
  by_cases hdn:f.blocks.take k=[]
  ·have hob:outBl bid (f.blocks.take k)=.lst 7 [] .ex:=if_pos hdn
   rw [hob] at ho4
   have ho4':∀X,(O3++X)[O0.length+2]?=some (.cells [aI f.name,.lst 7 [] .ex]):=fun X=>at_left ho4
   refine zs0 ?_
   simp -dsimp only [simprocAttr,↓vpre,zp,hcell,bcC,ho4,ho4',cellsAll_v,cells_os',outX_share,outE_share]
   repeat(refine⟨by omega,?_⟩)
   refine⟨trivial,?_⟩
   refine za0 ?_
   have hput:CgS B (O0.length+2) f (f.blocks.take k++[b]) O3.length (ids++[tid]) ((O3++[AObj.cells (blC tid b)]).set (O0.length+2) (.cells [aI f.name,.os O3.length 1 7])):=hS.snoc (by omega) hE.up (fun k hk _=>hE.keep k hk) (fun q=>⟨by have:=(hown q).1;omega,(hown q).2⟩) (by rw [blsC_snoc hS.cp.li,hdn];simp [blsC]) (by rw [hdn];rfl)
   show AWP Try.prog _ _ _ ⟨_,_,(O3++[AObj.cells (blC tid b)]).set (O0.length+2) (.cells [aI f.name,.os O3.length 1 7])⟩
   generalize (O3++[AObj.cells (blC tid b)]).set (O0.length+2) (.cells [aI f.name,.os O3.length 1 7])=O7 at *
   refine zh0 ?_
   repeat(refine⟨by omega,?_⟩)
   refine zl0 ?_
   refine⟨⟨⟨k+1,O3.length,ids++[tid],O7⟩,hlt,by rw [htk];exact hput⟩,by simp;omega,?_⟩
   refine zq rfl ?_ ?_
   simp -dsimp only [simprocAttr,↓vpre,zp,zc]
   ·exact Sub.int (by simp)
   rfl
  obtain⟨b1,b2⟩:=hS.blk hdn
  have hbl:=lt_of_getElem? b2
  have b3:=hE.keep bid hbl
  rw [b2] at b3
  have hob:outBl bid (f.blocks.take k)=.os bid k 7:=by
   unfold outBl
   rw [if_neg hdn,htkl]
  rw [hob] at ho4
  have ho4':∀X,(O3.set bid .gone++X)[O0.length+2]?=some (.cells [aI f.name,.os bid k 7]):=fun X=>at_left (at_set_ne ho4 (by omega))
  have hbll:=blsC_len hS.cp.li
  rw [htkl] at hbll
  have hTT:(blsC ids (f.blocks.take k)).take (k * 7)=blsC ids (f.blocks.take k):=List.take_of_length_le (by omega)
  refine zg0 ?_
  simp -dsimp only [simprocAttr,↓vpre,zp,hcell,bcC,ho4,ho4',b3,hTT,hbll,cellsAll_v,cells_os',outX_share,outE_share]
  repeat(refine⟨by omega,?_⟩)
  refine⟨trivial,?_⟩
  refine za0 ?_
  have hput:CgS B (O0.length+2) f (f.blocks.take k++[b]) O3.length (ids++[tid]) ((O3.set bid .gone++[AObj.cells (blsC ids (f.blocks.take k)++blC tid b)]).set (O0.length+2) (.cells [aI f.name,.os O3.length (k+1) 7])):=by
   have:=hS.snoc (O1:=O3.set bid .gone) (b:=b) (tid:=tid) (by rw [List.length_set];omega) (by rw [List.length_set];exact uptoO_set hE.up trivial) (fun k hk hkb=>by rw [List.getElem?_set_ne (Ne.symm (hkb hdn))];exact hE.keep k hk) (fun q=>⟨by have:=(hown q).1;omega,by rw [List.getElem?_set_ne (by have:=(hown q).1;omega)];exact(hown q).2⟩) (blsC_snoc hS.cp.li tid b).symm rfl
   rw [List.length_set,htkl] at this
   exact this
  show AWP Try.prog _ _ _ ⟨_,_,(O3.set bid .gone++[AObj.cells (blsC ids (f.blocks.take k)++blC tid b)]).set (O0.length+2) (.cells [aI f.name,.os O3.length (k+1) 7])⟩
  generalize (O3.set bid .gone++[AObj.cells (blsC ids (f.blocks.take k)++blC tid b)]).set (O0.length+2) (.cells [aI f.name,.os O3.length (k+1) 7])=O7 at *
  refine zh0 ?_
  repeat(refine⟨by omega,?_⟩)
  refine zl0 ?_
  refine⟨⟨⟨k+1,O3.length,ids++[tid],O7⟩,hlt,by rw [htk];exact hput⟩,by simp;omega,?_⟩
  refine zq rfl ?_ ?_
  simp -dsimp only [simprocAttr,↓vpre,zp,zc]
  ·exact Sub.int (by simp)
  rfl
 refine awp_exit ?_
 simp -dsimp only [vend,ne_eq,Nat.reduceEqDiff,reduceCtorEq]
 have hkN:k=N:=by
  have:=of_decide_eq_false h
  omega
 subst hkN
 rw [List.take_of_length_le (by omega)] at hS
 have hout:=hS.out
 have hret:=hS.keep (O0.length+1) (by omega)
 rw [hBr] at hret
 have hob:outBl bid f.blocks=.os bid f.blocks.length 7:=if_neg hne
 rw [hob] at hout
 obtain⟨b1,b2⟩:=hS.blk hne
 have hrl:=lt_of_getElem? hret
 have hret':(O.set (O0.length+1) (.cells [aI f.name,.os bid f.blocks.length 7]))[O0.length+1]?=some (.cells [aI f.name,.os bid f.blocks.length 7]):=List.getElem?_set_self hrl
 refine zg1 ?_
 simp -dsimp only [simprocAttr,↓vpre,zp,hout,hret]
 refine za0 ?_
 refine awp_ret ?_
 simp -dsimp only [simprocAttr,↓vpre,zp,RetAll,Try.results35,retVals,retVal,mkRet,seqPost_ret,blockPost_ret,loopPost_ret,hret']
 have hbl:=lt_of_getElem? b2
 refine⟨ids,bid,rfl,?_,fun i hi=>?_,⟨by omega,?_⟩,⟨hS.cp.li,fun j id b q1 q2 q3=>?_,hS.cp.inj⟩,hS.ne⟩
 ·rw [List.length_set]
  exact uptoO_set hS.up ⟨trivial,hbl,trivial⟩
 ·rw [List.getElem?_set_ne (by omega),hS.keep i (by omega),hBk i hi]
 ·rw [List.getElem?_set_ne (by omega)]
  exact b2
 obtain⟨o1,o2⟩:=hS.cp.own j id b q1 q2 q3
 exact⟨by omega,by rw [List.getElem?_set_ne (by omega)];exact o2⟩
def edO:List Block→List AObj
 | []=>[]
 | b::r=>if b.term.to=[] then edO r else .cells (edC b.term.to)::edO r
def edI:Nat→List Block→List Nat
 | _,[]=>[]
 | n,b::r=>n::edI (if b.term.to=[] then n else n+1) r
def pickE:List Nat→List Block→List Nat
 | i::is,b::r=>if b.term.to=[] then pickE is r else i::pickE is r
 | _,_=>[]
def fnO(b:Nat)(f:Func):List AObj:=.cells (blsC (edI (b+1) f.blocks) f.blocks)::edO f.blocks
theorem edI_len:∀(n:Nat) (bs:List Block),(edI n bs).length=bs.length
 | _,[]=>rfl
 | n,b::r=>by rw [edI,List.length_cons,edI_len,List.length_cons]
theorem pickE_len:∀{ids:List Nat} {bs:List Block},ids.length=bs.length→(pickE ids bs).length=(edO bs).length
 | [],[],_=>rfl
 | i::is,b::r,h=>by
  have ih:=pickE_len (ids:=is) (bs:=r) (by simpa using h)
  unfold pickE edO
  by_cases hb:b.term.to=[]
  ·rw [if_pos hb,if_pos hb,ih]
  rw [if_neg hb,if_neg hb,List.length_cons,List.length_cons,ih]
 | [],b::r,h=>by simp at h
 | i::is,[],h=>by simp at h
theorem pickE_at:∀{ids:List Nat} {bs:List Block} {m a:Nat},(pickE ids bs)[m]?=some a→∃(j:Nat) (b:Block),ids[j]?=some a∧bs[j]?=some b∧b.term.to≠[]∧(edO bs)[m]?=some (.cells (edC b.term.to))
 | [],_,m,a,h=>by simp [pickE] at h
 | i::is,[],m,a,h=>by simp [pickE] at h
 | i::is,b::r,m,a,h=>by
  unfold pickE at h
  by_cases hb:b.term.to=[]
  ·rw [if_pos hb] at h
   obtain⟨j,c,h1,h2,h3,h4⟩:=pickE_at h
   exact⟨j+1,c,by simpa using h1,by simpa using h2,h3,by unfold edO;rw [if_pos hb];exact h4⟩
  rw [if_neg hb] at h
  cases m with
  | zero =>
   simp only [List.getElem?_cons_zero,Option.some.injEq] at h
   subst h
   exact⟨0,b,rfl,rfl,hb,by unfold edO;rw [if_neg hb];rfl⟩
  | succ m =>
   rw [List.getElem?_cons_succ] at h
   obtain⟨j,c,h1,h2,h3,h4⟩:=pickE_at h
   exact⟨j+1,c,by simpa using h1,by simpa using h2,h3,by unfold edO;rw [if_neg hb,List.getElem?_cons_succ];exact h4⟩
theorem pickE_inj:∀{ids:List Nat} {bs:List Block},(∀(i j id:Nat) (b c:Block),ids[i]?=some id→ids[j]?=some id→bs[i]?=some b→bs[j]?=some c→b.term.to≠[]→c.term.to≠[]→i=j)→(pickE ids bs).Nodup
 | [],_,_=>by simp [pickE]
 | i::is,[],_=>by simp [pickE]
 | i::is,b::r,h=>by
  have ih:=pickE_inj (ids:=is) (bs:=r) fun i j id b c h1 h2 h3 h4 h5 h6=>by
   have:=h (i+1) (j+1) id b c (by simpa using h1) (by simpa using h2) (by simpa using h3) (by simpa using h4) h5 h6
   omega
  unfold pickE
  by_cases hb:b.term.to=[]
  ·rw [if_pos hb]
   exact ih
  rw [if_neg hb]
  refine List.nodup_cons.2 ⟨fun q=>?_,ih⟩
  obtain⟨m,hm⟩:=List.mem_iff_getElem?.1 q
  obtain⟨j,c,h1,h2,h3,_⟩:=pickE_at hm
  have:=h 0 (j+1) i b c rfl (by simpa using h1) rfl (by simpa using h2) hb h3
  omega
theorem blC_pr{π:List Nat}{k id n:Nat}{b:Block}(h:b.term.to≠[]→π[n]?=some id)(hk:∀c∈blC 0 ⟨b.params,b.ins,⟨b.term.kind,b.term.arg,b.term.n,b.term.cases,[]⟩⟩,c.upto k):∀(j:Nat) (c d:AVal),(blC id b)[j]?=some c→(blC n b)[j]?=some d→PR π k c d:=fun j c d hc hd=>by
 match j,hc,hd with
 | 0,hc,hd=>simp only [blC,List.getElem?_cons_zero,List.getElem?_cons_succ,Option.some.injEq] at hc hd;subst hc hd;exact .same (hk _ (by simp [blC]))
 | 1,hc,hd=>simp only [blC,List.getElem?_cons_zero,List.getElem?_cons_succ,Option.some.injEq] at hc hd;subst hc hd;exact .same (hk _ (by simp [blC]))
 | 2,hc,hd=>simp only [blC,List.getElem?_cons_zero,List.getElem?_cons_succ,Option.some.injEq] at hc hd;subst hc hd;exact .same (hk _ (by simp [blC]))
 | 3,hc,hd=>simp only [blC,List.getElem?_cons_zero,List.getElem?_cons_succ,Option.some.injEq] at hc hd;subst hc hd;exact .same (hk _ (by simp [blC]))
 | 4,hc,hd=>simp only [blC,List.getElem?_cons_zero,List.getElem?_cons_succ,Option.some.injEq] at hc hd;subst hc hd;exact .same (hk _ (by simp [blC]))
 | 5,hc,hd=>simp only [blC,List.getElem?_cons_zero,List.getElem?_cons_succ,Option.some.injEq] at hc hd;subst hc hd;exact .same (hk _ (by simp [blC]))
 | 6,hc,hd =>
  simp only [blC,List.getElem?_cons_zero,List.getElem?_cons_succ,Option.some.injEq] at hc hd
  subst hc hd
  unfold outE
  by_cases hb:b.term.to=[]
  ·rw [if_pos hb,if_pos hb]
   exact .same ⟨trivial,trivial⟩
  rw [if_neg hb,if_neg hb]
  exact .os (h hb)
 | j+7,hc,hd=>simp [blC] at hc
theorem bls_pr{π:List Nat}{k:Nat}:∀{ids:List Nat} {bs:List Block} {n:Nat},ids.length=bs.length→(∀m a,(pickE ids bs)[m]?=some a→π[n+m]?=some a)→∀(j:Nat) (c d:AVal),(blsC ids bs)[j]?=some c→(blsC (edI n bs) bs)[j]?=some d→PR π k c d
 | [],[],n,_,_,j,c,d,hc,_=>by simp [blsC] at hc
 | i::is,b::r,n,hl,h,j,c,d,hc,hd=>by
  have e1:blsC (i::is) (b::r)=blC i b++blsC is r:=rfl
  have e2:blsC (edI n (b::r)) (b::r)=blC n b++blsC (edI (if b.term.to=[] then n else n+1) r) r:=rfl
  have l1:(blC i b).length=7:=rfl
  have l2:(blC n b).length=7:=rfl
  rw [e1] at hc
  rw [e2] at hd
  by_cases hj:j<7
  ·rw [List.getElem?_append_left (by omega)] at hc hd
   refine blC_pr (fun q=>?_) (fun c hc=>?_) j c d hc hd
   ·have:=h 0 i (by unfold pickE;rw [if_neg q];rfl)
    exact this
   have hu:uptoL k (blC 0 ⟨b.params,b.ins,⟨b.term.kind,b.term.arg,b.term.n,b.term.cases,[]⟩⟩):=blC_upto _ fun q=>absurd rfl q
   exact uptoL_iff.1 hu c hc
  rw [List.getElem?_append_right (by omega),l1] at hc
  rw [List.getElem?_append_right (by omega),l2] at hd
  refine bls_pr (ids:=is) (bs:=r) (by simpa using hl) (fun m a hm=>?_) _ c d hc hd
  by_cases hb:b.term.to=[]
  ·rw [if_pos hb]
   exact h m a (by unfold pickE;rw [if_pos hb];exact hm)
  rw [if_neg hb,show n+1+m=n+(m+1) by omega]
  exact h (m+1) a (by unfold pickE;rw [if_neg hb];exact hm)
 | [],b::r,_,h,_,_,_,_,_,_=>by simp at h
 | i::is,[],_,h,_,_,_,_,_,_=>by simp at h
theorem edO_upto(n:Nat):∀bs:List Block,∀o∈edO bs,o.upto n
 | [],o,h=>by cases h
 | b::r,o,h=>by
  unfold edO at h
  by_cases hb:b.term.to=[]
  ·rw [if_pos hb] at h
   exact edO_upto n r o h
  rw [if_neg hb] at h
  rcases List.mem_cons.1 h with q | q
  ·subst q
   exact edC_upto _ _
  exact edO_upto n r o q
theorem edI_lt:∀{n:Nat} {bs:List Block} {j id:Nat} {b:Block},(edI n bs)[j]?=some id→bs[j]?=some b→b.term.to≠[]→n≤id∧id<n+(edO bs).length∧(edO bs)[id - n]?=some (.cells (edC b.term.to))
 | n,[],j,id,b,h,_,_=>by simp [edI] at h
 | n,c::r,0,id,b,h1,h2,h3=>by
  simp only [edI,List.getElem?_cons_zero,Option.some.injEq] at h1 h2
  subst h1 h2
  unfold edO
  rw [if_neg h3,List.length_cons,Nat.sub_self]
  exact⟨Nat.le_refl _,by omega,rfl⟩
 | n,c::r,j+1,id,b,h1,h2,h3=>by
  simp only [edI,List.getElem?_cons_succ] at h1 h2
  obtain⟨i1,i2,i3⟩:=edI_lt h1 h2 h3
  unfold edO
  by_cases hc:c.term.to=[]
  ·rw [if_pos hc] at i1 i2 i3 ⊢
   exact⟨i1,i2,i3⟩
  rw [if_neg hc] at i1 i2 i3 ⊢
  refine⟨by omega,by rw [List.length_cons];omega,?_⟩
  rw [show id - n=(id - (n+1))+1 by omega,List.getElem?_cons_succ]
  exact i3
theorem edI_inj:∀{n:Nat} {bs:List Block} {i j id:Nat} {b c:Block},(edI n bs)[i]?=some id→(edI n bs)[j]?=some id→bs[i]?=some b→bs[j]?=some c→b.term.to≠[]→c.term.to≠[]→i=j
 | n,[],i,j,id,b,c,h,_,_,_,_,_=>by simp [edI] at h
 | n,d::r,0,0,id,b,c,_,_,_,_,_,_=>rfl
 | n,d::r,0,j+1,id,b,c,h1,h2,h3,h4,h5,h6=>by
  simp only [edI,List.getElem?_cons_zero,List.getElem?_cons_succ,Option.some.injEq] at h1 h2 h3 h4
  subst h3
  have:=(edI_lt h2 h4 h6).1
  rw [if_neg h5] at this
  omega
 | n,d::r,i+1,0,id,b,c,h1,h2,h3,h4,h5,h6=>by
  simp only [edI,List.getElem?_cons_zero,List.getElem?_cons_succ,Option.some.injEq] at h1 h2 h3 h4
  subst h4
  have:=(edI_lt h1 h3 h5).1
  rw [if_neg h6] at this
  omega
 | n,d::r,i+1,j+1,id,b,c,h1,h2,h3,h4,h5,h6=>by
  simp only [edI,List.getElem?_cons_succ] at h1 h2 h3 h4
  rw [edI_inj h1 h2 h3 h4 h5 h6]
theorem fnO_upto(b:Nat)(f:Func):∀o∈fnO b f,o.upto (b+(fnO b f).length):=fun o ho=>by
 rcases List.mem_cons.1 ho with q | q
 ·subst q
  refine blsC_upto fun j id c h1 h2 h3=>?_
  have:=(edI_lt h1 h2 h3).2.1
  unfold fnO
  rw [List.length_cons]
  omega
 exact edO_upto _ _ o q
theorem copyF_exact(f:Func)(hs:SmW f)(hne:f.blocks≠[])(O0:List AObj)(hup:∀o∈O0,o.upto O0.length) :
  ECall Try.prog 35 O0 [f.enc] (fun r O=>r=.agg [aI f.name,.os O0.length f.blocks.length 7]∧O=O0++fnO O0.length f):=by
 refine ecall_ren (copyF_edges f hs hne O0 hup) fun r O hR=>?_
 obtain⟨ids,bid,hr,_,hk,⟨hb,hO⟩,hcp,hnb⟩:=hR
 have hpl:=pickE_len hcp.li
 have hpn:=pickE_inj hcp.inj
 obtain⟨π,hπ⟩:∃π,π=List.range O0.length++bid::pickE ids f.blocks:=⟨_,rfl⟩
 have hp0:∀i:Nat,i<O0.length→π[i]?=some i:=fun i hi=>by
  rw [hπ,List.getElem?_append_left (by simpa using hi),List.getElem?_range hi]
 have hpb:π[O0.length]?=some bid:=by
  rw [hπ,List.getElem?_append_right (by simp),List.length_range,Nat.sub_self]
  rfl
 have hpe:∀m a,(pickE ids f.blocks)[m]?=some a→π[O0.length+1+m]?=some a:=fun m a hm=>by
  rw [hπ,List.getElem?_append_right (by simp;omega),List.length_range,show O0.length+1+m - O0.length=m+1 by omega,List.getElem?_cons_succ]
  exact hm
 have hlen:π.length=O0.length+1+(edO f.blocks).length:=by
  rw [hπ,List.length_append,List.length_range,List.length_cons,hpl]
  omega
 have hcase:∀(i a:Nat),π[i]?=some a→(i<O0.length∧a=i)∨(i=O0.length∧a=bid)∨(O0.length<i∧(pickE ids f.blocks)[i - (O0.length+1)]?=some a):=fun i a h=>by
  have hl:=lt_of_getElem? h
  by_cases hi:i<O0.length
  ·rw [hp0 i hi] at h
   simp only [Option.some.injEq] at h
   exact .inl ⟨hi,h.symm⟩
  by_cases hi2:i=O0.length
  ·subst hi2
   rw [hpb] at h
   simp only [Option.some.injEq] at h
   exact .inr (.inl ⟨rfl,h.symm⟩)
  refine .inr (.inr ⟨by omega,?_⟩)
  rw [hπ,List.getElem?_append_right (by simp;omega),List.length_range,show i - O0.length=(i - (O0.length+1))+1 by omega,List.getElem?_cons_succ] at h
  exact h
 have hin:∀m a,(pickE ids f.blocks)[m]?=some a→O0.length≤a∧a≠bid∧∃b:List Edge,O[a]?=some (AObj.cells (edC b))∧(edO f.blocks)[m]?=some (AObj.cells (edC b)):=fun m a hm=>by
  obtain⟨j,b,h1,h2,h3,h4⟩:=pickE_at hm
  obtain⟨o1,o2⟩:=hcp.own j a b h1 h2 h3
  exact⟨o1,hnb j a b h1 h2 h3,_,o2,h4⟩
 have hEl:∀m,(O0++fnO O0.length f)[O0.length+1+m]?=(edO f.blocks)[m]?:=fun m=>by
  rw [List.getElem?_append_right (by omega),show O0.length+1+m - O0.length=m+1 by omega]
  rfl
 refine⟨.agg [aI f.name,.os O0.length f.blocks.length 7],O0++fnO O0.length f,π,⟨?_,by omega,hp0,fun i j a h1 h2=>?_,fun i a h=>?_⟩,.inr ⟨_,_,hr,rfl,rfl,fun d hd=>?_,fun j c d hc hd=>?_⟩,rfl,rfl⟩
 ·rw [hlen,List.length_append]
  unfold fnO
  rw [List.length_cons]
  omega
 ·rcases hcase i a h1 with⟨p1,p2⟩ | ⟨p1,p2⟩ | ⟨p1,p2⟩<;>rcases hcase j a h2 with⟨q1,q2⟩ | ⟨q1,q2⟩ | ⟨q1,q2⟩
  ·omega
  ·omega
  ·have:=hin _ _ q2
   omega
  ·omega
  ·omega
  ·have:=hin _ _ q2
   omega
  ·have:=hin _ _ p2
   omega
  ·have:=hin _ _ p2
   omega
  obtain⟨e1,f1⟩:=List.getElem?_eq_some_iff.1 p2
  obtain⟨e2,f2⟩:=List.getElem?_eq_some_iff.1 q2
  have hpw:=List.pairwise_iff_getElem.1 hpn
  refine Classical.byContradiction fun z=>?_
  rcases Nat.lt_or_gt_of_ne (show i - (O0.length+1)≠j - (O0.length+1) by omega) with y | y
  ·exact hpw _ _ e1 e2 y (f1.trans f2.symm)
  exact hpw _ _ e2 e1 y (f2.trans f1.symm)
 ·rcases hcase i a h with⟨p1,p2⟩ | ⟨p1,p2⟩ | ⟨p1,p2⟩
  ·subst p2
   have ho:O0[a]?=some (O0[a]'p1):=List.getElem?_eq_getElem _
   exact⟨_,_,by rw [hk a p1,ho],by rw [List.getElem?_append_left p1,ho],.same (hup _ (List.getElem_mem _))⟩
  ·subst p1
   subst p2
   refine⟨_,.cells (blsC (edI (O0.length+1) f.blocks) f.blocks),hO,by rw [List.getElem?_append_right (Nat.le_refl _),Nat.sub_self];rfl,.cells ?_ (fun d hd=>?_) (bls_pr hcp.li hpe)⟩
   ·rw [blsC_len hcp.li,blsC_len (edI_len _ _)]
   exact mixB_scalar 0 _ _ d hd
  obtain⟨_,_,b,q1,q2⟩:=hin _ _ p2
  refine⟨_,_,q1,?_,.same (edC_upto _ _)⟩
  have:=hEl (i - (O0.length+1))
  rw [show O0.length+1+(i - (O0.length+1))=i by omega] at this
  rw [this]
  exact q2
 ·simp only [List.mem_cons,List.not_mem_nil,or_false] at hd
  rcases hd with rfl | rfl<;>trivial
 match j,hc,hd with
 | 0,hc,hd =>
  simp only [List.getElem?_cons_zero,Option.some.injEq] at hc hd
  subst hc
  subst hd
  exact .same trivial
 | 1,hc,hd =>
  simp only [List.getElem?_cons_succ,List.getElem?_cons_zero,Option.some.injEq] at hc hd
  subst hc
  subst hd
  exact .os hpb
 | j+2,hc,hd=>simp at hc
end Go.Proofs.Ytkhnjeblbiocaaa
namespace Go.Av
theorem FSub.lst{O:List AObj}{id sz:Nat}{xs ys:List AVal}{o:Own}(hl:ys.length=xs.length)(hsz:∀y∈ys,y.cells.length=sz)(hsc:∀y∈ys,∀c∈y.cells,c.scalar)
  (hc:(cellsAll ys).length=(cellsAll xs).length) (h:∀(j:Nat) (c d:AVal),(cellsAll xs)[j]?=some c→(cellsAll ys)[j]?=some d→FSub O id c d):FSub O id (.lst sz xs o) (.lst sz ys .sh):=fun g u l' hg hO he hle k=>by
 have key:∀(j:Nat) (d:AVal),(cellsAll ys)[j]?=some d→∃c,(cellsAll xs)[j]?=some c:=fun j d hd=>by
  have:=lt_of_getElem? hd
  exact⟨_,List.getElem?_eq_getElem (by omega)⟩
 cases k with
 | nil ho hn =>
  have:ys=[]:=List.length_eq_zero_iff.1 (by simpa using hl)
  subst this
  exact .nil (fun id e=>by cases e) (by simp)
 | lst hsz' hsc' hcap hmax hs f hm hr ho =>
  rw [←hl] at hcap hmax ⊢
  refine .lst hsz hsc hcap hmax (fun hne=>hs fun e=>hne ?_) f (fun j d hd=>?_) (fun j d hd=>?_) trivial
  ·rw [e] at hl
   exact List.length_eq_zero_iff.1 (by simpa using hl)
  ·obtain⟨c,hc'⟩:=key j d hd
   exact hle.ownC (hm j c hc').1 (hm j c hc').2
  obtain⟨c,hc'⟩:=key j d hd
  exact h j c d hc' hd g (f j) l' hg hO he hle (hr j c hc')
end Go.Av
namespace Go.Proofs.Ytkhnjeblbiocaaa
open Go.Av
abbrev pv(p:Nat×Block):AVal:=.agg (blC p.1 p.2)
theorem pv_share(p:Nat×Block):AVal.share (pv p)=pv p:=by
 rw [show AVal.share (pv p)=.agg ((blC p.1 p.2).map AVal.shareCell) from rfl]
 have:(blC p.1 p.2).map AVal.shareCell=blC p.1 p.2:=by
  unfold blC
  simp only [List.map_cons,List.map_nil,outE_share]
  rfl
 rw [this]
theorem pvs_share(l:List (Nat×Block)):(l.map pv).map AVal.share=l.map pv:=by
 rw [List.map_map]
 exact List.map_congr_left fun p _=>pv_share p
theorem pvs_cells(l:List (Nat×Block)):cellsAll (l.map pv)=blsC (l.map Prod.fst) (l.map Prod.snd):=by
 induction l with
 | nil=>rfl
 | cons p r ih =>
  have e1:cellsAll ((p::r).map pv)=blC p.1 p.2++cellsAll (r.map pv):=rfl
  rw [e1,ih]
  rfl
theorem lenA_outE(id:Nat)(l:List Edge):lenA (outE id l)=some l.length:=by
 unfold outE
 split
 ·rename_i h
  rw [h]
  rfl
 rfl
def gvB(L:List (Nat×Block))(i:Nat):List AVal:=(L.take i).map (fun p=>p.2.enc)++(L.drop i).map pv
theorem cells_app(a b:List AVal):cellsAll (a++b)=cellsAll a++cellsAll b:=List.flatMap_append
theorem FSub_lst1{O:List AObj}{id sz:Nat}{A B:List AVal}{x y:AVal}{o:Own}(hsz:∀z∈A++y::B,z.cells.length=sz)(hx:x.cells.length=sz)(hsc:∀z∈A++y::B,∀c∈z.cells,c.scalar)
  (h:∀(j:Nat) (c d:AVal),x.cells[j]?=some c→y.cells[j]?=some d→FSub O id c d):FSub O id (.lst sz (A++x::B) o) (.lst sz (A++y::B) .sh):=by
 have hy:y.cells.length=sz:=hsz y (by simp)
 have e1:∀z,cellsAll (A++z::B)=cellsAll A++(z.cells++cellsAll B):=fun z=>by rw [cells_app];rfl
 refine FSub.lst (by simp) hsz hsc (by rw [e1,e1];simp [hx,hy]) fun j c d hc hd=>?_
 rw [e1] at hc hd
 by_cases hj:j<(cellsAll A).length
 ·rw [List.getElem?_append_left hj] at hc hd
  rw [hc] at hd
  simp only [Option.some.injEq] at hd
  exact hd ▸ FSub.refl _
 rw [List.getElem?_append_right (by omega)] at hc hd
 by_cases hk:j - (cellsAll A).length<sz
 ·rw [List.getElem?_append_left (by omega)] at hc hd
  exact h _ c d hc hd
 rw [List.getElem?_append_right (by omega)] at hc hd
 rw [hx] at hc
 rw [hy] at hd
 rw [hc] at hd
 simp only [Option.some.injEq] at hd
 exact hd ▸ FSub.refl _
theorem gvB_ok(L:List (Nat×Block))(i:Nat):∀z∈gvB L i,z.cells.length=7∧∀c∈z.cells,c.scalar:=fun z hz=>by
 rcases List.mem_append.1 hz with q | q
 ·obtain⟨p,_,rfl⟩:=List.mem_map.1 q
  refine⟨rfl,fun c hc=>?_⟩
  simp only [Block.enc,AVal.cells,List.mem_cons,List.not_mem_nil,or_false] at hc
  rcases hc with rfl | rfl | rfl | rfl | rfl | rfl | rfl<;>trivial
 obtain⟨p,_,rfl⟩:=List.mem_map.1 q
 exact⟨rfl,fun c hc=>blC_scalar p.1 p.2 c hc⟩
theorem gvB_at{L:List (Nat×Block)}{i:Nat}{p:Nat×Block}(h:L[i]?=some p):gvB L i=(L.take i).map (fun p=>p.2.enc)++pv p::(L.drop (i+1)).map pv∧gvB L (i+1)=(L.take i).map (fun p=>p.2.enc)++p.2.enc::(L.drop (i+1)).map pv:=by
 obtain⟨hl,he⟩:=List.getElem?_eq_some_iff.1 h
 refine⟨?_,?_⟩
 ·unfold gvB
  rw [List.drop_eq_getElem_cons hl,he]
  rfl
 unfold gvB
 rw [List.take_add_one,h,List.map_append,List.append_assoc]
 rfl
theorem awp_pairs{P:Program}{kb:Nat}{c:Code}{Q:AEx→St→Prop}{n:Nat}{slots:List (Nat×AVal)}{O:List AObj}{L:List (Nat×Block)}{X:Nat}{name:Int}(hX:O[X]?=some (.cells [aI name,.lst 7 (L.map pv) .sh]))
  (hown:∀(j:Nat) (p:Nat×Block),L[j]?=some p→p.2.term.to≠[]→p.1≠X∧O[p.1]?=some (.cells (edC p.2.term.to))) (hpw:∀(i j:Nat) (p q:Nat×Block),L[i]?=some p→L[j]?=some q→p.2.term.to≠[]→q.2.term.to≠[]→p.1=q.1→i=j)
  (hup:∀o∈O,o.upto O.length)
  (h:∀O',O'.length=O.length→O'[X]?=some (.cells [aI name,eBlocks (L.map Prod.snd)])→(∀o∈O',o.upto O'.length)→(∀i,i≠X→(∀(j:Nat) (p:Nat×Block),L[j]?=some p→p.2.term.to≠[]→i≠p.1)→O'[i]?=O[i]?)→(∀i o,i≠X→O'[i]?=some o→O[i]?=some o∨o=.gone)→AWP P kb c Q ⟨n,slots,O'⟩):AWP P kb c Q ⟨n,slots,O⟩:=by
 have hg0:gvB L 0=L.map pv:=by unfold gvB;simp
 have hgn:gvB L L.length=(L.map Prod.snd).map Block.enc:=by unfold gvB;simp
 refine awp_frzp (A:=X) (C:=fun i=>[aI name,.lst 7 (gvB L i) .sh]) (N:=L.length) (M:=2) (fun _=>1) (fun i d hd=>?_) (fun i=>rfl)
  (fun i O1=>O1.length=O.length∧(∀o∈O1,o.upto O.length)∧(∀i,i≠X→(∀(j:Nat) (p:Nat×Block),L[j]?=some p→p.2.term.to≠[]→i≠p.1)→O1[i]?=O[i]?)∧(∀i o,i≠X→O1[i]?=some o→O[i]?=some o∨o=.gone)∧∀(j:Nat) (p:Nat×Block),i≤j→L[j]?=some p→p.2.term.to≠[]→p.1≠X∧O1[p.1]?=some (.cells (edC p.2.term.to)))
  (fun i O1 hi hA hf=>?_) L.length 0 O (by omega) (by rw [hg0];exact hX) ⟨rfl,hup,fun _ _ _=>rfl,fun _ _ _ h=>.inl h,fun j p _=>hown j p⟩ (fun O1 hO1 hA hf=>?_)
 ·simp only [List.mem_cons,List.not_mem_nil,or_false] at hd
  rcases hd with rfl | rfl<;>trivial
 ·obtain⟨f1,f2,f3,f5,f4⟩:=hf
  have hp:L[i]?=some (L[i]'hi):=List.getElem?_eq_getElem _
  generalize L[i]'hi=p at hp
  obtain⟨g1,g2⟩:=gvB_at hp
  by_cases ht:p.2.term.to=[]
  ·refine .inl ⟨?_,f1,f2,f3,f5,fun j q hij=>f4 j q (by omega)⟩
   have he:p.2.enc=pv p:=by
    unfold pv blC outE
    rw [if_pos ht]
    unfold Block.enc eEdges
    rw [ht]
    rfl
   show [aI name,AVal.lst 7 (gvB L (i+1)) .sh]=[aI name,.lst 7 (gvB L i) .sh]
   rw [g1,g2,he]
  obtain⟨o1,o2⟩:=f4 i p (Nat.le_refl _) hp ht
  refine .inr ⟨p.1,.cells (edC p.2.term.to),.lst 7 (gvB L i) .sh,.lst 7 (gvB L (i+1)) .sh,o1,o2,by simp [AObj.isSpare],trivial,rfl,rfl,?_,by rw [List.length_set,List.length_set,f1],?_,fun k hk1 hk2=>?_,fun k o hk1 hk2=>?_,fun j q hij hq1 hq2=>?_⟩
  ·rw [g1,g2]
   refine FSub_lst1 (fun z hz=>(gvB_ok L (i+1) z (g2 ▸ hz)).1) rfl (fun z hz=>(gvB_ok L (i+1) z (g2 ▸ hz)).2) fun j c d hc hd=>?_
   match j,hc,hd with
   | 0,hc,hd=>exact(Option.some.inj (hc.symm.trans hd)) ▸ FSub.refl _
   | 1,hc,hd=>exact(Option.some.inj (hc.symm.trans hd)) ▸ FSub.refl _
   | 2,hc,hd=>exact(Option.some.inj (hc.symm.trans hd)) ▸ FSub.refl _
   | 3,hc,hd=>exact(Option.some.inj (hc.symm.trans hd)) ▸ FSub.refl _
   | 4,hc,hd=>exact(Option.some.inj (hc.symm.trans hd)) ▸ FSub.refl _
   | 5,hc,hd=>exact(Option.some.inj (hc.symm.trans hd)) ▸ FSub.refl _
   | 6,hc,hd =>
    have hc:some (outE p.1 p.2.term.to)=some c:=hc
    have hd:some (eEdges p.2.term.to)=some d:=hd
    simp only [Option.some.injEq] at hc hd
    subst hc hd
    unfold outE
    rw [if_neg ht]
    exact FSub.os (cs:=edC p.2.term.to) o2 (fun x hx=>by obtain⟨e,_,rfl⟩:=List.mem_map.1 hx;rfl) (by simp) (by rw [List.drop_zero,List.take_of_length_le (by rw [edC_len];omega)];exact edC_share _)
   | j+7,hc,hd=>simp [pv,blC,AVal.cells] at hc
  ·refine uptoO_set (uptoO_set f2 trivial) ?_
   have hu:=f2 _ (List.mem_of_getElem? hA)
   refine⟨trivial,⟨uptoL_iff.2 fun z hz=>?_,trivial⟩,trivial⟩
   have hu1:uptoL O.length (gvB L i):=hu.2.1.1
   rw [uptoL_iff] at hu1
   have hz:z∈gvB L (i+1):=hz
   rw [g2] at hz
   rw [g1] at hu1
   rcases List.mem_append.1 hz with q | q
   ·exact hu1 z (List.mem_append_left _ q)
   rcases List.mem_cons.1 q with q | q
   ·rw [q]
    exact p.2.enc_upto _
   exact hu1 z (List.mem_append_right _ (List.mem_cons_of_mem _ q))
  ·rw [List.getElem?_set_ne (Ne.symm hk1),List.getElem?_set_ne (Ne.symm (hk2 i p hp ht)),f3 k hk1 hk2]
  ·rw [List.getElem?_set_ne (Ne.symm hk1),List.getElem?_set] at hk2
   split at hk2
   ·split at hk2
    ·simp only [Option.some.injEq] at hk2
     exact .inr hk2.symm
    cases hk2
   exact f5 k o hk1 hk2
  obtain⟨r1,r2⟩:=f4 j q (by omega) hq1 hq2
  refine⟨r1,?_⟩
  rw [List.getElem?_set_ne (Ne.symm r1),List.getElem?_set_ne (fun e=>?_)]
  ·exact r2
  have:=hpw i j p q hp hq1 ht hq2 e
  omega
 obtain⟨f1,f2,f3,f5,_⟩:=hf
 refine h O1 hO1 (by rw [hA,hgn]) (by rw [f1];exact f2) f3 f5
def prF(b:Nat)(f:Func):List (Nat×Block):=(edI (b+1) f.blocks).zip f.blocks
def turnL{α:Type}:List α→List α
 | []=>[]
 | x::r=>x::r.reverse
theorem turn_perm{α:Type}(l:List α):(turnL l).Perm l:=by
 cases l with
 | nil=>exact .refl _
 | cons x r=>exact(List.reverse_perm r).cons x
theorem turn_map{α β:Type}(g:α→β)(l:List α):turnL (l.map g)=(turnL l).map g:=by
 cases l with
 | nil=>rfl
 | cons x r=>simp [turnL]
def outFn(id:Nat)(l:List Func):AVal:=if l=[] then .lst 2 [] .ex else .os id l.length 2
def fnCells:List Nat→List Func→List AVal
 | b::bs,f::fs=>aI f.name::.os b f.blocks.length 7::fnCells bs fs
 | _,_=>[]
theorem fnCells_snoc:∀{bs:List Nat} {fs:List Func} (b:Nat) (f:Func),bs.length=fs.length→fnCells (bs++[b]) (fs++[f])=fnCells bs fs++[aI f.name,.os b f.blocks.length 7]
 | [],[],_,_,_=>rfl
 | x::bs,y::fs,b,f,h=>by
  have:=fnCells_snoc (bs:=bs) (fs:=fs) b f (by simpa using h)
  simp only [List.cons_append,fnCells,this]
 | [],y::fs,_,_,h=>by simp at h
 | x::bs,[],_,_,h=>by simp at h
theorem fnCells_len:∀{bs:List Nat} {fs:List Func},bs.length=fs.length→(fnCells bs fs).length=fs.length * 2
 | [],[],_=>rfl
 | x::bs,y::fs,h=>by
  have:=fnCells_len (bs:=bs) (fs:=fs) (by simpa using h)
  simp only [fnCells,List.length_cons,this]
  omega
 | [],y::fs,h=>by simp at h
 | x::bs,[],h=>by simp at h
theorem fnCells_upto{n:Nat}:∀{bs:List Nat} {fs:List Func},(∀b∈bs,b<n)→uptoL n (fnCells bs fs)
 | [],_,_=>by unfold fnCells;trivial
 | x::bs,[],_=>by unfold fnCells;trivial
 | x::bs,y::fs,h=>⟨trivial,h x List.mem_cons_self,fnCells_upto fun b hb=>h b (List.mem_cons_of_mem _ hb)⟩
structure CvS(B:List AObj)(X:Nat)(main:Int)(l:List Func)(fid:Nat)(bids:List Nat)(O:List AObj):Prop where
 up:∀o∈O,o.upto O.length
 len:X<O.length
 keep:∀i,i<X→O[i]?=B[i]?
 out:O[X]?=some (.cells [outFn fid l,aI main])
 fns:l≠[]→X<fid∧O[fid]?=some (.cells (fnCells bids l))
 bl:bids.length=l.length
 own:∀(j b:Nat) (f:Func),bids[j]?=some b→l[j]?=some f→X<b∧b+(fnO b f).length≤fid∧∀(m:Nat) (o:AObj),(fnO b f)[m]?=some o→O[b+m]?=some o
 pw:∀(i j b c:Nat) (f:Func),i<j→bids[i]?=some b→bids[j]?=some c→l[i]?=some f→b+(fnO b f).length≤c
theorem CvS.lt{B:List AObj}{X:Nat}{main:Int}{l:List Func}{fid:Nat}{bids:List Nat}{O:List AObj}(h:CvS B X main l fid bids O):∀b∈bids,b<O.length:=fun b hb=>by
 obtain⟨j,hj⟩:=List.mem_iff_getElem?.1 hb
 have hl:=lt_of_getElem? hj
 have hf:l[j]?=some (l[j]'(by have:=h.bl;omega)):=List.getElem?_eq_getElem _
 exact lt_of_getElem? ((h.own j b _ hj hf).2.2 0 _ rfl)
theorem CvS.snoc{B:List AObj}{X:Nat}{main:Int}{l:List Func}{fid:Nat}{bids:List Nat}{O:List AObj}(h:CvS B X main l fid bids O)(f:Func){O4:List AObj}(hl:O4.length=O.length+(fnO O.length f).length)(hup:∀o∈O4,o.upto O4.length)(hk:∀i,i<O.length→(l≠[]→i≠fid)→O4[i]?=O[i]?)
  (hb:∀(m:Nat) (o:AObj),(fnO O.length f)[m]?=some o→O4[O.length+m]?=some o) {cs ar:List AVal} (hc:cs=fnCells (bids++[O.length]) (l++[f])) (ha:ar=[.os O4.length (l.length+1) 2,aI main]):CvS B X main (l++[f]) O4.length (bids++[O.length]) ((O4++[AObj.cells cs]).set X (.cells ar)):=by
 have hX:=h.len
 have hbl:=h.bl
 subst hc
 subst ha
 have hblt:=h.lt
 have h1l:(fnO O.length f).length=1+(edO f.blocks).length:=by unfold fnO;rw [List.length_cons];omega
 have hold:∀(j b:Nat) (g:Func),bids[j]?=some b→l[j]?=some g→X<b∧b+(fnO b g).length≤O.length∧∀(m:Nat) (o:AObj),(fnO b g)[m]?=some o→O4[b+m]?=some o:=fun j b g h1 h2=>by
  obtain⟨q1,q2,q3⟩:=h.own j b g h1 h2
  have hne:l≠[]:=fun e=>by rw [e] at h2;simp at h2
  have hf:=lt_of_getElem? (h.fns hne).2
  refine⟨q1,by omega,fun m o hm=>?_⟩
  have:=lt_of_getElem? hm
  rw [hk (b+m) (by omega) (fun _=>by omega)]
  exact q3 m o hm
 have hat:∀(j b:Nat) (g:Func),(bids++[O.length])[j]?=some b→(l++[f])[j]?=some g→(bids[j]?=some b∧l[j]?=some g)∨(j=l.length∧b=O.length∧g=f):=fun j b g h1 h2=>by
  by_cases hj:j<bids.length
  ·rw [List.getElem?_append_left hj] at h1
   rw [List.getElem?_append_left (by omega)] at h2
   exact .inl ⟨h1,h2⟩
  rw [List.getElem?_append_right (by omega)] at h1
  rw [List.getElem?_append_right (by omega)] at h2
  have hj0:=lt_of_getElem? h1
  simp only [List.length_singleton] at hj0
  have e1:j - bids.length=0:=by omega
  have e2:j - l.length=0:=by omega
  rw [e1] at h1
  rw [e2] at h2
  simp only [List.getElem?_cons_zero,Option.some.injEq] at h1 h2
  exact .inr ⟨by omega,h1.symm,h2.symm⟩
 exact {
  up:=fun o ho=>by
   rw [List.length_set,List.length_append,List.length_singleton]
   rcases List.mem_or_eq_of_mem_set ho with q | q
   ·rcases List.mem_append.1 q with q | q
    ·exact AObj.upto_mono (by omega) (hup o q)
    rw [List.mem_singleton] at q
    subst q
    refine fnCells_upto fun b hb=>?_
    rcases List.mem_append.1 hb with q | q
    ·have:=hblt b q
     omega
    rw [List.mem_singleton.1 q]
    omega
   subst q
   exact⟨show O4.length<O4.length+1 by omega,trivial,trivial⟩
  len:=by rw [List.length_set,List.length_append];omega
  keep:=fun i hi=>by
   rw [List.getElem?_set_ne (by omega),List.getElem?_append_left (by omega),hk i (by omega) (fun q=>by have:=(h.fns q).1;omega),h.keep i hi]
  out:=by
   rw [List.getElem?_set_self (by rw [List.length_append];omega)]
   unfold outFn
   rw [if_neg (by simp),List.length_append]
   rfl
  fns:=fun _=>by
   refine⟨by omega,?_⟩
   rw [List.getElem?_set_ne (by omega),List.getElem?_append_right (Nat.le_refl _),Nat.sub_self]
   rfl
  bl:=by rw [List.length_append,List.length_append,h.bl];rfl
  own:=fun j b g h1 h2=>by
   rcases hat j b g h1 h2 with⟨p1,p2⟩ | ⟨_,p2,p3⟩
   ·obtain⟨q1,q2,q3⟩:=hold j b g p1 p2
    refine⟨q1,by omega,fun m o hm=>?_⟩
    have:=lt_of_getElem? hm
    rw [List.getElem?_set_ne (by omega),List.getElem?_append_left (by omega)]
    exact q3 m o hm
   rw [p2,p3]
   refine⟨by omega,by omega,fun m o hm=>?_⟩
   have:=lt_of_getElem? hm
   rw [List.getElem?_set_ne (by omega),List.getElem?_append_left (by omega)]
   exact hb m o hm
  pw:=fun i j b c g hij h1 h2 h3=>by
   have hj:=lt_of_getElem? h2
   have hi:i<l.length:=by simp only [List.length_append,List.length_singleton] at hj;omega
   have h1':bids[i]?=some b:=by rw [List.getElem?_append_left (by omega)] at h1;exact h1
   have h3':l[i]?=some g:=by rw [List.getElem?_append_left (by omega)] at h3;exact h3
   by_cases hjl:j<bids.length
   ·rw [List.getElem?_append_left hjl] at h2
    exact h.pw i j b c g hij h1' h2 h3'
   rw [List.getElem?_append_right (by omega),show j - bids.length=0 by simp only [List.length_append,List.length_singleton] at hj;omega] at h2
   simp only [List.getElem?_cons_zero,Option.some.injEq] at h2
   rw [←h2]
   exact(hold i b g h1' h3').2.1 }
def CvR(O0:List AObj)(u:Unt)(r:AVal)(O:List AObj):Prop:=∃fid bids,r=.agg [.os fid u.fns.length 2,aI u.main]∧(∀i,i<O0.length→O[i]?=O0[i]?)∧(∀o∈O,o.upto O.length)∧O[fid]?=some (.cells (fnCells bids u.fns))∧bids.length=u.fns.length ∧
 (∀(j b:Nat) (f:Func),bids[j]?=some b→u.fns[j]?=some f→O0.length≤b∧b+(fnO b f).length≤fid∧∀(m:Nat) (o:AObj),(fnO b f)[m]?=some o→O[b+m]?=some o) ∧
 ∀(i j b c:Nat) (f:Func),i<j→bids[i]?=some b→bids[j]?=some c→u.fns[i]?=some f→b+(fnO b f).length≤c
theorem copyU_edges(u:Unt)(hne:u.fns≠[])(hfew:u.fns.length≤256)(hF:∀f∈u.fns,SmW f∧f.blocks≠[]):ECall Try.prog 13 [.gone,.gone,.cells [.lst 2 [] .ex,aI u.main]] [u.enc] (CvR [.gone,.gone,.cells [.lst 2 [] .ex,aI u.main]] u):=by
 obtain⟨N,hN⟩:∃N,N=u.fns.length:=⟨_,rfl⟩
 refine ecall_all hT Try.func13 rfl (by kernel_rfl) (by simp [Try.ntmps13]) ?_
 show AWP Try.prog _ _ _ ⟨25,_,_⟩
 dsimp only [Tmp,TypeId,slotsOf]
 refine zh1 (za0 ?_)
 refine awp_freeze1 1 3 (.ip none [eFuncs u.fns,aI u.main]) rfl (by simp [AObj.isSpare]) trivial rfl ?_ ?_
 rotate_left
 simp -dsimp only [simprocAttr,↓vpre,zp]
 rotate_left
 ·exact FSub.mp rfl rfl
 refine zh1 (za0 ?_)
 refine zg2 ?_
 simp -dsimp only [simprocAttr,↓vpre,zp,←hN]
 refine za0 ?_
 have hB:∀o∈[AObj.gone,AObj.gone,.cells [.lst 2 [] .ex,aI u.main],AObj.gone,.cells [.lst 2 [] .ex,aI 0],.cells [.lst 2 [] .ex,aI u.main]],o.upto [AObj.gone,AObj.gone,.cells [.lst 2 [] .ex,aI u.main],AObj.gone,.cells [.lst 2 [] .ex,aI 0],.cells [.lst 2 [] .ex,aI u.main]].length:=fun o ho=>by
  simp only [List.mem_cons,List.not_mem_nil,or_false] at ho
  rcases ho with rfl | rfl | rfl | rfl | rfl | rfl
  ·trivial
  ·trivial
  ·exact⟨⟨trivial,trivial⟩,trivial,trivial⟩
  ·trivial
  ·exact⟨⟨trivial,trivial⟩,trivial,trivial⟩
  exact⟨⟨trivial,trivial⟩,trivial,trivial⟩
 show AWP Try.prog _ _ _ ⟨_,_,[AObj.gone,AObj.gone,.cells [.lst 2 [] .ex,aI u.main],AObj.gone,.cells [.lst 2 [] .ex,aI 0],.cells [.lst 2 [] .ex,aI u.main]]⟩
 have hBl:([AObj.gone,AObj.gone,.cells [.lst 2 [] .ex,aI u.main],AObj.gone,.cells [.lst 2 [] .ex,aI 0],.cells [.lst 2 [] .ex,aI u.main]]).length=6:=by simp
 have hBk:∀i,i<3→([AObj.gone,AObj.gone,.cells [.lst 2 [] .ex,aI u.main],AObj.gone,.cells [.lst 2 [] .ex,aI 0],.cells [.lst 2 [] .ex,aI u.main]])[i]?=([.gone,.gone,.cells [.lst 2 [] .ex,aI u.main]]:List AObj)[i]?:=fun i hi=>by
  match i,hi with
  | 0,_=>rfl
  | 1,_=>rfl
  | 2,_=>rfl
 have hBr:([AObj.gone,AObj.gone,.cells [.lst 2 [] .ex,aI u.main],AObj.gone,.cells [.lst 2 [] .ex,aI 0],.cells [.lst 2 [] .ex,aI u.main]])[4]?=some (.cells [.lst 2 [] .ex,aI 0]):=rfl
 have hBo:([AObj.gone,AObj.gone,.cells [.lst 2 [] .ex,aI u.main],AObj.gone,.cells [.lst 2 [] .ex,aI 0],.cells [.lst 2 [] .ex,aI u.main]])[5]?=some (.cells [.lst 2 [] .ex,aI u.main]):=rfl
 generalize [AObj.gone,AObj.gone,.cells [.lst 2 [] .ex,aI u.main],AObj.gone,.cells [.lst 2 [] .ex,aI 0],.cells [.lst 2 [] .ex,aI u.main]]=B at *
 have hS0:CvS B (5) u.main (u.fns.take 0) 0 [] B:=⟨hB,by omega,fun _ _=>rfl,hBo,fun q=>absurd rfl q,rfl,fun j b f h=>by simp at h,fun i j b c f _ h=>by simp at h⟩
 refine awp_block (awp_loop (ι:={X:Nat×Nat×List Nat×List AObj // X.1≤N∧CvS B (5) u.main (u.fns.take X.1) X.2.1 X.2.2.1 X.2.2.2}) (fun X=>⟨25,[(1,.ip none [eFuncs u.fns,aI u.main]),(2,.mp (4) 0),(3,.mp (5) 0),(10,eFuncs u.fns),(11,aI N),(12,aI X.1.1)],X.1.2.2.2⟩) (fun X=>N - X.1.1) ⟨(0,0,[],B),by simp,hS0⟩ ?_ ?_)
 ·refine zq rfl ?_ ?_
  simp -dsimp only [simprocAttr,↓vpre,zp,zc]
  all_goals rfl
 rintro⟨⟨k,fid,bids,O⟩,hk,hS⟩
 simp only at hk hS
 refine zh1 (za0 ?_)
 apply zk1 rfl<;>intro h
 ·refine zb0 ?_
  have hlt:k<N:=by simpa using h
  obtain⟨f,hf⟩:∃f,u.fns[k]?=some f:=⟨u.fns[k]'(by omega),List.getElem?_eq_getElem _⟩
  obtain⟨hsm,hnb⟩:=hF f (List.mem_of_getElem? hf)
  have htk:u.fns.take (k+1)=u.fns.take k++[f]:=by rw [List.take_add_one,hf];rfl
  have htkl:(u.fns.take k).length=k:=by rw [List.length_take];omega
  have hX:=hS.len
  have hSu:=hS.up
  have hcp:=copyF_exact f hsm hnb O hSu
  have hout:=hS.out
  have hbl:=hS.bl
  unfold Func.enc at hcp
  refine awp_seq (awp_block ?_)
  refine zg1 ?_
  simp -dsimp only [simprocAttr,↓vpre,zp,hf]
  refine za0 ?_
  refine awp_local 5 ([aI f.name,eBlocks f.blocks]) [(1,.ip none [eFuncs u.fns,aI u.main]),(2,.mp (4) 0),(3,.mp (5) 0),(10,eFuncs u.fns),(11,aI N),(12,aI k),(5,.ip none [aI f.name,eBlocks f.blocks])] (by simp [putS,dropS,Go.Av.look]) (by rfl) (by omega) (by simp [putS,dropS,Go.Av.look]) ?_ ?_ ?_
  ·exact hSu
  ·simp [AVal.upto,uptoL,aI_upto,Func.map_upto,Block.map_upto]
   omega
  have hO1l:(O++fnO O.length f).length=O.length+(fnO O.length f).length:=List.length_append
  have hup1:∀o∈O++fnO O.length f,o.upto (O.length+(fnO O.length f).length):=fun o ho=>by
   rcases List.mem_append.1 ho with q | q
   ·exact AObj.upto_mono (by omega) (hSu o q)
   exact fnO_upto _ _ o q
  have hk1:∀i,i<O.length→(O++fnO O.length f)[i]?=O[i]?:=fun i hi=>List.getElem?_append_left hi
  have hb1:∀(m:Nat) (o:AObj),(fnO O.length f)[m]?=some o→(O++fnO O.length f)[O.length+m]?=some o:=fun m o hm=>by
   rw [List.getElem?_append_right (by omega),show O.length+m - O.length=m by omega]
   exact hm
  have ho1:=(hk1 _ hX).trans hout
  by_cases hdn:u.fns.take k=[]
  ·have hob:outFn fid (u.fns.take k)=.lst 2 [] .ex:=if_pos hdn
   rw [hob] at hout ho1
   have ho1':∀X,(O++fnO O.length f++X)[5]?=some (.cells [.lst 2 [] .ex,aI u.main]):=fun X=>at_left ho1
   refine zs0 ?_
   simp -dsimp only [simprocAttr,↓vpre,zp,hout]
   refine .inr (.inl ⟨_,_,hcp,.inr ⟨6,[],fun i hi _=>hk1 i (by omega),later_intro ?_⟩⟩)
   generalize O++fnO O.length f=O1 at *
   simp -dsimp only [simprocAttr,↓vpre,zp,hout,ho1,ho1',cellsAll_v,cells_os']
   repeat(refine⟨by omega,?_⟩)
   refine⟨trivial,?_⟩
   refine⟨ob (by kernel_rfl),?_⟩
   refine za0 ?_
   have hput:=hS.snoc f (O4:=O1) hO1l (by rw [hO1l];exact hup1) (fun i hi _=>hk1 i hi) hb1 (cs:=[aI f.name,.os O.length f.blocks.length 7]) (ar:=[.os O1.length 1 2,aI u.main]) (by rw [fnCells_snoc _ _ hbl];have:bids=[]:=List.length_eq_zero_iff.1 (by rw [hbl,hdn];rfl);rw [this];rfl) (by rw [hdn];rfl)
   show AWP Try.prog _ _ _ ⟨_,_,(O1++[AObj.cells [aI f.name,.os O.length f.blocks.length 7]]).set (5) (.cells [.os O1.length 1 2,aI u.main])⟩
   rw [←htk] at hput
   generalize (O1++[AObj.cells [aI f.name,.os O.length f.blocks.length 7]]).set (5) (.cells [.os O1.length 1 2,aI u.main])=O7 at *
   refine zh0 ?_
   repeat(refine⟨by omega,?_⟩)
   refine zl0 ?_
   refine⟨⟨(k+1,O1.length,bids++[O.length],O7),hlt,hput⟩,by simp;omega,?_⟩
   refine zq rfl ?_ ?_
   simp -dsimp only [simprocAttr,↓vpre,zp,zc]
   ·exact Sub.int (by simp)
   rfl
  obtain⟨b1,b2⟩:=hS.fns hdn
  have hfl:=lt_of_getElem? b2
  have b3:=(hk1 _ hfl).trans b2
  have hob:outFn fid (u.fns.take k)=.os fid k 2:=by
   unfold outFn
   rw [if_neg hdn,htkl]
  rw [hob] at hout ho1
  have hcl:(fnCells bids (u.fns.take k)).length=k * 2:=by rw [fnCells_len hbl,htkl]
  have hTT:(fnCells bids (u.fns.take k)).take (k * 2)=fnCells bids (u.fns.take k):=List.take_of_length_le (by omega)
  refine zg0 ?_
  simp -dsimp only [simprocAttr,↓vpre,zp,hout]
  refine .inr (.inl ⟨_,_,hcp,.inr ⟨6,[],fun i hi _=>hk1 i (by omega),later_intro ?_⟩⟩)
  generalize O++fnO O.length f=O1 at *
  have ho1':∀X,(O1.set fid .gone++X)[5]?=some (.cells [.os fid k 2,aI u.main]):=fun X=>at_left (at_set_ne ho1 (by omega))
  simp -dsimp only [simprocAttr,↓vpre,zp,hout,ho1,ho1',b3,hTT,hcl,cellsAll_v,cells_os']
  repeat(refine⟨by omega,?_⟩)
  refine⟨trivial,?_⟩
  refine⟨ob (by kernel_rfl),?_⟩
  refine za0 ?_
  have hput:=hS.snoc f (O4:=O1.set fid .gone) (by rw [List.length_set];exact hO1l) (by rw [List.length_set,hO1l];exact uptoO_set hup1 trivial) (fun i hi hq=>by rw [List.getElem?_set_ne (Ne.symm (hq hdn))];exact hk1 i hi) (fun m o hm=>by have:=lt_of_getElem? hm;rw [List.getElem?_set_ne (by omega)];exact hb1 m o hm) (cs:=fnCells bids (u.fns.take k)++[aI f.name,.os O.length f.blocks.length 7]) (ar:=[.os O1.length (k+1) 2,aI u.main]) (fnCells_snoc _ _ hbl).symm (by rw [List.length_set,htkl])
  rw [←htk,List.length_set] at hput
  show AWP Try.prog _ _ _ ⟨_,_,(O1.set fid .gone++[AObj.cells (fnCells bids (u.fns.take k)++[aI f.name,.os O.length f.blocks.length 7])]).set (5) (.cells [.os O1.length (k+1) 2,aI u.main])⟩
  generalize (O1.set fid .gone++[AObj.cells (fnCells bids (u.fns.take k)++[aI f.name,.os O.length f.blocks.length 7])]).set (5) (.cells [.os O1.length (k+1) 2,aI u.main])=O7 at *
  refine zh0 ?_
  repeat(refine⟨by omega,?_⟩)
  refine zl0 ?_
  refine⟨⟨(k+1,O1.length,bids++[O.length],O7),hlt,hput⟩,by simp;omega,?_⟩
  refine zq rfl ?_ ?_
  simp -dsimp only [simprocAttr,↓vpre,zp,zc]
  ·exact Sub.int (by simp)
  rfl
 refine awp_exit ?_
 simp -dsimp only [vend,ne_eq,Nat.reduceEqDiff,reduceCtorEq]
 have hkN:k=N:=by
  have:=of_decide_eq_false h
  omega
 subst hkN
 rw [List.take_of_length_le (by omega)] at hS
 have hout:=hS.out
 have hret:=hS.keep (4) (by omega)
 rw [hBr] at hret
 have hob:outFn fid u.fns=.os fid u.fns.length 2:=if_neg hne
 rw [hob] at hout
 obtain⟨b1,b2⟩:=hS.fns hne
 have hfl:=lt_of_getElem? b2
 have hrl:=lt_of_getElem? hret
 have hret':(O.set (4) (.cells [.os fid u.fns.length 2,aI u.main]))[4]?=some (.cells [.os fid u.fns.length 2,aI u.main]):=List.getElem?_set_self hrl
 refine zg1 ?_
 simp -dsimp only [simprocAttr,↓vpre,zp,hout,hret]
 refine za0 ?_
 refine awp_ret ?_
 simp -dsimp only [simprocAttr,↓vpre,zp,RetAll,Try.results13,retVals,retVal,mkRet,seqPost_ret,blockPost_ret,loopPost_ret,hret']
 refine⟨fid,bids,rfl,fun i hi=>?_,?_,?_,hS.bl,fun j b f h1 h2=>?_,hS.pw⟩
 ·have hi:i<3:=hi
  rw [List.getElem?_set_ne (by omega),hS.keep i (by omega),hBk i hi]
 ·rw [List.length_set]
  exact uptoO_set hS.up ⟨hfl,trivial,trivial⟩
 ·rw [List.getElem?_set_ne (by omega)]
  exact b2
 obtain⟨q1,q2,q3⟩:=hS.own j b f h1 h2
 refine⟨by show 3≤b;omega,q2,fun m o hm=>?_⟩
 have:=lt_of_getElem? hm
 rw [List.getElem?_set_ne (by omega)]
 exact q3 m o hm
end Go.Proofs.Ytkhnjeblbiocaaa
namespace Go.Proofs.Ytkhnjeblbiocaaa
open Go.Av
theorem prF_len(b:Nat)(f:Func):(prF b f).length=f.blocks.length:=by
 unfold prF
 rw [List.length_zip,edI_len,Nat.min_self]
theorem prF_fst(b:Nat)(f:Func):(prF b f).map Prod.fst=edI (b+1) f.blocks:=by
 unfold prF
 rw [List.map_fst_zip (by rw [edI_len];exact Nat.le_refl _)]
theorem prF_snd(b:Nat)(f:Func):(prF b f).map Prod.snd=f.blocks:=by
 unfold prF
 rw [List.map_snd_zip (by rw [edI_len];exact Nat.le_refl _)]
theorem prF_cells(b:Nat)(f:Func):cellsAll ((prF b f).map pv)=blsC (edI (b+1) f.blocks) f.blocks:=by
 rw [pvs_cells,prF_fst,prF_snd]
theorem prF_own{b:Nat}{f:Func}{p:Nat×Block}(h:p∈prF b f):p.2∈f.blocks∧(p.2.term.to≠[]→b<p.1∧p.1<b+(fnO b f).length∧(fnO b f)[p.1 - b]?=some (.cells (edC p.2.term.to))):=by
 obtain⟨j,hj⟩:=List.mem_iff_getElem?.1 h
 have e1:(edI (b+1) f.blocks)[j]?=some p.1:=by rw [←prF_fst,List.getElem?_map,hj];rfl
 have e2:f.blocks[j]?=some p.2:=by rw [←prF_snd b f,List.getElem?_map,hj];rfl
 refine⟨List.mem_of_getElem? e2,fun hne=>?_⟩
 obtain⟨q1,q2,q3⟩:=edI_lt e1 e2 hne
 unfold fnO
 refine⟨by omega,by rw [List.length_cons];omega,?_⟩
 rw [show p.1 - b=(p.1 - (b+1))+1 by omega,List.getElem?_cons_succ]
 exact q3
def ApE(p q:Nat×Block):Prop:=p.2.term.to≠[]→q.2.term.to≠[]→p.1≠q.1
theorem ApE.symm{p q:Nat×Block}(h:ApE p q):ApE q p:=fun a b e=>h b a e.symm
theorem prF_ap(b:Nat)(f:Func):(prF b f).Pairwise ApE:=by
 rw [List.pairwise_iff_getElem]
 intro i j hi hj hij ta tb e
 have h1:(prF b f)[i]?=some _:=List.getElem?_eq_getElem hi
 have h2:(prF b f)[j]?=some _:=List.getElem?_eq_getElem hj
 generalize (prF b f)[i]=p at h1 ta e
 generalize (prF b f)[j]=q at h2 tb e
 have e1:(edI (b+1) f.blocks)[i]?=some p.1:=by rw [←prF_fst,List.getElem?_map,h1];rfl
 have e2:f.blocks[i]?=some p.2:=by rw [←prF_snd b f,List.getElem?_map,h1];rfl
 have e3:(edI (b+1) f.blocks)[j]?=some q.1:=by rw [←prF_fst,List.getElem?_map,h2];rfl
 have e4:f.blocks[j]?=some q.2:=by rw [←prF_snd b f,List.getElem?_map,h2];rfl
 rw [e] at e1
 have:=edI_inj e1 e3 e2 e4 ta tb
 omega
theorem ap_inj{L:List (Nat×Block)}(h:L.Pairwise ApE):∀(i j:Nat) (p q:Nat×Block),L[i]?=some p→L[j]?=some q→p.2.term.to≠[]→q.2.term.to≠[]→p.1=q.1→i=j:=fun i j p q h1 h2 h3 h4 h5=>by
 obtain⟨l1,e1⟩:=List.getElem?_eq_some_iff.1 h1
 obtain⟨l2,e2⟩:=List.getElem?_eq_some_iff.1 h2
 rw [List.pairwise_iff_getElem] at h
 refine Classical.byContradiction fun z=>?_
 rcases Nat.lt_or_gt_of_ne z with y | y
 ·have:=h i j l1 l2 y
  rw [e1,e2] at this
  exact this h3 h4 h5
 have:=h j i l2 l1 y
 rw [e1,e2] at this
 exact this h4 h3 h5.symm
theorem turn_ap{L:List (Nat×Block)}(h:L.Pairwise ApE):(turnL L).Pairwise ApE:=((turn_perm L).pairwise_iff ApE.symm).2 h
def rnA(n:Nat):List Int:=(List.range n).map fun(k:Nat)=>(n:Int) - k
theorem rnA_at{n:Nat}{e:Int}(h0:0≤e)(h1:e<n):atI (rnA n) e=n - e:=by
 unfold atI rnA
 rw [List.getElem?_map,List.getElem?_range (by omega)]
 show(n:Int) - (e.toNat:Int)=_
 omega
theorem ordB_eq{n:Nat}{b:Block}(he:∀e∈b.term.to,1≤e.block∧e.block<n):ordB n b=renB (rnA n) b:=by
 have h1:b.term.to.map (trE (fun a=>a) (ordK n))=b.term.to.map (renE (rnA n)):=List.map_congr_left fun e h=>by
  obtain⟨a1,a2⟩:=he e h
  unfold trE renE ordK
  rw [rnA_at (by omega) a2,if_neg (by omega)]
  simp only [List.map_id']
  congr 1
  omega
 have h2:b.ins.map (trI fun a=>a)=b.ins:=by
  conv=>rhs;rw [←List.map_id b.ins]
  refine List.map_congr_left fun i _=>?_
  unfold trI
  simp
 unfold ordB trB renB
 rw [h1,h2]
 simp
theorem ordF_eq{f:Func}(he:∀b∈f.blocks,∀e∈b.term.to,1≤e.block∧e.block<f.blocks.length):(ordF f).blocks=(turnL f.blocks).map (renB (rnA f.blocks.length)):=by
 have h:∀b∈f.blocks,ordB f.blocks.length b=renB (rnA f.blocks.length) b:=fun b hb=>ordB_eq (he b hb)
 unfold ordF turnL
 cases hb:f.blocks with
 | nil=>rfl
 | cons b r =>
  have h2:∀c∈f.blocks,ordB f.blocks.length c=renB (rnA f.blocks.length) c:=fun c hc=>ordB_eq (he c hc)
  rw [hb] at h2
  show ordB (b::r).length b::(r.map (ordB (b::r).length)).reverse=(b::r.reverse).map (renB (rnA (b::r).length))
  rw [List.map_cons,h2 b List.mem_cons_self,List.map_congr_left fun c hc=>h2 c (List.mem_cons_of_mem _ hc),List.map_reverse]
def renP(A:List Int)(L:List (Nat×Block)):List (Nat×Block):=L.map fun p=>(p.1,renB A p.2)
theorem renP_pv(A:List Int)(L:List (Nat×Block)):(renP A L).map pv=L.map pv:=by
 unfold renP
 rw [List.map_map]
 refine List.map_congr_left fun p _=>?_
 show AVal.agg (blC p.1 (renB A p.2))=.agg (blC p.1 p.2)
 rw [blC_ren]
theorem renP_snd(A:List Int)(L:List (Nat×Block)):(renP A L).map Prod.snd=(L.map Prod.snd).map (renB A):=by
 unfold renP
 rw [List.map_map,List.map_map]
 rfl
theorem renP_at{A:List Int}{L:List (Nat×Block)}{j:Nat}{q:Nat×Block}(h:(renP A L)[j]?=some q):∃p,L[j]?=some p∧q.1=p.1∧q.2=renB A p.2∧(q.2.term.to≠[]↔p.2.term.to≠[]):=by
 unfold renP at h
 rw [List.getElem?_map,Option.map_eq_some_iff] at h
 obtain⟨p,h1,rfl⟩:=h
 refine⟨p,h1,rfl,rfl,?_⟩
 rw [renB_to]
 simp
structure OrB(Op:List AObj)(b m X:Nat)(name:Int)(A:List Int)(L:List (Nat×Block))(kk:Nat)(O:List AObj):Prop where
 len:O.length=X+1
 up:∀o∈O,o.upto O.length
 low:∀(i:Nat) (o:AObj),i<X→O[i]?=some o→o.upto X
 cell:O[X]?=some (.cells [aI name,.lst 7 (L.map pv) .sh])
 own:∀(j:Nat) (p:Nat×Block),L[j]?=some p→p.2.term.to≠[]→b<p.1∧p.1<b+m∧O[p.1]?=some (.cells (edC (if j<kk then p.2.term.to.map (renE A) else p.2.term.to)))
 keep:∀i,i<X→(i<b∨b+m≤i)→O[i]?=Op[i]?
def oC(A:List Int)(O:List AObj)(p:Nat×Block)(z:Nat):List AObj:=if p.2.term.to=[] then O else O.set p.1 (.cells (edC (mixE A p.2.term.to z)))
section
variable {Op:List AObj} {b m X:Nat} {name:Int} {A:List Int} {L:List (Nat×Block)} {kk:Nat} {O:List AObj}
theorem oC_zero(h:OrB Op b m X name A L kk O){p:Nat×Block}(hp:L[kk]?=some p):oC A O p 0=O:=by
 unfold oC
 by_cases ht:p.2.term.to=[]
 ·rw [if_pos ht]
 rw [if_neg ht]
 obtain⟨_,_,q⟩:=h.own kk p hp ht
 rw [if_neg (Nat.lt_irrefl _)] at q
 rw [mixE_zero]
 apply List.ext_getElem?
 intro j
 rw [List.getElem?_set]
 split
 ·rename_i e
  rw [←e,if_pos (lt_of_getElem? q),q]
 rfl
theorem oC_len(p:Nat×Block)(z:Nat):(oC A O p z).length=O.length:=by
 unfold oC
 split
 ·rfl
 rw [List.length_set]
theorem oC_up(h:OrB Op b m X name A L kk O)(p:Nat×Block)(z:Nat):∀o∈oC A O p z,o.upto (oC A O p z).length:=by
 rw [oC_len]
 unfold oC
 split
 ·exact h.up
 exact uptoO_set h.up (edC_upto _ _)
theorem oC_cell(h:OrB Op b m X name A L kk O)(hbm:b+m≤X){p:Nat×Block}(hp:L[kk]?=some p)(z:Nat):(oC A O p z)[X]?=some (.cells [aI name,.lst 7 (L.map pv) .sh]):=by
 unfold oC
 by_cases ht:p.2.term.to=[]
 ·rw [if_pos ht]
  exact h.cell
 obtain⟨_,q,_⟩:=h.own kk p hp ht
 rw [if_neg ht,List.getElem?_set_ne (by omega)]
 exact h.cell
theorem oC_own(h:OrB Op b m X name A L kk O){p:Nat×Block}(hp:L[kk]?=some p)(ht:p.2.term.to≠[])(z:Nat):(oC A O p z)[p.1]?=some (.cells (edC (mixE A p.2.term.to z))):=by
 unfold oC
 obtain⟨_,_,q⟩:=h.own kk p hp ht
 rw [if_neg ht,List.getElem?_set_self (lt_of_getElem? q)]
theorem oC_step{p:Nat×Block}{z:Nat}{e:Edge}(ht:p.2.term.to≠[])(he:p.2.term.to[z]?=some e):(oC A O p z).set p.1 (.cells (splice (edC (mixE A p.2.term.to z)) (z * 2) [.v (.int .i64 (atI A e.block))]))=oC A O p (z+1):=by
 unfold oC
 rw [if_neg ht,if_neg ht,List.set_set,mixE_step A he]
theorem OrB.next(h:OrB Op b m X name A L kk O)(hbm:b+m≤X)(hap:L.Pairwise ApE){p:Nat×Block}(hp:L[kk]?=some p):OrB Op b m X name A L (kk+1) (oC A O p p.2.term.to.length) where
 len:=by rw [oC_len,h.len]
 up:=oC_up h p _
 low:=fun i o hi ho=>by
  unfold oC at ho
  split at ho
  ·exact h.low i o hi ho
  rw [List.getElem?_set] at ho
  split at ho
  ·split at ho
   ·simp only [Option.some.injEq] at ho
    subst ho
    exact edC_upto _ _
   cases ho
  exact h.low i o hi ho
 cell:=oC_cell h hbm hp _
 own:=fun j q hq ht=>by
  obtain⟨q1,q2,q3⟩:=h.own j q hq ht
  refine⟨q1,q2,?_⟩
  by_cases hj:j=kk
  ·subst hj
   rw [hp] at hq
   simp only [Option.some.injEq] at hq
   subst hq
   rw [oC_own h hp ht,if_pos (by omega),mixE_all A (Nat.le_refl _)]
  have e1:(oC A O p p.2.term.to.length)[q.1]?=O[q.1]?:=by
   unfold oC
   by_cases hpt:p.2.term.to=[]
   ·rw [if_pos hpt]
   rw [if_neg hpt,List.getElem?_set_ne (fun e=>hj (ap_inj hap j kk q p hq hp ht hpt e.symm))]
  rw [e1,q3]
  by_cases hlt:j<kk
  ·rw [if_pos hlt,if_pos (by omega)]
  rw [if_neg hlt,if_neg (by omega)]
 keep:=fun i hi hr=>by
  unfold oC
  by_cases hpt:p.2.term.to=[]
  ·rw [if_pos hpt,h.keep i hi hr]
  obtain⟨q1,q2,_⟩:=h.own kk p hp hpt
  rw [if_neg hpt,List.getElem?_set_ne (by omega),h.keep i hi hr]
end
theorem fnCells_two:∀{bids:List Nat} {fs:List Func} {m b:Nat} {f:Func},bids[m]?=some b→fs[m]?=some f→((fnCells bids fs).drop (m * 2)).take 2=[aI f.name,.os b f.blocks.length 7]
 | x::bs,a::r,0,b,f,h1,h2=>by
  simp only [List.getElem?_cons_zero,Option.some.injEq] at h1 h2
  subst h1
  subst h2
  rfl
 | x::bs,a::r,m+1,b,f,h1,h2=>by
  have:=fnCells_two (bids:=bs) (fs:=r) (m:=m) (by simpa using h1) (by simpa using h2)
  rw [fnCells,show(m+1) * 2=m * 2+1+1 by omega,List.drop_succ_cons,List.drop_succ_cons,this]
 | [],_,_,_,_,h1,_=>by simp at h1
 | _::_,[],_,_,_,_,h2=>by simp at h2
theorem blsC_share(ids:List Nat)(bs:List Block):(blsC ids bs).map AVal.shareCell=blsC ids bs:=by
 induction ids generalizing bs with
 | nil=>simp [blsC]
 | cons i r ih =>
  cases bs with
  | nil=>simp [blsC]
  | cons b bs =>
   have e:blsC (i::r) (b::bs)=blC i b++blsC r bs:=rfl
   have h:(blC i b).map AVal.shareCell=blC i b:=by
    unfold blC
    simp only [List.map_cons,List.map_nil,outE_share]
    rfl
   rw [e,List.map_append,ih,h]
theorem prF_upto{b n:Nat}{f:Func}(h:b+(fnO b f).length≤n):uptoL n ((prF b f).map pv):=by
 rw [uptoL_iff]
 intro x hx
 obtain⟨p,hp,rfl⟩:=List.mem_map.1 hx
 have hu:=blC_upto (n:=n) (id:=p.1) p.2 fun q=>by
  have:=((prF_own hp).2 q).2.1
  omega
 exact hu
theorem blC_len7(i:Nat)(b:Block):(blC i b).length=7:=rfl
theorem blC_take7(i:Nat)(b:Block):(blC i b).take 7=blC i b:=rfl
theorem blC_at6(i:Nat)(b:Block):(List.drop 4 (List.drop 2 (blC i b)))[0]?=some (outE i b.term.to):=rfl
theorem blC_shc(i:Nat)(b:Block):(blC i b).map AVal.shareCell=blC i b:=by
 unfold blC
 simp only [List.map_cons,List.map_nil,outE_share]
 rfl
structure OrS(fns:List Func)(main:Int)(bids:List Nat)(fid T k:Nat)(O:List AObj):Prop where
 up:∀o∈O,o.upto O.length
 len:O.length=T+1
 low:∀i,i<2→O[i]?=some .gone
 out:O[2]?=some (.cells [.lst 2 (((fns.take k).map ordF).map Func.enc) (.tok T),aI main])
 sp:O[T]?=some (.spare k)
 tab:O[fid]?=some (.cells (fnCells bids fns))
 own:∀(j b:Nat) (f:Func),k≤j→bids[j]?=some b→fns[j]?=some f→∀(m:Nat) (o:AObj),(fnO b f)[m]?=some o→O[b+m]?=some o
end Go.Proofs.Ytkhnjeblbiocaaa
namespace Go.Proofs.Ytkhnjeblbiocaaa
open Go.Av

theorem sm_w{f:Func}(hfit:f.fit)(hc:checkFuncM f=0):SmW f:=by
 have hw:=checkFunc_ok hfit hc
 have hg:=hw.gr
 have hpar:∀b∈f.blocks,b.params.length≤4096:=fun b hb=>by
  have:=(hw.blk b hb).few
  omega
 exact {
  few:=hw.few
  params:=hpar
  ins:=hw.ins
  iargs:=fun b hb i hi=>(form_ok ((hw.blk b hb).forms i hi)).len
  cases:=fun b hb=>(end_ok (hw.blk b hb).fin).cases
  to:=fun b hb=>hg.to b hb
  eargs:=fun b hb e he=>by
   have h1:=(end_ok (hw.blk b hb).fin).edges e he
   rw [h1.2]
   have hr:=hg.edges b hb e he
   have hx:f.blocks[e.block.toNat]?=some (f.blocks[e.block.toNat]'(by omega)):=List.getElem?_eq_getElem _
   have:blkOf f e.block=f.blocks[e.block.toNat]'(by omega):=by simp [blkOf,hx]
   rw [this]
   exact hpar _ (List.getElem_mem _) }

theorem take_two{O:List AObj}(h0:O[0]?=some .gone)(h1:O[1]?=some .gone):O.take 2=[.gone,.gone]:=by
 match O,h0,h1 with
 | [],h0,_=>simp at h0
 | [a],_,h1=>simp at h1
 | a::b::r,h0,h1 =>
  simp only [List.getElem?_cons_zero,List.getElem?_cons_succ,Option.some.injEq] at h0 h1
  subst h0 h1
  rfl
theorem ssaOrder_law(u:Unt)(hfit:u.fit):PCall Try.prog 4 [u.enc] (.v (.bool true)):=by
 have hwk:=works_spec
 have hrun:=run_spec u hfit 2000
 by_cases he:(runM u 2000).e=0
 ·have hc:checkM u=0:=Classical.byContradiction fun q=>by
   unfold runM at he
   rw [if_pos q] at he
   exact q he
  obtain⟨k1,k2,k3,k4,k5,k6⟩:=check_parts hc
  have hW:=check_ok hfit hc
  have hfit':=ordU_fit hfit hc
  have hc':=ordU_check hfit hc
  have hrun2:=run_spec _ hfit' 2000
  have hcu:=copyU_edges u (fun q=>by have:=within_iff.1 k3;rw [q] at this;simp at this;omega) k2 fun f hf=>⟨sm_w (hfit.2.2 f hf) (k4 f hf),(hW.fns f hf).ne⟩
  have hA:runM u 2000=performM u 2000:=by
   unfold runM
   rw [if_neg (by simp [hc]),if_neg (by decide)]
  have hA':runM (ordU u) 2000=runM u 2000:=by
   rw [hA]
   rw [hA] at he
   rw [←ordU_law hfit hc (F:=2000) (by omega) he]
   unfold runM
   rw [if_neg (by simp [hc']),if_neg (by decide)]
  rw [hA'] at hrun2
  have hed:∀f∈u.fns,∀b∈f.blocks,∀e∈b.term.to,1≤e.block∧e.block<f.blocks.length:=fun f hf=>(checkFunc_v (hfit.2.2 f hf) (k4 f hf)).edges
  generalize runM u 2000=A at *
  obtain⟨out,fin,val,n,e⟩:=A
  simp only at he
  subst he
  unfold Ans.enc at hrun hrun2
  simp only at hrun hrun2
  have hUe:u.enc=.agg [eFuncs u.fns,aI u.main]:=rfl
  have hVe:(ordU u).enc=.agg [eFuncs (u.fns.map ordF),aI u.main]:=rfl
  rw [hUe] at hrun hcu ⊢
  rw [hVe] at hrun2
  obtain⟨N,hN⟩:∃N,N=u.fns.length:=⟨_,rfl⟩
  have hsr:=sameResult_spec out out fin fin val val
  unfold eRes at hsr
  simp only [decide_true,Bool.and_self] at hsr
  refine zf true 0 Try.func4 Try.ntmps4 ?_
  dsimp only [Tmp,TypeId,slotsOf]
  refine zh1 (za0 ?_)
  refine awp_freeze1 1 0 (.ip none [eFuncs u.fns,aI u.main]) rfl (by simp [AObj.isSpare]) trivial rfl ?_ ?_
  rotate_left
  simp -dsimp only [simprocAttr,↓vpre,zp]
  rotate_left
  ·exact FSub.mp rfl rfl
  refine zh2 ?_
  refine zi hwk ?_
  refine za0 ?_
  apply zk0 rfl<;>intro h
  ·cases h
  refine zb0 ?_
  refine zh1 ?_
  refine zi hrun ?_
  refine za0 ?_
  refine awp_freeze1 3 1 (.ip none [.lst 1 (out.map aI) .sh,aI fin,aI val]) rfl (by simp [AObj.isSpare]) trivial rfl ?_ ?_
  rotate_left
  simp -dsimp only [simprocAttr,↓vpre,zp]
  rotate_left
  ·exact FSub.mp rfl rfl
  refine zh2 (za0 ?_)
  apply zk0 rfl<;>intro h
  ·cases h
  refine zb0 ?_
  refine zh1 (za0 ?_)
  refine awp_seq (awp_seq (awp_call_ex ⟨false,false⟩ hT 1 rfl rfl rfl (by simp) ?_))
  simp -dsimp only [simprocAttr,↓vpre,zp]
  refine⟨CvR [.gone,.gone,.cells [.lst 2 [] .ex,aI u.main]] u,cert_ecallE rfl (by simp) rfl rfl hcu,fun r O hR=>?_⟩
  obtain⟨fid,bids,hr,hkeep,hup,hO,hbl,hown,hpw⟩:=hR
  subst hr
  simp -dsimp only [simprocAttr,↓vpre,zp,←hN]
  refine za0 ?_
  have hkeep:∀i,i<3→O[i]?=([.gone,.gone,.cells [.lst 2 [] .ex,aI u.main]]:List AObj)[i]?:=hkeep
  have hown:∀(j b:Nat) (f:Func),bids[j]?=some b→u.fns[j]?=some f→3≤b∧b+(fnO b f).length≤fid∧∀(m:Nat) (o:AObj),(fnO b f)[m]?=some o→O[b+m]?=some o:=hown
  have hO2:O[2]?=some (.cells [.lst 2 [] .ex,aI u.main]):=hkeep 2 (by omega)
  have h2l:=lt_of_getElem? hO2
  have hfl:=lt_of_getElem? hO
  refine awp_ownCell 2 0 (sz:=2) (xs:=[]) hO2 rfl ?_
  obtain⟨T,hT0⟩:∃T,T=O.length:=⟨_,rfl⟩
  have hnf:fid≠2:=fun q=>by
   rw [q,hO2] at hO
   simp only [Option.some.injEq,AObj.cells.injEq] at hO
   have:=congrArg (fun l=>l[0]?) hO
   cases hbb:bids with
   | nil=>rw [hbb] at this;simp [fnCells] at this
   | cons b r =>
    rw [hbb] at this
    cases hff:u.fns with
    | nil=>rw [hff] at this;simp [fnCells] at this
    | cons f r=>rw [hff] at this;simp [fnCells,aI] at this
  have hS0:OrS u.fns u.main bids fid T 0 ((O++[AObj.spare ([]:List AVal).length]).set 2 (.cells ([.lst 2 [] .ex,aI u.main].set 0 (.lst 2 [] (.tok O.length))))):=by
   refine⟨fun o ho=>?_,by rw [List.length_set,List.length_append,hT0];rfl,fun i hi=>?_,?_,?_,?_,fun j b f _ h1 h2 m o hm=>?_⟩
   ·rw [List.length_set,List.length_append,List.length_singleton]
    rcases List.mem_or_eq_of_mem_set ho with q | q
    ·rcases List.mem_append.1 q with q | q
     ·exact AObj.upto_mono (by omega) (hup o q)
     rw [List.mem_singleton.1 q]
     trivial
    subst q
    exact⟨⟨trivial,show O.length<O.length+1 by omega⟩,trivial,trivial⟩
   ·rw [List.getElem?_set_ne (by omega),List.getElem?_append_left (by omega),hkeep i (by omega)]
    match i,hi with
    | 0,_=>rfl
    | 1,_=>rfl
   ·rw [List.getElem?_set_self (by rw [List.length_append];omega),hT0]
    rfl
   ·rw [hT0,List.getElem?_set_ne (by omega),List.getElem?_append_right (Nat.le_refl _),Nat.sub_self]
    rfl
   ·rw [List.getElem?_set_ne (Ne.symm hnf),List.getElem?_append_left hfl]
    exact hO
   obtain⟨q1,q2,q3⟩:=hown j b f h1 h2
   have:=lt_of_getElem? hm
   rw [List.getElem?_set_ne (by omega),List.getElem?_append_left (by omega)]
   exact q3 m o hm
  have hTf:fid<T:=by omega
  generalize (O++[AObj.spare ([]:List AVal).length]).set 2 (.cells ([.lst 2 [] .ex,aI u.main].set 0 (.lst 2 [] (.tok O.length))))=O1 at *
  clear hO2 hkeep hup hO h2l hfl
  have hown:∀(j b:Nat) (f:Func),bids[j]?=some b→u.fns[j]?=some f→3≤b∧b+(fnO b f).length≤fid:=fun j b f h1 h2=>by
   obtain⟨q1,q2,_⟩:=hown j b f h1 h2
   exact⟨q1,q2⟩
  clear hT0
  refine awp_block (awp_loop (ι:={X:Nat×List AObj // X.1≤N∧OrS u.fns u.main bids fid T X.1 X.2}) (fun X=>⟨132,[(3,.ip none [.lst 1 (out.map aI) .sh,aI fin,aI val]),(4,aI n),(6,.mp 2 0),(31,.os fid N 2),(32,aI N),(33,aI X.1.1)],X.1.2⟩) (fun X=>N - X.1.1) ⟨(0,O1),by simp,hS0⟩ ?_ ?_)
  ·refine zq rfl ?_ ?_
   simp -dsimp only [simprocAttr,↓vpre,zp,zc]
   all_goals rfl
  rintro⟨⟨k,O⟩,hk,hS⟩
  simp only at hk hS
  refine zh1 (za0 ?_)
  apply zk1 rfl<;>intro h
  ·refine zb0 ?_
   have hlt:k<N:=by simpa using h
   obtain⟨f,hf⟩:∃f,u.fns[k]?=some f:=⟨u.fns[k]'(by omega),List.getElem?_eq_getElem _⟩
   obtain⟨b,hb⟩:∃b,bids[k]?=some b:=⟨bids[k]'(by omega),List.getElem?_eq_getElem _⟩
   have hfm:=List.mem_of_getElem? hf
   obtain⟨ob3,obf⟩:=hown k b f hb hf
   have hct:=fnCells_two hb hf
   have hcl:(fnCells bids u.fns).length=N * 2:=by rw [fnCells_len hbl,hN]
   have htab:=hS.tab
   have hSl:=hS.len
   have hEf:=hed f hfm
   have hFn:=hW.fns f hfm
   obtain⟨n',hn'⟩:∃m,m=f.blocks.length:=⟨_,rfl⟩
   rw [←hn'] at hct hEf
   refine awp_seq (awp_block ?_)
   refine zg1 ?_
   simp -dsimp only [simprocAttr,↓vpre,zp,htab,hct,hcl]
   repeat(refine⟨by omega,?_⟩)
   refine za0 ?_
   have hb0:O[b]?=some (.cells (blsC (edI (b+1) f.blocks) f.blocks)):=by
    have:=hS.own k b f (Nat.le_refl _) hb hf 0 _ rfl
    simpa using this
   have hbl2:=lt_of_getElem? hb0
   have hLl:(prF b f).length=n':=by rw [prF_len,hn']
   have hLc:=prF_cells b f
   have hLo:=fun p (h:p∈prF b f)=>prF_own h
   have hLa:=prF_ap b f
   have hLs:=prF_snd b f
   have hbc:=blsC_len (edI_len (b+1) f.blocks)
   rw [←hn'] at hbc
   have hLu:uptoL (T+1) ((prF b f).map pv):=prF_upto (by omega)
   have hLu2:uptoL (T+1+1) ((prF b f).map pv):=prF_upto (by omega)
   generalize prF b f=L at *
   refine awp_freeze_in b (o:=.cells (blsC (edI (b+1) f.blocks) f.blocks)) (by rw [List.getElem?_append_left hbl2];exact hb0) (by simp [AObj.isSpare]) trivial _ (fun s z hz=>⟨z,hz,.refl z⟩) O.length (by omega) [aI f.name,.os b n' 7] [aI f.name,.lst 7 (L.map pv) .sh] (snoc_get _ _) rfl (fun d hd=>?_) (fun j c d hc hd=>?_) ?_
   ·simp only [List.mem_cons,List.not_mem_nil,or_false] at hd
    rcases hd with rfl | rfl<;>trivial
   ·match j,hc,hd with
    | 0,hc,hd=>exact(Option.some.inj (hc.symm.trans hd)) ▸ FSub.refl _
    | 1,hc,hd =>
     simp only [List.getElem?_cons_succ,List.getElem?_cons_zero,Option.some.injEq] at hc hd
     subst hc
     subst hd
     refine FSub.os (cs:=blsC (edI (b+1) f.blocks) f.blocks) (by rw [List.getElem?_append_left hbl2];exact hb0) (fun x hx=>?_) (by rw [List.length_map,hLl]) ?_
     ·obtain⟨p,_,rfl⟩:=List.mem_map.1 hx
      rfl
     rw [List.drop_zero,List.take_of_length_le (by omega),blsC_share,hLc]
    | j+2,hc,hd=>simp at hc
   have hOp:((O++[AObj.cells [aI f.name,.os b n' 7]]).set b .gone).set O.length (.cells [aI f.name,.lst 7 (L.map pv) .sh])=O.set b .gone++[.cells [aI f.name,.lst 7 (L.map pv) .sh]]:=by
    rw [List.set_append_left _ _ hbl2,show O.length=(O.set b .gone).length by rw [List.length_set],snoc_set]
   rw [hOp]
   have hOl:O.length=(O.set b .gone).length:=by rw [List.length_set]
   have hpk:∀i,i≠b→(O.set b .gone)[i]?=O[i]?:=fun i hi=>List.getElem?_set_ne (Ne.symm hi)
   have hpu:∀o∈O.set b .gone,o.upto (O.set b .gone).length:=by
    rw [List.length_set]
    exact uptoO_set hS.up trivial
   rw [hOl]
   have hpl:(O.set b .gone).length=T+1:=by rw [List.length_set,hSl]
   generalize O.set b .gone=Op at *
   refine awp_local 8 ([aI f.name,.lst 7 (L.map pv) .sh]) [(3,.ip none [.lst 1 (out.map aI) .sh,aI fin,aI val]),(4,aI n),(6,.mp 2 0),(31,.os fid N 2),(32,aI N),(33,aI k),(8,.ip none [aI f.name,.lst 7 (L.map pv) .sh])] (by simp [putS,dropS,Go.Av.look]) (by rfl) (by omega) (by simp [putS,dropS,Go.Av.look]) ?_ ?_ ?_
   ·exact hpu
   ·rw [hpl]
    simp [AVal.upto,uptoL,aI_upto,hLu]
    omega
   have hn1:1≤n':=by
    have:=List.length_pos_iff.2 hFn.ne
    omega
   have hn2:n'≤128:=by have:=hFn.few;omega
   obtain⟨x0,r,hxr⟩:∃x0 r,L=x0::r:=by
    cases hL:L with
    | nil=>rw [hL] at hLl;simp at hLl;omega
    | cons x r=>exact⟨x,r,rfl⟩
   refine zg1 ?_
   simp -dsimp only [simprocAttr,↓vpre,zp,hLl,List.length_map]
   repeat(refine⟨by omega,?_⟩)
   refine⟨ob (by kernel_rfl),?_⟩
   refine za0 ?_
   refine zg2 ?_
   simp -dsimp only [simprocAttr,↓vpre,zp,hLl,List.length_map]
   repeat(refine⟨by omega,?_⟩)
   refine za0 ?_
   have hst:(L.map pv).take 1=(x0::(L.drop (n' - 1+1)).reverse).map pv:=by
    rw [List.drop_of_length_le (by omega),hxr]
    rfl
   show AWP Try.prog _ _ _ ⟨_,_,Op++[.cells [aI f.name,.lst 7 ((L.map pv).take 1) .sh]]⟩
   rw [hst]
   refine awp_block (awp_loop (ι:={i:Nat // i<n'}) (fun i=>⟨132,[(3,.ip none [.lst 1 (out.map aI) .sh,aI fin,aI val]),(4,aI n),(6,.mp 2 0),(31,.os fid N 2),(32,aI N),(33,aI k),(8,.ip none [aI f.name,.lst 7 (L.map pv) .sh]),(9,.mp Op.length 0),(10,aI i.1)],Op++[.cells [aI f.name,.lst 7 ((x0::(L.drop (i.1+1)).reverse).map pv) .sh]]⟩) (fun i=>i.1) ⟨n' - 1,by omega⟩ ?_ ?_)
   ·refine zq rfl ?_ ?_
    simp -dsimp only [simprocAttr,↓vpre,zp,zc]
    all_goals first | rfl | exact Sub.int (by omega)
   rintro⟨i,hi⟩
   obtain⟨M,hM⟩:∃M,M=x0::(L.drop (i+1)).reverse:=⟨_,rfl⟩
   have hMl:M.length≤129:=by rw [hM,List.length_cons,List.length_reverse,List.length_drop];omega
   dsimp only
   rw [←hM]
   refine zh2 (za0 ?_)
   apply zk0 rfl<;>intro h
   ·refine zb0 ?_
    have hi0:0<i:=by simpa using h
    obtain⟨p,hp⟩:∃p,L[i]?=some p:=⟨L[i]'(by omega),List.getElem?_eq_getElem _⟩
    have hnx:M++[p]=x0::(L.drop (i - 1+1)).reverse:=by
     rw [hM,show i - 1+1=i by omega,drop_at hp,List.reverse_cons,List.cons_append]
    refine awp_seq (awp_block ?_)
    refine zg0 ?_
    simp -dsimp only [simprocAttr,↓vpre,zp,hp,hLl,List.length_map,pvs_share,blC_len7,blC_take7,blC_shc]
    repeat(refine⟨by omega,?_⟩)
    refine⟨ob (by kernel_rfl),?_⟩
    refine za0 ?_
    show AWP Try.prog _ _ _ ⟨_,_,Op++[.cells [aI f.name,.lst 7 (M.map pv++[pv p]) (.tok (Op.length+1))],.spare (M.length+1)]⟩
    have hmm:M.map pv++[pv p]=(x0::(L.drop (i - 1+1)).reverse).map pv:=by rw [←hnx,List.map_append];rfl
    rw [hmm]
    refine awp_retell2 (cs:=[aI f.name,.lst 7 ((x0::(L.drop (i - 1+1)).reverse).map pv) (.tok (Op.length+1))]) Op.length [aI f.name,.lst 7 ((x0::(L.drop (i - 1+1)).reverse).map pv) .sh] (by rw [at_newz];rfl) rfl (fun d hd=>?_) (fun j c d hc hd=>?_) ?_
    ·simp only [List.mem_cons,List.not_mem_nil,or_false] at hd
     rcases hd with rfl | rfl<;>trivial
    ·match j,hc,hd with
     | 0,hc,hd=>exact Sub.of_eq (Option.some.inj (hc.symm.trans hd))
     | 1,hc,hd =>
      simp only [List.getElem?_cons_succ,List.getElem?_cons_zero,Option.some.injEq] at hc hd
      subst hc
      subst hd
      exact fun _ _ _ k=>k.lst_share
     | j+2,hc,hd=>simp at hc
    rw [set_newz]
    refine awp_cut 1 ([.cells [aI f.name,.lst 7 ((x0::(L.drop (i - 1+1)).reverse).map pv) .sh]]) [(3,.ip none [.lst 1 (out.map aI) .sh,aI fin,aI val]),(4,aI n),(6,.mp 2 0),(31,.os fid N 2),(32,aI N),(33,aI k),(8,.ip none [aI f.name,.lst 7 (L.map pv) .sh]),(9,.mp Op.length 0),(10,aI i)] rfl (by simp) (by omega) (by simp [putS,dropS,Go.Av.look]) ?_ ?_ ?_ ?_
    ·exact fun o ho=>AObj.upto_mono (by omega) (hpu o ho)
    ·have hMu:uptoL (Op.length+1) ((x0::(L.drop (i - 1+1)).reverse).map pv):=by
      rw [hpl,uptoL_iff]
      rw [uptoL_iff] at hLu2
      intro z hz
      obtain⟨q,hq,rfl⟩:=List.mem_map.1 hz
      have hqL:q∈L:=by
       rcases List.mem_cons.1 hq with e | e
       ·rw [e,hxr]
        exact List.mem_cons_self
       exact List.mem_of_mem_drop (List.mem_reverse.1 e)
      exact hLu2 _ (List.mem_map.2 ⟨q,hqL,rfl⟩)
     intro o ho
     rw [List.mem_singleton] at ho
     subst ho
     exact⟨trivial,⟨hMu,trivial⟩,trivial⟩
    ·have hLu':uptoL (Op.length+1) (L.map pv):=by rw [hpl];exact hLu2
     simp [AVal.upto,uptoL,aI_upto,hLu']
     omega
    refine zh0 ?_
    repeat(refine⟨by omega,?_⟩)
    refine zl0 ?_
    refine⟨⟨i - 1,by omega⟩,by show i - 1<i;omega,?_⟩
    refine zq rfl ?_ ?_
    simp -dsimp only [simprocAttr,↓vpre,zp,zc]
    ·exact Sub.int (by omega)
    rfl
   refine awp_exit ?_
   simp -dsimp only [vend,ne_eq,Nat.reduceEqDiff,reduceCtorEq]
   have hi0:i=0:=by
    have:=of_decide_eq_false h
    omega
   subst hi0
   have hM2:M=turnL L:=by
    rw [hM,hxr]
    rfl
   subst hM2
   clear hM hMl hst
   have hap:=turn_ap hLa
   have hmem:∀p∈turnL L,p∈L:=fun p h=>(turn_perm L).mem_iff.1 h
   have hLtl:(turnL L).length=n':=by rw [(turn_perm L).length_eq,hLl]
   have hbm:b+(fnO b f).length≤Op.length:=by omega
   have hfin:((renP (rnA n') (turnL L)).map Prod.snd)=(ordF f).blocks:=by
    rw [renP_snd,←turn_map,hLs,ordF_eq (by rw [←hn'];exact hEf),hn']
   have hLuT:uptoL (Op.length+1) ((turnL L).map pv):=by
    rw [hpl,uptoL_iff]
    rw [uptoL_iff] at hLu2
    intro z hz
    obtain⟨q,hq,rfl⟩:=List.mem_map.1 hz
    exact hLu2 _ (List.mem_map.2 ⟨q,hmem q hq,rfl⟩)
   have hLuO:uptoL (Op.length+1) (L.map pv):=by rw [hpl];exact hLu2
   have hB0:OrB Op b (fnO b f).length Op.length f.name (rnA n') (turnL L) 0 (Op++[.cells [aI f.name,.lst 7 ((turnL L).map pv) .sh]]):=by
    refine⟨by simp,fun o ho=>?_,fun i o hi ho=>?_,snoc_get _ _,fun j p hp ht=>?_,fun i hi _=>List.getElem?_append_left hi⟩
    ·rw [List.length_append,List.length_singleton]
     rcases List.mem_append.1 ho with q | q
     ·exact AObj.upto_mono (by omega) (hpu o q)
     rw [List.mem_singleton.1 q]
     exact⟨trivial,⟨hLuT,trivial⟩,trivial⟩
    ·rw [List.getElem?_append_left hi] at ho
     exact hpu o (List.mem_of_getElem? ho)
    obtain⟨q1,q2,q3⟩:=(hLo p (hmem p (List.mem_of_getElem? hp))).2 ht
    refine⟨q1,q2,?_⟩
    have:=hS.own k b f (Nat.le_refl _) hb hf _ _ q3
    rw [show b+(p.1 - b)=p.1 by omega] at this
    rw [List.getElem?_append_left (by omega),hpk p.1 (by omega),if_neg (by omega),this]
   have hLtl0:=hLtl
   generalize turnL L=Lt at *
   generalize Op++[AObj.cells [aI f.name,.lst 7 (Lt.map pv) .sh]]=O2 at *
   have hcell:=hB0.cell
   refine zg2 ?_
   simp -dsimp only [simprocAttr,↓vpre,zp,hcell,hLtl,List.length_map]
   repeat(refine⟨by omega,?_⟩)
   refine za0 ?_
   refine awp_block (awp_loop (ι:={X:Nat×List AObj // X.1≤n'∧OrB Op b (fnO b f).length Op.length f.name (rnA n') Lt X.1 X.2}) (fun X=>⟨132,[(3,.ip none [.lst 1 (out.map aI) .sh,aI fin,aI val]),(4,aI n),(6,.mp 2 0),(31,.os fid N 2),(32,aI N),(33,aI k),(8,.ip none [aI f.name,.lst 7 (L.map pv) .sh]),(9,.mp Op.length 0),(65,aI n'),(66,aI X.1.1)],X.1.2⟩) (fun X=>n' - X.1.1) ⟨(0,O2),by simp,hB0⟩ ?_ ?_)
   ·refine zq rfl ?_ ?_
    simp -dsimp only [simprocAttr,↓vpre,zp,zc]
    all_goals rfl
   rintro⟨⟨kk,O3⟩,hkk,hB⟩
   simp only at hkk hB
   refine zh1 (za0 ?_)
   apply zk1 rfl<;>intro h
   ·refine zb0 ?_
    have hlk:kk<n':=by simpa using h
    obtain⟨p,hp⟩:∃p,Lt[kk]?=some p:=⟨Lt[kk]'(by omega),List.getElem?_eq_getElem _⟩
    have hpm:=hLo p (hmem p (List.mem_of_getElem? hp))
    have hcell:=hB.cell
    refine awp_seq (awp_block ?_)
    refine zh1 (za0 ?_)
    refine zg1 ?_
    simp -dsimp only [simprocAttr,↓vpre,zp,hcell,hp,hLtl,List.length_map,blC_len7,blC_take7,blC_at6,lenA_outE]
    repeat(refine⟨by omega,?_⟩)
    refine za0 ?_
    have hz0:=oC_zero hB hp
    obtain⟨lt,hlt2⟩:∃l,l=p.2.term.to.length:=⟨_,rfl⟩
    rw [←hlt2]
    refine awp_block (awp_loop (ι:={z:Nat // z≤lt}) (fun z=>⟨132,[(3,.ip none [.lst 1 (out.map aI) .sh,aI fin,aI val]),(4,aI n),(6,.mp 2 0),(31,.os fid N 2),(32,aI N),(33,aI k),(8,.ip none [aI f.name,.lst 7 (L.map pv) .sh]),(9,.mp Op.length 0),(65,aI n'),(66,aI kk),(11,aI kk),(76,aI lt),(77,aI z.1)],oC (rnA n') O3 p z.1⟩) (fun z=>lt - z.1) ⟨0,by omega⟩ ?_ ?_)
    ·refine zq rfl ?_ ?_
     simp -dsimp only [simprocAttr,↓vpre,zp,zc]
     all_goals exact hz0.symm
    rintro⟨z,hz⟩
    refine zh1 (za0 ?_)
    apply zk1 rfl<;>intro h
    ·refine zb0 ?_
     have hlz:z<lt:=by simpa using h
     obtain⟨e,he⟩:∃e,p.2.term.to[z]?=some e:=⟨p.2.term.to[z]'(by omega),List.getElem?_eq_getElem _⟩
     have ht:p.2.term.to≠[]:=fun q=>by rw [q] at he;simp at he
     have hoE:outE p.1 p.2.term.to=.os p.1 lt 2:=by unfold outE;rw [if_neg ht,←hlt2]
     have hc4:=oC_cell hB hbm hp z
     have ho4:=oC_own hB hp ht z
     have hnext:=oC_step (A:=rnA n') (O:=O3) ht he
     have hel:=edC_len (mixE (rnA n') p.2.term.to z)
     rw [mixE_len,←hlt2] at hel
     have hat:=(edC_at (mixE_at (rnA n') he)).1
     have hzt:=(sm_w (hfit.2.2 f hfm) (k4 f hfm)).to p.2 hpm.1
     rw [←hlt2] at hzt
     obtain⟨eb1,eb2⟩:=hEf p.2 hpm.1 e (List.mem_of_getElem? he)
     rw [rnA_at (by omega) eb2] at hnext
     generalize oC (rnA n') O3 p z=O4 at *
     refine awp_seq (awp_block ?_)
     refine zh1 (za0 ?_)
     refine zg0 ?_
     simp -dsimp only [simprocAttr,↓vpre,zp,hc4,ho4,hp,hoE,hel,hat,hLl,hLtl,List.length_map,blC_len7,blC_take7,blC_at6]
     repeat(refine⟨by omega,?_⟩)
     refine⟨ob (by kernel_rfl),?_⟩
     refine za0 ?_
     show AWP Try.prog _ _ _ ⟨_,_,O4.set p.1 (.cells (splice (edC (mixE (rnA n') p.2.term.to z)) (z * 2) [.v (.int .i64 (n' - e.block))]))⟩
     rw [hnext]
     refine zh0 ?_
     repeat(refine⟨by omega,?_⟩)
     refine zl0 ?_
     refine⟨⟨z+1,hlz⟩,by show lt - (z+1)<lt - z;omega,?_⟩
     refine zq rfl ?_ ?_
     simp -dsimp only [simprocAttr,↓vpre,zp,zc]
     ·exact Sub.int (by simp)
     rfl
    refine awp_exit ?_
    simp -dsimp only [vend,ne_eq,Nat.reduceEqDiff,reduceCtorEq]
    have hzl:z=lt:=by
     have:=of_decide_eq_false h
     omega
    subst hzl
    have hBn:=hB.next hbm hap hp
    rw [←hlt2] at hBn
    refine zh0 ?_
    repeat(refine⟨by omega,?_⟩)
    refine zl0 ?_
    refine⟨⟨(kk+1,oC (rnA n') O3 p z),hlk,hBn⟩,by show n' - (kk+1)<n' - kk;omega,?_⟩
    refine zq rfl ?_ ?_
    simp -dsimp only [simprocAttr,↓vpre,zp,zc]
    ·exact Sub.int (by simp)
    rfl
   refine awp_exit ?_
   simp -dsimp only [vend,ne_eq,Nat.reduceEqDiff,reduceCtorEq]
   have hkn:kk=n':=by
    have:=of_decide_eq_false h
    omega
   subst hkn
   refine awp_pairs (L:=renP (rnA kk) Lt) (X:=Op.length) (name:=f.name) (by rw [renP_pv];exact hB.cell) (fun j q hq ht=>?_) (fun i j q q' h1 h2 h3 h4 h5=>?_) hB.up fun O5 e1 e2 e3 e4 e5=>?_
   ·obtain⟨p,p1,p2,p3,p4⟩:=renP_at hq
    obtain⟨o1,o2,o3⟩:=hB.own j p p1 (p4.1 ht)
    have:=lt_of_getElem? p1
    rw [if_pos (by omega)] at o3
    rw [p2,p3,renB_to]
    exact⟨by omega,o3⟩
   ·obtain⟨a,a1,a2,a3,a4⟩:=renP_at h1
    obtain⟨c,c1,c2,c3,c4⟩:=renP_at h2
    exact ap_inj hap i j a c a1 c1 (a4.1 h3) (c4.1 h4) (by rw [←a2,←c2,h5])
   rw [hfin] at e2
   rw [hB.len] at e1
   have hk5:∀i,i<Op.length→(i<b∨b+(fnO b f).length≤i)→O5[i]?=O[i]?:=fun i hi hr=>by
    rw [e4 i (by omega) (fun j q hq ht=>?_),hB.keep i hi hr,hpk i (by
     have:0<(fnO b f).length:=by unfold fnO;simp
     omega)]
    obtain⟨p,p1,p2,p3,p4⟩:=renP_at hq
    obtain⟨o1,o2,_⟩:=hB.own j p p1 (p4.1 ht)
    omega
   have ho2:=(hk5 2 (by omega) (by omega)).trans hS.out
   have hoT:=(hk5 T (by omega) (by omega)).trans hS.sp
   have ho2':∀y,(O5.set T y)[2]?=some (.cells [.lst 2 (((u.fns.take k).map ordF).map Func.enc) (.tok T),aI u.main]):=fun y=>at_set_ne ho2 (by omega)
   have hxl:(((u.fns.take k).map ordF).map Func.enc).length=k:=by rw [List.length_map,List.length_map,List.length_take];omega
   have hxs:((u.fns.take (k+1)).map ordF).map Func.enc=((u.fns.take k).map ordF).map Func.enc++[(ordF f).enc]:=by
    rw [List.take_add_one,hf,List.map_append,List.map_append]
    rfl
   have hxu:∀m,uptoL m ((((u.fns.take (k+1)).map ordF)).map Func.enc):=fun m=>Func.map_upto m _
   have hE:(ordF f).enc=.agg [aI f.name,eBlocks (ordF f).blocks]:=rfl
   generalize ((u.fns.take k).map ordF).map Func.enc=xs at *
   generalize (ordF f).blocks=obl at *
   refine zg0 ?_
   simp -dsimp only [simprocAttr,↓vpre,zp,e2,ho2,ho2',hoT,hxl]
   repeat(refine⟨by omega,?_⟩)
   refine za0 ?_
   show AWP Try.prog _ _ _ ⟨_,_,(O5.set T (.spare (k+1))).set 2 (.cells [.lst 2 (xs++[.agg [aI f.name,eBlocks obl]]) (.tok T),aI u.main])⟩
   rw [←hE,←hxs]
   obtain⟨O6,hO6⟩:∃O6,O6=(O5.set T (.spare (k+1))).set 2 (.cells [.lst 2 (((u.fns.take (k+1)).map ordF).map Func.enc) (.tok T),aI u.main]):=⟨_,rfl⟩
   rw [←hO6]
   have h6l:O6.length=Op.length+1:=by rw [hO6,List.length_set,List.length_set,e1]
   have h62:O6[2]?=some (.cells [.lst 2 (((u.fns.take (k+1)).map ordF).map Func.enc) (.tok T),aI u.main]):=by
    rw [hO6,List.getElem?_set_self (by rw [List.length_set];omega)]
   have h6T:O6[T]?=some (.spare (k+1)):=by
    rw [hO6,List.getElem?_set_ne (by omega),List.getElem?_set_self (by omega)]
   have h6k:∀i,i≠2→i≠T→O6[i]?=O5[i]?:=fun i h1 h2=>by
    rw [hO6,List.getElem?_set_ne (Ne.symm h1),List.getElem?_set_ne (Ne.symm h2)]
   clear hO6
   have htk:∀i,i<Op.length→(O6.take Op.length)[i]?=O6[i]?:=fun i hi=>by rw [List.getElem?_take,if_pos hi]
   have h7l:(O6.take Op.length).length=Op.length:=by rw [List.length_take];omega
   have hup7:∀o∈O6.take Op.length,o.upto Op.length:=fun o ho=>by
    obtain⟨i,hi⟩:=List.mem_iff_getElem?.1 ho
    have hil:=lt_of_getElem? hi
    rw [h7l] at hil
    rw [htk i hil] at hi
    by_cases hi2:i=2
    ·rw [hi2,h62] at hi
     simp only [Option.some.injEq] at hi
     subst hi
     exact⟨⟨hxu _,show T<Op.length by omega⟩,trivial,trivial⟩
    by_cases hiT:i=T
    ·rw [hiT,h6T] at hi
     simp only [Option.some.injEq] at hi
     subst hi
     trivial
    rw [h6k i hi2 hiT] at hi
    rcases e5 i o (by omega) hi with q | q
    ·exact hB.low i o hil q
    subst q
    trivial
   have hS7:OrS u.fns u.main bids fid T (k+1) (O6.take Op.length):=by
    refine⟨fun o ho=>by rw [h7l];exact hup7 o ho,by rw [h7l,hpl],fun i hi=>?_,?_,?_,?_,fun j c g hj h1 h2 m o hm=>?_⟩
    ·rw [htk i (by omega),h6k i (by omega) (by omega),hk5 i (by omega) (by omega)]
     exact hS.low i hi
    ·rw [htk 2 (by omega)]
     exact h62
    ·rw [htk T (by omega)]
     exact h6T
    ·rw [htk fid (by omega),h6k fid hnf (by omega),hk5 fid (by omega) (by omega)]
     exact hS.tab
    have w1:=hpw k j b c f (by omega) hb h1 hf
    obtain⟨w2,w3⟩:=hown j c g h1 h2
    have w4:=lt_of_getElem? hm
    rw [htk _ (by omega),h6k _ (by omega) (by omega),hk5 _ (by omega) (by omega)]
    exact hS.own j c g (by omega) h1 h2 m o hm
   refine awp_trunc' Op.length [(3,.ip none [.lst 1 (out.map aI) .sh,aI fin,aI val]),(4,aI n),(6,.mp 2 0),(31,.os fid N 2),(32,aI N),(33,aI k)] (by omega) (Nat.zero_le _) _ rfl hup7 ?_ ?_ ?_
   ·simp [Says,St.get,putS,dropS,Go.Av.look,Sub.refl]
   ·simp [uptoL,AVal.upto,aI_upto]
    omega
   generalize O6.take Op.length=O7 at *
   refine zh0 ?_
   repeat(refine⟨by omega,?_⟩)
   refine zl0 ?_
   refine⟨⟨(k+1,O7),hlt,hS7⟩,by show N - (k+1)<N - k;omega,?_⟩
   refine zq rfl ?_ ?_
   simp -dsimp only [simprocAttr,↓vpre,zp,zc]
   ·exact Sub.int (by simp)
   rfl
  refine awp_exit ?_
  simp -dsimp only [vend,ne_eq,Nat.reduceEqDiff,reduceCtorEq]
  have hkN:k=N:=by
   have:=of_decide_eq_false h
   omega
  subst hkN
  have hout:=hS.out
  rw [List.take_of_length_le (by omega)] at hout
  have hSl:=hS.len
  refine awp_freeze1 6 2 (o:=.cells [.lst 2 ((u.fns.map ordF).map Func.enc) (.tok T),aI u.main]) (.ip none [eFuncs (u.fns.map ordF),aI u.main]) hout (by simp [AObj.isSpare]) trivial rfl (FSub.mp hout rfl) ?_
  simp -dsimp only [simprocAttr,↓vpre,zp]
  refine awp_trunc' 2 [(3,.ip none [.lst 1 (out.map aI) .sh,aI fin,aI val]),(4,aI n),(6,.ip none [eFuncs (u.fns.map ordF),aI u.main])] (by rw [List.length_set];omega) (Nat.zero_le _) [.gone,.gone] (take_two (by rw [List.getElem?_set_ne (by omega)];exact hS.low 0 (by omega)) (by rw [List.getElem?_set_ne (by omega)];exact hS.low 1 (by omega))) ?_ ?_ ?_ ?_
  ·simp [AObj.upto]
  ·simp [Says,St.get,putS,dropS,Go.Av.look,Sub.refl]
  ·simp [uptoL,AVal.upto,aI_upto,Func.map_upto]
   rw [←List.map_map]
   exact Func.map_upto _ _
  refine zh1 ?_
  refine zi hrun2 ?_
  refine za0 ?_
  refine awp_freeze1 13 2 (.ip none [.lst 1 (out.map aI) .sh,aI fin,aI val]) rfl (by simp [AObj.isSpare]) trivial rfl ?_ ?_
  rotate_left
  simp -dsimp only [simprocAttr,↓vpre,zp]
  ·refine zh1 ?_
   refine zi hsr ?_
   refine za0 ?_
   refine awp_ret ?_
   simp -dsimp only [simprocAttr,↓vpre,zp,zr,Try.results4]
  exact FSub.mp rfl rfl
 generalize runM u 2000=A at *
 obtain⟨out,fin,val,n,e⟩:=A
 simp only at he
 unfold Ans.enc at hrun
 have de:decide (e=0)=false:=decide_eq_false he
 refine zf true 0 Try.func4 Try.ntmps4 ?_
 dsimp only [Tmp,TypeId,slotsOf]
 refine zh1 (za0 ?_)
 refine awp_freeze1 1 0 (.ip none [eFuncs u.fns,aI u.main]) rfl (by simp [AObj.isSpare]) trivial rfl ?_ ?_
 rotate_left
 simp -dsimp only [simprocAttr,↓vpre,zp]
 ·refine zh2 ?_
  refine zi hwk ?_
  refine za0 ?_
  refine zu0 rfl ?_
  refine zb0 ?_
  refine zh1 ?_
  refine zi hrun ?_
  refine za0 ?_
  refine zg2 ?_
  simp -dsimp only [simprocAttr,↓vpre,zp,de]
  refine za0 ?_
  refine zw0 rfl ?_
  refine zh1 (za0 ?_)
  refine awp_ret ?_
  simp -dsimp only [simprocAttr,↓vpre,zp,zr,Try.results4]
 exact FSub.mp rfl rfl
end Go.Proofs.Ytkhnjeblbiocaaa
