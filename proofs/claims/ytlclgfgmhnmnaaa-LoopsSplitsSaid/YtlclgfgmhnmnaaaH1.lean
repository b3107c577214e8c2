/-
  Texts bound together by a program of mine: YtlclgfgmhnmnaaaPum, YtlclgfgmhnmnaaaPf, YtlclgfgmhnmnaaaT48, YtlclgfgmhnmnaaaPc, YtlclgfgmhnmnaaaT41, YtlclgfgmhnmnaaaPj, YtlclgfgmhnmnaaaT43, YtlclgfgmhnmnaaaPg, YtlclgfgmhnmnaaaPk, YtlclgfgmhnmnaaaPun, YtlclgfgmhnmnaaaPuo, YtlclgfgmhnmnaaaT44, YtlclgfgmhnmnaaaT45, YtlclgfgmhnmnaaaT46, YtlclgfgmhnmnaaaT54, YtlclgfgmhnmnaaaPl, YtlclgfgmhnmnaaaPdb, YtlclgfgmhnmnaaaPdc, YtlclgfgmhnmnaaaPdd, YtlclgfgmhnmnaaaPua, YtlclgfgmhnmnaaaPub, YtlclgfgmhnmnaaaPuq, YtlclgfgmhnmnaaaPur, YtlclgfgmhnmnaaaPux, YtlclgfgmhnmnaaaPus, YtlclgfgmhnmnaaaPut, YtlclgfgmhnmnaaaPva, YtlclgfgmhnmnaaaPvb, YtlclgfgmhnmnaaaPuu, YtlclgfgmhnmnaaaPvc, YtlclgfgmhnmnaaaPuc, YtlclgfgmhnmnaaaPug, YtlclgfgmhnmnaaaPuh, YtlclgfgmhnmnaaaPui, YtlclgfgmhnmnaaaPvd, YtlclgfgmhnmnaaaPuy, YtlclgfgmhnmnaaaT121, YtlclgfgmhnmnaaaT122, YtlclgfgmhnmnaaaPud, YtlclgfgmhnmnaaaT49, YtlclgfgmhnmnaaaT50, YtlclgfgmhnmnaaaPh, YtlclgfgmhnmnaaaT51, YtlclgfgmhnmnaaaPi, YtlclgfgmhnmnaaaPde, YtlclgfgmhnmnaaaT59, YtlclgfgmhnmnaaaT52, YtlclgfgmhnmnaaaPda, YtlclgfgmhnmnaaaT53, YtlclgfgmhnmnaaaPdf, YtlclgfgmhnmnaaaPdg, YtlclgfgmhnmnaaaPdh, YtlclgfgmhnmnaaaT101, YtlclgfgmhnmnaaaT102, YtlclgfgmhnmnaaaT103.
-/
import Derived.Test.YtlclgfgmhnmnaaaJ4
import Derived.Sort.Grow
import Derived.Test.YtlclgfgmhnmnaaaChecked
import Derived.KernelRfl
import Derived.Shelf.Slices.In.SortNone
import Derived.Shelf.Sort.Plain
set_option linter.all false
set_option maxRecDepth 100000
set_option maxHeartbeats 4000000

namespace Go.Av
def CertE(P:Program)(o:Oper)(σ0:St)(R:AVal→List AObj→Prop):Prop :=
 ∀(base:G) (σ:St) (a:Act) (g:G),Rel base σ a g→σ.n=σ0.n→(∀x∈o.op.operands,∀y,σ0.ev x=some y→σ.ev x=some y)→σ.objs=σ0.objs →
  ∀(K:Act→World→Prop) (Q:Exit→Act→World→Prop),(∀r u g',R r g'.objs→Rel base ⟨σ.n,putO o.dst r σ.slots,g'.objs⟩ (a.put o.dst u) g'→K (a.put o.dst u) g'.w)→o.wp P a g.w K Q
theorem cert_ecallE{P:Program}{o:Oper}{σ:St}{x:Operand}{args:Array Operand}{ats:Array TypeId}{f:FuncId}{fs cs ars:List AVal}{R:AVal→List AObj→Prop}
  (ho:o.op=.call ⟨.value x,args,ats⟩) (hd:∀d,o.dst=some d→d<σ.n) (hx:σ.ev x=some (.fn (.func f) fs cs)) (ha:σ.evs args.toList=some ars)
  (hcall:ECall P f σ.objs (fs++ars++cs) R):CertE P o σ R:=by
 intro base τ a g hrel hn hag hm K Q hK
 have hxe:σ.ev x=some (.fn (.func f) fs cs):=hx
 have h1:=hrel.eval (hag x (by simp [ho,Op.operands,Call.operands]) _ hx)
 obtain⟨us,vs,e1,l1,l2,r1,r2⟩:=h1.fn_inv
 have h2:=evs_rel (σ:=σ) (a:=a) (g:=g) (xs:=args.toList) (fun z hz y hy=>hrel.eval (hag z (by
  rw [ho]
  simp only [Op.operands,Call.operands,Array.mem_append]
  exact .inr (Array.mem_toList_iff.1 hz)) y hy)) ha
 have h2':RVs g ars (args.map a.eval):=by
  have e:args.map a.eval=(args.toList.map a.eval).toArray:=Array.ext' (by rw [Array.toList_map])
  rw [e]
  exact h2
 have hall:=(RVs.append_arr (RVs.append_arr ⟨l1,r1⟩ h2') ⟨l2,r2⟩)
 have hrun:=run_callv (P:=P) (w:=g.w) ho e1 hcall.1
 unfold Oper.wp
 rw [hrun,Oper.upon_enter]
 refine(hcall.2 g _ hrel.good (hrel.objs.trans hm) hall).mono ?_
 rintro e w' ⟨g',v,r',q1,q2,q3,q4,q5,q6⟩
 subst q1
 subst q2
 refine hK r' v g' q6 ?_
 cases hdst:o.dst with
 | none=>exact hrel.step q3 q4
 | some d=>exact hrel.put q3 q4 (d:=d) (by rw [hn];exact hd d hdst) q5
theorem wpOps_chain_app{P:Program}{ops:Array Oper}{base:G}{ρ:St}{Q:Exit→Act→World→Prop}{rest:List Nat}(hQ:∀a g,Rel base ρ a g→wpOps P ops Q rest a g.w) :
  ∀(l:List (Nat×Kind)) (σ:St) (a:Act) (g:G),Chain P ops l σ ρ→Rel base σ a g→wpOps P ops Q (l.map (·.1)++rest) a g.w
 | [],σ,a,g,hch,hrel=>hQ a g (Same.rel hch hrel)
 | (i,k)::r,σ,a,g,hch,hrel=>by
  obtain⟨σ',⟨o,ho,hstep⟩,hrest⟩:=hch
  simp only [List.map_cons,List.cons_append,wpOps,ho]
  rcases hstep with⟨hw,r',m,hcert,hk,hσ⟩ | ⟨hw,_,hσ⟩
  ·rw [if_pos (wantedA_spec hrel hw)]
   refine .inl (hcert.2 base σ a g hrel rfl (fun x _ y hy=>hy) (Mode.agree_of (.inr rfl)) _ _ fun u g' hrel'=>?_)
   subst hσ
   exact wpOps_chain_app hQ r _ _ _ hrest hrel'
  rw [if_neg (by rw [wantedA_spec hrel hw];simp)]
  subst hσ
  refine wpOps_chain_app hQ r _ _ g hrest ?_
  cases hdst:o.dst with
  | none=>exact hrel
  | some d=>exact hrel.skip d
theorem idx_map(ks:List Kind)(s:Nat):(((ks.zipIdx 0).map fun p=>(p.2,p.1)).map fun p=>(s+p.1,p.2)).map (·.1)=(List.range ks.length).map (s + ·):=by
 apply List.ext_getElem?
 intro i
 simp only [List.getElem?_map,List.getElem?_zipIdx]
 by_cases h:i<ks.length
 ·simp [h]
 rw [List.getElem?_eq_none (by omega),List.getElem?_eq_none (by simp;omega)]
 rfl
theorem range_mid{n k:Nat}(h:k<n):List.range n=(List.range k).map (0 + ·)++(k::(List.range (n - (k+1))).map (k+1 + ·)):=by
 apply List.ext_getElem?
 intro i
 by_cases h1:i<k
 ·rw [List.getElem?_append_left (by simpa using h1)]
  simp [h1,show i<n by omega]
 rw [List.getElem?_append_right (by simp;omega)]
 simp only [List.length_map,List.length_range]
 by_cases h2:i=k
 ·subst h2
  simp [h]
 rw [show i - k=(i - k - 1)+1 by omega,List.getElem?_cons_succ,List.getElem?_map]
 by_cases h3:i<n
 ·rw [List.getElem?_range h3,List.getElem?_range (by omega),Option.map_some]
  congr 1
  omega
 rw [List.getElem?_eq_none (by simp;omega),List.getElem?_eq_none (by simp;omega)]
 rfl
theorem awp_call_ex{P:Program}{kb:Nat}{tab:Tab}(md:Md)(hT:TabOK P tab){id:Nat}{l l1 l2:List Oper}{o:Oper}{Q:AEx→St→Prop}{σ:St}(k:Nat)(h1:l.take k=l1)(h2:l[k]?=some o)(h3:l.drop (k+1)=l2)(hg:∀o∈l,o.guard=none)
  (h:vcOps P tab md l1 0 [] σ [] fun τ _=>∃R,CertE P o τ R∧∀r O',R r O'→vcOps P tab md l2 0 [] ⟨τ.n,putO o.dst r τ.slots,O'⟩ [] fun ρ _=>At ρ (Q .norm)):AWP P kb (.region id l.toArray false) Q σ:=by
 have hlt:=lt_of_getElem? h2
 obtain⟨τ,ks1,c1,n1,R,hc,h⟩:=vcOps_sound (all:=l1.toArray) hT l1 0 [] σ [] (fun j=>by simp) (fun j t hj=>by simp [slotAt] at hj) h
 intro base a g hb hr
 have hgo:o.guard=none:=hg o (List.mem_of_getElem? h2)
 have l1n:l1.length=k:=by rw [←h1,List.length_take];omega
 have l2n:l2.length=l.length - (k+1):=by rw [←h3,List.length_drop]
 have d1:=chain_shift (all:=l.toArray) (k:=0) (fun i o' hi=>by
  have hi':l1[i]?=some o':=by simpa using hi
  have:=lt_of_getElem? hi'
  rw [←h1,List.getElem?_take] at hi'
  split at hi'
  ·simpa using hi'
  cases hi') (by simpa using hg) c1
 refine wp_region ?_
 rw [show l.toArray.size=l.length from List.size_toArray,range_mid hlt]
 have e1:=idx_map ks1 0
 rw [n1,l1n] at e1
 rw [←e1]
 refine wpOps_chain_app (ρ:=τ) (fun a g hr=>?_) _ _ _ _ d1 hr
 have ho:l.toArray[k]?=some o:=by simpa using h2
 simp only [wpOps,ho]
 have hw:wantedA l.toArray o τ=some true:=by simp [wantedA,hgo]
 rw [if_pos (wantedA_spec hr hw)]
 refine .inl (hc base τ a g hr rfl (fun x _ y hy=>hy) rfl _ _ fun r u g' hR hrel'=>?_)
 obtain⟨ρ,ks2,c2,n2,hQ⟩:=vcOps_sound (all:=l2.toArray) hT l2 0 [] _ [] (fun j=>by simp) (fun j t hj=>by simp [slotAt] at hj) (h r g'.objs hR)
 have d2:=chain_shift (all:=l.toArray) (k:=k+1) (fun i o' hi=>by
  have hi':l2[i]?=some o':=by simpa using hi
  rw [←h3,List.getElem?_drop] at hi'
  simpa using hi') (by simpa using hg) c2
 have e2:=idx_map ks2 (k+1)
 rw [n2,l2n] at e2
 rw [←e2]
 have:=wpOps_chain_app (rest:=[]) (Q:=Post base Q) (P:=P) (ops:=l.toArray) (base:=base) (ρ:=ρ) (fun a g hr=>⟨g,ρ,rfl,hr,hQ⟩) _ _ _ _ d2 hrel'
 rw [List.append_nil] at this
 exact this
def RetAll(tab:Tab)(rv:List ResultVar)(R:AVal→List AObj→Prop):AEx→St→Prop
 | .exit _,_=>False
 | _,σ=>on (retVals tab σ rv) fun rs=>R (mkRet rs) σ.objs
theorem ecall_all{P:Program}{tab:Tab}(hT:TabOK P tab){f:FuncId}{fn:Func}{c:Code}{O:List AObj}{args:List AVal}{R:AVal→List AObj→Prop}(hf:P.funcs[f]?=some fn)(hb:fn.body=some c)
  (hname : (fn.name == "runtime.NumGoroutine") = false) (hn : args.length ≤ fn.ntmps) (h : AWP P O.length c (RetAll tab fn.results.toList R) ⟨fn.ntmps, slotsOf 0 args, O⟩) : ECall P f O args R := by
 refine⟨⟨fn,hf,hname,by simp [hb]⟩,fun g vs hg ho ha=>?_⟩
 refine calls_of_wp hf hb ?_
 have hrel:Rel g ⟨fn.ntmps,slotsOf 0 args,O⟩ { tmps:=vs++Array.replicate (fn.ntmps - vs.size) undef,defers:=[] } g:={
  le:=Le.refl g
  good:=hg
  objs:=ho
  size:=by
   have:=ha.1
   simp only [Array.size_append,Array.size_replicate]
   omega
  defers:=rfl
  slot:=fun s x hx=>by
   obtain⟨_,h1⟩:=look_slotsOf args 0 s x hx
   simp only [Nat.sub_zero] at h1
   have hlt:=lt_of_getElem? h1
   have hlt':s<vs.size:=by rw [ha.1];exact hlt
   refine⟨vs[s],?_,ha.2 s x _ h1 (by simp [hlt'])⟩
   simp only
   rw [Array.getElem?_append,if_pos hlt']
   simp [hlt'] }
 refine wp_mono (h g _ g (by rw [ho];exact Nat.le_refl _) hrel) fun e a w hp=>?_
 have key:∀g' σ',g'.w=w→Rel g σ' a g'→(on (retVals tab σ' fn.results.toList) fun rs=>R (Av.mkRet rs) σ'.objs) →
   a.defers=[]∧∃v,(results fn a.tmps).run P w=.ok v w∧∃g' v' r,Ending.returned v=.returned v'∧g'.w=w∧Le g g'∧Good g'∧RV g' r v'∧R r g'.objs:=by
  intro g' σ' hw hr hq
  subst hw
  obtain⟨rs,hrs,h4⟩:=on_elim hq
  obtain⟨us,q1,q2⟩:=retVals_spec hT hr hrs
  have hO:g'.objs=σ'.objs:=hr.objs
  refine⟨hr.defers,(if h:us.toArray.size=1 then us.toArray[0] else .tuple us.toArray),?_,g',_,_,rfl,rfl,hr.le,hr.good,RV.mkRet q2,by rw [hO];exact h4⟩
  have hm:fn.results.mapM (retSem a)=Functor.map List.toArray (fn.results.toList.mapM (retSem a)):=Array.mapM_eq_mapM_toList
  have hres:results fn a.tmps=(do
   let vs ←fn.results.mapM (retSem a)
   pure (if h:vs.size=1 then vs[0] else .tuple vs)):=rfl
  rw [hres,hm]
  simp only [Sem.run_bind,Sem.run_map,q1,Result.andThen_ok,Sem.run_pure]
 cases e with
 | normal =>
  obtain⟨g',σ',h1,h2,h3⟩:=hp
  exact key g' σ' h1 h2 h3
 | ret =>
  obtain⟨g',σ',h1,h2,h3⟩:=hp
  exact key g' σ' h1 h2 h3
 | exit id =>
  obtain⟨g',σ',h1,h2,h3⟩:=hp
  exact h3.elim
 | goto l=>exact hp.elim
 | panic c=>exact hp.elim
 | outgrown=>exact hp.elim
theorem awp_nil2{P:Program}{kb:Nat}{c:Code}{Q:AEx→St→Prop}{n:Nat}{slots:List (Nat×AVal)}{O:List AObj}(s:Nat){sz:Nat}{xs:List AVal}{o:Own}(hs:look slots s=some (.lst sz xs o))
  (h1:xs=[]→AWP P kb c Q ⟨n,putS s (.v (.slice none 0 0)) slots,O⟩) (h2:AWP P kb c Q ⟨n,putS s (.lst sz xs .nn) slots,O⟩):AWP P kb c Q ⟨n,slots,O⟩:=by
 intro base a g hb hr
 obtain⟨u,e1,e2⟩:=hr.slot s _ hs
 have key:∀y,RV g y u→Rel base ⟨n,putS s y slots,O⟩ a g:=fun y hy =>
  {le:=hr.le,good:=hr.good,objs:=hr.objs,size:=hr.size,defers:=hr.defers,slot:=fun k x hx=>by
    simp only [St.get,look_putS] at hx
    split at hx
    ·rename_i e
     subst e
     simp only [Option.some.injEq] at hx
     subst hx
     exact⟨u,e1,hy⟩
    exact hr.slot k x hx }
 cases e2 with
 | nil ho hn=>exact h1 rfl base a g hb (key _ (.v trivial))
 | lst hsz hsc hcap hmax hs f hm hr ho=>exact h2 base a g hb (key _ (.lst hsz hsc hcap hmax hs f hm hr trivial))
theorem awp_retell2{P:Program}{kb:Nat}{c:Code}{Q:AEx→St→Prop}{n:Nat}{slots:List (Nat×AVal)}{O:List AObj}(k:Nat){cs:List AVal}(ds:List AVal)(hok:O[k]?=some (.cells cs))(hl:ds.length=cs.length)(hsc:∀d∈ds,d.scalar)
  (hs:∀(j:Nat) (c d:AVal),cs[j]?=some c→ds[j]?=some d→Sub O c d) (h:AWP P kb c Q ⟨n,slots,O.set k (.cells ds)⟩):AWP P kb c Q ⟨n,slots,O⟩ :=
 AWP.weaken h fun base a g hb hr=>by
  have hO:g.objs=O:=hr.objs
  have hok':g.objs[k]?=some (.cells cs):=by rw [hO];exact hok
  obtain⟨l,arr,t,e1,e2,e3,e4,e5,e6⟩:=hr.good.cells k cs hok'
  have ht:Turns g k (.cells cs) (some l) (.cells ds) g.w:={
   obj:=hok'
   os:=rfl
   tape:=rfl
   output:=rfl
   size:=Nat.le_refl _
   block:=fun _ _ _=>rfl
   cell:=fun b off x hx _=>hx
   place:=fun l1 h1 _=>by
    simp only [Option.some.injEq] at h1
    subst h1
    exact .inr ⟨l,e1,trivial,rfl,Nat.le_refl _⟩
   spare:=fun m h=>by cases h
   plain:=fun _=>⟨by simp [AObj.isSpare],e1⟩
   gone:=by simp }
  have hle:=Le.turn hr.good ht
  have hgood:=Good.turn hr.good ht ⟨l,arr,t,rfl,e2,e3,by omega,fun j d u hd hu=>by
   have hlt:=lt_of_getElem? hd
   have hc:cs[j]?=some cs[j]:=List.getElem?_eq_getElem (by omega)
   exact(hs j _ d hc hd g u hO (e5 j _ u hc hu)).mono hle,hsc,e6.2⟩ (fun l1 h1 _=>by
    simp only [Option.some.injEq] at h1
    subst h1
    exact lt_of_getElem?' e3)
  refine⟨g.turn k (some l) (.cells ds) g.w,rfl,{ le:=hr.le.trans hle,good:=hgood,objs:=by simp [G.turn,hO],size:=hr.size,defers:=hr.defers,slot:=fun s y hy=>?_ }⟩
  have hy':(St.mk n slots O).get s=some y:=hy
  obtain⟨u,h3,h4⟩:=hr.slot s y hy'
  exact⟨u,h3,h4.mono hle⟩
theorem Sub.nil_lst{O:List AObj}(sz:Nat):Sub O (.v (.slice none 0 0)) (.lst sz [] .ex):=fun g u _ h=>by
 obtain⟨e,_⟩:=h.v_inv
 rw [e]
 exact .nil (fun id q=>by cases q) (by simp)
theorem awp_ownAll{P:Program}{kb:Nat}{c:Code}{Q:AEx→St→Prop}{n:Nat}{slots:List (Nat×AVal)}{O:List AObj}(k m:Nat)(hk:k<O.length)
  (h:AWP P kb c Q ⟨n,slots,(O++List.replicate m (AObj.spare 0)).set k (.cells ((List.range m).map fun j=>.lst 1 [] (.tok (O.length+j))))⟩):AWP P kb c Q ⟨n,slots,O.set k (.cells (List.replicate m (.lst 1 [] .ex)))⟩:=by
 obtain⟨conv,hconv⟩:∃conv:Nat→List AVal,conv=fun q=>((List.range q).map fun j=>AVal.lst 1 [] (.tok (O.length+j)))++List.replicate (m - q) (.lst 1 [] .ex):=⟨_,rfl⟩
 have key:∀q,q≤m→AWP P kb c Q ⟨n,slots,(O++List.replicate q (AObj.spare 0)).set k (.cells (conv q))⟩→AWP P kb c Q ⟨n,slots,O.set k (.cells (List.replicate m (.lst 1 [] .ex)))⟩:=fun q=>by
  induction q with
  | zero =>
   intro _ h
   simpa [hconv] using h
  | succ q ih =>
   intro hq h
   refine ih (by omega) (awp_ownCell k q (sz:=1) (cs:=conv q) (xs:=[]) ?_ ?_ ?_)
   ·rw [List.getElem?_set_self (by simp;omega)]
   ·rw [hconv]
    simp only
    rw [List.getElem?_append_right (by simp)]
    simp only [List.length_map,List.length_range,Nat.sub_self]
    rw [show m - q=(m - (q+1))+1 by omega,List.replicate_succ]
    rfl
   have e1:(O++List.replicate q (AObj.spare 0)).set k (.cells (conv q))++[AObj.spare ([]:List AVal).length]=(O++List.replicate (q+1) (AObj.spare 0)).set k (.cells (conv q)):=by
    rw [List.set_append_left _ _ hk,List.set_append_left _ _ hk,List.append_assoc]
    congr 1
    rw [List.replicate_succ']
    rfl
   have e2:(conv q).set q (.lst 1 [] (.tok ((O++List.replicate q (AObj.spare 0)).set k (.cells (conv q))).length))=conv (q+1):=by
    rw [hconv]
    simp only [List.length_set,List.length_append,List.length_replicate]
    rw [List.set_append_right _ _ (by simp)]
    simp only [List.length_map,List.length_range,Nat.sub_self]
    rw [show m - q=(m - (q+1))+1 by omega,List.replicate_succ,List.set_cons_zero,List.range_succ,List.map_append,List.append_assoc]
    rfl
   rw [e1,e2,List.set_set]
   exact h
 refine key m (Nat.le_refl _) ?_
 simpa [hconv] using h
end Go.Av
namespace Go.Proofs.Ytlclgfgmhnmnaaa
open Go.Av
def outC(b:Nat)(ls:List (List Int)):List AVal:=ls.mapIdx fun j l=>.lst 1 (l.map aI) (.tok (b+j))
theorem outC_get{b:Nat}{ls:List (List Int)}{j:Nat}{l:List Int}(h:ls[j]?=some l):(outC b ls)[j]?=some (.lst 1 (l.map aI) (.tok (b+j))):=by
 simp [outC,h]
theorem outC_set{b:Nat}{ls:List (List Int)}{j:Nat}(l:List Int):(outC b ls).set j (.lst 1 (l.map aI) (.tok (b+j)))=outC b (ls.set j l):=by
 apply List.ext_getElem?
 intro i
 simp only [outC,List.getElem?_set,List.getElem?_mapIdx,List.length_mapIdx]
 by_cases e:j=i
 ·subst e
  by_cases hl:j<ls.length
  ·simp [hl]
  simp [hl]
 simp [e]
theorem outC_len(b:Nat)(ls:List (List Int)):(outC b ls).length=ls.length:=by simp [outC]
theorem outC_nil(b n:Nat):outC b (List.replicate n [])=(List.range n).map fun j=>.lst 1 [] (.tok (b+j)):=by
 apply List.ext_getElem?
 intro i
 simp only [outC,List.getElem?_mapIdx,List.getElem?_map]
 by_cases h:i<n
 ·simp [h]
 simp [h]
theorem outC_share(b:Nat)(ls:List (List Int)):(outC b ls).map AVal.shareCell=cellsAll (ls.map eIs):=by
 have h1:cellsAll (ls.map eIs)=ls.map eIs:=by
  induction ls with
  | nil=>rfl
  | cons l r ih =>
   simp only [List.map_cons,cellsAll,List.flatMap_cons] at ih ⊢
   rw [ih]
   rfl
 rw [h1]
 apply List.ext_getElem?
 intro i
 simp only [outC,List.getElem?_map,List.getElem?_mapIdx]
 cases ls[i]? with
 | none=>rfl
 | some l =>
  simp only [Option.map_some,Option.some.injEq]
  rw [shareCell_lst]
theorem outC_upto{b n:Nat}{ls:List (List Int)}(h:b+ls.length≤n):uptoL n (outC b ls):=by
 rw [uptoL_iff]
 intro x hx
 obtain⟨j,hj⟩:=List.mem_iff_getElem?.1 hx
 simp only [outC,List.getElem?_mapIdx] at hj
 cases hl:ls[j]? with
 | none=>rw [hl] at hj;cases hj
 | some l =>
  rw [hl] at hj
  simp only [Option.map_some,Option.some.injEq] at hj
  subst hj
  have:=lt_of_getElem? hl
  exact⟨aI_upto _ _,show _<_ by omega⟩
theorem splice_one{cs:List AVal}{j:Nat}(x:AVal)(h:j<cs.length):splice cs j [x]=cs.set j x:=by
 apply List.ext_getElem?
 intro i
 rw [splice_get (by simp;omega),List.getElem?_set]
 simp only [List.length_cons,List.length_nil,Nat.zero_add]
 by_cases e:j=i
 ·subst e
  simp [h]
 rw [if_neg (by omega),if_neg e]
structure PO(ls:List (List Int))(O:List AObj):Prop where
 len:O.length=ls.length+2
 arr:O[1]?=some (.cells (outC 2 ls))
 sp:∀j l,ls[j]?=some l→O[2+j]?=some (.spare l.length)
 up:∀o∈O,o.upto O.length
theorem PO.push{ls:List (List Int)}{O:List AObj}(h:PO ls O){j:Nat}{l:List Int}(hj:ls[j]?=some l)(k:Int):PO (ls.set j (l++[k])) ((O.set (2+j) (.spare (l.length+1))).set 1 (.cells (outC 2 (ls.set j (l++[k]))))):=by
 have hlt:=lt_of_getElem? hj
 have hl:=h.len
 refine⟨by simp [hl],?_,fun i m hi=>?_,?_⟩
 ·rw [List.getElem?_set_self (by simp;omega)]
 ·rw [List.getElem?_set_ne (by omega)]
  by_cases e:j=i
  ·subst e
   rw [List.getElem?_set_self hlt] at hi
   simp only [Option.some.injEq] at hi
   subst hi
   rw [List.getElem?_set_self (by omega)]
   simp
  rw [List.getElem?_set_ne e] at hi
  rw [List.getElem?_set_ne (by omega)]
  exact h.sp i m hi
 have h1:∀o∈O.set (2+j) (.spare (l.length+1)),o.upto O.length:=uptoO_set h.up trivial
 have h2:=uptoO_set (k:=1) (x:=.cells (outC 2 (ls.set j (l++[k])))) h1 (by
  show uptoL _ _
  exact outC_upto (by simp [hl];omega))
 simpa using h2
def predE(k:Nat)(ls:List (List Int))(e:Edge):List (List Int):=ls.set e.block.toNat ((ls[e.block.toNat]?.getD [])++[(k:Int)])
def predB(k:Nat)(ls:List (List Int))(es:List Edge):List (List Int):=es.foldl (predE k) ls
def predL:Nat→List (List Int)→List Block→List (List Int)
 | _,ls,[]=>ls
 | k,ls,b::r=>predL (k+1) (predB k ls b.term.to) r
def predsM(f:Func):List (List Int):=predL 0 (List.replicate f.blocks.length []) f.blocks
theorem predE_len(k:Nat)(ls:List (List Int))(e:Edge):(predE k ls e).length=ls.length:=by simp [predE]
theorem predB_len(k:Nat):∀(es:List Edge) (ls:List (List Int)),(predB k ls es).length=ls.length
 | [],_=>rfl
 | e::r,ls=>by
  show(predB k (predE k ls e) r).length=_
  rw [predB_len k r,predE_len]
theorem predL_len:∀(l:List Block) (k:Nat) (ls:List (List Int)),(predL k ls l).length=ls.length
 | [],_,_=>rfl
 | b::r,k,ls=>by
  simp only [predL]
  rw [predL_len r,predB_len]
theorem to_few{f:Func}{t:Term}(hend:EndW f t):t.to.length≤257:=by
 rcases (show(t.kind=0∨t.kind=4)∨t.kind=1∨t.kind=2∨t.kind=3 by have:=hend.kind;omega) with q | q | q | q
 ·rw [hend.to q];simp
 ·rw [hend.jump q];omega
 ·rw [hend.cond q];omega
 rw [hend.switch q];have:=hend.cases;omega
theorem preds_len(f:Func):(predsM f).length=f.blocks.length:=by simp [predsM,predL_len]
theorem nils_flat(n:Nat):(List.replicate n [AVal.lst 1 [] .ex]).flatten=List.replicate n (.lst 1 [] .ex):=by
 induction n with
 | zero=>rfl
 | succ n ih=>rw [List.replicate_succ,List.flatten_cons,ih,List.replicate_succ];rfl
def blkVals(b:Block):List Int:=b.params++b.ins.map Ins.to
def valsF(f:Func):List Int:=f.blocks.flatMap blkVals
def ValsW(f:Func):Prop:=∀v∈valsF f,0≤v∧v≤4095
def parDefs(k:Int)(l:List Int):Defs:=l.map fun p=>(p,(k,0))
def insDefs(k:Int):Int→List Ins→Defs
 | _,[]=>[]
 | n,i::r=>(i.to,(k,n+1))::insDefs k (n+1) r
def blkDefs(k:Int)(b:Block):Defs:=parDefs k b.params++insDefs k 0 b.ins
def allDefs:Int→List Block→Defs
 | _,[]=>[]
 | k,b::r=>blkDefs k b++allDefs (k+1) r
theorem defineM_eq{ds:Defs}{v:Int}{p:Int×Int}(h:(defineM ds v p).1=0):(defineM ds v p).2=ds++[(v,p)]:=by
 unfold defineM at h ⊢
 split at h
 ·simp at h
 rename_i h1
 rw [if_neg h1]
 split at h
 ·simp at h
 rename_i h2
 rw [if_neg h2]
theorem paramsM_eq(k:Int):∀(l:List Int) (ds:Defs),(paramsM k ds l).1=0→(paramsM k ds l).2=ds++parDefs k l
 | [],ds,_=>by simp [paramsM,parDefs]
 | p::r,ds,h=>by
  simp only [paramsM] at h ⊢
  split at h
  ·rename_i hne
   exact absurd h hne
  rename_i he
  rw [if_neg he,paramsM_eq k r _ h,defineM_eq (by simpa using he)]
  simp [parDefs]
theorem insM_eq(k:Int):∀(l:List Ins) (n:Int) (ds:Defs),(insM k n ds l).1=0→(insM k n ds l).2=ds++insDefs k n l
 | [],n,ds,_=>by simp [insM,insDefs]
 | i::r,n,ds,h=>by
  simp only [insM] at h ⊢
  split at h
  ·rename_i hne
   exact absurd h hne
  rename_i he
  split at h
  ·rename_i hf
   exact absurd h hf
  rename_i hf
  rw [if_neg he,if_neg hf,insM_eq k r _ _ h,defineM_eq (by simpa using he)]
  simp [insDefs]
theorem blockM_eq{f:Func}{ds:Defs}{k:Int}(h:(blockM f ds k).1=0):(blockM f ds k).2=ds++blkDefs k (blkOf f k):=by
 unfold blockM at h ⊢
 split at h
 ·rename_i hne
  exact absurd h hne
 rename_i hp
 split at h
 ·rename_i hne
  exact absurd h hne
 rename_i hi
 rw [if_neg hp,if_neg hi]
 simp only
 rw [insM_eq k _ _ _ (by simpa using hi),paramsM_eq k _ _ (by simpa using hp),blkDefs,List.append_assoc]
theorem blocksM_eq{f:Func}:∀(n k:Nat) (ds:Defs),k+n=f.blocks.length→(blocksM f n k ds).1=0→(blocksM f n k ds).2=ds++allDefs k (f.blocks.drop k)
 | 0,k,ds,hk,_=>by
  rw [List.drop_of_length_le (by omega)]
  simp [blocksM,allDefs]
 | n+1,k,ds,hk,h=>by
  simp only [blocksM] at h ⊢
  split at h
  ·rename_i hne
   exact absurd h hne
  rename_i he
  rw [if_neg he]
  have hb:f.blocks[k]?=some f.blocks[k]:=List.getElem?_eq_getElem (by omega)
  have ih:=blocksM_eq n (k+1) (blockM f ds k).2 (by omega) h
  have e:((k+1:Nat):Int)=(k:Int)+1:=by omega
  rw [e] at ih
  rw [ih,blockM_eq (by simpa using he),drop_at hb,allDefs,List.append_assoc]
  congr 3
  simp [blkOf,hb]
def dsF(f:Func):Defs:=allDefs 0 f.blocks
theorem FnW.ds{f:Func}(hfit:f.fit)(h:checkFuncM f=0):(blocksM f f.blocks.length 0 []).2=dsF f∧DefsW f.blocks.length (dsF f):=by
 have he:(blocksM f f.blocks.length 0 []).1=0:=by
  unfold checkFuncM at h
  split at h
  ·simp at h
  split at h
  ·simp at h
  split at h
  ·simp at h
  split at h
  ·rename_i h4
   exact absurd h h4
  rename_i h4
  simpa using h4
 have e:=blocksM_eq f.blocks.length 0 [] (by omega) he
 rw [List.drop_zero,List.nil_append] at e
 have hw:=(blocksM_ok f.blocks.length 0 [] (.nil _) (by omega) (by simp) he).1
 have e':(blocksM f f.blocks.length 0 []).2=dsF f:=e
 rw [e'] at hw
 exact⟨e',hw⟩
theorem lookD_mem{ds:Defs}(hn:(ds.map (·.1)).Nodup){v:Int}{p:Int×Int}:lookD ds v=some p↔(v,p)∈ds:=by
 induction ds with
 | nil=>simp [lookD]
 | cons e r ih =>
  obtain⟨a,q⟩:=e
  simp only [List.map_cons,List.nodup_cons,List.mem_map,not_exists,not_and] at hn
  have ih:=ih hn.2
  simp only [lookD,List.mem_cons,Prod.mk.injEq]
  by_cases h:a=v
  ·subst h
   rw [if_pos rfl]
   constructor
   ·intro h
    simp only [Option.some.injEq] at h
    exact .inl ⟨rfl,h.symm⟩
   rintro(⟨_,h⟩ | h)
   ·rw [h]
   exact absurd rfl (hn.1 _ h)
  rw [if_neg h,ih]
  constructor
  ·exact .inr
  rintro(⟨h1,_⟩ | h1)
  ·exact absurd h1.symm h
  exact h1
theorem mem_insDefs{k:Int}{v:Int}{p:Int×Int}:∀(l:List Ins) (n:Int),(v,p)∈insDefs k n l↔∃(j:Nat) (i:Ins),l[j]?=some i∧i.to=v∧p=(k,n+j+1)
 | [],n=>by simp [insDefs]
 | i::r,n=>by
  simp only [insDefs,List.mem_cons,Prod.mk.injEq]
  rw [mem_insDefs r (n+1)]
  constructor
  ·rintro(⟨h1,h2⟩ | ⟨j,x,h1,h2,h3⟩)
   ·exact⟨0,i,rfl,h1.symm,by simpa using h2⟩
   exact⟨j+1,x,h1,h2,by rw [h3];congr 1;omega⟩
  rintro⟨j,x,h1,h2,h3⟩
  cases j with
  | zero =>
   simp only [List.getElem?_cons_zero,Option.some.injEq] at h1
   subst h1
   exact .inl ⟨h2.symm,by simpa using h3⟩
  | succ j=>exact .inr ⟨j,x,h1,h2,by rw [h3];congr 1;omega⟩
theorem mem_allDefs{v:Int}{p:Int×Int}:∀(l:List Block) (k:Int),(v,p)∈allDefs k l↔∃(j:Nat) (b:Block),l[j]?=some b∧(v,p)∈blkDefs (k+j) b
 | [],k=>by simp [allDefs]
 | b::r,k=>by
  rw [allDefs,List.mem_append,mem_allDefs r (k+1)]
  constructor
  ·rintro(h | ⟨j,x,h1,h2⟩)
   ·exact⟨0,b,rfl,by simpa using h⟩
   exact⟨j+1,x,h1,by rw [show k+((j+1:Nat):Int)=k+1+j by omega];exact h2⟩
  rintro⟨j,x,h1,h2⟩
  cases j with
  | zero =>
   simp only [List.getElem?_cons_zero,Option.some.injEq] at h1
   subst h1
   exact .inl (by simpa using h2)
  | succ j=>exact .inr ⟨j,x,h1,by rw [show k+((j+1:Nat):Int)=k+1+j by omega] at h2;exact h2⟩
def DefAt(f:Func)(v:Int)(p:Int×Int):Prop:=∃(k:Nat) (b:Block),f.blocks[k]?=some b∧p.1=k∧((p.2=0∧v∈b.params)∨∃(j:Nat) (i:Ins),b.ins[j]?=some i∧i.to=v∧p.2=j+1)
theorem mem_dsF{f:Func}{v:Int}{p:Int×Int}:(v,p)∈dsF f↔DefAt f v p:=by
 obtain⟨p1,p2⟩:=p
 rw [dsF,mem_allDefs]
 constructor
 ·rintro⟨k,b,h1,h2⟩
  rw [blkDefs,List.mem_append] at h2
  rcases h2 with h2 | h2
  ·simp only [parDefs,List.mem_map,Prod.mk.injEq] at h2
   obtain⟨x,h3,h4,h5,h6⟩:=h2
   subst h4
   exact⟨k,b,h1,by simp only;omega,.inl ⟨h6.symm,h3⟩⟩
  obtain⟨j,i,h3,h4,h5⟩:=(mem_insDefs _ _).1 h2
  simp only [Prod.mk.injEq] at h5
  exact⟨k,b,h1,by simp only;omega,.inr ⟨j,i,h3,h4,by simp only;omega⟩⟩
 rintro⟨k,b,h1,h2,h3⟩
 simp only at h2 h3
 subst h2
 refine⟨k,b,h1,?_⟩
 rw [blkDefs,List.mem_append]
 rcases h3 with⟨h3,h4⟩ | ⟨j,i,h3,h4,h5⟩
 ·subst h3
  exact .inl (by simpa [parDefs] using h4)
 exact .inr ((mem_insDefs _ _).2 ⟨j,i,h3,h4,by subst h5;simp⟩)
theorem insDefs_fst(k:Int):∀(l:List Ins) (n:Int),(insDefs k n l).map (·.1)=l.map Ins.to
 | [],_=>rfl
 | i::r,n=>by rw [insDefs,List.map_cons,insDefs_fst k r,List.map_cons]
theorem allDefs_fst:∀(l:List Block) (k:Int),(allDefs k l).map (·.1)=l.flatMap blkVals
 | [],_=>rfl
 | b::r,k=>by
  rw [allDefs,List.map_append,allDefs_fst r,List.flatMap_cons,blkDefs,List.map_append,insDefs_fst,blkVals,parDefs,List.map_map]
  congr 2
  exact List.map_id' _
theorem dsF_fst(f:Func):(dsF f).map (·.1)=valsF f:=allDefs_fst _ _
theorem domE_again{k:Nat}{S:Ds}{e:Edge}(h:(domE k S e).again=false):domE k S e=S∧((S.at_ e.block.toNat).meet (S.at_ k)).add e.block.toNat=S.at_ e.block.toNat∧S.seen.has e.block.toNat=true:=by
 unfold domE at h ⊢
 simp only at h ⊢
 split at h
 ·cases h
 rename_i hc
 rw [if_neg hc]
 simp only [ne_eq,not_or,Decidable.not_not,Bool.not_eq_false] at hc
 exact⟨rfl,hc⟩
theorem domF_again{k:Nat}:∀(l:List Edge) {S:Ds},(l.foldl (domE k) S).again=false→l.foldl (domE k) S=S∧∀e∈l,((S.at_ e.block.toNat).meet (S.at_ k)).add e.block.toNat=S.at_ e.block.toNat∧S.seen.has e.block.toNat=true
 | [],S,_=>⟨rfl,by simp⟩
 | e::r,S,h=>by
  rw [List.foldl_cons] at h
  have ih:=domF_again r h
  rw [ih.1] at h
  have h1:=domE_again h
  rw [List.foldl_cons,ih.1,h1.1]
  rw [h1.1] at ih
  refine⟨rfl,fun x hx=>?_⟩
  rcases List.mem_cons.1 hx with q | q
  ·subst q
   exact h1.2
  exact ih.2 x q
theorem domR_again:∀(l:List Block) (k:Nat) {S:Ds},(domR k S l).again=false→domR k S l=S∧∀(j:Nat) b,l[j]?=some b→S.seen.has (k+j)=true→∀e∈b.term.to,((S.at_ e.block.toNat).meet (S.at_ (k+j))).add e.block.toNat=S.at_ e.block.toNat∧S.seen.has e.block.toNat=true
 | [],k,S,_=>⟨rfl,fun j b h=>by simp at h⟩
 | b::r,k,S,h=>by
  rw [domR] at h
  have ih:=domR_again r (k+1) h
  rw [ih.1] at h
  have h1:domB k S b=S∧(S.seen.has k=true→∀e∈b.term.to,((S.at_ e.block.toNat).meet (S.at_ k)).add e.block.toNat=S.at_ e.block.toNat∧S.seen.has e.block.toNat=true):=by
   unfold domB at h ⊢
   split
   ·rename_i hs
    exact⟨rfl,fun q=>by rw [hs] at q;cases q⟩
   rename_i hs
   rw [if_neg hs] at h
   have:=domF_again _ h
   exact⟨this.1,fun _=>this.2⟩
  rw [domR,ih.1,h1.1]
  rw [h1.1] at ih
  refine⟨rfl,fun j x hj hs=>?_⟩
  cases j with
  | zero =>
   simp only [List.getElem?_cons_zero,Option.some.injEq] at hj
   subst hj
   exact h1.2 hs
  | succ j =>
   rw [show k+(j+1)=k+1+j by omega] at hs ⊢
   exact ih.2 j x hj hs
theorem domI_ends{f:Func}(he:∀b∈f.blocks,∀e∈b.term.to,0≤e.block∧e.block.toNat<f.blocks.length):∀(n:Nat) {S:Ds},DsOK f.blocks.length S→(S.again=true→S.weight<n)→(domI f n S).again=false
 | 0,S,_,h=>by
  cases hs:S.again with
  | false=>exact hs
  | true=>exact absurd (h hs) (by omega)
 | n+1,S,hS,h=>by
  simp only [domI]
  split
  ·rename_i ha
   have hw:=h ha
   have hr:=domR_ok f.blocks (k:=0) (S:=⟨S.over,S.seen,false⟩) ⟨hS.few,hS.len,hS.fit,hS.seen,hS.self⟩ he
   have hwS:(⟨S.over,S.seen,false⟩:Ds).weight=S.weight:=rfl
   refine domI_ends he n hr.1 fun q=>?_
   rcases hr.2.2 q with q | q
   ·cases q
   omega
  rename_i ha
  simpa using ha
structure Dz(S:Ds):Prop where
 zero:S.at_ 0=Bs.none.add 0
 seen:S.seen.has 0=true
theorem domE_z{n k:Nat}{S:Ds}(h:Dz S){e:Edge}(h1:1≤e.block)(h2:e.block.toNat<n)(h3:n≤128):Dz (domE k S e):=by
 unfold domE
 simp only
 split
 ·refine⟨?_,?_⟩
  ·have:=h.zero
   unfold Ds.at_ at this ⊢
   simp only
   rw [List.getElem?_set_ne (by omega)]
   exact this
  simp only
  rw [Bs.has_add _ _ _ (by omega) (by omega),h.seen]
  rfl
 exact h
theorem domF_z{n k:Nat}(h3:n≤128):∀(l:List Edge) {S:Ds},Dz S→(∀e∈l,1≤e.block∧e.block.toNat<n)→Dz (l.foldl (domE k) S)
 | [],_,h,_=>h
 | e::r,S,h,he=>domF_z h3 r (domE_z h (he e (by simp)).1 (he e (by simp)).2 h3) fun x hx=>he x (by simp [hx])
theorem domR_z{n:Nat}(h3:n≤128):∀(l:List Block) {k:Nat} {S:Ds},Dz S→(∀b∈l,∀e∈b.term.to,1≤e.block∧e.block.toNat<n)→Dz (domR k S l)
 | [],_,_,h,_=>h
 | b::r,k,S,h,he=>by
  refine domR_z h3 r (k:=k+1) ?_ fun x hx=>he x (by simp [hx])
  unfold domB
  split
  ·exact h
  exact domF_z h3 _ h (he b (by simp))
theorem domI_z{f:Func}(h3:f.blocks.length≤128)(he:∀b∈f.blocks,∀e∈b.term.to,1≤e.block∧e.block.toNat<f.blocks.length):∀(n:Nat) {S:Ds},Dz S→Dz (domI f n S)
 | 0,_,h=>h
 | n+1,S,h=>by
  simp only [domI]
  split
  ·exact domI_z h3 he n (domR_z h3 _ (S:=⟨S.over,S.seen,false⟩) ⟨h.zero,h.seen⟩ he)
  exact h
theorem domI_last{f:Func}:∀(n:Nat) {S:Ds},S.again=true→(domI f n S).again=false→∃T:Ds,domI f n S=domR 0 T f.blocks
 | 0,S,h1,h2=>by
  rw [domI,h1] at h2
  cases h2
 | n+1,S,h1,h2=>by
  simp only [domI,h1,if_true] at h2 ⊢
  cases hr:(domR 0 ⟨S.over,S.seen,false⟩ f.blocks).again with
  | false=>exact⟨_,domI_done hr n⟩
  | true=>exact domI_last n hr h2
def overF(f:Func)(k:Nat):Bs:=(domM f).1[k]?.getD .none
def seenF(f:Func)(k:Nat):Bool:=(domM f).2.has k
structure DomW(f:Func):Prop where
 seen:seenF f 0=true
 zero:∀j,j<128→((overF f 0).has j=true↔j=0)
 self:∀k,k<f.blocks.length→(overF f k).has k=true
 step:∀(k:Nat) b,f.blocks[k]?=some b→seenF f k=true→∀e∈b.term.to,seenF f e.block.toNat=true∧∀j,j<128→((overF f e.block.toNat).has j=true→j=e.block.toNat∨(overF f k).has j=true)
theorem domM_w{f:Func}(h0:f.blocks≠[])(h1:f.blocks.length≤128)(he:∀b∈f.blocks,∀e∈b.term.to,1≤e.block∧e.block<f.blocks.length):DomW f:=by
 have he':∀b∈f.blocks,∀e∈b.term.to,0≤e.block∧e.block.toNat<f.blocks.length:=fun b hb e hx=>by have:=he b hb e hx;omega
 have he1:∀b∈f.blocks,∀e∈b.term.to,1≤e.block∧e.block.toNat<f.blocks.length:=fun b hb e hx=>by have:=he b hb e hx;omega
 have hl:=List.length_pos_iff.2 h0
 have hS:=domS_ok h0 h1
 have hw0:=weight_le hS
 have hz0:Dz (domS f):=⟨by unfold Ds.at_ domS;simp only;rw [List.getElem?_set_self (by simpa using hl)];rfl,by show(Bs.none.add 0).has 0=true;decide⟩
 have hend:=domI_ends he' 20000 hS (fun _=>by omega)
 have hz:=domI_z h1 he1 20000 hz0
 obtain⟨T,hT⟩:=domI_last 20000 rfl hend
 have hok:DsOK f.blocks.length (domI f 20000 (domS f)):=by
  have key:∀(n:Nat) (S:Ds),DsOK f.blocks.length S→DsOK f.blocks.length (domI f n S):=fun n=>by
   induction n with
   | zero=>exact fun S h=>h
   | succ n ih =>
    intro S h
    simp only [domI]
    split
    ·exact ih _ (domR_ok f.blocks (k:=0) (S:=⟨S.over,S.seen,false⟩) ⟨h.few,h.len,h.fit,h.seen,h.self⟩ he').1
    exact h
  exact key _ _ hS
 have hTa:=domR_again f.blocks 0 (S:=T) (by rw [←hT];exact hend)
 have hfix:=hTa.2
 rw [show T=domI f 20000 (domS f) from hTa.1.symm.trans hT.symm] at hfix
 have hov:∀k,overF f k=(domI f 20000 (domS f)).at_ k:=fun k=>rfl
 have hse:∀k,seenF f k=(domI f 20000 (domS f)).seen.has k:=fun k=>rfl
 generalize domI f 20000 (domS f)=S at *
 refine⟨by rw [hse,hz.seen],fun j hj=>?_,fun k hk=>by rw [hov];exact hok.self k hk,fun k b hb hs e hx=>?_⟩
 ·rw [hov,hz.zero,Bs.has_add _ _ _ (by omega) hj]
  have:Bs.none.has j=false:=by unfold Bs.has Bs.none;simp
  simp [this]
 have hb1:=he1 b (List.mem_of_getElem? hb) e hx
 obtain⟨q1,q2⟩:=hfix k b hb (by rw [Nat.zero_add,←hse];exact hs) e hx
 rw [Nat.zero_add] at q1
 refine⟨by rw [hse];exact q2,fun j hj q=>?_⟩
 rw [hov,←q1,Bs.has_add _ _ _ (by omega) hj,Bs.has_meet] at q
 rw [hov]
 simp only [Bool.or_eq_true,Bool.and_eq_true,decide_eq_true_eq] at q
 rcases q with q | q
 ·exact .inr q.2
 exact .inl q
theorem lookD_some{ds:Defs}{v:Int}{p:Int×Int}(h:lookD ds v=some p):(v,p)∈ds:=by
 induction ds with
 | nil=>cases h
 | cons e r ih =>
  obtain⟨a,q⟩:=e
  simp only [lookD] at h
  split at h
  ·rename_i e
   simp only [Option.some.injEq] at h
   rw [e,h]
   simp
  exact List.mem_cons.2 (.inr (ih h))
def Fine(f:Func)(k:Nat)(n:Int)(v:Int):Prop:=∃p,DefAt f v p∧(seenF f k=true→(p.1=k∧p.2≤n)∨(p.1≠k∧(overF f k).has p.1.toNat=true))
theorem fine_of{f:Func}{k:Nat}{n v:Int}(h:fineM (dsF f) (domM f).1 (domM f).2 k n v=true):Fine f k n v:=by
 unfold fineM at h
 cases hl:lookD (dsF f) v with
 | none=>rw [hl] at h;cases h
 | some p =>
  rw [hl] at h
  refine⟨p,mem_dsF.1 (lookD_some hl),fun hs=>?_⟩
  have hs':(domM f).2.has k=true:=hs
  simp only [hs',Bool.not_true,Bool.or_false,Bool.or_eq_true,Bool.and_eq_true,decide_eq_true_eq,Bool.not_eq_true',decide_eq_false_iff_not] at h
  exact h
structure UsesW(f:Func):Prop where
 ins:∀(k:Nat) b,f.blocks[k]?=some b→∀(n:Nat) i,b.ins[n]?=some i→∀a∈i.args,Fine f k n a
 arg:∀(k:Nat) b,f.blocks[k]?=some b→b.term.kind≠1→b.term.kind≠4→Fine f k b.ins.length b.term.arg
 args:∀(k:Nat) b,f.blocks[k]?=some b→∀e∈b.term.to,∀a∈e.args,Fine f k b.ins.length a
theorem insUses_all{ds:Defs}{over:List Bs}{seen:Bs}{k:Nat}:∀(l:List Ins) (n:Nat),insUses ds over seen k n l=true→∀(j:Nat) i,l[j]?=some i→∀a∈i.args,fineM ds over seen k ((n+j:Nat):Int) a=true
 | [],_,_=>fun j i h=>by simp at h
 | x::r,n,h=>fun j i hj a ha=>by
  simp only [insUses,Bool.and_eq_true,List.all_eq_true] at h
  cases j with
  | zero =>
   simp only [List.getElem?_cons_zero,Option.some.injEq] at hj
   subst hj
   exact h.1 a ha
  | succ j =>
   rw [show n+(j+1)=n+1+j by omega]
   exact insUses_all r (n+1) h.2 j i hj a ha
theorem allUses_all{ds:Defs}{over:List Bs}{seen:Bs}:∀(l:List Block) (k:Nat),allUses ds over seen k l=true→∀(j:Nat) b,l[j]?=some b→blkUses ds over seen (k+j) b=true
 | [],_,_=>fun j i h=>by simp at h
 | x::r,k,h=>fun j b hj=>by
  simp only [allUses,Bool.and_eq_true] at h
  cases j with
  | zero =>
   simp only [List.getElem?_cons_zero,Option.some.injEq] at hj
   subst hj
   exact h.1
  | succ j =>
   rw [show k+(j+1)=k+1+j by omega]
   exact allUses_all r (k+1) h.2 j b hj
theorem uses_w{f:Func}(h:usesM f (dsF f)=0):UsesW f:=by
 have ha:allUses (dsF f) (domM f).1 (domM f).2 0 f.blocks=true:=by
  unfold usesM at h
  split at h
  ·assumption
  simp at h
 have hb:∀(k:Nat) b,f.blocks[k]?=some b→blkUses (dsF f) (domM f).1 (domM f).2 k b=true:=fun k b hk=>by
  have:=allUses_all f.blocks 0 ha k b hk
  rwa [Nat.zero_add] at this
 have hu:∀(k:Nat) b,f.blocks[k]?=some b→usedM b.term (fineM (dsF f) (domM f).1 (domM f).2 k b.ins.length)=true:=fun k b hk=>by
  have:=hb k b hk
  simp only [blkUses,Bool.and_eq_true] at this
  exact this.2
 refine⟨fun k b hk n i hn a ha=>?_,fun k b hk h1 h4=>?_,fun k b hk e he a ha=>?_⟩
 ·have:=hb k b hk
  simp only [blkUses,Bool.and_eq_true] at this
  have:=insUses_all b.ins 0 this.1 n i hn a ha
  rw [Nat.zero_add] at this
  exact fine_of this
 ·have:=hu k b hk
  simp only [usedM,Bool.and_eq_true,Bool.or_eq_true,decide_eq_true_eq,h1,h4,false_or] at this
  exact fine_of this.1
 have:=hu k b hk
 simp only [usedM,Bool.and_eq_true,List.all_eq_true] at this
 exact fine_of (this.2 e he a ha)
structure FnV(f:Func):Prop where
 fn:FnW f
 dom:DomW f
 uses:UsesW f
 vals:ValsW f
 nodup:(valsF f).Nodup
 edges:∀b∈f.blocks,∀e∈b.term.to,1≤e.block∧e.block<f.blocks.length
theorem checkFunc_v{f:Func}(hfit:f.fit)(h:checkFuncM f=0):FnV f:=by
 have hw:=checkFunc_ok hfit h
 obtain⟨hd,hdw⟩:=FnW.ds hfit h
 have he:∀b∈f.blocks,∀e∈b.term.to,1≤e.block∧e.block<f.blocks.length:=fun b hb e hx=>by
  have:=((end_ok (hw.blk b hb).fin).edges e hx).1
  omega
 refine⟨hw,domM_w hw.ne hw.few he,uses_w (by rw [←hd];exact hw.uses),fun v hv=>?_,?_,he⟩
 ·rw [←dsF_fst] at hv
  obtain⟨e,h1,rfl⟩:=List.mem_map.1 hv
  exact hdw.range e h1
 rw [←dsF_fst]
 exact hdw.nodup
theorem DefAt.uniq{f:Func}(hv:FnV f){v:Int}{p q:Int×Int}(h:DefAt f v p)(h':DefAt f v q):p=q:=by
 have hn:=hv.nodup
 rw [←dsF_fst] at hn
 have e1:=(lookD_mem hn).2 (mem_dsF.2 h)
 have e2:=(lookD_mem hn).2 (mem_dsF.2 h')
 rw [e1] at e2
 simpa using e2
def predsR(f:Func):AVal:=if checkFuncM f=0 then .tup [.lst 1 ((predsM f).map eIs) .sh,aI 0] else .tup [.lst 1 [] .sh,aI (checkFuncM f)]
def Bnd(c:Nat)(ls:List (List Int)):Prop:=∀l∈ls,l.length≤c
theorem Bnd.push{c:Nat}{ls:List (List Int)}(h:Bnd c ls){j:Nat}{l:List Int}(hj:ls[j]?=some l)(k:Int):Bnd (c+1) (ls.set j (l++[k])):=fun m hm=>by
 rcases List.mem_or_eq_of_mem_set hm with q | q
 ·have:=h m q
  omega
 subst q
 have:=h l (List.mem_of_getElem? hj)
 simp
 omega
theorem Bnd.mono{c d:Nat}{ls:List (List Int)}(h:Bnd c ls)(hd:c≤d):Bnd d ls:=fun l hl=>Nat.le_trans (h l hl) hd
theorem preds_spec(f:Func)(hfit:f.fit):PCall Try.prog 38 [f.enc] (predsR f):=by
 have hck:=checkFunc_spec f hfit
 unfold predsR
 by_cases hc:checkFuncM f=0
 ·rw [if_pos hc]
  rw [hc] at hck
  have hw:=checkFunc_ok hfit hc
  have hn:f.blocks.length≤128:=hw.few
  obtain⟨N,hN⟩:∃N,N=f.blocks.length:=⟨_,rfl⟩
  obtain⟨R,hR⟩:∃R,R=predsM f:=⟨_,rfl⟩
  have hRl:R.length=N:=by rw [hR,hN,predsM,predL_len];simp
  rw [←hR]
  unfold predsM at hR
  refine zf true 0 Try.func38 Try.ntmps38 ?_
  dsimp only [Tmp,TypeId,slotsOf]
  refine zh1 (za0 ?_)
  refine awp_freeze1 1 0 (.ip none [aI f.name,eBlocks f.blocks]) rfl (by simp [AObj.isSpare]) trivial rfl ?_ ?_
  rotate_left
  simp -dsimp only [simprocAttr,↓vpre,zp]
  ·refine zh2 ?_
   refine zi hck ?_
   refine za0 ?_
   refine zh1 (za0 ?_)
   apply zk0 rfl<;>intro h
   ·cases h
   refine zb0 ?_
   refine zg1 ?_
   simp -dsimp only [simprocAttr,↓vpre,zp,nils_flat,←hN]
   refine⟨by omega,by omega,?_⟩
   refine za0 ?_
   have hpo:PO (List.replicate N []) (([AObj.gone,AObj.cells []]++List.replicate N (AObj.spare 0)).set 1 (.cells ((List.range N).map fun j=>.lst 1 [] (.tok ([AObj.gone,AObj.cells []].length+j))))):=by
    refine⟨by simp,?_,fun j l hj=>?_,?_⟩
    ·rw [List.getElem?_set_self (by simp),outC_nil]
     rfl
    ·have hj':=lt_of_getElem? hj
     rw [List.length_replicate] at hj'
     rw [List.getElem?_set_ne (by omega),List.getElem?_append_right (by simp)]
     simp only [List.length_cons,List.length_nil,Nat.zero_add,Nat.add_sub_cancel_left]
     simp [hj'] at hj ⊢
     rw [hj]
     rfl
    rw [←outC_nil]
    have:=uptoO_set (k:=1) (n:=N+2) (x:=.cells (outC 2 (List.replicate N []))) (O:=[AObj.gone,AObj.cells []]++List.replicate N (AObj.spare 0)) (fun o ho=>by
     rcases List.mem_append.1 ho with q | q
     ·simp at q
      rcases q with rfl | rfl<;>trivial
     rw [(List.mem_replicate.1 q).2]
     trivial) (outC_upto (by simp;omega))
    simpa using this
   show AWP Try.prog _ _ _ ⟨_,_,List.set [AObj.gone,AObj.cells []] 1 (.cells (List.replicate N (AVal.lst 1 [] .ex)))⟩
   refine awp_ownAll 1 N (by simp) ?_
   generalize ([AObj.gone,AObj.cells []]++List.replicate N (AObj.spare 0)).set 1 (.cells ((List.range N).map fun j=>.lst 1 [] (.tok ([AObj.gone,AObj.cells []].length+j))))=O0 at *
   rw [←hN] at hR
   refine zg2 ?_
   simp -dsimp only [simprocAttr,↓vpre,zp,←hN]
   refine za0 ?_
   refine awp_block (awp_loop (ι:={p:Nat×List (List Int)×List AObj // p.1≤N∧PO p.2.1 p.2.2∧p.2.1.length=N∧Bnd (p.1 * 257) p.2.1∧R=predL p.1 p.2.1 (f.blocks.drop p.1)}) (fun p=>⟨50,[(1,.ip none [aI f.name,eBlocks f.blocks]),(5,.ms 1 0 N N),(20,eBlocks f.blocks),(21,aI N),(22,aI p.1.1)],p.1.2.2⟩) (fun p=>N - p.1.1) ⟨(0,_,O0),by simp,hpo,by simp,by intro l hl;simp [(List.mem_replicate.1 hl).2],hR⟩ ?_ ?_)
   ·refine zq rfl ?_ ?_
    simp -dsimp only [simprocAttr,↓vpre,zp,zc]
    all_goals rfl
   rintro⟨⟨k,ls,O⟩,hk,hp,hls,hbd,hke⟩
   simp only at hk hp hls hbd hke
   have hOl:=hp.len
   have hup:=hp.up
   refine zh1 (za0 ?_)
   apply zk1 rfl<;>intro h
   ·refine zb0 ?_
    have hlt:k<N:=by simpa using h
    obtain⟨b,hb⟩:∃b,f.blocks[k]?=some b:=⟨f.blocks[k]'(by omega),List.getElem?_eq_getElem _⟩
    have hbm:=List.mem_of_getElem? hb
    have hend:=end_ok (hw.blk b hbm).fin
    have hto:b.term.to.length≤257:=by
     rcases (show(b.term.kind=0∨b.term.kind=4)∨b.term.kind=1∨b.term.kind=2∨b.term.kind=3 by have:=hend.kind;omega) with q | q | q | q
     ·rw [hend.to q];simp
     ·rw [hend.jump q];omega
     ·rw [hend.cond q];omega
     rw [hend.switch q];have:=hend.cases;omega
    rw [drop_at hb] at hke
    simp only [predL] at hke
    obtain⟨L1,hL1⟩:∃L1,L1=predB k ls b.term.to:=⟨_,rfl⟩
    rw [←hL1] at hke
    refine awp_seq (awp_block ?_)
    refine zg1 ?_
    simp -dsimp only [simprocAttr,↓vpre,zp,hb]
    refine za0 ?_
    refine awp_local 7 ([eIs b.params,eInss b.ins,aI b.term.kind,aI b.term.arg,aI b.term.n,eIs b.term.cases,eEdges b.term.to]) [(1,.ip none [aI f.name,eBlocks f.blocks]),(5,.ms 1 0 N N),(20,eBlocks f.blocks),(21,aI N),(22,aI k),(6,aI k),(7,.ip none [eIs b.params,eInss b.ins,aI b.term.kind,aI b.term.arg,aI b.term.n,eIs b.term.cases,eEdges b.term.to])] (by simp [putS,dropS,Go.Av.look]) (by rfl) (by omega) (by simp [putS,dropS,Go.Av.look]) ?_ ?_ ?_
    ·exact hup
    ·simp [AVal.upto,uptoL,aI_upto,Edge.map_upto,Ins.map_upto,Block.map_upto,hOl]
    refine zh1 (za0 ?_)
    refine awp_block (awp_loop (ι:={p:Nat×List (List Int)×List AObj // p.1≤b.term.to.length∧PO p.2.1 p.2.2∧p.2.1.length=N∧Bnd (k * 257+p.1) p.2.1∧L1=predB k p.2.1 (b.term.to.drop p.1)}) (fun p=>⟨50,[(1,.ip none [aI f.name,eBlocks f.blocks]),(5,.ms 1 0 N N),(20,eBlocks f.blocks),(21,aI N),(22,aI k),(6,aI k),(29,eEdges b.term.to),(30,aI b.term.to.length),(31,aI p.1.1)],p.1.2.2⟩) (fun p=>b.term.to.length - p.1.1) ⟨(0,ls,O),by simp,hp,hls,hbd,hL1⟩ ?_ ?_)
    ·refine zq rfl ?_ ?_
     simp -dsimp only [simprocAttr,↓vpre,zp,zc]
     all_goals rfl
    rintro⟨⟨z,ls,O⟩,hz,hp,hls,hbd,hze⟩
    simp only at hz hp hls hbd hze
    have hOl:=hp.len
    have hup:=hp.up
    refine zh1 (za0 ?_)
    apply zk1 rfl<;>intro h
    ·refine zb0 ?_
     have hlz:z<b.term.to.length:=by simpa using h
     obtain⟨e,he⟩:∃e,b.term.to[z]?=some e:=⟨b.term.to[z],by simp [hlz]⟩
     have hee:=(hend.edges e (List.mem_of_getElem? he)).1
     rw [drop_at he] at hze
     simp only [predB,List.foldl_cons] at hze
     obtain⟨j,hj⟩:∃j:Nat,e.block=(j:Int):=⟨e.block.toNat,by omega⟩
     have hjN:j<N:=by omega
     obtain⟨l,hl⟩:∃l,ls[j]?=some l:=⟨ls[j]'(by omega),List.getElem?_eq_getElem _⟩
     have hpe:predE k ls e=ls.set j (l++[(k:Int)]):=by simp [predE,hj,hl]
     rw [hpe] at hze
     have hget:=outC_get (b:=2) hl
     have hsp:=hp.sp j l hl
     have hpn:=hp.push hl k
     have hput:=outC_set (b:=2) (ls:=ls) (j:=j) (l++[(k:Int)])
     rw [List.map_append] at hput
     have hlb:=hbd l (List.mem_of_getElem? hl)
     have harr:=hp.arr
     have harr2:=at_set_ne (k:=1) (j:=2+j) (y:=.spare (l.length+1)) harr (by omega)
     refine awp_seq (awp_block ?_)
     refine zg1 ?_
     simp -dsimp only [simprocAttr,↓vpre,zp,he]
     refine za0 ?_
     refine awp_local 9 ([aI e.block,eIs e.args]) [(1,.ip none [aI f.name,eBlocks f.blocks]),(5,.ms 1 0 N N),(20,eBlocks f.blocks),(21,aI N),(22,aI k),(6,aI k),(29,eEdges b.term.to),(30,aI b.term.to.length),(31,aI z),(9,.ip none [aI e.block,eIs e.args])] (by simp [putS,dropS,Go.Av.look]) (by rfl) (by omega) (by simp [putS,dropS,Go.Av.look]) ?_ ?_ ?_
     ·exact hup
     ·simp [AVal.upto,uptoL,aI_upto,Edge.map_upto,Ins.map_upto,Block.map_upto,hOl]
     refine zg0 ?_
     simp -dsimp only [simprocAttr,↓vpre,zp,hj,harr,hget,hsp,harr2,hput,Int.toNat_natCast,Nat.mul_one,List.length_map,List.length_set]
     refine⟨by omega,by omega,by omega,by omega,by rw [outC_len];omega,?_⟩
     refine⟨orderB_ren [1,2+j] O.length [.pure,.pure,.pure,.pure,.pure,.pure,.pure,.rd 0,.pure,.pure,.wr 2 [1],.pure,.wr 2 [0]] (by simp;omega) (by simp;omega) rfl rfl (by kernel_rfl),at_intro ?_⟩
     simp -dsimp only [vend,ne_eq,Nat.reduceEqDiff,reduceCtorEq]
     have hput':(outC 2 ls).set j (.lst 1 (l.map aI++[.v (.int .i64 k)]) (.tok (2+j)))=outC 2 (ls.set j (l++[(k:Int)])):=hput
     rw [splice_one _ (by rw [outC_len];omega),hput']
     refine zh0 ?_
     repeat(refine⟨by omega,?_⟩)
     refine zl0 ?_
     refine⟨⟨(z+1,_,_),by simp only;omega,hpn,by simp [hls],hbd.push hl k,hze⟩,by simp;omega,?_⟩
     refine zq rfl ?_ ?_
     simp -dsimp only [simprocAttr,↓vpre,zp,zc]
     ·exact Sub.int (by simp)
     rfl
    refine awp_exit ?_
    simp -dsimp only [vend,ne_eq,Nat.reduceEqDiff,reduceCtorEq]
    have hzz:z=b.term.to.length:=by simp at h;omega
    subst hzz
    rw [List.drop_length] at hze
    simp only [predB,List.foldl_nil] at hze
    subst hze
    refine zh0 ?_
    repeat(refine⟨by omega,?_⟩)
    refine zl0 ?_
    refine⟨⟨(k+1,_,O),by simp only;omega,hp,hls,hbd.mono (by omega),hke⟩,by simp;omega,?_⟩
    refine zq rfl ?_ ?_
    simp -dsimp only [simprocAttr,↓vpre,zp,zc]
    ·exact Sub.int (by simp)
    rfl
   refine awp_exit ?_
   simp -dsimp only [vend,ne_eq,Nat.reduceEqDiff,reduceCtorEq]
   have hkk:k=N:=by simp at h;omega
   subst hkk
   rw [hN,List.drop_length] at hke
   simp only [predL] at hke
   subst hke
   have hshare:=outC_share 2 R
   have hcl:(outC 2 R).length=k:=by rw [outC_len,hls]
   refine awp_freeze1 5 1 (o:=.cells (outC 2 R)) (.lst 1 (R.map eIs) .sh) hp.arr (by simp [AObj.isSpare]) trivial rfl (FSub.ms (cs:=outC 2 R) hp.arr (by intro x hx;obtain⟨l,_,rfl⟩:=List.mem_map.1 hx;rfl) (by rw [List.length_map,hls]) (by rw [List.drop_zero,Nat.mul_one,←hcl,List.take_length,hshare])) ?_
   simp -dsimp only [simprocAttr,↓vpre,zp]
   refine zh1 (za0 ?_)
   refine awp_ret ?_
   simp -dsimp only [simprocAttr,↓vpre,zp,zr,Try.results38]
   simp only [uptoL,AVal.upto,and_true]
   rw [uptoL_iff]
   intro x hx
   obtain⟨l,_,rfl⟩:=List.mem_map.1 hx
   exact⟨aI_upto _ _,trivial⟩
  exact FSub.mp rfl rfl
 rw [if_neg hc]
 obtain⟨e,he⟩:∃e,e=checkFuncM f:=⟨_,rfl⟩
 rw [←he] at hc hck ⊢
 have hde:decide (e=0)=false:=decide_eq_false hc
 refine zf true 0 Try.func38 Try.ntmps38 ?_
 dsimp only [Tmp,TypeId,slotsOf]
 refine zh1 (za0 ?_)
 refine awp_freeze1 1 0 (.ip none [aI f.name,eBlocks f.blocks]) rfl (by simp [AObj.isSpare]) trivial rfl ?_ ?_
 rotate_left
 simp -dsimp only [simprocAttr,↓vpre,zp]
 ·refine zh2 ?_
  refine zi hck ?_
  refine za0 ?_
  refine zg1 ?_
  simp -dsimp only [simprocAttr,↓vpre,zp,hde]
  refine za0 ?_
  refine zw0 rfl ?_
  refine zh1 (za0 ?_)
  refine awp_ret ?_
  simp -dsimp only [simprocAttr,↓vpre,zp,zr,Try.results38]
  simp [uptoL,AVal.upto]
 exact FSub.mp rfl rfl
end Go.Proofs.Ytlclgfgmhnmnaaa
namespace Go.Av
theorem cert_buildSlice_os{P:Program}{tab:Tab}(hT:TabOK P tab){o:Oper}{σ:St}{t e:TypeId}{len:Nat}{parts:Array (Nat×Operand)}{ti te:TInfo}{ps:List (Nat×AVal)}{xs:List AVal}
  (ho:o.op=.buildSlice t len parts) (hd:∀d,o.dst=some d→d<σ.n) (ht:tab t=some ti) (hdesc:ti.desc=.slice e) (he:tab e=some te) (hpos:0<te.size) (hev:σ.evParts parts.toList=some ps) (hfl:∀p∈ps,p.2.flat)
  (hseq:seqParts 0 ps=some xs) (hlen:xs.length=len) (hsz:∀x∈xs,x.cells.length=te.size) (hsm:len * te.size≤2 ^ 24) (hz:len≠0):Cert P o σ (.os σ.objs.length len te.size) (.write (σ.objs++[.cells (cellsAll xs)])) :=
 Cert.ofRun hd fun base σ' a g hrel h ho'=>by
  have hO:g.objs=σ.objs:=ho'.resolve_left (by simp)
  have hg:=hrel.good
  have hpr:=evParts_rel (a:=a) (g:=g) (fun x hx y hy=>h x (by simpa [ho,Op.operands] using hx) y hy) hev hfl
  have hu:=slice_desc hT ht hdesc
  obtain⟨⟨i,z,h1,h2,h3,h4,h5,h6,h7,h8,h9⟩,_⟩:=hT e te he
  have hps:=seqParts_eq hseq
  have hsc:∀x∈xs,∀c∈x.cells,c.scalar:=by
   have aux:∀{ps:List (Nat×AVal)} {vs:List (Nat×Value)},PRel g ps vs→∀p∈ps,∀c∈p.2.cells,c.scalar:=by
    intro ps vs hr
    induction hr with
    | nil=>intro p hp;cases hp
    | cons hx hf r ih =>
     intro p hp
     rcases List.mem_cons.1 hp with hp | hp
     ·subst hp
      exact hx.cells_scalar hf
     exact ih p hp
   intro x hx c hc
   have hmem:∃k,(k,x)∈ps:=by
    obtain⟨k,hk⟩:=List.getElem?_of_mem hx
    refine⟨0+k,?_⟩
    rw [hps,List.mem_map]
    refine⟨(x,0+k),?_,rfl⟩
    rw [List.mem_iff_getElem?]
    exact⟨k,by simp [hk]⟩
   obtain⟨k,hk⟩:=hmem
   exact aux hpr _ hk c hc
  have hne:¬len * i.size=0:=by
   rw [h2]
   intro e0
   rcases Nat.mul_eq_zero.1 e0 with q | q<;>omega
  obtain⟨zs,hzs⟩:∃zs:Array Value,zs=(Array.range (len * i.size)).map (z.cells[· % z.cells.size]!):=⟨_,rfl⟩
  have hzsz:zs.size=len * te.size:=by rw [hzs];simp [h2]
  obtain⟨zc,hzc,hzr,hzl⟩:∃zc:List AVal,(∀c∈zc,c.scalar)∧RVs g zc zs∧zc.length=len * te.size:=by
   refine⟨(List.range (len * te.size)).map fun j=>te.zero.getD (j % te.size) (.v (.bool false)),fun c hc=>?_,⟨by simp [hzsz],fun j c u hj hju=>?_⟩,by simp⟩
   ·rw [List.mem_map] at hc
    obtain⟨j,_,e⟩:=hc
    subst e
    have hlt:j % te.size<te.zero.length:=by rw [h6];exact Nat.mod_lt _ hpos
    rw [List.getD_eq_getElem?_getD,List.getElem?_eq_getElem hlt]
    exact h9 _ (List.getElem_mem hlt)
   have hj':=lt_of_getElem? hj
   simp only [List.length_map,List.length_range] at hj'
   rw [List.getElem?_map,List.getElem?_range hj'] at hj
   simp only [Option.map_some,Option.some.injEq] at hj
   subst hj
   have hlt:j % te.size<te.zero.length:=by rw [h6];exact Nat.mod_lt _ hpos
   have hlt':j % te.size<z.cells.size:=by rw [h5];exact hlt
   rw [hzs] at hju
   simp only [Array.getElem?_map,h2,Array.getElem?_range,if_pos hj',Option.map_some,Option.some.injEq] at hju
   subst hju
   rw [List.getD_eq_getElem?_getD,List.getElem?_eq_getElem hlt]
   refine h8 g (j % te.size) _ _ (List.getElem?_eq_getElem hlt) ?_
   rw [h5,h6]
   simp [hlt']
  have hfill:∃cs',fillA (fun i=>some (i * te.size,te.size)) zc ps=some cs':=by
   have aux:∀(ys:List AVal) (k:Nat) (cs:List AVal),(∀y∈ys,y.cells.length=te.size)→(k+ys.length) * te.size≤cs.length→∃cs',fillA (fun i=>some (i * te.size,te.size)) cs ((ys.zipIdx k).map fun p=>(p.2,p.1))=some cs':=by
    intro ys
    induction ys with
    | nil=>intro k cs _ _;exact⟨cs,rfl⟩
    | cons y ys ih =>
     intro k cs hy hl
     simp only [List.zipIdx_cons,List.map_cons,fillA]
     simp only [List.length_cons] at hl
     have hk1:(k+1) * te.size=k * te.size+te.size:=Nat.succ_mul k te.size
     have hmono:(k+1) * te.size≤(k+(ys.length+1)) * te.size:=Nat.mul_le_mul_right _ (by omega)
     have hc:y.cells.length=te.size∧k * te.size+te.size≤cs.length:=⟨hy y (by simp),by omega⟩
     rw [if_pos hc]
     refine ih (k+1) _ (fun z hz=>hy z (List.mem_cons_of_mem _ hz)) ?_
     rw [splice_length (by omega),show k+1+ys.length=k+(ys.length+1) by omega]
     exact hl
   rw [hps]
   exact aux xs 0 zc hsz (by rw [hzl,hlen,Nat.zero_add];exact Nat.le_refl _)
  obtain⟨cs',hcs'⟩:=hfill
  obtain⟨arr',q1,q2,_⟩:=fill_spec (fun i=>some (i * te.size,te.size)) hpr hzr hcs'
  obtain⟨e1,_⟩:=fillA_seq xs 0 zc cs' (by rw [←hps];exact hcs') (by rw [hzl,hlen,Nat.zero_add];exact Nat.le_refl _)
  have e2:cs'=cellsAll xs:=by
   rw [e1]
   simp only [Nat.zero_mul,List.take_zero,List.nil_append,Nat.zero_add]
   rw [List.drop_of_length_le (by rw [hzl,hlen];omega),List.append_nil]
  subst e2
  have hrun:(Instr.buildSlice t len (parts.map fun(i,x)=>(i,a.eval x))).run P g.w=.ok (.slice (some ⟨g.w.heap.size,0,none⟩) len len) (g.w.alloc (.cells arr' e)):=by
   have hbig:¬len * i.size > 2 ^ 24:=by rw [h2];omega
   rw [hzs,←h2] at q1
   have q1':Instr.fill (fun i_1=>some (i_1 * i.size,i.size)) ((Array.range (len * i.size)).map (z.cells[· % z.cells.size]!)) (parts.map fun(i,x)=>(i,a.eval x)).toList=some arr':=by
    rw [Array.toList_map]
    exact q1
   simp only [Instr.buildSlice,run_underlying hu,Go.sizeOf,typeInfo,Go.zeroValue,Sem.run_bind,run_program,Result.andThen_ok,h1,Sem.run_pure,Go.newRow]
   rw [if_neg hbig,if_neg hne]
   simp only [Sem.run_bind,Sem.run_pure,Result.andThen_ok,run_program,h1,h4,q1',run_newObj]
   rfl
  have hle:=Le.alloc hg (.cells arr' e) 0 (.cells (cellsAll xs))
  have hsize:arr'.size=len * te.size:=by
   rw [q2.1,←hlen]
   have:∀ys:List AVal,(∀y∈ys,y.cells.length=te.size)→(cellsAll ys).length=ys.length * te.size:=fun ys=>by
    induction ys with
    | nil=>intro _;simp [cellsAll]
    | cons y ys ih =>
     intro hy
     have h1:=ih fun z hz=>hy z (by simp [hz])
     have h2:=hy y (by simp)
     simp only [cellsAll,List.flatMap_cons,List.length_append,List.length_cons] at h1 ⊢
     rw [h1,h2,Nat.succ_mul]
     omega
   exact this xs hsz
  have hscA:∀c∈cellsAll xs,c.scalar:=fun c hc=>by
   simp only [cellsAll,List.mem_flatMap] at hc
   obtain⟨x,hx,hc⟩:=hc
   exact hsc x hx c hc
  refine⟨.slice (some ⟨g.w.heap.size,0,none⟩) len len,g.alloc (.cells arr' e) 0 (.cells (cellsAll xs)),.inl (by simp [execOp,ho,hrun,G.alloc]),hle,Good.alloc hg _ 0 _ (.inr rfl) ⟨_,e,rfl,by rw [q2.1];exact Nat.le_refl _,(q2.mono hle).2,hscA⟩,by simp [G.alloc,hO,Mode.post],?_⟩
  rw [←hO]
  exact .os (l:=⟨g.w.heap.size,0,arr'.size⟩) (env_new hg) objs_new (by simp [AObj.isSpare]) (Nat.le_refl _) (by rw [hsize];exact Nat.le_refl _) (by
   have:len≤len * te.size:=Nat.le_mul_of_pos_right _ hpos
   omega)
theorem FSub.os{O:List AObj}{id len sz:Nat}{cs xs:List AVal}(hid:O[id]?=some (.cells cs))(hsz:∀x∈xs,x.cells.length=sz)(hlen:xs.length=len)(hd:((cs.drop 0).take (len * sz)).map AVal.shareCell=cellsAll xs):FSub O id (.os id len sz) (.lst sz xs .sh):=fun g u l' hg hO he hle h=>by
 obtain⟨l,o1,cap',h1,h2,_,hlc,_,hmax,eu⟩:=h.os_inv
 subst eu
 rw [he] at h1
 simp only [Option.some.injEq] at h1
 subst h1
 have hid':g.objs[id]?=some (.cells cs):=by rw [hO];exact hid
 obtain⟨arr,t',hlo,hrow,hal,hcs,hcsc,_⟩:=hg.row hid' he
 subst hlen
 have key:∀(j:Nat) (c:AVal),(cellsAll xs)[j]?=some c→∃c',cs[0+j]?=some c'∧c'.shareCell=c:=fun j c hj=>by
  rw [←hd,List.getElem?_map,Option.map_eq_some_iff] at hj
  obtain⟨c',hj,e⟩:=hj
  have:=take_get hj
  rw [List.getElem?_drop] at this
  exact⟨c',this,e⟩
 refine .lst hsz (fun x hx c hc=>?_) hlc hmax (fun _=>rfl) (fun j=>arr.getD (0+j) undef) (fun j c hj=>?_) (fun j c hj=>?_) trivial
 ·have hmem:c∈cellsAll xs:=by
   simp only [cellsAll,List.mem_flatMap]
   exact⟨x,hx,hc⟩
  obtain⟨j,hj⟩:=List.getElem?_of_mem hmem
  obtain⟨c',hj',e⟩:=key j c hj
  subst e
  exact AVal.scalar_shareCell (hcsc c' (List.mem_of_getElem? hj'))
 ·obtain⟨c',hj',e⟩:=key j c hj
  have hlt:=lt_of_getElem? hj'
  refine⟨?_,freeze_own hg he hid' trivial _⟩
  show g.w.cell? _=_
  simp only
  rw [cell_of_row hrow]
  simp [Array.getD_eq_getD_getElem?,show j<arr.size by omega]
 obtain⟨c',hj',e⟩:=key j c hj
 have hlt:=lt_of_getElem? hj'
 subst e
 exact((hcs _ c' _ hj' (by simp [Array.getD_eq_getD_getElem?,show j<arr.size by omega])).mono hle).shareCell
theorem midOp_os{P:Program}{tab:Tab}{md:Md}(hT:TabOK P tab){o:Oper}{l2:List Oper}{Q:AEx→St→Prop}{σ:St}{t e:TypeId}{len d:Nat}{parts:Array (Nat×Operand)}{ti te:TInfo}{ps:List (Nat×AVal)}{xs:List AVal}
  (ho:o.op=.buildSlice t len parts) (hdst:o.dst=some d) (hd:d<σ.n) (ht:tab t=some ti) (hdesc:ti.desc=.slice e) (he:tab e=some te) (hpos:0<te.size) (hev:σ.evParts parts.toList=some ps) (hfl:∀p∈ps,p.2.flat)
  (hseq:seqParts 0 ps=some xs) (hlen:xs.length=len) (hsz:∀x∈xs,x.cells.length=te.size) (hsm:len * te.size≤2 ^ 24) (hz:len≠0)
  (h:vcOps P tab md l2 0 [] ⟨σ.n,putO o.dst (.os σ.objs.length len te.size) σ.slots,σ.objs++[.cells (cellsAll xs)]⟩ [] fun ρ _=>At ρ (Q .norm)):MidOp P tab md o l2 Q σ :=
 ⟨_,_,cert_buildSlice_os hT ho (fun d' e=>by rw [hdst] at e;cases e;exact hd) ht hdesc he hpos hev hfl hseq hlen hsz hsm hz,h⟩
end Go.Av
namespace Go.Proofs.Ytlclgfgmhnmnaaa
open Go.Av
def outV(oid:Nat)(l:List Int):AVal:=if l=[] then .lst 1 [] .ex else .os oid l.length 1
theorem cellsAll_v(x:Value):cellsAll [AVal.v x]=[AVal.v x]:=rfl
theorem cells_os'(id len sz:Nat):(AVal.os id len sz).cells=[AVal.os id len sz]:=rfl
theorem leave_nil{O:List AObj}(hup:∀o∈O,o.upto O.length)(h1:O[1]?=some (.cells [.lst 1 [] .ex]))(k:Int) :
  ECall Try.prog 84 O [aI k,.mp 1 0] (fun r O'=>r=.tup []∧O'=(O++[AObj.cells [aI k]]).set 1 (.cells [.os O.length 1 1])):=by
 have hl:=lt_of_getElem? h1
 have h1':∀X,(O++X)[1]?=some (.cells [.lst 1 [] .ex]):=fun X=>at_left h1
 have hkk:O.length≤O.length+1:=by omega
 refine ecall_of hT true (O.length+1) Try.func84 rfl (by kernel_rfl) (by simp [Try.ntmps84]) (by assumption) ?_
 show AWP Try.prog _ _ _ ⟨7,_,_⟩
 dsimp only [Tmp,TypeId,slotsOf]
 have htk:((O++[AObj.cells [AVal.v (.int .i64 k)]]).set 1 (.cells [.os O.length 1 1])).take (O.length+1)=(O++[AObj.cells [AVal.v (.int .i64 k)]]).set 1 (.cells [.os O.length 1 1]):=List.take_of_length_le (by simp)
 refine zs0 ?_
 simp -dsimp only [simprocAttr,↓vpre,zp,h1,h1',cellsAll_v,cells_os']
 refine⟨trivial,?_⟩
 refine at_intro ?_
 simp -dsimp only [simprocAttr,↓vpre,zp,zr,Try.results84,htk,List.length_set,List.length_append]
 exact⟨uptoO_set (uptoO_snoc (fun o ho=>AObj.upto_mono (by omega) (hup o ho)) ⟨trivial,trivial⟩) ⟨show _<_ by omega,trivial⟩,trivial⟩
theorem leave_os{O:List AObj}(hup:∀o∈O,o.upto O.length){oid:Nat}{l:List Int}(h1:O[1]?=some (.cells [.os oid l.length 1]))(h2:O[oid]?=some (.cells (l.map aI)))(ho:oid≠1)(hll:l.length≤1000)(k:Int) :
  ECall Try.prog 84 O [aI k,.mp 1 0] (fun r O'=>r=.tup []∧O'=(O.set oid .gone++[AObj.cells ((l++[k]).map aI)]).set 1 (.cells [.os O.length (l.length+1) 1])):=by
 have hl:=lt_of_getElem? h1
 have h1':∀X,(O.set oid .gone++X)[1]?=some (.cells [.os oid l.length 1]):=fun X=>at_left (at_set_ne h1 ho)
 have hkk:O.length≤O.length+1:=by omega
 refine ecall_of hT true (O.length+1) Try.func84 rfl (by kernel_rfl) (by simp [Try.ntmps84]) (by assumption) ?_
 show AWP Try.prog _ _ _ ⟨7,_,_⟩
 dsimp only [Tmp,TypeId,slotsOf]
 refine zs0 ?_
 simp -dsimp only [simprocAttr,↓vpre,zp,h1,h1',h2,cellsAll_v,cells_os']
 refine⟨by simp,by omega,by omega,?_⟩
 have hTT:(l.map aI).take (l.length * 1)=l.map aI:=List.take_of_length_le (by simp)
 have htk:((O.set oid .gone++[AObj.cells (l.map aI++[AVal.v (.int .i64 k)])]).set 1 (.cells [.os O.length (l.length+1) 1])).take (O.length+1)=(O.set oid .gone++[AObj.cells (l.map aI++[AVal.v (.int .i64 k)])]).set 1 (.cells [.os O.length (l.length+1) 1]):=List.take_of_length_le (by simp)
 refine⟨trivial,?_⟩
 refine at_intro ?_
 simp -dsimp only [simprocAttr,↓vpre,zp,zr,Try.results84,hTT,htk,List.length_set,List.length_append]
 refine⟨uptoO_set (uptoO_snoc (uptoO_set (fun o ho=>AObj.upto_mono (by omega) (hup o ho)) trivial) ?_) ⟨show _<_ by omega,trivial⟩,trivial,by simp⟩
 show uptoL _ _
 have:=aI_upto (O.length+1) (l++[k])
 simpa using this
end Go.Proofs.Ytlclgfgmhnmnaaa
namespace Go.Av

end Go.Av
namespace Go.Proofs.Ytlclgfgmhnmnaaa
open Go.Av
theorem eB_upto(n:Nat)(l:List Bool):uptoL n (l.map eB):=by
 rw [uptoL_iff]
 intro x hx
 obtain⟨b,_,rfl⟩:=List.mem_map.1 hx
 trivial
theorem falses_flat(n:Nat):(List.replicate n [AVal.v (.bool false)]).flatten=(List.replicate n false).map eB:=by
 induction n with
 | zero=>rfl
 | succ n ih=>rw [List.replicate_succ,List.flatten_cons,ih,List.replicate_succ];rfl
def putB(l:List Bool)(v:Int)(b:Bool):List Bool:=l.set v.toNat b
def putAll(l:List Bool)(vs:List Int):List Bool:=vs.foldl (fun s v=>putB s v true) l
def backI(i:Ins)(now:List Bool):List Bool:=putAll (putB now i.to false) i.args
def backM(l:List Ins)(now:List Bool):List Bool:=l.foldr backI now
structure Sr where
 seen:List Bool
 st:List (Int×Int)
 out:List Int
def toOf(f:Func)(b:Int):List Edge:=(blkOf f b).term.to
def nextOf(f:Func)(b e:Int):Int:=((toOf f b)[e.toNat]?.getD default).block
def srStep(f:Func)(S:Sr):Sr :=
 match S.st with
 | []=>S
 | (b,e)::r =>
  if e=(toOf f b).length then ⟨S.seen,r,S.out++[b]⟩
  else if S.seen[(nextOf f b e).toNat]?.getD false=true then ⟨S.seen,(b,e+1)::r,S.out⟩
  else ⟨S.seen.set (nextOf f b e).toNat true,(nextOf f b e,0)::(b,e+1)::r,S.out⟩
def srRun(f:Func):Nat→Sr→Sr
 | 0,S=>S
 | n+1,S=>if S.st.isEmpty then S else srRun f n (srStep f S)
def srStart(f:Func):Sr:=⟨(List.replicate f.blocks.length false).set 0 true,[(0,0)],[]⟩
def searchM(f:Func):List Int:=(srRun f 100000 (srStart f)).out
structure SrOK(f:Func)(S:Sr):Prop where
 len:S.seen.length=f.blocks.length
 blk:∀p∈S.st,0≤p.1∧p.1<f.blocks.length∧0≤p.2∧p.2≤(toOf f p.1).length
 few:S.out.length+S.st.length≤S.seen.countP id
 outs:∀b∈S.out,0≤b∧b<f.blocks.length
def stW:List (Int×Int)→Nat
 | []=>0
 | p::r=>(258 - p.2.toNat)+stW r
def srW(S:Sr):Nat:=300 * (S.seen.length - S.seen.countP id)+stW S.st
structure GrW(f:Func):Prop where
 ne:f.blocks≠[]
 few:f.blocks.length≤128
 to:∀b∈f.blocks,b.term.to.length≤257
 edges:∀b∈f.blocks,∀e∈b.term.to,1≤e.block∧e.block<f.blocks.length
theorem FnW.gr{f:Func}(h:FnW f):GrW f :=
 ⟨h.ne,h.few,fun b hb=>to_few (end_ok (h.blk b hb).fin),fun b hb e he=>by
  have:=((end_ok (h.blk b hb).fin).edges e he).1
  omega⟩
theorem GrW.next{f:Func}(h:GrW f){b e:Int}(hb:0≤b∧b<f.blocks.length)(h0:0≤e)(h1:e<(toOf f b).length):∃x,(toOf f b)[e.toNat]?=some x∧x.block=nextOf f b e∧1≤nextOf f b e∧nextOf f b e<f.blocks.length:=by
 have hlt:e.toNat<(toOf f b).length:=by omega
 have hx:(toOf f b)[e.toNat]?=some (toOf f b)[e.toNat]:=List.getElem?_eq_getElem hlt
 refine⟨_,hx,by rw [nextOf,hx];rfl,?_⟩
 have:=h.edges _ (blkOf_mem hb.1 hb.2) (toOf f b)[e.toNat] (List.getElem_mem hlt)
 rw [nextOf,hx]
 exact this
theorem countP_set_true{l:List Bool}{k:Nat}(hk:k<l.length)(h:l[k]?.getD false=false):(l.set k true).countP id=l.countP id+1:=by
 induction l generalizing k with
 | nil=>simp at hk
 | cons a r ih =>
  cases k with
  | zero =>
   simp only [List.getElem?_cons_zero,Option.getD_some] at h
   subst h
   simp
  | succ k =>
   simp only [List.getElem?_cons_succ] at h
   have:=ih (by simpa using hk) h
   simp only [List.set_cons_succ,List.countP_cons,this]
   omega
theorem srStep_ok{f:Func}(hg:GrW f){S:Sr}(h:SrOK f S)(hne:S.st≠[]):SrOK f (srStep f S)∧srW (srStep f S)<srW S:=by
 obtain⟨seen,st,out⟩:=S
 cases st with
 | nil=>exact absurd rfl hne
 | cons p r =>
  obtain⟨b,e⟩:=p
  obtain⟨h1,h2,h3,h4⟩:=h
  simp only at h1 h2 h3 h4
  have hp:=h2 (b,e) (by simp)
  simp only at hp
  have hto:(toOf f b).length≤257:=hg.to _ (blkOf_mem hp.1 hp.2.1)
  have hc:seen.countP id≤seen.length:=List.countP_le_length
  simp only [List.length_cons] at h3
  simp only [srStep]
  by_cases he:e=(toOf f b).length
  ·rw [if_pos he]
   refine⟨⟨h1,fun p hp=>h2 p (by simp [hp]),by simp only [List.length_append,List.length_cons,List.length_nil];omega,fun x hx=>?_⟩,?_⟩
   ·rcases List.mem_append.1 hx with q | q
    ·exact h4 x q
    simp only [List.mem_singleton] at q
    subst q
    exact⟨hp.1,hp.2.1⟩
   simp only [srW,stW]
   omega
  rw [if_neg he]
  obtain⟨x,hx,hxb,hn1,hn2⟩:=hg.next ⟨hp.1,hp.2.1⟩ hp.2.2.1 (by omega)
  by_cases hs:seen[(nextOf f b e).toNat]?.getD false=true
  ·rw [if_pos hs]
   refine⟨⟨h1,fun p hpm=>?_,by simpa using h3,h4⟩,?_⟩
   ·rcases List.mem_cons.1 hpm with q | q
    ·subst q
     exact⟨hp.1,hp.2.1,by simp only;omega,by simp only;omega⟩
    exact h2 p (by simp [q])
   simp only [srW,stW]
   omega
  rw [if_neg hs]
  have hs':seen[(nextOf f b e).toNat]?.getD false=false:=by simpa using hs
  have hk:(nextOf f b e).toNat<seen.length:=by omega
  have hcs:=countP_set_true hk hs'
  have hcl:(seen.set (nextOf f b e).toNat true).countP id≤(seen.set (nextOf f b e).toNat true).length:=List.countP_le_length
  rw [List.length_set] at hcl
  refine⟨⟨by simpa using h1,fun p hpm=>?_,by simp only [List.length_cons,hcs];omega,h4⟩,?_⟩
  ·rcases List.mem_cons.1 hpm with q | q
   ·subst q
    exact⟨by simp only;omega,hn2,by simp,by simp⟩
   rcases List.mem_cons.1 q with q | q
   ·subst q
    exact⟨hp.1,hp.2.1,by simp only;omega,by simp only;omega⟩
   exact h2 p (by simp [q])
  simp only [srW,stW,List.length_set,hcs]
  omega
theorem srRun_ok{f:Func}(hg:GrW f):∀(n:Nat) (S:Sr),SrOK f S→srW S<n→SrOK f (srRun f n S)∧(srRun f n S).st=[]
 | 0,S,_,h=>by omega
 | n+1,S,h,hw=>by
  simp only [srRun]
  cases hst:S.st with
  | nil=>simpa [hst] using h
  | cons p r =>
   simp only [List.isEmpty_cons,Bool.false_eq_true,if_false]
   have:=srStep_ok hg h (by rw [hst];simp)
   exact srRun_ok hg n _ this.1 (by omega)
theorem srStart_ok{f:Func}(hg:GrW f):SrOK f (srStart f)∧srW (srStart f)<100000:=by
 have hl:0<f.blocks.length:=by
  cases hb:f.blocks with
  | nil=>exact absurd hb hg.ne
  | cons=>simp
 have hfew:=hg.few
 have hc:((List.replicate f.blocks.length false).set 0 true).countP id=1:=by
  rw [countP_set_true (by simpa using hl) (by simp [hl])]
  simp [List.countP_replicate]
 refine⟨⟨by simp [srStart],fun p hp=>?_,by simp only [srStart,hc];simp,by simp [srStart]⟩,?_⟩
 ·simp only [srStart,List.mem_singleton] at hp
  subst hp
  exact⟨by simp,by simp;omega,by simp,by simp⟩
 simp only [srW,srStart,hc,List.length_set,List.length_replicate,stW]
 simp
 omega
def stkC:List (Int×Int)→List AVal
 | []=>[]
 | p::r=>stkC r++[aI p.1,aI p.2]
theorem stkC_len:∀l:List (Int×Int),(stkC l).length=l.length * 2
 | []=>rfl
 | p::r=>by
  simp only [stkC,List.length_append,stkC_len r,List.length_cons,List.length_nil]
  omega
theorem stkC_upto(n:Nat):∀l:List (Int×Int),uptoL n (stkC l)
 | []=>trivial
 | p::r=>by
  rw [uptoL_iff]
  intro x hx
  rcases List.mem_append.1 hx with q | q
  ·exact uptoL_iff.1 (stkC_upto n r) x q
  simp only [List.mem_cons,List.not_mem_nil,or_false] at q
  rcases q with rfl | rfl<;>trivial
structure So where
 S:Sr
 sid:Nat
 oid:Nat
 O:List AObj
def cellsAt(O:List AObj)(id:Nat):List AVal :=
 match O[id]? with
 | some (.cells cs)=>cs
 | _=>[]
def outPush(O:List AObj)(oid:Nat)(out:List Int)(b:Int):List AObj :=
 if out=[] then (O++[AObj.cells [aI b]]).set 1 (.cells [.os O.length 1 1])
 else (O.set oid .gone++[AObj.cells ((out++[b]).map aI)]).set 1 (.cells [.os O.length (out.length+1) 1])
def soStep(f:Func)(X:So):So :=
 match X.S.st with
 | []=>X
 | (b,e)::r =>
  if e=(toOf f b).length then ⟨srStep f X.S,X.sid,X.O.length,outPush X.O X.oid X.S.out b⟩
  else
   let cs:=(cellsAt X.O X.sid).set (r.length * 2+1) (aI (e+1))
   let O1:=X.O.set X.sid (.cells cs)
   if X.S.seen[(nextOf f b e).toNat]?.getD false=true then ⟨srStep f X.S,X.sid,X.oid,O1⟩
   else
    let O2:=O1.set 2 (.cells ((X.S.seen.set (nextOf f b e).toNat true).map eB))
    ⟨srStep f X.S,O2.length,X.oid,O2.set X.sid .gone++[AObj.cells (cs.take ((r.length+1) * 2)++[aI (nextOf f b e),aI 0])]⟩
def soRun(f:Func):Nat→So→So
 | 0,X=>X
 | n+1,X=>if X.S.st.isEmpty then X else soRun f n (soStep f X)
theorem soStep_S(f:Func)(X:So):(soStep f X).S=srStep f X.S:=by
 unfold soStep
 cases hst:X.S.st with
 | nil=>simp [srStep,hst]
 | cons p r =>
  simp only
  split
  ·rfl
  split<;>rfl
theorem soRun_S(f:Func):∀(n:Nat) (X:So),(soRun f n X).S=srRun f n X.S
 | 0,X=>rfl
 | n+1,X=>by
  simp only [soRun,srRun]
  split
  ·rfl
  rw [soRun_S f n,soStep_S]
structure SO(X:So):Prop where
 up:∀o∈X.O,o.upto X.O.length
 out:X.O[1]?=some (.cells [outV X.oid X.S.out])
 outs:X.S.out≠[]→X.O[X.oid]?=some (.cells (X.S.out.map aI))∧X.oid≠X.sid∧2<X.oid
 seen:X.O[2]?=some (.cells (X.S.seen.map eB))
 stk:∃junk,X.O[X.sid]?=some (.cells (stkC X.S.st++junk))
 sne:2<X.sid
theorem SO.step{f:Func}{X:So}(h:SO X):SO (soStep f X):=by
 obtain⟨⟨seen,st,out⟩,sid,oid,O⟩:=X
 obtain⟨h1,h2,h3,h4,⟨junk,h5⟩,h6⟩:=h
 simp only at h1 h2 h3 h4 h5 h6
 have l1:=lt_of_getElem? h2
 have l2:=lt_of_getElem? h4
 have l5:=lt_of_getElem? h5
 cases st with
 | nil=>exact⟨h1,h2,h3,h4,⟨junk,h5⟩,h6⟩
 | cons p r =>
  obtain⟨b,e⟩:=p
  simp only [soStep,srStep]
  by_cases he:e=(toOf f b).length
  ·rw [if_pos he,if_pos he]
   by_cases ho:out=[]
   ·subst ho
    simp only [outPush,if_true,List.nil_append]
    refine⟨?_,?_,fun _=>⟨?_,by simp only;omega,by simp only;omega⟩,?_,⟨[aI b,aI e]++junk,?_⟩,h6⟩
    ·have:=uptoO_set (n:=O.length+1) (k:=1) (x:=.cells [.os O.length 1 1]) (uptoO_snoc (fun o ho=>AObj.upto_mono (by omega) (h1 o ho)) (x:=.cells [aI b]) ⟨trivial,trivial⟩) ⟨show _<_ by omega,trivial⟩
     simpa using this
    ·simp only
     rw [List.getElem?_set_self (by simp;omega)]
     rfl
    ·simp only
     rw [List.getElem?_set_ne (by omega),List.getElem?_append_right (Nat.le_refl _)]
     simp
    ·simp only
     rw [List.getElem?_set_ne (by omega),List.getElem?_append_left l2]
     exact h4
    simp only
    rw [List.getElem?_set_ne (by omega),List.getElem?_append_left l5,h5]
    simp [stkC]
   obtain⟨k1,k2,k3⟩:=h3 ho
   have lo:=lt_of_getElem? k1
   simp only [outPush,if_neg ho]
   refine⟨?_,?_,fun _=>⟨?_,by simp only;omega,by simp only;omega⟩,?_,⟨[aI b,aI e]++junk,?_⟩,h6⟩
   ·have:=uptoO_set (n:=O.length+1) (k:=1) (x:=.cells [.os O.length (out.length+1) 1]) (uptoO_snoc (uptoO_set (k:=oid) (x:=.gone) (fun o ho=>AObj.upto_mono (by omega) (h1 o ho)) trivial) (x:=.cells ((out++[b]).map aI)) (aI_upto _ _)) ⟨show _<_ by omega,trivial⟩
    simpa using this
   ·simp only
    rw [List.getElem?_set_self (by simp;omega)]
    simp [outV]
   ·simp only
    rw [List.getElem?_set_ne (by omega),List.getElem?_append_right (by simp)]
    simp
   ·simp only
    rw [List.getElem?_set_ne (by omega),List.getElem?_append_left (by simpa using l2),List.getElem?_set_ne (by omega)]
    exact h4
   simp only
   rw [List.getElem?_set_ne (by omega),List.getElem?_append_left (by simpa using l5),List.getElem?_set_ne (by omega),h5]
   simp [stkC]
  rw [if_neg he,if_neg he]
  have hcs:(cellsAt O sid).set (r.length * 2+1) (aI (e+1))=stkC ((b,e+1)::r)++junk:=by
   simp only [cellsAt,h5,stkC]
   rw [List.append_assoc,List.set_append_right _ _ (by rw [stkC_len];omega),stkC_len,show r.length * 2+1 - r.length * 2=1 by omega]
   simp
  rw [hcs]
  have hju:uptoL O.length junk:=by
   rw [uptoL_iff]
   intro x hx
   have:=h1 _ (List.mem_of_getElem? h5)
   exact uptoL_iff.1 this x (List.mem_append.2 (.inr hx))
  have hcu:uptoL O.length (stkC ((b,e+1)::r)++junk):=by
   rw [uptoL_iff]
   intro x hx
   rcases List.mem_append.1 hx with q | q
   ·exact uptoL_iff.1 (stkC_upto _ _) x q
   exact uptoL_iff.1 hju x q
  by_cases hs:seen[(nextOf f b e).toNat]?.getD false=true
  ·rw [if_pos hs,if_pos hs]
   refine⟨?_,?_,fun ho=>?_,?_,⟨junk,?_⟩,h6⟩
   ·have:=uptoO_set (n:=O.length) (k:=sid) (x:=.cells (stkC ((b,e+1)::r)++junk)) h1 hcu
    simpa using this
   ·simp only
    rw [List.getElem?_set_ne (by omega)]
    exact h2
   ·obtain⟨k1,k2,k3⟩:=h3 ho
    refine⟨?_,k2,k3⟩
    simp only
    rw [List.getElem?_set_ne (fun q=>k2 q.symm)]
    exact k1
   ·simp only
    rw [List.getElem?_set_ne (by omega)]
    exact h4
   simp only
   rw [List.getElem?_set_self l5]
  rw [if_neg hs,if_neg hs]
  skip
  have htk:(stkC ((b,e+1)::r)++junk).take ((r.length+1) * 2)=stkC ((b,e+1)::r):=by
   rw [List.take_append_of_le_length (by rw [stkC_len];simp),List.take_of_length_le (by rw [stkC_len];simp)]
  rw [htk]
  refine⟨?_,?_,fun ho=>?_,?_,⟨[],?_⟩,?_⟩
  ·have a1:=uptoO_set (n:=O.length) (k:=sid) (x:=.cells (stkC ((b,e+1)::r)++junk)) h1 hcu
   have a2:=uptoO_set (k:=2) (x:=.cells ((seen.set (nextOf f b e).toNat true).map eB)) a1 (eB_upto _ _)
   have a3:=uptoO_set (k:=sid) (x:=.gone) a2 trivial
   have a4:=uptoO_snoc (n:=O.length+1) (x:=.cells (stkC ((b,e+1)::r)++[aI (nextOf f b e),aI 0])) (fun o ho=>AObj.upto_mono (by omega) (a3 o ho)) (by
    show uptoL _ _
    have:=stkC_upto (O.length+1) ((nextOf f b e,0)::(b,e+1)::r)
    exact this)
   simpa using a4
  ·simp only
   rw [List.getElem?_append_left (by simp;omega),List.getElem?_set_ne (by omega),List.getElem?_set_ne (by omega),List.getElem?_set_ne (by omega)]
   exact h2
  ·obtain⟨k1,k2,k3⟩:=h3 ho
   have lo:=lt_of_getElem? k1
   refine⟨?_,by simp;omega,k3⟩
   simp only
   rw [List.getElem?_append_left (by simpa using lo),List.getElem?_set_ne (fun q=>k2 q.symm),List.getElem?_set_ne (by omega),List.getElem?_set_ne (fun q=>k2 q.symm)]
   exact k1
  ·simp only
   rw [List.getElem?_append_left (by simpa using l2),List.getElem?_set_ne (by omega),List.getElem?_set_self (by simpa using l2)]
  ·simp only [List.length_set]
   rw [List.getElem?_append_right (by simp)]
   simp [stkC]
  simp
  omega
structure SmW(f:Func):Prop where
 few:f.blocks.length≤128
 params:∀b∈f.blocks,b.params.length≤4096
 ins:∀b∈f.blocks,b.ins.length≤1024
 iargs:∀b∈f.blocks,∀i∈b.ins,i.args.length≤16
 cases:∀b∈f.blocks,b.term.cases.length≤256
 to:∀b∈f.blocks,b.term.to.length≤257
 eargs:∀b∈f.blocks,∀e∈b.term.to,e.args.length≤4096
def edC(es:List Edge):List AVal:=es.flatMap fun e=>[aI e.block,eIs e.args]
def outX(id:Nat)(es:List Edge):AVal:=if es=[] then .lst 2 [] .ex else .os id es.length 2
def outE(id:Nat)(es:List Edge):AVal:=if es=[] then .lst 2 [] .sh else .os id es.length 2
def blC(id:Nat)(b:Block):List AVal:=[eIs b.params,eInss b.ins,aI b.term.kind,aI b.term.arg,aI b.term.n,eIs b.term.cases,outE id b.term.to]
def blsC(ids:List Nat)(bs:List Block):List AVal:=(List.zipWith blC ids bs).flatten
def outBl(id:Nat)(bs:List Block):AVal:=if bs=[] then .lst 7 [] .ex else .os id bs.length 7
theorem outX_share(id:Nat)(es:List Edge):(outX id es).shareCell=outE id es:=by
 unfold outX outE
 split<;>rfl
theorem outE_share(id:Nat)(es:List Edge):(outE id es).shareCell=outE id es:=by
 unfold outE
 split<;>rfl
theorem edC_snoc(es:List Edge)(e:Edge):edC (es++[e])=edC es++[aI e.block,eIs e.args]:=by simp [edC]
theorem edC_len(es:List Edge):(edC es).length=es.length * 2:=by
 induction es with
 | nil=>rfl
 | cons e r ih =>
  have:edC (e::r)=[aI e.block,eIs e.args]++edC r:=rfl
  rw [this,List.length_append,ih]
  simp only [List.length_cons,List.length_nil]
  omega
theorem edC_upto(n:Nat)(es:List Edge):uptoL n (edC es):=by
 rw [uptoL_iff]
 intro c hc
 simp only [edC,List.mem_flatMap] at hc
 obtain⟨e,_,hc⟩:=hc
 simp only [List.mem_cons,List.not_mem_nil,or_false] at hc
 rcases hc with rfl | rfl
 ·trivial
 exact⟨aI_upto _ _,trivial⟩
theorem edC_share(es:List Edge):(edC es).map AVal.shareCell=cellsAll (es.map Edge.enc):=by
 induction es with
 | nil=>rfl
 | cons e r ih =>
  have h1:edC (e::r)=[aI e.block,eIs e.args]++edC r:=rfl
  have h2:cellsAll ((e::r).map Edge.enc)=[aI e.block,eIs e.args]++cellsAll (r.map Edge.enc):=rfl
  rw [h1,h2,List.map_append,ih]
  rfl
theorem blsC_snoc{ids:List Nat}{bs:List Block}(h:ids.length=bs.length)(id:Nat)(b:Block):blsC (ids++[id]) (bs++[b])=blsC ids bs++blC id b:=by
 unfold blsC
 rw [List.zipWith_append h]
 simp
theorem blsC_len:∀{ids:List Nat} {bs:List Block},ids.length=bs.length→(blsC ids bs).length=bs.length * 7
 | [],[],_=>rfl
 | i::ids,b::bs,h=>by
  have e:blsC (i::ids) (b::bs)=blC i b++blsC ids bs:=rfl
  rw [e,List.length_append,blsC_len (by simpa using h)]
  simp only [blC,List.length_cons,List.length_nil]
  omega
 | [],b::bs,h=>by simp at h
 | i::ids,[],h=>by simp at h
theorem blC_upto{n id:Nat}(b:Block)(h:b.term.to≠[]→id<n):uptoL n (blC id b):=by
 refine⟨⟨aI_upto _ _,trivial⟩,⟨Ins.map_upto _ _,trivial⟩,trivial,trivial,trivial,⟨aI_upto _ _,trivial⟩,?_,trivial⟩
 unfold outE
 split
 ·exact⟨trivial,trivial⟩
 rename_i q
 exact h q
structure CpO(b0:Nat)(ids:List Nat)(bs:List Block)(O:List AObj):Prop where
 li:ids.length=bs.length
 own:∀(j id:Nat) (b:Block),ids[j]?=some id→bs[j]?=some b→b.term.to≠[]→b0≤id∧O[id]?=some (.cells (edC b.term.to))
 inj:∀(i j id:Nat) (b c:Block),ids[i]?=some id→ids[j]?=some id→bs[i]?=some b→bs[j]?=some c→b.term.to≠[]→c.term.to≠[]→i=j
structure CpS(f:Func)(done:List Block)(bid:Nat)(ids:List Nat)(O:List AObj):Prop where
 up:∀o∈O,o.upto O.length
 r0:O[0]?=some .gone
 r1:O[1]?=some (.cells [aI 0,.lst 7 [] .ex])
 r3:O[3]?=some (.cells [aI 0,.lst 7 [] .ex])
 out:O[4]?=some (.cells [aI f.name,outBl bid done])
 blk:done≠[]→5≤bid∧O[bid]?=some (.cells (blsC ids done))
 cp:CpO 5 ids done O
 ne:∀(j id:Nat) (b:Block),ids[j]?=some id→done[j]?=some b→b.term.to≠[]→id≠bid
theorem blsC_upto{n:Nat}:∀{ids:List Nat} {bs:List Block},(∀(j id:Nat) (b:Block),ids[j]?=some id→bs[j]?=some b→b.term.to≠[]→id<n)→uptoL n (blsC ids bs):=by
 intro ids bs h
 rw [uptoL_iff]
 intro c hc
 unfold blsC at hc
 obtain⟨l,hl,hc⟩:=List.mem_flatten.1 hc
 obtain⟨j,hj⟩:=List.mem_iff_getElem?.1 hl
 rw [List.getElem?_zipWith] at hj
 cases h1:ids[j]? with
 | none=>rw [h1] at hj;cases hj
 | some id =>
  cases h2:bs[j]? with
  | none=>rw [h1,h2] at hj;cases hj
  | some b =>
   rw [h1,h2] at hj
   simp only [Option.some.injEq] at hj
   subst hj
   exact uptoL_iff.1 (blC_upto b (h j id b h1 h2)) c hc
theorem CpS.snoc{f:Func}{done:List Block}{bid:Nat}{ids:List Nat}{O O1:List AObj}(h:CpS f done bid ids O){b:Block}{tid:Nat}(hlen:O.length≤O1.length)(hup:∀o∈O1,o.upto O1.length)
  (hsame:∀k,k<O.length→(done≠[]→k≠bid)→O1[k]?=O[k]?) (ht:b.term.to≠[]→O.length≤tid∧O1[tid]?=some (.cells (edC b.term.to))) {cs ar:List AVal} (hcs:cs=blsC (ids++[tid]) (done++[b])) (har:ar=[aI f.name,.os O1.length (done.length+1) 7]) :
  CpS f (done++[b]) O1.length (ids++[tid]) ((O1++[AObj.cells cs]).set 4 (.cells ar)):=by
 have h4:=lt_of_getElem? h.out
 have hli:=h.cp.li
 have hkeep:∀k,k<O.length→k≠4→(done≠[]→k≠bid)→((O1++[AObj.cells cs]).set 4 (.cells ar))[k]?=O[k]?:=fun k hk hk4 hkb=>by
  rw [List.getElem?_set_ne (Ne.symm hk4),List.getElem?_append_left (by omega),hsame k hk hkb]
 have hb5:done≠[]→5≤bid:=fun q=>(h.blk q).1
 have hids:∀(j id:Nat) (c:Block),(ids++[tid])[j]?=some id→(done++[b])[j]?=some c→(ids[j]?=some id∧done[j]?=some c)∨(j=ids.length∧id=tid∧c=b):=fun j id c h1 h2=>by
  by_cases hj:j<ids.length
  ·rw [List.getElem?_append_left hj] at h1
   rw [List.getElem?_append_left (by omega)] at h2
   exact .inl ⟨h1,h2⟩
  have hj1:=lt_of_getElem? h1
  rw [List.length_append,List.length_singleton] at hj1
  have hje:j=ids.length:=by omega
  subst hje
  rw [List.getElem?_append_right (Nat.le_refl _),Nat.sub_self] at h1
  rw [List.getElem?_append_right (by omega),←hli,Nat.sub_self] at h2
  simp only [List.getElem?_cons_zero,Option.some.injEq] at h1 h2
  exact .inr ⟨rfl,h1.symm,h2.symm⟩
 have hdn:∀(j id:Nat) (c:Block),ids[j]?=some id→done[j]?=some c→c.term.to≠[]→5≤id∧id<O.length∧O1[id]?=some (.cells (edC c.term.to)):=fun j id c h1 h2 h3=>by
  obtain⟨o1,o2⟩:=h.cp.own j id c h1 h2 h3
  have hl:=lt_of_getElem? o2
  refine⟨o1,hl,?_⟩
  rw [hsame id hl (fun _=>h.ne j id c h1 h2 h3)]
  exact o2
 have hown:∀(j id:Nat) (c:Block),(ids++[tid])[j]?=some id→(done++[b])[j]?=some c→c.term.to≠[]→5≤id∧id<O1.length∧O1[id]?=some (.cells (edC c.term.to)):=fun j id c h1 h2 h3=>by
  rcases hids j id c h1 h2 with⟨q1,q2⟩ | ⟨_,q2,q3⟩
  ·obtain⟨p1,p2,p3⟩:=hdn j id c q1 q2 h3
   exact⟨p1,by omega,p3⟩
  rw [q3] at h3 ⊢
  rw [q2]
  obtain⟨t1,t2⟩:=ht h3
  exact⟨by omega,lt_of_getElem? t2,t2⟩
 subst hcs
 subst har
 exact {
  up:=by
   intro o ho
   rw [List.length_set,List.length_append,List.length_singleton]
   rcases List.mem_or_eq_of_mem_set ho with q | q
   ·rcases List.mem_append.1 q with q | q
    ·exact AObj.upto_mono (by omega) (hup o q)
    rw [List.mem_singleton] at q
    subst q
    exact blsC_upto fun j id c h1 h2 h3=>by
     have:=(hown j id c h1 h2 h3).2.1
     omega
   subst q
   exact⟨trivial,show _<_ by omega,trivial⟩
  r0:=by rw [hkeep 0 (lt_of_getElem? h.r0) (by omega) (fun q=>by have:=hb5 q;omega)];exact h.r0
  r1:=by rw [hkeep 1 (lt_of_getElem? h.r1) (by omega) (fun q=>by have:=hb5 q;omega)];exact h.r1
  r3:=by rw [hkeep 3 (lt_of_getElem? h.r3) (by omega) (fun q=>by have:=hb5 q;omega)];exact h.r3
  out:=by
   rw [List.getElem?_set_self (by rw [List.length_append];omega)]
   have:outBl O1.length (done++[b])=.os O1.length (done.length+1) 7:=by
    unfold outBl
    rw [if_neg (by simp),List.length_append]
    rfl
   rw [this]
  blk:=fun _=>by
   refine⟨by omega,?_⟩
   rw [List.getElem?_set_ne (by omega),List.getElem?_append_right (Nat.le_refl _),Nat.sub_self]
   rfl
  cp:={
   li:=by rw [List.length_append,List.length_append,hli];rfl
   own:=fun j id c h1 h2 h3=>by
    obtain⟨p1,p2,p3⟩:=hown j id c h1 h2 h3
    refine⟨p1,?_⟩
    rw [List.getElem?_set_ne (by omega),List.getElem?_append_left p2]
    exact p3
   inj:=fun i j id c d h1 h2 h3 h4 h5 h6=>by
    rcases hids i id c h1 h3 with⟨p1,p2⟩ | ⟨p1,p2,p3⟩
    ·rcases hids j id d h2 h4 with⟨q1,q2⟩ | ⟨q1,q2,q3⟩
     ·exact h.cp.inj i j id c d p1 q1 p2 q2 h5 h6
     have:=(hdn i id c p1 p2 h5).2.1
     rw [q3] at h6
     have:=(ht h6).1
     omega
    rcases hids j id d h2 h4 with⟨q1,q2⟩ | ⟨q1,q2,q3⟩
    ·have:=(hdn j id d q1 q2 h6).2.1
     rw [p3] at h5
     have:=(ht h5).1
     omega
    omega }
  ne:=fun j id c h1 h2 h3=>by
   have:=(hown j id c h1 h2 h3).2.1
   omega }
structure CpI(O:List AObj)(cs:List AVal)(n:Nat)(O2:List AObj):Prop where
 len:O2.length=O.length+2
 up:∀o∈O2,o.upto O2.length
 keep:∀k,k<O.length→O2[k]?=O[k]?
 cell:O2[O.length]?=some (.cells cs)
 sp:O2[O.length+1]?=some (.spare n)
theorem CpI.start{O:List AObj}(hup:∀o∈O,o.upto O.length){cs:List AVal}(hcs:uptoL (O.length+2) cs):CpI O cs 0 (O++[.cells cs,.spare 0]) where
 len:=by simp
 up:=fun o ho=>by
  rw [List.length_append]
  rcases List.mem_append.1 ho with q | q
  ·exact AObj.upto_mono (by omega) (hup o q)
  simp only [List.mem_cons,List.not_mem_nil,or_false] at q
  rcases q with rfl | rfl
  ·exact hcs
  trivial
 keep:=fun k hk=>by rw [List.getElem?_append_left hk]
 cell:=by
  rw [List.getElem?_append_right (Nat.le_refl _),Nat.sub_self]
  rfl
 sp:=by
  rw [List.getElem?_append_right (by omega),show O.length+1 - O.length=1 by omega]
  rfl
theorem CpI.one{O:List AObj}{cs:List AVal}{n:Nat}{O2:List AObj}(h:CpI O cs n O2){cs':List AVal}(hcs:uptoL (O.length+2) cs'):CpI O cs' n (O2.set O.length (.cells cs')) where
 len:=by rw [List.length_set,h.len]
 up:=by
  rw [List.length_set]
  exact uptoO_set h.up (by rw [h.len];exact hcs)
 keep:=fun k hk=>by rw [List.getElem?_set_ne (by omega),h.keep k hk]
 cell:=by rw [List.getElem?_set_self (by rw [h.len];omega)]
 sp:=by rw [List.getElem?_set_ne (by omega),h.sp]
theorem CpI.room{O:List AObj}{cs:List AVal}{n:Nat}{O2:List AObj}(h:CpI O cs n O2)(m:Nat):CpI O cs m (O2.set (O.length+1) (.spare m)) where
 len:=by rw [List.length_set,h.len]
 up:=by
  rw [List.length_set]
  exact uptoO_set h.up trivial
 keep:=fun k hk=>by rw [List.getElem?_set_ne (by omega),h.keep k hk]
 cell:=by rw [List.getElem?_set_ne (by omega),h.cell]
 sp:=by rw [List.getElem?_set_self (by rw [h.len];omega)]
structure CpE(O:List AObj)(cs:AVal→List AVal)(tid:Nat)(es:List Edge)(O3:List AObj):Prop where
 len:O.length+2≤O3.length
 up:∀o∈O3,o.upto O3.length
 keep:∀k,k<O.length→O3[k]?=O[k]?
 cell:O3[O.length]?=some (.cells (cs (outX tid es)))
 own:es≠[]→O.length+2≤tid∧O3[tid]?=some (.cells (edC es))
theorem CpE.start{O:List AObj}{cs:AVal→List AVal}{n:Nat}{O2:List AObj}(h:CpI O (cs (.lst 2 [] .ex)) n O2):CpE O cs 0 [] O2 where
 len:=by rw [h.len];omega
 up:=h.up
 keep:=h.keep
 cell:=h.cell
 own:=fun q=>absurd rfl q
theorem CpE.push{O:List AObj}{cs:AVal→List AVal}{tid:Nat}{es:List Edge}{O3 O4:List AObj}(h:CpE O cs tid es O3)(e:Edge)(hcs:∀v n,v.upto n→O.length+2≤n→uptoL n (cs v))(hlen:O4.length=O3.length)(hup:∀o∈O4,o.upto O3.length)
  (hsame:∀k,(es≠[]→k≠tid)→O4[k]?=O3[k]?) {c a:List AVal} (hc:c=edC (es++[e])) (ha:a=cs (.os O3.length (es.length+1) 2)):CpE O cs O3.length (es++[e]) ((O4++[AObj.cells c]).set O.length (.cells a)):=by
 have hl:=h.len
 have hx:outX O3.length (es++[e])=.os O3.length (es.length+1) 2:=by
  unfold outX
  rw [if_neg (by simp),List.length_append]
  rfl
 subst hc
 subst ha
 exact {
  len:=by rw [List.length_set,List.length_append,hlen];omega
  up:=by
   intro o ho
   rw [List.length_set,List.length_append,List.length_singleton,hlen]
   rcases List.mem_or_eq_of_mem_set ho with q | q
   ·rcases List.mem_append.1 q with q | q
    ·exact AObj.upto_mono (by omega) (hup o q)
    rw [List.mem_singleton] at q
    subst q
    exact edC_upto _ _
   subst q
   exact hcs _ _ (show O3.length<O3.length+1 by omega) (by omega)
  keep:=fun k hk=>by
   rw [List.getElem?_set_ne (by omega),List.getElem?_append_left (by omega),hsame k (fun q=>by have:=(h.own q).1;omega),h.keep k hk]
  cell:=by
   rw [List.getElem?_set_self (by rw [List.length_append];omega),hx]
  own:=fun _=>by
   refine⟨by omega,?_⟩
   rw [List.getElem?_set_ne (by omega),List.getElem?_append_right (by omega),hlen,Nat.sub_self]
   rfl }
def CpR(f:Func)(r:AVal)(O:List AObj):Prop:=∃(ids:List Nat) (bid:Nat),r=.agg [aI f.name,.os bid f.blocks.length 7]∧(∀o∈O,o.upto O.length)∧O[0]?=some .gone∧O[1]?=some (.cells [aI 0,.lst 7 [] .ex]) ∧
 (5≤bid∧O[bid]?=some (.cells (blsC ids f.blocks)))∧CpO 5 ids f.blocks O∧∀(j id:Nat) (b:Block),ids[j]?=some id→f.blocks[j]?=some b→b.term.to≠[]→id≠bid
theorem copy_start(f:Func):CpS f [] 0 [] [.gone,.cells [aI 0,.lst 7 [] .ex],.gone,.cells [aI 0,.lst 7 [] .ex],.cells [aI f.name,.lst 7 [] .ex]] where
 up:=fun o ho=>by
  simp only [List.mem_cons,List.not_mem_nil,or_false] at ho
  rcases ho with rfl | rfl | rfl | rfl | rfl
  ·trivial
  ·exact⟨trivial,⟨trivial,trivial⟩,trivial⟩
  ·trivial
  ·exact⟨trivial,⟨trivial,trivial⟩,trivial⟩
  exact⟨trivial,⟨trivial,trivial⟩,trivial⟩
 r0:=rfl
 r1:=rfl
 r3:=rfl
 out:=rfl
 blk:=fun q=>absurd rfl q
 cp:=⟨rfl,fun j id b h=>by simp at h,fun i j id b c h=>by simp at h⟩
 ne:=fun j id b h=>by simp at h
theorem CpS.done{f:Func}{bid:Nat}{ids:List Nat}{O:List AObj}(h:CpS f f.blocks bid ids O)(hne:f.blocks≠[]){cs:List AVal}(hcs:uptoL O.length cs):CpR f (.agg [aI f.name,.os bid f.blocks.length 7]) (O.set 3 (.cells cs)):=by
 obtain⟨b1,b2⟩:=h.blk hne
 refine⟨ids,bid,rfl,?_,?_,?_,⟨b1,?_⟩,⟨h.cp.li,fun j id b q1 q2 q3=>?_,h.cp.inj⟩,h.ne⟩
 ·rw [List.length_set]
  exact uptoO_set h.up hcs
 ·rw [List.getElem?_set_ne (by omega)];exact h.r0
 ·rw [List.getElem?_set_ne (by omega)];exact h.r1
 ·rw [List.getElem?_set_ne (by omega)];exact b2
 obtain⟨o1,o2⟩:=h.cp.own j id b q1 q2 q3
 exact⟨o1,by rw [List.getElem?_set_ne (by omega)];exact o2⟩
def soStart(f:Func):So:=⟨srStart f,3,0,[.gone,.cells [.lst 1 [] .ex],.cells ((srStart f).seen.map eB),.cells [aI 0,aI 0]]⟩
theorem soStart_ok(f:Func):SO (soStart f) where
 up:=by
  intro o ho
  simp only [soStart,List.mem_cons,List.not_mem_nil,or_false] at ho
  rcases ho with rfl | rfl | rfl | rfl
  ·trivial
  ·exact⟨⟨trivial,trivial⟩,trivial⟩
  ·exact eB_upto _ _
  exact⟨trivial,trivial,trivial⟩
 out:=rfl
 outs:=fun h=>absurd rfl h
 seen:=rfl
 stk:=⟨[],rfl⟩
 sne:=by simp [soStart]
theorem search_spec(f:Func)(hg:GrW f) :
  ECall Try.prog 83 [.gone,.cells [.lst 1 [] .ex]] [f.enc,.fn (.func 84) [] [.mp 1 0]] (fun r O'=>r=.tup []∧O'=(soRun f 100000 (soStart f)).O):=by
 have hN128:=hg.few
 have hl:0<f.blocks.length:=by
  cases hb:f.blocks with
  | nil=>exact absurd hb hg.ne
  | cons=>simp
 obtain⟨N,hN⟩:∃N,N=f.blocks.length:=⟨_,rfl⟩
 obtain⟨F,hF⟩:∃F,F=soRun f 100000 (soStart f):=⟨_,rfl⟩
 rw [←hF]
 have hkk:[AObj.gone,AObj.cells [AVal.lst 1 [] .ex]].length≤F.O.length:=by
  have key:∀(n:Nat) (X:So),SO X→SO (soRun f n X):=fun n=>by
   induction n with
   | zero=>exact fun X h=>h
   | succ n ih =>
    intro X h
    simp only [soRun]
    split
    ·exact h
    exact ih _ h.step
  have:=lt_of_getElem? (key 100000 _ (soStart_ok f)).out
  rw [←hF] at this
  simp only [List.length_cons,List.length_nil]
  omega
 refine ecall_of hT true (F.O.length) Try.func83 rfl (by kernel_rfl) (by simp [Try.ntmps83]) (by assumption) ?_
 show AWP Try.prog _ _ _ ⟨81,_,_⟩
 dsimp only [Tmp,TypeId,slotsOf]
 refine zh1 (za0 ?_)
 refine awp_freeze1 2 2 (.ip none [aI f.name,eBlocks f.blocks]) rfl (by simp [AObj.isSpare]) trivial rfl ?_ ?_
 rotate_left
 simp -dsimp only [simprocAttr,↓vpre,zp]
 ·refine awp_trunc' 2 [(1,.fn (.func 84) [] [.mp 1 0]),(2,.ip none [aI f.name,eBlocks f.blocks])] (by simp) (by omega) [.gone,.cells [.lst 1 [] .ex]] ?_ ?_ ?_ ?_ ?_
  ·rfl
  ·simp [AObj.upto,uptoL,AVal.upto,aI_upto,Block.map_upto]
  ·simp [Says,St.get,putS,dropS,Go.Av.look,Sub.refl]
  ·simp [AObj.upto,uptoL,AVal.upto,aI_upto,Block.map_upto]
  refine zg1 ?_
  simp -dsimp only [simprocAttr,↓vpre,zp,falses_flat,←hN]
  refine⟨by omega,by omega,?_⟩
  refine za0 ?_
  refine zh1 ?_
  have hspl:splice ((List.replicate N false).map eB) 0 [.v (.bool true)]=(srStart f).seen.map eB:=by
   rw [splice_one _ (by simp;omega)]
   simp only [srStart,←hN,List.map_set]
   rfl
  refine⟨by omega,by simp;omega,?_⟩
  rw [hspl]
  refine za0 ?_
  refine awp_seq (awp_mid_op ⟨false,false⟩ hT 1 rfl rfl rfl (by simp) ?_)
  simp -dsimp only [simprocAttr,↓vpre,zp]
  refine midOp_os hT rfl rfl (by simp) rfl rfl rfl (by simp) rfl (by intro p hp;simp at hp;subst hp;trivial) rfl rfl (by intro x hx;simp at hx;subst hx;rfl) (by simp) (by simp) ?_
  simp -dsimp only [simprocAttr,↓vpre,zp]
  refine za0 ?_
  have hok0:=srStart_ok hg
  refine awp_block (awp_loop (ι:={X:So // SO X∧SrOK f X.S∧∃n,srW X.S<n∧F=soRun f n X}) (fun X=>⟨81,[(1,.fn (.func 84) [] [.mp 1 0]),(2,.ip none [aI f.name,eBlocks f.blocks]),(4,.ms 2 0 N N),(5,.os X.1.sid X.1.S.st.length 2)],X.1.O⟩) (fun X=>srW X.1.S) ⟨soStart f,soStart_ok f,hok0.1,100000,hok0.2,hF⟩ ?_ ?_)
  ·refine zq rfl ?_ ?_
   simp -dsimp only [simprocAttr,↓vpre,zp,zc]
   all_goals first | rfl | exact Sub.refl _
  rintro⟨X,hX,hS,n,hn,hnF⟩
  have hXs:=hX.step (f:=f)
  obtain⟨⟨seen,st,out⟩,sid,oid,O⟩:=X
  obtain⟨h1,h2,h3,h4,⟨junk,h5⟩,h6⟩:=id hX
  simp only at h1 h2 h3 h4 h5 h6 hn
  cases st with
  | nil =>
   refine zh2 (za0 ?_)
   refine zu0 rfl ?_
   refine awp_exit ?_
   simp -dsimp only [vend,ne_eq,Nat.reduceEqDiff,reduceCtorEq]
   have hFO:F.O=O:=by
    rw [hnF]
    cases n with
    | zero=>rfl
    | succ n=>rfl
   skip
   simp -dsimp only [simprocAttr,↓vpre,zp,zr,Try.results83]
   rw [hFO]
   exact⟨by simp,by rw [List.take_of_length_le (Nat.le_refl _)];exact h1,trivial,List.take_of_length_le (Nat.le_refl _)⟩
  | cons p r =>
   obtain⟨b,e⟩:=p
   have hstep:=srStep_ok hg hS (by simp)
   obtain⟨n,rfl⟩:∃n',n=n'+1:=⟨n - 1,by omega⟩
   have hnF':F=soRun f n (soStep f ⟨⟨seen,(b,e)::r,out⟩,sid,oid,O⟩):=hnF
   have hSs:=soStep_S f ⟨⟨seen,(b,e)::r,out⟩,sid,oid,O⟩
   have hp:=hS.blk (b,e) (by simp)
   simp only at hp
   have hstl:r.length≤128:=by
    have a1:=hS.few
    have a2:seen.countP id≤seen.length:=List.countP_le_length
    have a3:=hS.len
    simp only [List.length_cons] at a1 a3
    omega
   have hr2:((r.length+1:Nat):Int) - 1=(r.length:Nat):=by omega
   obtain⟨B,hB⟩:∃B,B=blkOf f b:=⟨_,rfl⟩
   have hBg:=blkOf_at hp.1 hp.2.1
   rw [←hB] at hBg
   have hto:toOf f b=B.term.to:=by rw [hB];rfl
   have hcb:(stkC ((b,e)::r)++junk)[r.length * 2]?=some (aI b):=by
    rw [stkC,List.append_assoc,List.getElem?_append_right (by rw [stkC_len];omega),stkC_len,Nat.sub_self]
    rfl
   have hce:(stkC ((b,e)::r)++junk)[r.length * 2+1]?=some (aI e):=by
    rw [stkC,List.append_assoc,List.getElem?_append_right (by rw [stkC_len];omega),stkC_len,show r.length * 2+1 - r.length * 2=1 by omega]
    rfl
   obtain⟨cs,hcs⟩:∃cs,cs=stkC ((b,e)::r)++junk:=⟨_,rfl⟩
   rw [←hcs] at hcb hce h5
   refine zh2 (za0 ?_)
   apply zk0 rfl<;>intro h
   ·refine zb0 ?_
    refine awp_block ?_
    refine zg1 ?_
    simp -dsimp only [simprocAttr,↓vpre,zp,hr2]
    repeat(refine⟨by omega,?_⟩)
    refine za0 ?_
    refine zg1 ?_
    simp -dsimp only [simprocAttr,↓vpre,zp,h5,hcb,hBg]
    repeat(refine⟨by omega,?_⟩)
    refine⟨ob (by kernel_rfl),?_⟩
    refine za0 ?_
    by_cases he:e=(toOf f b).length
    ·have hde:decide (e=(B.term.to.length:Int))=true:=decide_eq_true (by rw [he,hto])
     have hsr:srStep f ⟨seen,(b,e)::r,out⟩=⟨seen,r,out++[b]⟩:=by simp only [srStep];rw [if_pos he]
     have hso:soStep f ⟨⟨seen,(b,e)::r,out⟩,sid,oid,O⟩=⟨⟨seen,r,out++[b]⟩,sid,O.length,outPush O oid out b⟩:=by simp only [soStep];rw [if_pos he,hsr]
     rw [hso] at hXs hnF'
     simp only [hsr] at hstep
     have hlv:ECall Try.prog 84 O [aI b,.mp 1 0] (fun r' O'=>r'=.tup []∧O'=outPush O oid out b):=by
      unfold outPush
      by_cases ho:out=[]
      ·rw [if_pos ho]
       exact leave_nil h1 (by rw [h2,ho];rfl) b
      rw [if_neg ho]
      obtain⟨k1,k2,k3⟩:=h3 ho
      have a1:=hS.few
      have a2:seen.countP id≤seen.length:=List.countP_le_length
      have a3:=hS.len
      simp only at a1 a3
      exact leave_os h1 (by rw [h2,outV,if_neg ho]) k1 (by omega) (by omega) b
     refine zg2 ?_
     simp -dsimp only [simprocAttr,↓vpre,zp,h5,hce,hde]
     refine za0 ?_
     refine zw0 rfl ?_
     refine zg1 ?_
     simp -dsimp only [simprocAttr,↓vpre,zp,h5,hcb]
     refine .inr (.inl ⟨_,_,hlv,.inl (later_intro (zj ?_))⟩)
     refine za0 ?_
     refine zg1 ?_
     simp -dsimp only [simprocAttr,↓vpre,zp,hr2]
     repeat(refine⟨by omega,?_⟩)
     refine za0 ?_
     refine awp_exit ?_
     simp -dsimp only [vend,ne_eq,Nat.reduceEqDiff,reduceCtorEq]
     refine⟨⟨_,hXs,hstep.1,n,?_,hnF'⟩,?_,?_⟩
     ·have:=hstep.2
      simp only at this hn ⊢
      omega
     ·exact hstep.2
     refine zq rfl ?_ ?_
     simp -dsimp only [simprocAttr,↓vpre,zp,zc]
     all_goals rfl
    have hde:decide (e=(B.term.to.length:Int))=false:=decide_eq_false (by rw [←hto];exact he)
    obtain⟨x,hx,hxb,hn1,hn2⟩:=hg.next ⟨hp.1,hp.2.1⟩ hp.2.2.1 (by omega)
    rw [hto] at hx
    refine zg2 ?_
    simp -dsimp only [simprocAttr,↓vpre,zp,h5,hce,hde]
    refine za0 ?_
    refine zu0 rfl ?_
    refine zb0 ?_
    refine zg1 ?_
    simp -dsimp only [simprocAttr,↓vpre,zp,h5,hce,hx]
    repeat(refine⟨by omega,?_⟩)
    refine za0 ?_
    obtain⟨j,hj⟩:∃j:Nat,nextOf f b e=(j:Int):=⟨(nextOf f b e).toNat,by omega⟩
    have hjN:j<seen.length:=by
     have a3:=hS.len
     simp only at a3
     omega
    rw [hj] at hxb hn1 hn2
    obtain⟨sv,hsv⟩:∃sv,seen[j]?=some sv:=⟨seen[j],List.getElem?_eq_getElem hjN⟩
    have hsvm:(seen.map eB)[j]?=some (.v (.bool sv)):=by rw [List.getElem?_map,hsv];rfl
    have hcl:(r.length+1) * 2≤cs.length:=by
     rw [hcs,List.length_append,stkC_len]
     simp
    obtain⟨cs1,hcs1⟩:∃cs1,cs1=cs.set (r.length * 2+1) (aI (e+1)):=⟨_,rfl⟩
    have hspl:splice cs (r.length * 2+1) [.v (.int .i64 (e+1))]=cs1:=by rw [splice_one _ (by omega),hcs1]
    have hcl1:(r.length+1) * 2≤cs1.length:=by rw [hcs1,List.length_set];exact hcl
    obtain⟨O1,hO1⟩:∃O1,O1=O.set sid (.cells cs1):=⟨_,rfl⟩
    have g5:O1[sid]?=some (.cells cs1):=by rw [hO1];exact at_set h5
    have g4:O1[2]?=some (.cells (seen.map eB)):=by rw [hO1];exact at_set_ne h4 (by omega)
    have hcat:cellsAt O sid=cs:=by simp only [cellsAt,h5]
    have h257:(toOf f b).length≤257:=hg.to _ (blkOf_mem hp.1 hp.2.1)
    refine zg1 ?_
    simp -dsimp only [simprocAttr,↓vpre,zp,h5,hce]
    repeat(refine⟨by omega,?_⟩)
    refine za0 ?_
    rw [hspl,←hO1]
    cases sv with
    | true =>
     have hsr:srStep f ⟨seen,(b,e)::r,out⟩=⟨seen,(b,e+1)::r,out⟩:=by simp only [srStep];rw [if_neg he,hj,Int.toNat_natCast,hsv,if_pos (show(some true).getD false=true from rfl)]
     have hso:soStep f ⟨⟨seen,(b,e)::r,out⟩,sid,oid,O⟩=⟨⟨seen,(b,e+1)::r,out⟩,sid,oid,O1⟩:=by simp only [soStep];rw [if_neg he,hsr,hcat,hj,Int.toNat_natCast,hsv,if_pos (show(some true).getD false=true from rfl),←hcs1,hO1]
     rw [hso] at hXs hnF'
     simp only [hsr] at hstep
     refine zg1 ?_
     simp -dsimp only [simprocAttr,↓vpre,zp,g4,hxb,Int.toNat_natCast,hsvm,Nat.mul_one]
     repeat(refine⟨by omega,?_⟩)
     refine za0 ?_
     refine zu0 rfl ?_
     refine zn1 ?_
     refine⟨⟨_,hXs,hstep.1,n,?_,hnF'⟩,?_,?_⟩
     ·have:=hstep.2
      simp only at this hn ⊢
      omega
     ·exact hstep.2
     refine zq rfl ?_ ?_
     simp -dsimp only [simprocAttr,↓vpre,zp,zc]
     all_goals rfl
    | false =>
     have hsr:srStep f ⟨seen,(b,e)::r,out⟩=⟨seen.set j true,((j:Int),0)::(b,e+1)::r,out⟩:=by simp only [srStep];rw [if_neg he,hj,Int.toNat_natCast,hsv,if_neg (by simp)]
     obtain⟨O2,hO2⟩:∃O2,O2=O1.set 2 (.cells ((seen.set j true).map eB)):=⟨_,rfl⟩
     have k5:O2[sid]?=some (.cells cs1):=by rw [hO2];exact at_set_ne g5 (by omega)
     have hso:soStep f ⟨⟨seen,(b,e)::r,out⟩,sid,oid,O⟩=⟨⟨seen.set j true,((j:Int),0)::(b,e+1)::r,out⟩,O2.length,oid,O2.set sid .gone++[AObj.cells (cs1.take ((r.length+1) * 2)++[aI j,aI 0])]⟩:=by
      simp only [soStep]
      rw [if_neg he,hsr,hcat,hj,Int.toNat_natCast,hsv,if_neg (by simp),←hcs1,←hO1,←hO2]
     rw [hso] at hXs hnF'
     simp only [hsr] at hstep
     have hspl2:splice (seen.map eB) j [.v (.bool true)]=(seen.set j true).map eB:=by
      rw [splice_one _ (by simpa using hjN),List.map_set]
      rfl
     refine zg1 ?_
     simp -dsimp only [simprocAttr,↓vpre,zp,g4,hxb,Int.toNat_natCast,hsvm,Nat.mul_one]
     repeat(refine⟨by omega,?_⟩)
     refine za0 ?_
     refine zw0 rfl ?_
     refine zg1 ?_
     simp -dsimp only [simprocAttr,↓vpre,zp,g4,hxb,Int.toNat_natCast,Nat.mul_one]
     repeat(refine⟨by omega,?_⟩)
     refine za0 ?_
     rw [hspl2,←hO2]
     refine zg0 ?_
     simp -dsimp only [simprocAttr,↓vpre,zp,k5,hxb]
     repeat(refine⟨by omega,?_⟩)
     refine zl1 ?_
     refine⟨⟨_,hXs,hstep.1,n,?_,hnF'⟩,?_,?_⟩
     ·have:=hstep.2
      simp only at this hn ⊢
      omega
     ·exact hstep.2
     refine zq rfl ?_ ?_
     simp -dsimp only [simprocAttr,↓vpre,zp,zc]
     all_goals rfl
   exact af h (by omega)
 exact FSub.mp rfl rfl
def RevTo(l:List Int)(i:Nat)(m:List Int):Prop:=m.length=l.length∧∀k,k<l.length→m[k]?=if k<i∨l.length≤k+i then l[l.length - 1 - k]? else l[k]?
theorem revTo_zero(l:List Int):RevTo l 0 l:=⟨rfl,fun k hk=>by rw [if_neg (by omega)]⟩
theorem revTo_step{l m:List Int}{i:Nat}(h:RevTo l i m)(hi:2 * i+1<l.length){a b:Int}(ha:m[i]?=some a)(hb:m[l.length - 1 - i]?=some b):RevTo l (i+1) ((m.set i b).set (l.length - 1 - i) a):=by
 obtain⟨h1,h2⟩:=h
 refine⟨by simpa using h1,fun k hk=>?_⟩
 have e1:=h2 i (by omega)
 have e2:=h2 (l.length - 1 - i) (by omega)
 rw [if_neg (by omega)] at e1 e2
 rw [List.getElem?_set,List.getElem?_set]
 simp only [List.length_set]
 by_cases q1:l.length - 1 - i=k
 ·rw [if_pos q1,if_pos (by omega),if_pos (by omega),←ha,e1]
  congr 1
  omega
 rw [if_neg q1]
 by_cases q2:i=k
 ·rw [if_pos q2,if_pos (by omega),if_pos (by omega),←hb,e2,q2]
 rw [if_neg q2,h2 k hk]
 by_cases q3:k<i∨l.length≤k+i
 ·rw [if_pos q3,if_pos (by omega)]
 rw [if_neg q3,if_neg (by omega)]
theorem revTo_done{l m:List Int}{i:Nat}(h:RevTo l i m)(hi:l.length≤2 * i+1):m=l.reverse:=by
 obtain⟨h1,h2⟩:=h
 apply List.ext_getElem?
 intro k
 by_cases hk:k<l.length
 ·rw [h2 k hk,List.getElem?_reverse hk]
  split
  ·rfl
  congr 1
  omega
 rw [List.getElem?_eq_none (by omega),List.getElem?_eq_none (by simp;omega)]
theorem reverse_spec{O:List AObj}(hup:∀o∈O,o.upto O.length){oid:Nat}{l:List Int}(ho:O[oid]?=some (.cells (l.map aI)))(hll:l.length≤1000) :
  ECall Try.prog 85 O [.os oid l.length 1] (fun r O'=>r=.tup []∧O'=O.set oid (.cells (l.reverse.map aI))):=by
 have hol:=lt_of_getElem? ho
 have hsame:O.set oid (.cells (l.map aI))=O:=set_same ho
 have hgt:∀x,(O.set oid x)[oid]?=some x:=fun x=>List.getElem?_set_self hol
 have htk:∀m:List Int,(O.set oid (.cells (m.map aI))).take O.length=O.set oid (.cells (m.map aI)):=fun m=>take_set_len
 have hup2:∀m:List Int,∀o∈O.set oid (.cells (m.map aI)),o.upto O.length:=fun m=>uptoO_set hup (aI_upto _ _)
 refine zf true O.length Try.func85 Try.ntmps85 ?_
 dsimp only [Tmp,TypeId,slotsOf]
 refine zh1 ?_
 repeat(refine⟨by omega,?_⟩)
 refine za0 ?_
 refine awp_block (awp_loop (ι:={x:Nat×List Int // x.1≤l.length∧RevTo l x.1 x.2}) (fun x=>⟨28,[(0,.os oid l.length 1),(2,aI x.1.1),(3,aI ((l.length:Int) - 1 - x.1.1))],O.set oid (.cells (x.1.2.map aI))⟩) (fun x=>l.length - x.1.1) ⟨(0,l),by simp,revTo_zero l⟩ ?_ ?_)
 ·refine zq rfl ?_ ?_
  simp -dsimp only [simprocAttr,↓vpre,zp,zc]
  exact hsame.symm
 rintro⟨⟨i,m⟩,hi,hr⟩
 simp only at hi hr
 have hml:=hr.1
 refine zh2 (za0 ?_)
 apply zk0 rfl<;>intro h
 ·refine zb0 ?_
  have hlt:2 * i+1<l.length:=by
   have:=of_decide_eq_true h
   omega
  obtain⟨j,hj⟩:∃j,j=l.length - 1 - i:=⟨_,rfl⟩
  have hji:(l.length:Int) - 1 - i=(j:Nat):=by omega
  obtain⟨a,ha⟩:∃a,m[i]?=some a:=⟨m[i]'(by omega),List.getElem?_eq_getElem _⟩
  obtain⟨b,hb⟩:∃b,m[j]?=some b:=⟨m[j]'(by omega),List.getElem?_eq_getElem _⟩
  have hnext:=revTo_step hr hlt ha (by rw [←hj];exact hb)
  rw [←hj] at hnext
  have hma:(m.map aI)[i]?=some (aI a):=by rw [List.getElem?_map,ha];rfl
  have hmb:(m.map aI)[j]?=some (aI b):=by rw [List.getElem?_map,hb];rfl
  have hs1:splice (m.map aI) i [.v (.int .i64 b)]=(m.set i b).map aI:=by
   rw [splice_one _ (by simp;omega),List.map_set]
  have hs2:splice ((m.set i b).map aI) j [.v (.int .i64 a)]=((m.set i b).set j a).map aI:=by
   rw [splice_one _ (by simp;omega)]
   simp only [List.map_set]
  refine awp_seq (awp_block ?_)
  refine zg0 ?_
  simp -dsimp only [simprocAttr,↓vpre,zp,hgt,hji,hma,hmb,Int.toNat_natCast,Nat.mul_one,hs1,hs2,List.set_set,List.length_set]
  refine⟨by omega,by omega,by omega,by omega,by omega,by omega,?_⟩
  refine⟨orderB_ren [oid] O.length [.pure,.pure,.pure,.pure,.pure,.pure,.pure,.rd 0,.pure,.pure,.pure,.rd 0,.pure,.wr 1 [0],.pure,.wr 1 [0]] (by simp) (by simp;omega) rfl rfl (by kernel_rfl),at_intro ?_⟩
  simp -dsimp only [vend,ne_eq,Nat.reduceEqDiff,reduceCtorEq]
  refine zh0 ?_
  repeat(refine⟨by omega,?_⟩)
  refine zl0 ?_
  refine⟨⟨(i+1,_),by simp only;omega,hnext⟩,by simp;omega,?_⟩
  refine zq rfl ?_ ?_
  simp -dsimp only [simprocAttr,↓vpre,zp,zc]
  ·exact⟨Sub.int (by simp),Sub.int (by omega)⟩
  rfl
 refine awp_exit ?_
 simp -dsimp only [vend,ne_eq,Nat.reduceEqDiff,reduceCtorEq]
 have hge:l.length≤2 * i+1:=by
  have:=of_decide_eq_false h
  omega
 rw [revTo_done hr hge]
 skip
 simp -dsimp only [simprocAttr,↓vpre,zp,zr,Try.results85,htk,List.length_set]
 exact⟨hup2 _,trivial⟩
def orderM(f:Func):List Int:=(searchM f).reverse
def orderR(f:Func):AVal:=if checkFuncM f=0 then .tup [eIs (orderM f),aI 0] else .tup [eIs [],aI (checkFuncM f)]
theorem sr_out{f:Func}:∀(n:Nat) (S:Sr),(S.st=[]→S.out≠[])→(srRun f n S).st=[]→(srRun f n S).out≠[]
 | 0,S,h,he=>h he
 | n+1,S,h,he=>by
  simp only [srRun] at he ⊢
  cases hst:S.st with
  | nil =>
   rw [hst] at he
   simp only [List.isEmpty_nil,if_true] at he ⊢
   exact h hst
  | cons p r =>
   rw [hst] at he
   simp only [List.isEmpty_cons,Bool.false_eq_true,if_false] at he ⊢
   refine sr_out n _ (fun q=>?_) he
   obtain⟨b,e⟩:=p
   simp only [srStep,hst] at q ⊢
   split
   ·simp
   rename_i hne
   rw [if_neg hne] at q
   split at q<;>simp at q
theorem soRun_ok{f:Func}:∀(n:Nat) (X:So),SO X→SO (soRun f n X)
 | 0,X,h=>h
 | n+1,X,h=>by
  simp only [soRun]
  split
  ·exact h
  exact soRun_ok n _ h.step
theorem searchM_few{f:Func}(hg:GrW f):searchM f≠[]∧(searchM f).length≤128∧∀b∈searchM f,0≤b∧b<f.blocks.length:=by
 have h0:=srStart_ok hg
 have h1:=srRun_ok hg 100000 _ h0.1 h0.2
 have h2:=sr_out 100000 (srStart f) (fun q=>by simp [srStart] at q) h1.2
 have a1:=h1.1.few
 have a2:(srRun f 100000 (srStart f)).seen.countP id≤(srRun f 100000 (srStart f)).seen.length:=List.countP_le_length
 have a3:=h1.1.len
 have a4:=hg.few
 exact⟨h2,by unfold searchM;omega,h1.1.outs⟩
theorem aI_cellsAll(l:List Int):(l.map aI).map AVal.shareCell=cellsAll (l.map aI):=by
 induction l with
 | nil=>rfl
 | cons a r ih =>
  simp only [List.map_cons,cellsAll,List.flatMap_cons] at ih ⊢
  rw [ih]
  rfl
theorem order_spec(f:Func)(hfit:f.fit):PCall Try.prog 56 [f.enc] (orderR f):=by
 have hck:=checkFunc_spec f hfit
 unfold orderR
 by_cases hc:checkFuncM f=0
 ·rw [if_pos hc]
  rw [hc] at hck
  have hg:=(checkFunc_ok hfit hc).gr
  have hsr:=search_spec f hg
  obtain⟨f1,f2,_⟩:=searchM_few hg
  have hXS:(soRun f 100000 (soStart f)).S=srRun f 100000 (srStart f):=soRun_S f 100000 (soStart f)
  have hX:=soRun_ok (f:=f) 100000 _ (soStart_ok f)
  obtain⟨X,hXe⟩:∃X,X=soRun f 100000 (soStart f):=⟨_,rfl⟩
  rw [←hXe] at hsr hX hXS
  have hout:X.S.out=searchM f:=by rw [hXS];rfl
  unfold orderM
  obtain⟨l,hl⟩:∃l,l=searchM f:=⟨_,rfl⟩
  rw [←hl] at f1 f2 hout ⊢
  have h1:=hX.out
  rw [hout,outV,if_neg f1] at h1
  obtain⟨h2,h3,h4⟩:=hX.outs (by rw [hout];exact f1)
  rw [hout] at h2
  have hup:=hX.up
  obtain⟨S,sid,oid,O⟩:=X
  simp only at h1 h2 h3 h4 hup hsr
  have hrev:=reverse_spec hup h2 (by omega)
  have h1':(O.set oid (.cells (l.reverse.map aI)))[1]?=some (.cells [.os oid l.length 1]):=at_set_ne h1 (by omega)
  have h2':(O.set oid (.cells (l.reverse.map aI)))[oid]?=some (.cells (l.reverse.map aI)):=at_set h2
  refine zf true 0 Try.func56 Try.ntmps56 ?_
  dsimp only [Tmp,TypeId,slotsOf]
  refine zh1 (za0 ?_)
  refine awp_freeze1 1 0 (.ip none [aI f.name,eBlocks f.blocks]) rfl (by simp [AObj.isSpare]) trivial rfl ?_ ?_
  rotate_left
  simp -dsimp only [simprocAttr,↓vpre,zp]
  ·refine zh2 ?_
   refine zi hck ?_
   refine za0 ?_
   refine zh1 (za0 ?_)
   refine zu0 rfl ?_
   refine zb0 ?_
   refine zh1 (za0 ?_)
   refine zh1 ?_
   refine .inr (.inl ⟨_,_,hsr,.inl (later_intro (zj ?_))⟩)
   refine za0 ?_
   refine zg1 ?_
   simp -dsimp only [simprocAttr,↓vpre,zp,h1]
   refine .inr (.inl ⟨_,_,hrev,.inl (later_intro (zj ?_))⟩)
   refine za0 ?_
   refine zg1 ?_
   simp -dsimp only [simprocAttr,↓vpre,zp,h1']
   refine za0 ?_
   refine awp_freeze1 2 oid (o:=.cells (l.reverse.map aI)) (eIs l.reverse) h2' (by simp [AObj.isSpare]) trivial rfl (FSub.os (cs:=l.reverse.map aI) h2' ?_ ?_ ?_) ?_
   ·intro x hx
    obtain⟨c,_,rfl⟩:=List.mem_map.1 hx
    rfl
   ·simp
   ·rw [List.drop_zero,List.take_of_length_le (by simp)]
    exact aI_cellsAll _
   simp -dsimp only [simprocAttr,↓vpre,zp]
   refine awp_ret ?_
   simp -dsimp only [simprocAttr,↓vpre,zp,zr,Try.results56]
   exact⟨⟨aI_upto _ _,trivial⟩,trivial,trivial⟩
  exact FSub.mp rfl rfl
 rw [if_neg hc]
 obtain⟨e,he⟩:∃e,e=checkFuncM f:=⟨_,rfl⟩
 rw [←he] at hc hck ⊢
 have hde:decide (e=0)=false:=decide_eq_false hc
 refine zf true 0 Try.func56 Try.ntmps56 ?_
 dsimp only [Tmp,TypeId,slotsOf]
 refine zh1 (za0 ?_)
 refine awp_freeze1 1 0 (.ip none [aI f.name,eBlocks f.blocks]) rfl (by simp [AObj.isSpare]) trivial rfl ?_ ?_
 rotate_left
 simp -dsimp only [simprocAttr,↓vpre,zp]
 ·refine zh2 ?_
  refine zi hck ?_
  refine za0 ?_
  refine zg1 ?_
  simp -dsimp only [simprocAttr,↓vpre,zp,hde]
  refine za0 ?_
  refine zw0 rfl ?_
  refine zh1 (za0 ?_)
  refine awp_ret ?_
  simp -dsimp only [simprocAttr,↓vpre,zp,zr,Try.results56]
  simp [uptoL,AVal.upto]
 exact FSub.mp rfl rfl

def Edg(f:Func)(a b:Int):Prop:=∃x∈toOf f a,x.block=b
def StC(f:Func):List (Int×Int)→Prop
 | []=>True
 | [p]=>p.1=0
 | p::q::r=>Edg f q.1 p.1∧p.1≠0∧StC f (q::r)
theorem StC.tail{f:Func}{p:Int×Int}{r:List (Int×Int)}(h:StC f (p::r)):StC f r:=by
 cases r with
 | nil=>trivial
 | cons q r=>exact h.2.2
theorem StC.head{f:Func}{b e e':Int}{r:List (Int×Int)}(h:StC f ((b,e)::r)):StC f ((b,e')::r):=by
 cases r with
 | nil=>exact h
 | cons q r=>exact h
structure Jn(f:Func)(S:Sr):Prop where
 st:StC f S.st
 out:∀i v,S.out[i]?=some v→(v≠0∧∃a,Edg f a v∧((∃j,i<j∧S.out[j]?=some a)∨∃e,(a,e)∈S.st))∨(v=0∧S.st=[]∧i+1=S.out.length)
theorem Jn.step{f:Func}(hg:GrW f){S:Sr}(hS:SrOK f S)(h:Jn f S):Jn f (srStep f S):=by
 obtain⟨seen,st,out⟩:=S
 obtain⟨h1,h2⟩:=h
 simp only at h1 h2
 cases st with
 | nil=>exact⟨h1,h2⟩
 | cons p r =>
  obtain⟨b,e⟩:=p
  have hp:=hS.blk (b,e) (by simp)
  simp only at hp
  have hold:∀i v,out[i]?=some v→v≠0∧∃a,Edg f a v∧((∃j,i<j∧out[j]?=some a)∨∃e',(a,e')∈(b,e)::r):=fun i v hi=>by
   rcases h2 i v hi with q | ⟨_,q,_⟩
   ·exact q
   cases q
  simp only [srStep]
  split
  ·refine⟨h1.tail,fun i v hi=>?_⟩
   simp only at hi ⊢
   by_cases hlt:i<out.length
   ·rw [List.getElem?_append_left hlt] at hi
    obtain⟨q0,a,q1,q2⟩:=hold i v hi
    refine .inl ⟨q0,a,q1,?_⟩
    rcases q2 with⟨j,q2,q3⟩ | ⟨e',q2⟩
    ·exact .inl ⟨j,q2,by rw [List.getElem?_append_left (lt_of_getElem? q3)];exact q3⟩
    rcases List.mem_cons.1 q2 with q | q
    ·simp only [Prod.mk.injEq] at q
     exact .inl ⟨out.length,hlt,by rw [q.1];simp⟩
    exact .inr ⟨e',q⟩
   have hi':=lt_of_getElem? hi
   simp only [List.length_append,List.length_cons,List.length_nil] at hi'
   have:i=out.length:=by omega
   subst this
   simp at hi
   subst hi
   cases r with
   | nil=>exact .inr ⟨h1,rfl,by simp⟩
   | cons q r=>exact .inl ⟨h1.2.1,q.1,h1.1,.inr ⟨q.2,by simp⟩⟩
  rename_i he
  obtain⟨x,hx,hxb,hn1,hn2⟩:=hg.next ⟨hp.1,hp.2.1⟩ hp.2.2.1 (by omega)
  split
  ·refine⟨h1.head,fun i v hi=>.inl ?_⟩
   obtain⟨q0,a,q1,q2⟩:=hold i v hi
   refine⟨q0,a,q1,?_⟩
   rcases q2 with q2 | ⟨e',q2⟩
   ·exact .inl q2
   rcases List.mem_cons.1 q2 with q | q
   ·simp only [Prod.mk.injEq] at q
    exact .inr ⟨e+1,by simp [q.1]⟩
   exact .inr ⟨e',by simp [q]⟩
  refine⟨⟨⟨x,List.mem_of_getElem? hx,hxb⟩,by simp only;omega,h1.head⟩,fun i v hi=>.inl ?_⟩
  obtain⟨q0,a,q1,q2⟩:=hold i v hi
  refine⟨q0,a,q1,?_⟩
  rcases q2 with q2 | ⟨e',q2⟩
  ·exact .inl q2
  rcases List.mem_cons.1 q2 with q | q
  ·simp only [Prod.mk.injEq] at q
   exact .inr ⟨e+1,by simp [q.1]⟩
  exact .inr ⟨e',by simp [q]⟩
theorem Jn.run{f:Func}(hg:GrW f):∀(n:Nat) (S:Sr),SrOK f S→Jn f S→Jn f (srRun f n S)
 | 0,S,_,h=>h
 | n+1,S,hS,h=>by
  simp only [srRun]
  cases hst:S.st with
  | nil=>simpa [hst] using h
  | cons p r =>
   simp only [List.isEmpty_cons,Bool.false_eq_true,if_false]
   exact Jn.run hg n _ (srStep_ok hg hS (by rw [hst];simp)).1 (h.step hg hS)
theorem Jn.start(f:Func):Jn f (srStart f):=⟨rfl,fun i v h=>by simp [srStart] at h⟩
theorem order_law{f:Func}(hg:GrW f){n:Nat}{v:Int}(h:(orderM f)[n]?=some v):(n=0∧v=0)∨∃a,Edg f a v∧a∈(orderM f).take n:=by
 have h0:=srStart_ok hg
 have h1:=srRun_ok hg 100000 _ h0.1 h0.2
 have hJ:=Jn.run hg 100000 _ h0.1 (Jn.start f)
 have hn:=lt_of_getElem? h
 unfold orderM searchM at *
 generalize srRun f 100000 (srStart f)=S at *
 have hl:n<S.out.length:=by simpa using hn
 rw [List.getElem?_reverse hl] at h
 rcases hJ.out _ _ h with⟨_,a,q1,q2⟩ | ⟨q1,_,q3⟩
 ·rcases q2 with⟨j,q3,q4⟩ | ⟨e,q3⟩
  ·refine .inr ⟨a,q1,?_⟩
   have hj:=lt_of_getElem? q4
   have:(S.out.reverse)[S.out.length - 1 - j]?=some a:=by
    rw [List.getElem?_reverse (by omega),←q4]
    congr 1
    omega
   exact List.mem_of_getElem? (i:=S.out.length - 1 - j) (by rw [List.getElem?_take,if_pos (by omega)];exact this)
  rw [h1.2] at q3
  cases q3
 exact .inl ⟨by omega,q1⟩
theorem predE_mono{k:Nat}{ls:List (List Int)}{e:Edge}{j:Nat}{a:Int}(h:a∈ls[j]?.getD []):a∈(predE k ls e)[j]?.getD []:=by
 unfold predE
 by_cases q:e.block.toNat=j
 ·subst q
  by_cases hl:e.block.toNat<ls.length
  ·rw [List.getElem?_set_self hl]
   simp [h]
  rw [List.getElem?_eq_none (by omega)] at h
  simp at h
 rw [List.getElem?_set_ne q]
 exact h
theorem predB_mono{k:Nat}{j:Nat}{a:Int}:∀{es:List Edge} {ls:List (List Int)},a∈ls[j]?.getD []→a∈(predB k ls es)[j]?.getD []
 | [],_,h=>h
 | e::r,ls,h=>predB_mono (es:=r) (predE_mono h)
theorem predL_mono{j:Nat}{a:Int}:∀{bs:List Block} {k:Nat} {ls:List (List Int)},a∈ls[j]?.getD []→a∈(predL k ls bs)[j]?.getD []
 | [],_,_,h=>h
 | b::r,k,ls,h=>predL_mono (bs:=r) (predB_mono h)
theorem predB_new{k:Nat}:∀{es:List Edge} {ls:List (List Int)} {x:Edge},x∈es→x.block.toNat<ls.length→(k:Int)∈(predB k ls es)[x.block.toNat]?.getD []
 | [],_,_,h,_=>by cases h
 | e::r,ls,x,h,hl=>by
  show(k:Int)∈(predB k (predE k ls e) r)[x.block.toNat]?.getD []
  rcases List.mem_cons.1 h with q | q
  ·subst q
   apply predB_mono
   unfold predE
   rw [List.getElem?_set_self hl]
   simp
  exact predB_new q (by rw [predE_len];exact hl)
theorem predL_new:∀{bs:List Block} {k i:Nat} {ls:List (List Int)} {b:Block} {x:Edge},bs[i]?=some b→x∈b.term.to→x.block.toNat<ls.length→((k+i:Nat):Int)∈(predL k ls bs)[x.block.toNat]?.getD []
 | [],_,_,_,_,_,h,_,_=>by simp at h
 | c::r,k,i,ls,b,x,h,hx,hl=>by
  cases i with
  | zero =>
   simp only [List.getElem?_cons_zero,Option.some.injEq] at h
   subst h
   exact predL_mono (bs:=r) (predB_new hx hl)
  | succ i =>
   have:=predL_new (bs:=r) (k:=k+1) (i:=i) (ls:=predB k ls c.term.to) (by simpa using h) hx (by rw [predB_len];exact hl)
   rw [show k+(i+1)=k+1+i by omega]
   exact this
theorem edg_preds{f:Func}{a v:Int}(ha:0≤a∧a<f.blocks.length)(hv:0≤v∧v<f.blocks.length)(h:Edg f a v):a∈(predsM f)[v.toNat]?.getD []:=by
 obtain⟨x,hx,hxv⟩:=h
 have hb:=blkOf_at ha.1 ha.2
 have:=predL_new (bs:=f.blocks) (k:=0) (ls:=List.replicate f.blocks.length []) hb hx (by rw [hxv,List.length_replicate];omega)
 rw [hxv,Nat.zero_add,Int.toNat_of_nonneg ha.1] at this
 exact this
structure Nd(f:Func)(S:Sr):Prop where
 nd:(S.out++S.st.map (·.1)).Nodup
 seen:∀v,v∈S.out++S.st.map (·.1)↔(0≤v∧S.seen[v.toNat]?.getD false=true)
 outs:∀v∈S.out,∀x∈toOf f v,S.seen[x.block.toNat]?.getD false=true
 st:∀p∈S.st,∀(j:Nat) x,(j:Int)<p.2→(toOf f p.1)[j]?=some x→S.seen[x.block.toNat]?.getD false=true
theorem getD_set_mono{l:List Bool}{k j:Nat}(h:l[j]?.getD false=true):(l.set k true)[j]?.getD false=true:=by
 have hj:j<l.length:=by
  refine Classical.byContradiction fun q=>?_
  rw [List.getElem?_eq_none (by omega)] at h
  cases h
 by_cases e:k=j
 ·subst e
  rw [List.getElem?_set_self hj]
  rfl
 rw [List.getElem?_set_ne e]
 exact h
theorem Nd.step{f:Func}(hg:GrW f){S:Sr}(hS:SrOK f S)(h:Nd f S):Nd f (srStep f S):=by
 obtain⟨seen,st,out⟩:=S
 obtain⟨h1,h2,h3,h4⟩:=h
 simp only at h1 h2 h3 h4
 cases st with
 | nil=>exact⟨h1,h2,h3,h4⟩
 | cons p r =>
  obtain⟨b,e⟩:=p
  have hp:=hS.blk (b,e) (by simp)
  simp only at hp
  have hlen:=hS.len
  simp only at hlen
  simp only [srStep]
  split
  ·rename_i he
   refine⟨?_,fun v=>?_,fun v hv x hx=>?_,fun q hq=>h4 q (by simp [hq])⟩
   ·simp only [List.append_assoc,List.cons_append,List.nil_append]
    simpa using h1
   ·rw [←h2 v]
    simp only [List.append_assoc,List.cons_append,List.nil_append,List.map_cons]
   simp only at hv ⊢
   rcases List.mem_append.1 hv with q | q
   ·exact h3 v q x hx
   rw [List.mem_singleton.1 q] at hx
   obtain⟨j,hj⟩:=List.getElem?_of_mem hx
   have:=lt_of_getElem? hj
   exact h4 (b,e) (by simp) j x (by simp only;omega) hj
  rename_i he
  obtain⟨x,hx,hxb,hn1,hn2⟩:=hg.next ⟨hp.1,hp.2.1⟩ hp.2.2.1 (by omega)
  split
  ·rename_i hs
   refine⟨by simpa using h1,fun v=>by simpa using h2 v,h3,fun q hq j y hj hy=>?_⟩
   simp only at hq ⊢
   rcases List.mem_cons.1 hq with q' | q'
   ·subst q'
    simp only at hj hy
    by_cases hje:(j:Int)<e
    ·exact h4 (b,e) (by simp) j y hje hy
    have:j=e.toNat:=by omega
    subst this
    rw [hx] at hy
    simp only [Option.some.injEq] at hy
    subst hy
    rw [hxb]
    exact hs
   exact h4 q (by simp [q']) j y hj hy
  rename_i hs
  have hnw:nextOf f b e ∉ out++(b::r.map (·.1)):=fun hm=>by
   have:=(h2 (nextOf f b e)).1 (by simpa using hm)
   exact hs this.2
  have hk:(nextOf f b e).toNat<seen.length:=by omega
  refine⟨?_,fun v=>?_,fun v hv y hy=>getD_set_mono (h3 v hv y hy),fun q hq j y hj hy=>?_⟩
  ·simp only [List.map_cons] at h1 ⊢
   rw [List.nodup_append] at h1 ⊢
   simp only [List.mem_append,not_or] at hnw
   refine⟨h1.1,List.nodup_cons.2 ⟨hnw.2,h1.2.1⟩,fun a ha c hc=>?_⟩
   rcases List.mem_cons.1 hc with q | q
   ·subst q
    exact fun e=>hnw.1 (e ▸ ha)
   exact h1.2.2 a ha c q
  ·simp only [List.map_cons]
   have h2':=h2 v
   simp only [List.map_cons] at h2'
   by_cases e1:v=nextOf f b e
   ·subst e1
    rw [List.getElem?_set_self hk]
    simp
    omega
   have:v∈out++nextOf f b e::b::r.map (·.1)↔v∈out++(b::r.map (·.1)):=by
    simp only [List.mem_append,List.mem_cons,e1,false_or]
   rw [this,h2']
   by_cases h0:0≤v
   ·rw [List.getElem?_set_ne (by omega)]
   simp [h0]
  simp only at hq ⊢
  rcases List.mem_cons.1 hq with q' | q'
  ·subst q'
   simp only at hj
   omega
  rcases List.mem_cons.1 q' with q' | q'
  ·subst q'
   simp only at hj hy
   by_cases hje:(j:Int)<e
   ·exact getD_set_mono (h4 (b,e) (by simp) j y hje hy)
   have:j=e.toNat:=by omega
   subst this
   rw [hx] at hy
   simp only [Option.some.injEq] at hy
   subst hy
   rw [hxb,List.getElem?_set_self hk]
   rfl
  exact getD_set_mono (h4 q (by simp [q']) j y hj hy)
theorem Nd.run{f:Func}(hg:GrW f):∀(n:Nat) (S:Sr),SrOK f S→Nd f S→Nd f (srRun f n S)
 | 0,S,_,h=>h
 | n+1,S,hS,h=>by
  simp only [srRun]
  cases hst:S.st with
  | nil=>simpa [hst] using h
  | cons p r =>
   simp only [List.isEmpty_cons,Bool.false_eq_true,if_false]
   exact Nd.run hg n _ (srStep_ok hg hS (by rw [hst];simp)).1 (h.step hg hS)
theorem Nd.start{f:Func}(hg:GrW f):Nd f (srStart f):=by
 have hl:=List.length_pos_iff.2 hg.ne
 refine⟨by simp [srStart],fun v=>?_,fun v hv=>by simp [srStart] at hv,fun p hp j x hj=>?_⟩
 ·simp only [srStart,List.nil_append,List.map_cons,List.map_nil,List.mem_singleton]
  constructor
  ·intro e
   subst e
   refine⟨by omega,?_⟩
   rw [Int.toNat_zero,List.getElem?_set_self (by simpa using hl)]
   rfl
  rintro⟨h0,h⟩
  refine Classical.byContradiction fun q=>?_
  rw [List.getElem?_set_ne (by omega),List.getElem?_replicate] at h
  split at h<;>simp at h
 simp only [srStart,List.mem_singleton] at hp
 subst hp
 simp only at hj
 omega
theorem idxI_mem{l:List Int}{n:Int}:(0≤idxI l n↔n∈l)∧(0≤idxI l n→l[(idxI l n).toNat]?=some n):=by
 unfold idxI
 have hm:l.findIdx (· == n)<l.length↔n∈l:=by
  rw [List.findIdx_lt_length]
  simp
 by_cases h:l.findIdx (· == n)<l.length
 ·rw [if_pos h]
  refine⟨⟨fun _=>hm.1 h,fun _=>by omega⟩,fun _=>?_⟩
  have:=List.findIdx_getElem (w:=h)
  simp only [beq_iff_eq] at this
  rw [Int.toNat_natCast,List.getElem?_eq_getElem h,this]
 rw [if_neg h]
 exact⟨⟨fun q=>absurd q (by omega),fun q=>absurd (hm.2 q) h⟩,fun q=>absurd q (by omega)⟩
def plF(f:Func)(k:Int):Int:=idxI (orderM f) k
structure OrdW(f:Func):Prop where
 inj:∀a b,0≤plF f a→plF f a=plF f b→a=b
 zero:plF f 0=0
 at_:∀(i:Nat) v,(orderM f)[i]?=some v→plF f v=i
 get:∀v,0≤plF f v→(orderM f)[(plF f v).toNat]?=some v
 low:∀v,-1≤plF f v∧plF f v<(orderM f).length
 fwd:∀v,1≤plF f v→∃a,Edg f a v∧0≤plF f a∧plF f a<plF f v
 next:∀a b,0≤plF f a→Edg f a b→0≤plF f b
 range:∀v,0≤plF f v→0≤v∧v<f.blocks.length
 few:(orderM f).length≤128
 pos:0<(orderM f).length
theorem ord_w{f:Func}(hg:GrW f):OrdW f:=by
 obtain⟨g1,g2,g3⟩:=searchM_few hg
 have h0:=srStart_ok hg
 have h1:=srRun_ok hg 100000 _ h0.1 h0.2
 have hN:=Nd.run hg 100000 _ h0.1 (Nd.start hg)
 have hnd:(orderM f).Nodup:=by
  have:=hN.nd
  rw [h1.2] at this
  simp only [List.map_nil,List.append_nil] at this
  unfold orderM List.Nodup
  rw [List.pairwise_reverse]
  exact List.Pairwise.imp (fun h=>Ne.symm h) this
 have hmem:∀v,v∈orderM f↔v∈searchM f:=fun v=>by simp [orderM]
 have hne:0<(orderM f).length:=by
  have:orderM f≠[]:=by simpa [orderM] using g1
  exact List.length_pos_iff.2 this
 have hget:∀v,0≤plF f v→(orderM f)[(plF f v).toNat]?=some v:=fun v hv=>idxI_mem.2 hv
 have hat:∀(i:Nat) v,(orderM f)[i]?=some v→plF f v=i:=fun i v hi=>by
  have hm:v∈orderM f:=List.mem_of_getElem? hi
  have h2:=hget v (idxI_mem.1.2 hm)
  have h3:0≤plF f v:=idxI_mem.1.2 hm
  have:=(List.getElem?_inj (lt_of_getElem? h2) hnd).1 (h2.trans hi.symm)
  omega
 have hlow:∀v,-1≤plF f v∧plF f v<(orderM f).length:=fun v=>by
  unfold plF idxI
  split
  ·omega
  omega
 refine⟨fun a b ha e=>?_,?_,hat,hget,hlow,fun v hv=>?_,fun a b ha e=>?_,fun v hv=>?_,by simpa [orderM] using g2,hne⟩
 ·have h2:=hget a ha
  have h3:=hget b (by omega)
  rw [e,h3] at h2
  simpa using h2.symm
 ·have:(orderM f)[0]?=some (orderM f)[0]:=List.getElem?_eq_getElem hne
  rcases order_law hg this with⟨_,q⟩ | ⟨a,_,q⟩
  ·have:=hat 0 _ this
   rw [q] at this
   simpa using this
  simp at q
 ·have h2:=hget v (by omega)
  rcases order_law hg h2 with⟨q,_⟩ | ⟨a,q1,q2⟩
  ·omega
  obtain⟨j,hj⟩:=List.getElem?_of_mem q2
  rw [List.getElem?_take] at hj
  split at hj
  ·have:=hat j a hj
   exact⟨a,q1,by omega,by omega⟩
  cases hj
 ·have hm:a∈searchM f:=(hmem a).1 (idxI_mem.1.1 ha)
  obtain⟨x,hx,hxb⟩:=e
  have:=hN.outs a hm x hx
  rw [hxb] at this
  have hb:0≤b:=by
   have hra:=g3 a hm
   have:=hg.edges _ (blkOf_mem hra.1 hra.2) x hx
   omega
  have h3:=(hN.seen b).2 ⟨hb,this⟩
  rw [h1.2] at h3
  simp only [List.map_nil,List.append_nil] at h3
  exact idxI_mem.1.2 ((hmem b).2 h3)
 exact g3 v ((hmem v).1 (idxI_mem.1.1 hv))
def atI(l:List Int)(k:Int):Int:=l[k.toNat]?.getD (-1)
def plL(f:Func):List Int:=(List.range f.blocks.length).map fun(k:Nat)=>plF f k
theorem plL_at{f:Func}{k:Int}(h0:0≤k)(h1:k<f.blocks.length):(plL f)[k.toNat]?=some (plF f k):=by
 unfold plL
 rw [List.getElem?_map,List.getElem?_range (by omega)]
 simp only [Option.map_some,Option.some.injEq]
 congr 1
 omega
def meetM(P O:List Int):Nat→Int→Int→Int
 | 0,a,_=>a
 | n+1,a,b=>if a=b then a else if atI P b<atI P a then meetM P O n (atI O a) b else meetM P O n a (atI O b)
def predStep(P O:List Int)(next p:Int):Int:=if atI P p<0∨(p≠0∧atI O p<0) then next else if next<0 then p else meetM P O 300 next p
def nextM(P O:List Int)(ps:List Int):Int:=ps.foldl (predStep P O) (-1)
def predsAt(f:Func)(k:Int):List Int:=(predsM f)[k.toNat]?.getD []
structure Dm where
 over:List Int
 again:Bool
def dmStep(f:Func)(S:Dm)(z:Int):Dm:=if nextM (plL f) S.over (predsAt f z)≠atI S.over z then ⟨S.over.set z.toNat (nextM (plL f) S.over (predsAt f z)),true⟩ else S
def dmR(f:Func)(S:Dm):Dm:=((orderM f).drop 1).foldl (dmStep f) S
def dmI(f:Func):Nat→Dm→Dm
 | 0,S=>S
 | n+1,S=>if S.again then dmI f n (dmR f ⟨S.over,false⟩) else S
def dmS(f:Func):Dm:=⟨List.replicate f.blocks.length (-1),true⟩
def treeM(f:Func):List Int:=(dmI f 30000 (dmS f)).over
inductive Anc(O:List Int)(d:Int):Int→Prop
 | refl:Anc O d d
 | up {k:Int} (h:0≤atI O k) (a:Anc O d (atI O k)):Anc O d k
def Asg(O:List Int)(k:Int):Prop:=k=0∨0≤atI O k
structure Tr(f:Func)(O:List Int):Prop where
 len:O.length=f.blocks.length
 root:atI O 0=-1
 up:∀k,0≤atI O k→0≤plF f (atI O k)∧plF f (atI O k)<plF f k∧Asg O (atI O k)
 low:∀k,-1≤atI O k
theorem Anc.trans{O:List Int}{a b c:Int}(h1:Anc O a b)(h2:Anc O b c):Anc O a c:=by
 induction h2 with
 | refl=>exact h1
 | up h _ ih=>exact .up h ih
theorem Tr.asg{f:Func}(hw:OrdW f){O:List Int}(h:Tr f O){k:Int}(hk:Asg O k):0≤plF f k:=by
 rcases hk with q | q
 ·rw [q,hw.zero]
  omega
 have:=h.up k q
 omega
theorem Anc.pl{f:Func}(hw:OrdW f){O:List Int}(h:Tr f O){d k:Int}(hk:Asg O k)(ha:Anc O d k):plF f d≤plF f k∧0≤plF f d∧Asg O d∧(plF f d=plF f k→d=k):=by
 induction ha with
 | refl=>exact⟨Int.le_refl _,h.asg hw hk,hk,fun _=>rfl⟩
 | up hu _ ih =>
  have hup:=h.up _ hu
  obtain⟨h1,h2,h3,_⟩:=ih hup.2.2
  exact⟨by omega,h2,h3,fun e=>by omega⟩
theorem Anc.comp{O:List Int}{a d p:Int}(ha:Anc O a p)(hd:Anc O d p):Anc O a d∨Anc O d a:=by
 induction ha with
 | refl=>exact .inr hd
 | @up k h ha ih =>
  cases hd with
  | refl=>exact .inl (.up h ha)
  | up _ hd=>exact ih hd
theorem meet_ok{f:Func}(hw:OrdW f){O:List Int}(h:Tr f O):∀(n:Nat) (a b:Int),Asg O a→Asg O b→plF f a+plF f b<n →
  Anc O (meetM (plL f) O n a b) a∧Anc O (meetM (plL f) O n a b) b∧∀d,Anc O d a→Anc O d b→Anc O d (meetM (plL f) O n a b)
 | 0,a,b,ha,hb,hn=>by
  have:=h.asg hw ha
  have:=h.asg hw hb
  omega
 | n+1,a,b,ha,hb,hn=>by
  have pa:=h.asg hw ha
  have pb:=h.asg hw hb
  have ra:=hw.range a pa
  have rb:=hw.range b pb
  have ea:atI (plL f) a=plF f a:=by unfold atI;rw [plL_at ra.1 ra.2];rfl
  have eb:atI (plL f) b=plF f b:=by unfold atI;rw [plL_at rb.1 rb.2];rfl
  simp only [meetM]
  rw [ea,eb]
  split
  ·rename_i e
   subst e
   exact⟨.refl,.refl,fun d h _=>h⟩
  rename_i hne
  split
  ·rename_i hlt
   have hu:0≤atI O a:=by
    rcases ha with q | q
    ·rw [q,hw.zero] at hlt
     omega
    exact q
   obtain⟨u1,u2,u3⟩:=h.up a hu
   obtain⟨i1,i2,i3⟩:=meet_ok hw h n (atI O a) b u3 hb (by omega)
   refine⟨.up hu i1,i2,fun d d1 d2=>?_⟩
   cases d1 with
   | refl =>
    have:=(d2.pl hw h hb).1
    omega
   | up _ d1=>exact i3 d d1 d2
  rename_i hlt
  have hu:0≤atI O b:=by
   rcases hb with q | q
   ·rw [q,hw.zero] at hlt
    have:a=0:=hw.inj a 0 pa (by rw [hw.zero];omega)
    exact absurd (this.trans q.symm) hne
   exact q
  obtain⟨u1,u2,u3⟩:=h.up b hu
  obtain⟨i1,i2,i3⟩:=meet_ok hw h n a (atI O b) ha u3 (by omega)
  refine⟨i1,.up hu i2,fun d d1 d2=>?_⟩
  cases d2 with
  | refl =>
   have:=d1.pl hw h ha
   have:plF f b=plF f a:=by omega
   exact absurd (hw.inj b a pb this).symm hne
  | up _ d2=>exact i3 d d1 d2
theorem meet_ok'{f:Func}(hw:OrdW f){O:List Int}(h:Tr f O){a b:Int}(ha:Asg O a)(hb:Asg O b) :
  Anc O (meetM (plL f) O 300 a b) a∧Anc O (meetM (plL f) O 300 a b) b∧∀d,Anc O d a→Anc O d b→Anc O d (meetM (plL f) O 300 a b):=by
 have h1:=(hw.low a).2
 have h2:=(hw.low b).2
 have h3:=hw.few
 exact meet_ok hw h 300 a b ha hb (by omega)
theorem Asg.nn{f:Func}(hw:OrdW f){O:List Int}(h:Tr f O){k:Int}(hk:Asg O k):0≤k:=(hw.range k (h.asg hw hk)).1
theorem pred_asg{f:Func}(hw:OrdW f){O:List Int}(h:Tr f O){p:Int}(hp:0≤p∧p<f.blocks.length):(atI (plL f) p<0∨(p≠0∧atI O p<0))↔¬Asg O p:=by
 have ep:atI (plL f) p=plF f p:=by unfold atI;rw [plL_at hp.1 hp.2];rfl
 rw [ep]
 constructor
 ·rintro(q | ⟨q1,q2⟩) ha
  ·have:=h.asg hw ha
   omega
  rcases ha with r | r
  ·exact q1 r
  omega
 intro ha
 refine .inr ⟨fun e=>ha (.inl e),?_⟩
 exact Classical.byContradiction fun q=>ha (.inr (by omega))
theorem fold_ok{f:Func}(hw:OrdW f){O:List Int}(h:Tr f O):∀(ps:List Int) (acc:Int),(∀p∈ps,0≤p∧p<f.blocks.length)→(acc=-1∨Asg O acc) →
  (ps.foldl (predStep (plL f) O) acc=-1∧acc=-1∧∀p∈ps,¬Asg O p) ∨
  (Asg O (ps.foldl (predStep (plL f) O) acc)∧(acc≠-1→Anc O (ps.foldl (predStep (plL f) O) acc) acc)∧(∀p∈ps,Asg O p→Anc O (ps.foldl (predStep (plL f) O) acc) p) ∧
   ∀d,(acc≠-1→Anc O d acc)→(∀p∈ps,Asg O p→Anc O d p)→Anc O d (ps.foldl (predStep (plL f) O) acc))
 | [],acc,_,hacc=>by
  rcases hacc with q | q
  ·exact .inl ⟨q,q,by simp⟩
  refine .inr ⟨q,fun _=>.refl,by simp,fun d h1 _=>h1 ?_⟩
  have:=q.nn hw h
  omega
 | p::r,acc,hps,hacc=>by
  have hp:=hps p (by simp)
  have hr:∀p∈r,0≤p∧p<f.blocks.length:=fun q hq=>hps q (by simp [hq])
  rw [List.foldl_cons]
  by_cases ha:Asg O p
  ·have hnc:=fun q=>(pred_asg hw h hp).1 q ha
   have hs:predStep (plL f) O acc p=if acc<0 then p else meetM (plL f) O 300 acc p:=by
    unfold predStep
    rw [if_neg hnc]
   rcases hacc with q | q
   ·have hs':predStep (plL f) O acc p=p:=by rw [hs,if_pos (by omega)]
    rw [hs']
    rcases fold_ok hw h r p hr (.inr ha) with⟨_,i2,_⟩ | ⟨i1,i2,i3,i4⟩
    ·have:=ha.nn hw h
     omega
    have hpn:p≠-1:=by omega
    refine .inr ⟨i1,fun e=>absurd q e,fun x hx hxa=>?_,fun d _ h2=>i4 d (fun _=>h2 p (by simp) ha) fun x hx hxa=>h2 x (by simp [hx]) hxa⟩
    rcases List.mem_cons.1 hx with e | e
    ·subst e
     exact i2 hpn
    exact i3 x e hxa
   have hq:=q.nn hw h
   have hs':predStep (plL f) O acc p=meetM (plL f) O 300 acc p:=by rw [hs,if_neg (by omega)]
   rw [hs']
   obtain⟨m1,m2,m3⟩:=meet_ok' hw h q ha
   have hma:=(m1.pl hw h q).2.2.1
   rcases fold_ok hw h r _ hr (.inr hma) with⟨_,i2,_⟩ | ⟨i1,i2,i3,i4⟩
   ·have:=hma.nn hw h
    omega
   have hmn:meetM (plL f) O 300 acc p≠-1:=by have:=hma.nn hw h;omega
   refine .inr ⟨i1,fun _=>(i2 hmn).trans m1,fun x hx hxa=>?_,fun d h1 h2=>i4 d (fun _=>m3 d (h1 (by omega)) (h2 p (by simp) ha)) fun x hx hxa=>h2 x (by simp [hx]) hxa⟩
   rcases List.mem_cons.1 hx with e | e
   ·subst e
    exact(i2 hmn).trans m2
   exact i3 x e hxa
  have hs:predStep (plL f) O acc p=acc:=by
   unfold predStep
   rw [if_pos ((pred_asg hw h hp).2 ha)]
  rw [hs]
  rcases fold_ok hw h r acc hr hacc with⟨i1,i2,i3⟩ | ⟨i1,i2,i3,i4⟩
  ·refine .inl ⟨i1,i2,fun x hx=>?_⟩
   rcases List.mem_cons.1 hx with e | e
   ·subst e
    exact ha
   exact i3 x e
  refine .inr ⟨i1,i2,fun x hx hxa=>?_,fun d h1 h2=>i4 d h1 fun x hx hxa=>h2 x (by simp [hx]) hxa⟩
  rcases List.mem_cons.1 hx with e | e
  ·subst e
   exact absurd hxa ha
  exact i3 x e hxa
theorem predE_mem{k:Nat}{ls:List (List Int)}{e:Edge}{j:Nat}{a:Int}(h:a∈(predE k ls e)[j]?.getD []):a∈ls[j]?.getD []∨(a=k∧j=e.block.toNat):=by
 unfold predE at h
 by_cases q:e.block.toNat=j
 ·subst q
  by_cases hl:e.block.toNat<ls.length
  ·rw [List.getElem?_set_self hl] at h
   simp only [Option.getD_some,List.mem_append,List.mem_singleton] at h
   rcases h with h | h
   ·exact .inl h
   exact .inr ⟨h,rfl⟩
  rw [List.getElem?_eq_none (by simp;omega)] at h
  simp at h
 rw [List.getElem?_set_ne q] at h
 exact .inl h
theorem predB_mem{k:Nat}{j:Nat}{a:Int}:∀{es:List Edge} {ls:List (List Int)},a∈(predB k ls es)[j]?.getD []→a∈ls[j]?.getD []∨(a=k∧∃e∈es,j=e.block.toNat)
 | [],_,h=>.inl h
 | e::r,ls,h=>by
  have h:a∈(predB k (predE k ls e) r)[j]?.getD []:=h
  rcases predB_mem h with q | ⟨q1,x,q2,q3⟩
  ·rcases predE_mem q with q | ⟨q1,q2⟩
   ·exact .inl q
   exact .inr ⟨q1,e,by simp,q2⟩
  exact .inr ⟨q1,x,by simp [q2],q3⟩
theorem predL_mem{j:Nat}{a:Int}:∀{bs:List Block} {k:Nat} {ls:List (List Int)},a∈(predL k ls bs)[j]?.getD []→a∈ls[j]?.getD []∨∃(i:Nat) (b:Block),bs[i]?=some b∧a=(k+i:Nat)∧∃e∈b.term.to,j=e.block.toNat
 | [],_,_,h=>.inl h
 | b::r,k,ls,h=>by
  rw [predL] at h
  rcases predL_mem h with q | ⟨i,c,q1,q2,q3⟩
  ·rcases predB_mem q with q | ⟨q1,q2⟩
   ·exact .inl q
   exact .inr ⟨0,b,rfl,q1,q2⟩
  exact .inr ⟨i+1,c,q1,by rw [q2];congr 1;omega,q3⟩
theorem preds_edg{f:Func}(hg:GrW f){k p:Int}(hk:0≤k)(h:p∈predsAt f k):(0≤p∧p<f.blocks.length)∧Edg f p k:=by
 rcases predL_mem h with q | ⟨i,b,q1,q2,e,q3,q4⟩
 ·rw [List.getElem?_replicate] at q
  split at q<;>simp at q
 have hi:=lt_of_getElem? q1
 refine⟨by omega,e,?_,?_⟩
 ·have:blkOf f p=b:=by simp [blkOf,show p.toNat=i by omega,q1]
  rw [toOf,this]
  exact q3
 have:=hg.edges b (List.mem_of_getElem? q1) e q3
 omega
structure Dinv(f:Func)(i:Int)(O:List Int):Prop where
 tr:Tr f O
 asg:∀v,1≤plF f v→plF f v<i→0≤atI O v
 low:∀k,0≤atI O k→∀d,(∀p∈predsAt f k,Asg O p→Anc O d p)→Anc O d (atI O k)
 fwd:∀k,0≤atI O k→(plF f k<i∨i≤plF f (atI O k))→∃p∈predsAt f k,Asg O p∧plF f p<plF f k∧Anc O (atI O k) p
theorem atI_set{O:List Int}{z nx:Int}(hz:1≤z)(hl:z.toNat<O.length)(k:Int):atI (O.set z.toNat nx) k=if k=z then nx else atI O k:=by
 unfold atI
 by_cases e:k=z
 ·subst e
  rw [if_pos rfl,List.getElem?_set_self hl]
  rfl
 rw [if_neg e,List.getElem?_set_ne (by omega)]
theorem dinv_step{f:Func}(hg:GrW f)(hw:OrdW f){i:Int}{O:List Int}(h:Dinv f i O){z:Int}(hz:plF f z=i)(h1:1≤i) :
  0≤nextM (plL f) O (predsAt f z)∧0≤plF f (nextM (plL f) O (predsAt f z))∧(0≤atI O z→nextM (plL f) O (predsAt f z)=atI O z∨plF f (nextM (plL f) O (predsAt f z))<plF f (atI O z))∧Dinv f (i+1) (O.set z.toNat (nextM (plL f) O (predsAt f z))) ∧
  (∀p∈predsAt f z,Asg O p→Anc O (nextM (plL f) O (predsAt f z)) p):=by
 have hzr:=hw.range z (by omega)
 have hz1:1≤z:=by
  refine Classical.byContradiction fun q=>?_
  have:z=0:=by omega
  rw [this,hw.zero] at hz
  omega
 have hzl:z.toNat<O.length:=by rw [h.tr.len];omega
 have hps:∀p∈predsAt f z,0≤p∧p<f.blocks.length:=fun p hp=>(preds_edg hg (by omega) hp).1
 obtain⟨a,ha1,ha2,ha3⟩:=hw.fwd z (by omega)
 have har:=hw.range a ha2
 have hap:a∈predsAt f z:=edg_preds har ⟨by omega,hzr.2⟩ ha1
 have haa:Asg O a:=by
  by_cases e:a=0
  ·exact .inl e
  refine .inr (h.asg a ?_ (by omega))
  refine Classical.byContradiction fun q=>e (hw.inj a 0 ha2 (by rw [hw.zero];omega))
 have hfold:=fold_ok hw h.tr (predsAt f z) (-1) hps (.inl rfl)
 obtain⟨nx,hnx⟩:∃nx,nx=nextM (plL f) O (predsAt f z):=⟨_,rfl⟩
 rw [show(predsAt f z).foldl (predStep (plL f) O) (-1)=nx from hnx.symm] at hfold
 rw [←hnx]
 rcases hfold with⟨_,_,q⟩ | ⟨n1,_,n3,n4⟩
 ·exact absurd haa (q a hap)
 have n4:∀d,(∀p∈predsAt f z,Asg O p→Anc O d p)→Anc O d nx:=fun d=>n4 d (fun e=>absurd rfl e)
 have hnn:=n1.nn hw h.tr
 have hnp:=h.tr.asg hw n1
 have hnl:plF f nx<i:=by
  have:=(n3 a hap haa).pl hw h.tr haa
  omega
 have hmove:0≤atI O z→Anc O nx (atI O z):=fun hza=>h.low z hza nx n3
 obtain⟨O',hO'⟩:∃O',O'=O.set z.toNat nx:=⟨_,rfl⟩
 have hat:∀k,atI O' k=if k=z then nx else atI O k:=fun k=>by rw [hO'];exact atI_set hz1 hzl k
 rw [←hO']
 have hasg:∀k,Asg O k→Asg O' k:=fun k hk=>by
  rcases hk with q | q
  ·exact .inl q
  refine .inr ?_
  rw [hat]
  split
  ·exact hnn
  exact q
 have hasg':∀k,k≠z→Asg O' k→Asg O k:=fun k hk q=>by
  rcases q with q | q
  ·exact .inl q
  rw [hat,if_neg hk] at q
  exact .inr q
 have keepB:∀{d p},Asg O p→plF f p<i→Anc O d p→Anc O' d p:=fun {d p} hp hlt ha=>by
  induction ha with
  | refl=>exact .refl
  | @up k hk _ ih =>
   have hu:=h.tr.up k hk
   have hkz:k≠z:=fun e=>by rw [e] at hlt;omega
   have e:atI O' k=atI O k:=by rw [hat,if_neg hkz]
   refine .up (by rw [e];exact hk) ?_
   rw [e]
   exact ih hu.2.2 (by omega)
 have keepB':∀{d p},Asg O p→plF f p<i→Anc O' d p→Anc O d p:=fun {d p} hp hlt ha=>by
  induction ha with
  | refl=>exact .refl
  | @up k hk _ ih =>
   have hkz:k≠z:=fun e=>by rw [e] at hlt;omega
   have e:atI O' k=atI O k:=by rw [hat,if_neg hkz]
   rw [e] at hk ih
   have hu:=h.tr.up k hk
   exact .up hk (ih hu.2.2 (by omega))
 have keepA:∀{a p},Asg O p→i≤plF f a→Anc O a p→Anc O' a p:=fun {a p} hp hle ha=>by
  induction ha with
  | refl=>exact .refl
  | @up k hk ha ih =>
   have hu:=h.tr.up k hk
   have hp2:=ha.pl hw h.tr hu.2.2
   have hkz:k≠z:=fun e=>by rw [e] at hu hp2;omega
   have e:atI O' k=atI O k:=by rw [hat,if_neg hkz]
   refine .up (by rw [e];exact hk) ?_
   rw [e]
   exact ih hu.2.2
 have shrink:∀{d p},Asg O p→Anc O' d p→Anc O d p:=fun {d p} hp ha=>by
  induction ha with
  | refl=>exact .refl
  | @up k hk ha ih =>
   by_cases hkz:k=z
   ·subst hkz
    have e:atI O' k=nx:=by rw [hat,if_pos rfl]
    rw [e] at ha
    have hza:0≤atI O k:=by
     rcases hp with q | q
     ·omega
     exact q
    exact .up hza ((keepB' n1 hnl ha).trans (hmove hza))
   have e:atI O' k=atI O k:=by rw [hat,if_neg hkz]
   rw [e] at hk ih
   exact .up hk (ih (h.tr.up k hk).2.2)
 have htr:Tr f O':=by
  refine⟨by rw [hO',List.length_set];exact h.tr.len,by rw [hat,if_neg (by omega)];exact h.tr.root,fun k hk=>?_,fun k=>?_⟩
  ·rw [hat] at hk ⊢
   split
   ·rename_i e
    subst e
    exact⟨hnp,by omega,hasg _ n1⟩
   rename_i e
   rw [if_neg e] at hk
   have:=h.tr.up k hk
   exact⟨this.1,this.2.1,hasg _ this.2.2⟩
  rw [hat]
  split
  ·omega
  exact h.tr.low k
 refine⟨hnn,hnp,fun hza=>?_,⟨htr,fun v hv hvi=>?_,fun k hk d hd=>?_,fun k hk hc=>?_⟩,n3⟩
 ·have:=hmove hza
  have hu:=h.tr.up z hza
  have hp2:=this.pl hw h.tr hu.2.2
  by_cases e:plF f nx=plF f (atI O z)
  ·exact .inl (hp2.2.2.2 e)
  exact .inr (by omega)
 ·rw [hat]
  split
  ·exact hnn
  rename_i e
  refine h.asg v hv ?_
  refine Classical.byContradiction fun q=>e (hw.inj v z (by omega) (by omega))
 ·rw [hat]
  have hold:∀p∈predsAt f k,Asg O p→Anc O d p:=fun p hp hpa=>shrink hpa (hd p hp (hasg p hpa))
  split
  ·rename_i e
   subst e
   exact keepB n1 hnl (n4 d hold)
  rename_i e
  rw [hat,if_neg e] at hk
  have hda:=h.low k hk d hold
  have hu:=h.tr.up k hk
  by_cases hpa:plF f (atI O k)<i
  ·exact keepB hu.2.2 hpa hda
  obtain⟨p,hp,hpa',_,hpk⟩:=h.fwd k hk (.inr (by omega))
  have hk':=keepA hpa' (by omega) hpk
  have hd':=hd p hp (hasg p hpa')
  rcases hk'.comp hd' with q | q
  ·have q':=q.pl hw htr (hd'.pl hw htr (hasg p hpa')).2.2.1
   have hdp:=hda.pl hw h.tr hu.2.2
   have:d=atI O k:=hdp.2.2.2 (by omega)
   rw [this]
   exact .refl
  exact q
 rw [hat] at hc ⊢
 by_cases e:k=z
 ·subst e
  rw [if_pos rfl]
  exact⟨a,hap,hasg a haa,by omega,keepB haa (by omega) (n3 a hap haa)⟩
 rw [if_neg e] at hc ⊢
 rw [hat,if_neg e] at hk
 have hku:=h.tr.up k hk
 rcases hc with q | q
 ·have hki:plF f k<i:=by
   refine Classical.byContradiction fun r=>e (hw.inj k z (by omega) (by omega))
  obtain⟨p,hp,hpa,hpl,hpk⟩:=h.fwd k hk (.inl hki)
  exact⟨p,hp,hasg p hpa,hpl,keepB hpa (by omega) hpk⟩
 obtain⟨p,hp,hpa,hpl,hpk⟩:=h.fwd k hk (.inr (by omega))
 exact⟨p,hp,hasg p hpa,hpl,keepA hpa (by omega) hpk⟩
def rkF(f:Func)(o:Int):Nat:=if o<0 then 200 else (plF f o).toNat
def Dm.weight(f:Func)(S:Dm):Nat:=(S.over.map (rkF f)).sum
theorem set_self'{l:List Int}{k:Nat}{x:Int}(h:l[k]?=some x):l.set k x=l:=by
 obtain⟨hlt,e⟩:=List.getElem?_eq_some_iff.1 h
 rw [←e,List.set_getElem_self]
theorem dmStep_ok{f:Func}(hg:GrW f)(hw:OrdW f){i:Int}{S:Dm}(h:Dinv f i S.over){z:Int}(hz:plF f z=i)(h1:1≤i) :
  Dinv f (i+1) (dmStep f S z).over∧(dmStep f S z).weight f≤S.weight f∧((dmStep f S z).again=true→S.again=true∨(dmStep f S z).weight f<S.weight f) ∧
  ((dmStep f S z).again=false→dmStep f S z=S∧nextM (plL f) S.over (predsAt f z)=atI S.over z):=by
 obtain⟨s1,s2,s3,s4,_⟩:=dinv_step hg hw h hz h1
 have hzr:=hw.range z (by omega)
 obtain⟨o,ho⟩:∃o,S.over[z.toNat]?=some o:=⟨S.over[z.toNat]'(by rw [h.tr.len];omega),List.getElem?_eq_getElem _⟩
 have hoe:atI S.over z=o:=by simp [atI,ho]
 unfold dmStep
 generalize nextM (plL f) S.over (predsAt f z)=nx at *
 split
 ·rename_i hne
  have hlt:rkF f nx<rkF f o:=by
   have hl:=(hw.low nx).2
   have hf:=hw.few
   unfold rkF
   rw [if_neg (by omega)]
   split
   ·omega
   rw [hoe] at s3 hne
   rcases s3 (by omega) with q | q
   ·exact absurd q hne
   omega
  have hs:=sum_set (l:=S.over.map (rkF f)) (k:=z.toNat) (x:=rkF f nx) (y:=rkF f o) (by simp [ho])
  rw [←List.map_set] at hs
  simp only [Dm.weight]
  exact⟨s4,by omega,fun _=>.inr (by omega),fun q=>by cases q⟩
 rename_i hne
 have hne:nx=atI S.over z:=by simpa using hne
 have:S.over.set z.toNat nx=S.over:=set_self' (by rw [hne,hoe];exact ho)
 rw [this] at s4
 exact⟨s4,Nat.le_refl _,fun q=>.inl q,fun _=>⟨rfl,hne⟩⟩
theorem dmF_ok{f:Func}(hg:GrW f)(hw:OrdW f):∀(l:List Int) (i:Nat) {S:Dm},1≤i→(∀(j:Nat) z,l[j]?=some z→plF f z=i+j)→Dinv f i S.over →
  Dinv f (i+l.length:Nat) (l.foldl (dmStep f) S).over∧(l.foldl (dmStep f) S).weight f≤S.weight f∧((l.foldl (dmStep f) S).again=true→S.again=true∨(l.foldl (dmStep f) S).weight f<S.weight f) ∧
  ((l.foldl (dmStep f) S).again=false→l.foldl (dmStep f) S=S∧∀z∈l,nextM (plL f) S.over (predsAt f z)=atI S.over z)
 | [],i,S,_,_,h=>⟨h,Nat.le_refl _,fun q=>.inl q,fun _=>⟨rfl,by simp⟩⟩
 | z::r,i,S,h1,hl,h=>by
  have hz:=hl 0 z rfl
  obtain⟨a1,a2,a3,a4⟩:=dmStep_ok hg hw h (z:=z) (by rw [hz];omega) (by omega)
  have hr:∀(j:Nat) z,r[j]?=some z→plF f z=((i+1:Nat):Int)+j:=fun j y hj=>by
   rw [hl (j+1) y hj]
   omega
  have a1':Dinv f ((i+1:Nat):Int) (dmStep f S z).over:=by
   rw [show((i+1:Nat):Int)=(i:Int)+1 by omega]
   exact a1
  obtain⟨b1,b2,b3,b4⟩:=dmF_ok hg hw r (i+1) (by omega) hr a1'
  rw [List.foldl_cons]
  refine⟨by rw [List.length_cons,show i+(r.length+1)=i+1+r.length by omega];exact b1,by omega,fun q=>?_,fun q=>?_⟩
  ·rcases b3 q with q | q
   ·rcases a3 q with q | q
    ·exact .inl q
    exact .inr (by omega)
   exact .inr (by omega)
  obtain⟨c1,c2⟩:=b4 q
  rw [c1] at q
  obtain⟨d1,d2⟩:=a4 q
  rw [d1] at c1 c2
  rw [d1]
  refine⟨c1,fun y hy=>?_⟩
  rcases List.mem_cons.1 hy with e | e
  ·subst e
   exact d2
  exact c2 y e
theorem dinv_again{f:Func}(hw:OrdW f){O:List Int}(h:Dinv f (orderM f).length O):Dinv f 1 O :=
 ⟨h.tr,fun v h1 h2=>absurd h1 (by omega),h.low,fun k hk _=>h.fwd k hk (.inl (hw.low k).2)⟩
theorem dmR_ok{f:Func}(hg:GrW f)(hw:OrdW f){S:Dm}(h:Dinv f 1 S.over) :
  Dinv f (orderM f).length (dmR f S).over∧(dmR f S).weight f≤S.weight f∧((dmR f S).again=true→S.again=true∨(dmR f S).weight f<S.weight f) ∧
  ((dmR f S).again=false→dmR f S=S∧∀z∈(orderM f).drop 1,nextM (plL f) S.over (predsAt f z)=atI S.over z):=by
 have hp:=hw.pos
 have:=dmF_ok hg hw ((orderM f).drop 1) 1 (S:=S) (by omega) (fun j z hj=>by
  rw [List.getElem?_drop] at hj
  rw [hw.at_ _ _ hj]
  omega) h
 rw [List.length_drop,show 1+((orderM f).length - 1)=(orderM f).length by omega] at this
 exact this
theorem dmI_done{f:Func}{S:Dm}(h:S.again=false)(n:Nat):dmI f n S=S:=by
 cases n with
 | zero=>rfl
 | succ n=>simp [dmI,h]
theorem dmI_ok{f:Func}(hg:GrW f)(hw:OrdW f):∀(n:Nat) {S:Dm},Dinv f 1 S.over→S.again=true→S.weight f<n →
  (dmI f n S).again=false∧Dinv f (orderM f).length (dmI f n S).over∧∀z∈(orderM f).drop 1,nextM (plL f) (dmI f n S).over (predsAt f z)=atI (dmI f n S).over z
 | 0,S,_,_,hn=>absurd hn (by omega)
 | n+1,S,h,ha,hn=>by
  obtain⟨a1,a2,a3,a4⟩:=dmR_ok hg hw (S:=⟨S.over,false⟩) h
  have hwS:(⟨S.over,false⟩:Dm).weight f=S.weight f:=rfl
  rw [hwS] at a2 a3
  simp only [dmI,ha,if_true]
  cases hr:(dmR f ⟨S.over,false⟩).again with
  | false =>
   obtain⟨b1,b2⟩:=a4 hr
   rw [dmI_done hr]
   refine⟨hr,a1,?_⟩
   rw [b1]
   exact b2
  | true =>
   rcases a3 hr with q | q
   ·cases q
   exact dmI_ok hg hw n (dinv_again hw a1) hr (by omega)
theorem dmS_ok{f:Func}(hw:OrdW f):Dinv f 1 (dmS f).over:=by
 have hat:∀k,atI (dmS f).over k=-1:=fun k=>by
  unfold atI dmS
  simp only
  rw [List.getElem?_replicate]
  split<;>rfl
 refine⟨⟨by simp [dmS],hat 0,fun k hk=>?_,fun k=>by rw [hat];omega⟩,fun v h1 h2=>absurd h1 (by omega),fun k hk=>?_,fun k hk=>?_⟩
 all_goals
  rw [hat] at hk
  omega
theorem dmS_weight{f:Func}(h:f.blocks.length≤128):(dmS f).weight f≤25600:=by
 have hs:=sum_le (l:=(dmS f).over.map (rkF f)) (b:=200) (fun x hx=>by
  simp only [dmS,List.map_replicate] at hx
  rw [(List.mem_replicate.1 hx).2]
  simp [rkF])
 simp only [dmS,List.length_map,List.length_replicate] at hs
 simp only [Dm.weight,dmS]
 omega
structure TreeW(f:Func):Prop where
 tr:Tr f (treeM f)
 asg:∀v,1≤plF f v→0≤atI (treeM f) v
 fix:∀v,1≤plF f v→nextM (plL f) (treeM f) (predsAt f v)=atI (treeM f) v
theorem tree_w{f:Func}(hg:GrW f):TreeW f:=by
 have hw:=ord_w hg
 have h0:=dmS_weight hg.few
 obtain⟨_,h2,h3⟩:=dmI_ok hg hw 30000 (dmS_ok hw) rfl (by omega)
 refine⟨h2.tr,fun v hv=>h2.asg v hv (hw.low v).2,fun v hv=>h3 v ?_⟩
 have:=hw.get v (by omega)
 refine List.mem_of_getElem? (i:=(plF f v).toNat - 1) ?_
 rw [List.getElem?_drop,←this]
 congr 1
 omega
theorem TreeW.asg'{f:Func}(hw:OrdW f)(h:TreeW f){v:Int}(hv:0≤plF f v):Asg (treeM f) v:=by
 by_cases e:plF f v=0
 ·exact .inl (hw.inj v 0 hv (by rw [hw.zero,e]))
 exact .inr (h.asg v (by omega))
def upM(O:List Int):Nat→Int→List Int
 | 0,_=>[]
 | n+1,k=>if k<0 then [] else k::upM O n (atI O k)
theorem mem_upM{f:Func}(hw:OrdW f){O:List Int}(h:Tr f O){d:Int}:∀(n:Nat) (k:Int),Asg O k→plF f k<n→(d∈upM O n k↔Anc O d k)
 | 0,k,hk,hn=>by
  have:=h.asg hw hk
  omega
 | n+1,k,hk,hn=>by
  have hk0:=hk.nn hw h
  simp only [upM]
  rw [if_neg (by omega),List.mem_cons]
  by_cases hu:0≤atI O k
  ·obtain⟨u1,u2,u3⟩:=h.up k hu
   rw [mem_upM hw h n (atI O k) u3 (by omega)]
   constructor
   ·rintro(q | q)
    ·rw [q]
     exact .refl
    exact .up hu q
   intro q
   cases q with
   | refl=>exact .inl rfl
   | up _ q=>exact .inr q
  have e:upM O n (atI O k)=[]:=by
   cases n with
   | zero=>rfl
   | succ n=>simp only [upM];rw [if_pos (by omega)]
  rw [e]
  constructor
  ·rintro(q | q)
   ·rw [q]
    exact .refl
   cases q
  intro q
  cases q with
  | refl=>exact .inl rfl
  | up q _=>exact absurd q hu
end Go.Proofs.Ytlclgfgmhnmnaaa
namespace Go.Proofs.Ytlclgfgmhnmnaaa
open Go.Av Go.Sort
def sortI(l:List Int):List Int:=l.mergeSort fun x y=>decide (x≤y)
theorem sortI_perm(l:List Int):(sortI l).Perm l:=List.mergeSort_perm _ _
theorem sortI_sorted(l:List Int):(sortI l).Pairwise (fun x y=>x≤y):=by
 have h:=List.pairwise_mergeSort (le:=fun x y:Int=>decide (x≤y)) (fun a b c h1 h2=>by simp only [decide_eq_true_eq] at h1 h2 ⊢;omega) (fun a b=>by simp only [Bool.or_eq_true,decide_eq_true_eq];omega) l
 exact h.imp fun q=>by simpa using q
def SortCalls(P:Program)(f:FuncId):Prop:=∀(blk off cap:Nat) (zs:List Int) (w:World),Go.Sort.Holds (Value.int .i64) w blk off zs.toArray→blk<w.heap.size→zs.length<4611686018427387904 →
 Calls P f #[.slice (some ⟨blk,off,none⟩) zs.length cap] w fun e w' =>
  e=.returned (.tuple #[])∧∃n os,w'=grow (putRow (Value.int .i64) (Sort.ahead w n) blk off (zs.mergeSort fun x y=>decide (x≤y)).toArray) os
theorem sort_bridge{P:Program}{f:FuncId}(hen:Go.Av.Enters P f)(hc:SortCalls P f){O:List AObj}{id:Nat}{zs:List Int}(ho:O[id]?=some (.cells (zs.map aI)))(hl:zs.length≤1000) :
  ECall P f O [.os id zs.length 1] (fun r O'=>r=.tup []∧O'=O.set id (.cells ((sortI zs).map aI))):=by
 refine⟨hen,fun g vs hg hgo hvs=>?_⟩
 subst hgo
 obtain⟨h1,h2⟩:=hvs
 simp only [List.length_singleton] at h1
 have hv0:vs[0]?=some (vs[0]'(by omega)):=Array.getElem?_eq_getElem _
 obtain⟨l,o,cap,he,hobj,hns,hcap,hb,hmax,hve⟩:=(h2 0 _ _ rfl hv0).os_inv
 have hvs:vs = #[.slice (some ⟨l.block,0,none⟩) zs.length cap]:=by
  apply Array.ext
  ·simpa using h1
  intro i hi1 hi2
  have:i=0:=by omega
  subst this
  exact hve
 subst hvs
 obtain⟨arr,t,hlo,hrow,hlen,hcs,hcsc,hlsz⟩:=hg.row ho he
 rw [List.length_map] at hlen
 have hcell:∀(j:Nat) x,zs[j]?=some x→arr[j]?=some (.int .i64 x)∧flatOK (.int .i64 x):=fun j x hj=>by
  have hjl:=lt_of_getElem? hj
  have hja:arr[j]?=some (arr[j]'(by omega)):=Array.getElem?_eq_getElem _
  obtain⟨e,hf⟩:=(hcs j (aI x) _ (by simp [hj]) hja).v_inv
  exact⟨by rw [hja,e],hf⟩
 have hH:Go.Sort.Holds (Value.int .i64) g.w l.block 0 zs.toArray:=fun j hj=>by
  have hj':j<zs.length:=by simpa using hj
  refine⟨?_,by simp [World.frozen?,hrow]⟩
  rw [show g.w.cell? ⟨l.block,0+j,none⟩=arr[0+j]? from Go.Av.cell_of_row hrow (0+j),Nat.zero_add,(hcell j _ (List.getElem?_eq_getElem hj')).1]
  simp [hj']
 refine(hc l.block 0 cap zs g.w hH (lt_of_getElem?' hrow) (by omega)).mono ?_
 rintro e w' ⟨rfl,n,os,hw'⟩
 have hss:(zs.mergeSort fun x y=>decide (x≤y))=sortI zs:=rfl
 rw [hss] at hw'
 have hp:=sortI_perm zs
 obtain⟨ss,hse⟩:∃ss,ss=sortI zs:=⟨_,rfl⟩
 rw [←hse] at hw' hp ⊢
 have hsl:=hp.length_eq
 have hblt:=lt_of_getElem?' hrow
 have hsame:∀k,k<g.w.heap.size→w'.heap[k]?=(g.w.heap.modify l.block (onCells (putCells (Value.int .i64) 0 ss.toArray)))[k]?:=fun k hk=>by
  subst hw'
  simp only [grow,putRow,mapBlock,Sort.ahead]
  rw [Array.getElem?_append_left (by simpa using hk)]
 have hrow':w'.heap[l.block]?=some (.cells (putCells (Value.int .i64) 0 ss.toArray arr) t (0,0)):=by
  rw [hsame _ hblt,Array.getElem?_modify,if_pos rfl,hrow]
  rfl
 have hoth:∀k,k<g.w.heap.size→k≠l.block→w'.heap[k]?=g.w.heap[k]?:=fun k hk hne=>by
  rw [hsame k hk,Array.getElem?_modify,if_neg (fun q=>hne q.symm)]
 have hput:∀(j:Nat) x,ss[j]?=some x→(putCells (Value.int .i64) 0 ss.toArray arr)[j]?=some (.int .i64 x):=fun j x hj=>by
  have hjl:=lt_of_getElem? hj
  have hja:arr[j]?=some (arr[j]'(by omega)):=Array.getElem?_eq_getElem _
  simp only [putCells,Array.getElem?_mapIdx,hja,Option.map_some,Nat.zero_add,Nat.zero_le,true_and,Nat.sub_zero,List.size_toArray]
  rw [if_pos hjl]
  simp [hj]
 have hturn:Turns g id (.cells (zs.map aI)) (some l) (.cells (ss.map aI)) w' :=
  {obj:=ho
   os:=by rw [hw'];rfl
   tape:=by rw [hw'];rfl
   output:=by rw [hw'];rfl
   size:=by rw [hw'];simp [grow,putRow,mapBlock,Sort.ahead]
   block:=fun k hk hne=>hoth k hk fun e=>hne l he trivial e.symm
   cell:=fun b off x hx hb=>by
    by_cases e:b=l.block
    ·have:=hb l he trivial e.symm
     omega
    rw [cell_congr (hoth b (cell_lt hx) e)]
    exact hx
   place:=fun l1 h1 _=>by
    simp only [Option.some.injEq] at h1
    subst h1
    exact .inr ⟨l,he,trivial,rfl,Nat.le_refl _⟩
   spare:=fun m h=>by cases h
   plain:=fun _=>⟨by simp [AObj.isSpare],he⟩
   gone:=by simp }
 refine⟨g.turn id (some l) (.cells (ss.map aI)) w',.tuple #[],.tup [],rfl,rfl,Le.turn hg hturn,Good.turn hg hturn ?_ ?_,.tup rfl (by simp),rfl,rfl⟩
 ·refine⟨l,_,t,rfl,hlo,hrow',by simp [putCells,hsl];omega,fun j c u hj hu=>?_,fun c hc=>?_,by simpa [putCells] using hlsz⟩
  ·rw [List.getElem?_map] at hj
   obtain⟨x,hx,rfl⟩:=Option.map_eq_some_iff.1 hj
   rw [hput j x hx] at hu
   simp only [Option.some.injEq] at hu
   subst hu
   have hm:x∈zs:=hp.subset (List.mem_of_getElem? hx)
   obtain⟨i,hi⟩:=List.getElem?_of_mem hm
   exact .v (hcell i x hi).2
  obtain⟨x,_,rfl⟩:=List.mem_map.1 hc
  trivial
 intro l1 h1 _
 simp only [Option.some.injEq] at h1
 subst h1
 rw [hw']
 simp [grow,putRow,mapBlock,Sort.ahead]
 omega
end Go.Proofs.Ytlclgfgmhnmnaaa
namespace Go.Proofs.Ytlclgfgmhnmnaaa
open Go.Av
def rchS(f:Func):List Int:=sortI (orderM f)
theorem mem_rchS{f:Func}{k:Int}:k∈rchS f↔0≤plF f k:=by
 unfold rchS plF
 rw [(sortI_perm _).mem_iff]
 exact idxI_mem.1.symm
theorem rchS_len(f:Func):(rchS f).length=(orderM f).length:=(sortI_perm _).length_eq
def ancB(O:List Int)(a b:Int):Bool:=decide (a∈upM O 300 b)
theorem ancB_iff{f:Func}(hw:OrdW f){O:List Int}(h:Tr f O){a b:Int}(hb:Asg O b):ancB O a b=true↔Anc O a b:=by
 have h1:=(hw.low b).2
 have h2:=hw.few
 unfold ancB
 rw [decide_eq_true_iff]
 exact mem_upM hw h 300 b hb (by omega)
theorem anc_step{f:Func}(hw:OrdW f){O:List Int}(h:Tr f O){a k:Int}(hk:Asg O k)(hne:k≠a) :
  (0≤atI O k∧Asg O (atI O k)∧plF f (atI O k)<plF f k∧ancB O a k=ancB O a (atI O k))∨(atI O k=-1∧ancB O a k=false):=by
 by_cases hu:0≤atI O k
 ·obtain⟨u1,u2,u3⟩:=h.up k hu
  refine .inl ⟨hu,u3,u2,?_⟩
  rw [Bool.eq_iff_iff,ancB_iff hw h hk,ancB_iff hw h u3]
  constructor
  ·intro q
   cases q with
   | refl=>exact absurd rfl hne
   | up _ q=>exact q
  exact fun q=>.up hu q
 have:=h.low k
 refine .inr ⟨by omega,?_⟩
 rw [←Bool.not_eq_true,ancB_iff hw h hk]
 intro q
 cases q with
 | refl=>exact hne rfl
 | up q _=>exact hu q
theorem ancB_self{f:Func}(hw:OrdW f){O:List Int}(h:Tr f O){k:Int}(hk:Asg O k):ancB O k k=true:=(ancB_iff hw h hk).2 .refl
theorem anc_pred{f:Func}(hg:GrW f){k p:Int}(hk:1≤plF f k)(hp:p∈predsAt f k)(hr:0≤plF f p){a:Int}(ha:Anc (treeM f) a k)(hne:a≠k):Anc (treeM f) a p:=by
 have hw:=ord_w hg
 have ht:=tree_w hg
 have hkr:=hw.range k (by omega)
 have hu:0≤atI (treeM f) k:=ht.asg k hk
 have ha':Anc (treeM f) a (atI (treeM f) k):=by
  cases ha with
  | refl=>exact absurd rfl hne
  | up _ q=>exact q
 refine ha'.trans ?_
 have hfix:=ht.fix k hk
 have hall:∀q∈predsAt f k,0≤q∧q<f.blocks.length:=fun q hq=>(preds_edg hg hkr.1 hq).1
 unfold nextM at hfix
 rcases fold_ok hw ht.tr (predsAt f k) (-1) hall (.inl rfl) with⟨e,_⟩ | ⟨_,_,h3,_⟩
 ·omega
 have h4:=h3 p hp (ht.asg' hw hr)
 rwa [hfix] at h4
end Go.Proofs.Ytlclgfgmhnmnaaa
namespace Go.Av
theorem awp_frzp{P:Program}{kb:Nat}{c:Code}{Q:AEx→St→Prop}{n:Nat}{slots:List (Nat×AVal)}{A:Nat}{C:Nat→List AVal}{N M:Nat}(pos:Nat→Nat)
  (hsc:∀i,∀d∈C i,d.scalar) (hl:∀i,(C i).length=M) (F:Nat→List AObj→Prop)
  (hF:∀i O,i<N→O[A]?=some (.cells (C i))→F i O→(C (i+1)=C i∧F (i+1) O) ∨
   ∃id o x y,id≠A∧O[id]?=some o∧¬o.isSpare∧o.live∧(C i)[pos i]?=some x∧(C (i+1))=(C i).set (pos i) y∧FSub O id x y∧F (i+1) ((O.set id .gone).set A (.cells (C (i+1))))) :
  ∀(m i:Nat) (O:List AObj),i+m=N→O[A]?=some (.cells (C i))→F i O→(∀O',O'.length=O.length→O'[A]?=some (.cells (C N))→F N O'→AWP P kb c Q ⟨n,slots,O'⟩)→AWP P kb c Q ⟨n,slots,O⟩
 | 0,i,O,hi,hA,hf,h=>by
  have:i=N:=by omega
  subst this
  exact h O rfl hA hf
 | m+1,i,O,hi,hA,hf,h=>by
  rcases hF i O (by omega) hA hf with⟨e,hf'⟩ | ⟨id,o,x,y,h1,h2,h3,h4,h5,h6,h7,hf'⟩
  ·exact awp_frzp pos hsc hl F hF m (i+1) O (by omega) (by rw [e];exact hA) hf' h
  have hAl:=lt_of_getElem? hA
  refine awp_freeze_in id h2 h3 h4 slots (fun s z hz=>⟨z,hz,.refl z⟩) A (Ne.symm h1) (C i) (C (i+1)) hA (by rw [hl,hl]) (hsc (i+1)) (fun j a b ha hb=>?_) (awp_frzp pos hsc hl F hF m (i+1) _ (by omega) (by rw [List.getElem?_set_self (by rw [List.length_set];exact hAl)]) hf' fun O' hO'=>h O' (by rw [hO',List.length_set,List.length_set]))
  rw [h6,List.getElem?_set] at hb
  split at hb
  ·rename_i e
   rw [←e,h5] at ha
   rw [if_pos (lt_of_getElem? h5)] at hb
   simp only [Option.some.injEq] at ha hb
   subst ha
   subst hb
   exact h7
  rw [ha] at hb
  simp only [Option.some.injEq] at hb
  subst hb
  exact .refl _
end Go.Av
namespace Go.Proofs.Ytlclgfgmhnmnaaa
open Go.Av
theorem edC_append(a b:List Edge):edC (a++b)=edC a++edC b:=by simp [edC]
theorem edC_at{es:List Edge}{n:Nat}{e:Edge}(h:es[n]?=some e):(edC es)[n * 2]?=some (aI e.block)∧(edC es)[n * 2+1]?=some (eIs e.args):=by
 have hl:=lt_of_getElem? h
 have e1:es=es.take n++e::es.drop (n+1):=by
  rw [←drop_at h,List.take_append_drop]
 have hlen:(edC (es.take n)).length=n * 2:=by rw [edC_len,List.length_take];omega
 have e2:edC es=edC (es.take n)++(aI e.block::eIs e.args::edC (es.drop (n+1))):=by
  conv=>lhs;rw [e1]
  rw [edC_append]
  rfl
 rw [e2]
 refine⟨?_,?_⟩
 ·rw [List.getElem?_append_right (by omega),hlen,Nat.sub_self]
  rfl
 rw [List.getElem?_append_right (by omega),hlen,show n * 2+1 - n * 2=1 by omega]
 rfl
theorem blsC_at:∀{ids:List Nat} {bs:List Block} {k id:Nat} {b:Block},ids[k]?=some id→bs[k]?=some b→((blsC ids bs).drop (k * 7)).take 7=blC id b
 | i::ids,c::bs,0,id,b,h1,h2=>by
  simp only [List.getElem?_cons_zero,Option.some.injEq] at h1 h2
  subst h1
  subst h2
  rfl
 | i::ids,c::bs,k+1,id,b,h1,h2=>by
  have ih:=blsC_at (ids:=ids) (bs:=bs) (k:=k) (by simpa using h1) (by simpa using h2)
  have e:blsC (i::ids) (c::bs)=blC i c++blsC ids bs:=rfl
  have hl:(blC i c).length=7:=rfl
  rw [e,List.drop_append,List.drop_of_length_le (by rw [hl];omega),hl,List.nil_append,show(k+1) * 7 - 7=k * 7 by omega]
  exact ih
 | [],_,k,id,b,h1,_=>by simp at h1
 | i::ids,[],k,id,b,_,h2=>by simp at h2
def mixB:Nat→List Nat→List Block→List AVal
 | 0,ids,bs=>blsC ids bs
 | i+1,_::ids,b::bs=>b.enc.cells++mixB i ids bs
 | _+1,_,_=>[]
theorem mixB_len:∀(i:Nat) {ids:List Nat} {bs:List Block},ids.length=bs.length→(mixB i ids bs).length=bs.length * 7
 | 0,ids,bs,h=>blsC_len h
 | i+1,_::ids,b::bs,h=>by
  have hb:b.enc.cells.length=7:=rfl
  rw [mixB,List.length_append,mixB_len i (by simpa using h),hb,List.length_cons]
  omega
 | i+1,[],[],_=>rfl
 | i+1,[],b::bs,h=>by simp at h
 | i+1,x::ids,[],h=>by simp at h
theorem blC_scalar(id:Nat)(b:Block):∀d∈blC id b,d.scalar:=fun d hd=>by
 simp only [blC,List.mem_cons,List.not_mem_nil,or_false] at hd
 rcases hd with rfl | rfl | rfl | rfl | rfl | rfl | rfl
 ·trivial
 ·trivial
 ·trivial
 ·trivial
 ·trivial
 ·trivial
 unfold outE
 split<;>trivial
theorem mixB_scalar:∀(i:Nat) (ids:List Nat) (bs:List Block),∀d∈mixB i ids bs,d.scalar
 | 0,ids,bs=>fun d hd=>by
  unfold mixB blsC at hd
  obtain⟨l,hl,hd⟩:=List.mem_flatten.1 hd
  obtain⟨j,hj⟩:=List.mem_iff_getElem?.1 hl
  rw [List.getElem?_zipWith] at hj
  cases h1:ids[j]? with
  | none=>rw [h1] at hj;cases hj
  | some id =>
   cases h2:bs[j]? with
   | none=>rw [h1,h2] at hj;cases hj
   | some b =>
    rw [h1,h2] at hj
    simp only [Option.some.injEq] at hj
    subst hj
    exact blC_scalar id b d hd
 | i+1,x::ids,b::bs=>fun d hd=>by
  rw [mixB] at hd
  rcases List.mem_append.1 hd with q | q
  ·simp only [Block.enc,AVal.cells,List.mem_cons,List.not_mem_nil,or_false] at q
   rcases q with rfl | rfl | rfl | rfl | rfl | rfl | rfl<;>trivial
  exact mixB_scalar i ids bs d q
 | i+1,[],[]=>fun d hd=>by cases hd
 | i+1,[],b::bs=>fun d hd=>by cases hd
 | i+1,x::ids,[]=>fun d hd=>by cases hd
theorem mixB_at:∀(i:Nat) {ids:List Nat} {bs:List Block} {id:Nat} {b:Block},ids[i]?=some id→bs[i]?=some b →
  (mixB i ids bs)[i * 7+6]?=some (outE id b.term.to)∧mixB (i+1) ids bs=(mixB i ids bs).set (i * 7+6) (eEdges b.term.to)
 | 0,x::ids,c::bs,id,b,h1,h2=>by
  simp only [List.getElem?_cons_zero,Option.some.injEq] at h1 h2
  subst h1
  subst h2
  exact⟨rfl,rfl⟩
 | i+1,x::ids,c::bs,id,b,h1,h2=>by
  obtain⟨i1,i2⟩:=mixB_at i (ids:=ids) (bs:=bs) (id:=id) (b:=b) (by simpa using h1) (by simpa using h2)
  have hb:c.enc.cells.length=7:=rfl
  have e:mixB (i+1) (x::ids) (c::bs)=c.enc.cells++mixB i ids bs:=rfl
  have e2:mixB (i+1+1) (x::ids) (c::bs)=c.enc.cells++mixB (i+1) ids bs:=rfl
  rw [e,e2,i2]
  refine⟨?_,?_⟩
  ·rw [List.getElem?_append_right (by omega),hb,show(i+1) * 7+6 - 7=i * 7+6 by omega]
   exact i1
  rw [List.set_append_right _ _ (by omega),hb,show(i+1) * 7+6 - 7=i * 7+6 by omega]
 | 0,[],_,id,b,h1,_=>by simp at h1
 | 0,_::_,[],id,b,_,h2=>by simp at h2
 | i+1,[],_,id,b,h1,_=>by simp at h1
 | i+1,_::_,[],id,b,_,h2=>by simp at h2
theorem mixB_all:∀{ids:List Nat} {bs:List Block},ids.length=bs.length→mixB bs.length ids bs=cellsAll (bs.map Block.enc)
 | [],[],_=>rfl
 | x::ids,b::bs,h=>by
  have e:cellsAll ((b::bs).map Block.enc)=b.enc.cells++cellsAll (bs.map Block.enc):=rfl
  rw [e,←mixB_all (ids:=ids) (by simpa using h)]
  rfl
 | [],b::bs,h=>by simp at h
 | x::ids,[],h=>by simp at h
theorem blocks_share(bs:List Block):(cellsAll (bs.map Block.enc)).map AVal.shareCell=cellsAll (bs.map Block.enc):=by
 induction bs with
 | nil=>rfl
 | cons b r ih =>
  have e:cellsAll ((b::r).map Block.enc)=b.enc.cells++cellsAll (r.map Block.enc):=rfl
  rw [e,List.map_append,ih]
  rfl
def jumpB(x:Edge):Block:=⟨[],[],⟨1,0,0,[],[x]⟩⟩
def setTo(b:Block)(es:List Edge):Block:=⟨b.params,b.ins,⟨b.term.kind,b.term.arg,b.term.n,b.term.cases,es⟩⟩
structure Sp where
 tos:List (List Edge)
 news:List Block
def critB(f:Func)(k:Nat)(x:Edge):Bool:=decide (2≤(blkOf f (k:Int)).term.to.length)&&decide (2≤(predsAt f x.block).length)
def spStep(f:Func)(k n:Nat)(S:Sp):Sp :=
 match (toOf f (k:Int))[n]? with
 | none=>S
 | some x=>if critB f k x then ⟨S.tos.set k ((S.tos[k]?.getD []).set n ⟨((f.blocks.length+S.news.length:Nat):Int),[]⟩),S.news++[jumpB x]⟩ else S
def spE(f:Func)(k:Nat):Nat→Nat→Sp→Sp
 | 0,_,S=>S
 | m+1,n,S=>spE f k m (n+1) (spStep f k n S)
def spK(f:Func):Nat→Nat→Sp→Sp
 | 0,_,S=>S
 | m+1,k,S=>spK f m (k+1) (spE f k (toOf f (k:Int)).length 0 S)
def spS(f:Func):Sp:=⟨f.blocks.map fun b=>b.term.to,[]⟩
def spM(f:Func):Sp:=spK f f.blocks.length 0 (spS f)
def splitM(f:Func):Func:=⟨f.name,List.zipWith setTo f.blocks (spM f).tos++(spM f).news⟩
structure SpW(f:Func)(S:Sp):Prop where
 len:S.tos.length=f.blocks.length
 each:∀(k:Nat) b l,f.blocks[k]?=some b→S.tos[k]?=some l→l.length=b.term.to.length
theorem spS_w(f:Func):SpW f (spS f):=⟨by simp [spS],fun k b l h1 h2=>by
 unfold spS at h2
 simp only [List.getElem?_map,h1,Option.map_some,Option.some.injEq] at h2
 rw [←h2]⟩
theorem spStep_w{f:Func}{k n:Nat}{S:Sp}(h:SpW f S):SpW f (spStep f k n S):=by
 unfold spStep
 split
 ·exact h
 split
 ·refine⟨by rw [List.length_set];exact h.len,fun j b l h1 h2=>?_⟩
  simp only at h2
  rw [List.getElem?_set] at h2
  split at h2
  ·rename_i e
   subst e
   split at h2
   ·simp only [Option.some.injEq] at h2
    rename_i hk
    obtain⟨m,hm⟩:∃m,S.tos[k]?=some m:=⟨_,List.getElem?_eq_getElem hk⟩
    rw [←h2,List.length_set,hm,Option.getD_some]
    exact h.each k b m h1 hm
   cases h2
  exact h.each j b l h1 h2
 exact h
structure SpO(f:Func)(ids:List Nat)(X:Nat)(S:Sp)(bid:Nat)(O:List AObj):Prop where
 up:∀o∈O,o.upto O.length
 r1:O[1]?=some (.cells [aI 0,.lst 7 [] .ex])
 x5:5≤X
 xb:bid≠X
 out:O[X]?=some (.cells [aI f.name,.os bid (f.blocks.length+S.news.length) 7])
 bl:5≤bid∧O[bid]?=some (.cells (blsC ids f.blocks++cellsAll (S.news.map Block.enc)))
 li:ids.length=f.blocks.length
 w:SpW f S
 own:∀(j id:Nat) (b:Block) (l:List Edge),ids[j]?=some id→f.blocks[j]?=some b→S.tos[j]?=some l→b.term.to≠[]→5≤id∧id≠bid∧id≠X∧O[id]?=some (.cells (edC l))
 inj:∀(i j id:Nat) (b c:Block),ids[i]?=some id→ids[j]?=some id→f.blocks[i]?=some b→f.blocks[j]?=some c→b.term.to≠[]→c.term.to≠[]→i=j
theorem SpO.start{f:Func}{ids:List Nat}{bid:Nat}{O:List AObj}(hup:∀o∈O,o.upto O.length)(h1:O[1]?=some (.cells [aI 0,.lst 7 [] .ex]))(hb:5≤bid∧O[bid]?=some (.cells (blsC ids f.blocks)))(hc:CpO 5 ids f.blocks O)
  (hne:∀(j id:Nat) (b:Block),ids[j]?=some id→f.blocks[j]?=some b→b.term.to≠[]→id≠bid):SpO f ids O.length (spS f) bid (O++[AObj.cells [aI f.name,.os bid f.blocks.length 7]]) where
 up:=fun o ho=>by
  have hbl:=lt_of_getElem? hb.2
  rw [List.length_append,List.length_singleton]
  rcases List.mem_append.1 ho with q | q
  ·exact AObj.upto_mono (by omega) (hup o q)
  rw [List.mem_singleton] at q
  subst q
  exact⟨trivial,show _<_ by omega,trivial⟩
 r1:=at_left h1
 x5:=by
  have:=lt_of_getElem? hb.2
  omega
 xb:=by
  have:=lt_of_getElem? hb.2
  omega
 out:=snoc_get _ _
 bl:=⟨hb.1,by
  have h2:=at_left (X:=[AObj.cells [aI f.name,.os bid f.blocks.length 7]]) hb.2
  have e:blsC ids f.blocks++cellsAll ((spS f).news.map Block.enc)=blsC ids f.blocks:=List.append_nil _
  rw [e]
  exact h2⟩
 li:=hc.li
 w:=spS_w f
 own:=fun j id b l q1 q2 q3 q4=>by
  obtain⟨o1,o2⟩:=hc.own j id b q1 q2 q4
  have:=lt_of_getElem? o2
  unfold spS at q3
  simp only [List.getElem?_map,q2,Option.map_some,Option.some.injEq] at q3
  rw [←q3]
  exact⟨o1,hne j id b q1 q2 q4,by omega,at_left o2⟩
 inj:=hc.inj
theorem SpO.edge{f:Func}{ids:List Nat}{X:Nat}{S:Sp}{bid:Nat}{O:List AObj}(h:SpO f ids X S bid O){k id:Nat}{b:Block}{l m:List Edge}(hid:ids[k]?=some id)(hb:f.blocks[k]?=some b)(hl:S.tos[k]?=some l)(hne:b.term.to≠[])(hm:m.length=l.length) :
  SpO f ids X ⟨S.tos.set k m,S.news⟩ bid (O.set id (.cells (edC m))):=by
 obtain⟨o1,o2,o3,o4⟩:=h.own k id b l hid hb hl hne
 have hil:=lt_of_getElem? o4
 have hx5:=h.x5
 have hb5:=h.bl.1
 exact {
  up:=by
   rw [List.length_set]
   exact uptoO_set h.up (show AObj.upto O.length (.cells (edC m)) from edC_upto _ _)
  r1:=by rw [List.getElem?_set_ne (by omega)];exact h.r1
  x5:=h.x5
  xb:=h.xb
  out:=by rw [List.getElem?_set_ne o3];exact h.out
  bl:=⟨h.bl.1,by rw [List.getElem?_set_ne o2];exact h.bl.2⟩
  li:=h.li
  w:=⟨by rw [List.length_set];exact h.w.len,fun j c x h1 h2=>by
   simp only at h2
   rw [List.getElem?_set] at h2
   split at h2
   ·rename_i e
    subst e
    split at h2
    ·simp only [Option.some.injEq] at h2
     rw [hb] at h1
     simp only [Option.some.injEq] at h1
     rw [←h2,←h1,hm]
     exact h.w.each k b l hb hl
    cases h2
   exact h.w.each j c x h1 h2⟩
  own:=fun j z c x h1 h2 h3 h4=>by
   simp only at h3
   rw [List.getElem?_set] at h3
   by_cases e:k=j
   ·subst e
    rw [hid] at h1
    simp only [Option.some.injEq] at h1
    subst h1
    rw [if_pos rfl] at h3
    split at h3
    ·simp only [Option.some.injEq] at h3
     subst h3
     exact⟨o1,o2,o3,List.getElem?_set_self hil⟩
    cases h3
   rw [if_neg e] at h3
   obtain⟨p1,p2,p3,p4⟩:=h.own j z c x h1 h2 h3 h4
   refine⟨p1,p2,p3,?_⟩
   rw [List.getElem?_set_ne (fun q=>?_)]
   ·exact p4
   subst q
   exact e (h.inj k j id b c hid h1 hb h2 hne h4)
  inj:=h.inj }
theorem SpO.block{f:Func}{ids:List Nat}{X:Nat}{S:Sp}{bid:Nat}{O:List AObj}(h:SpO f ids X S bid O)(c:Block){cs ar:List AVal}(hcs:cs=(blsC ids f.blocks++cellsAll (S.news.map Block.enc))++c.enc.cells)(har:ar=[aI f.name,.os O.length (f.blocks.length+S.news.length+1) 7]) :
  SpO f ids X ⟨S.tos,S.news++[c]⟩ O.length ((O.set bid .gone++[AObj.cells cs]).set X (.cells ar)):=by
 have hXl:=lt_of_getElem? h.out
 have hbl:=lt_of_getElem? h.bl.2
 have hx5:=h.x5
 have hb5:=h.bl.1
 have hxb:=h.xb
 have hkeep:∀j,j<O.length→j≠X→j≠bid→((O.set bid .gone++[AObj.cells cs]).set X (.cells ar))[j]?=O[j]?:=fun j hj h1 h2=>by
  rw [List.getElem?_set_ne (Ne.symm h1),List.getElem?_append_left (by rw [List.length_set];omega),List.getElem?_set_ne (Ne.symm h2)]
 have hce:cellsAll ((S.news++[c]).map Block.enc)=cellsAll (S.news.map Block.enc)++c.enc.cells:=by
  rw [List.map_append]
  simp [cellsAll]
 subst har
 exact {
  up:=by
   intro o ho
   rw [List.length_set,List.length_append,List.length_set,List.length_singleton]
   rcases List.mem_or_eq_of_mem_set ho with q | q
   ·rcases List.mem_append.1 q with q | q
    ·rcases List.mem_or_eq_of_mem_set q with q | q
     ·exact AObj.upto_mono (by omega) (h.up o q)
     subst q
     trivial
    rw [List.mem_singleton] at q
    subst q
    subst hcs
    show uptoL _ _
    have h1:=h.up _ (List.mem_of_getElem? h.bl.2)
    have h2:uptoL O.length (blsC ids f.blocks++cellsAll (S.news.map Block.enc)):=h1
    rw [uptoL_iff] at h2 ⊢
    intro x hx
    rcases List.mem_append.1 hx with q | q
    ·exact AVal.upto_mono (by omega) x (h2 x q)
    have h3:=Block.enc_upto (O.length+1) c
    have h4:uptoL (O.length+1) c.enc.cells:=h3
    exact uptoL_iff.1 h4 x q
   subst q
   exact⟨trivial,show _<_ by omega,trivial⟩
  r1:=by rw [hkeep 1 (lt_of_getElem? h.r1) (by omega) (by omega)];exact h.r1
  x5:=h.x5
  xb:=by omega
  out:=by
   rw [List.getElem?_set_self (by rw [List.length_append,List.length_set];omega),List.length_append]
   rfl
  bl:=⟨by omega,by
   rw [List.getElem?_set_ne (by omega),List.getElem?_append_right (by rw [List.length_set];omega),List.length_set,Nat.sub_self,hce,←List.append_assoc,←hcs]
   rfl⟩
  li:=h.li
  w:=⟨h.w.len,h.w.each⟩
  own:=fun j z b l h1 h2 h3 h4=>by
   obtain⟨p1,p2,p3,p4⟩:=h.own j z b l h1 h2 h3 h4
   have:=lt_of_getElem? p4
   exact⟨p1,by omega,p3,by rw [hkeep z this p3 p2];exact p4⟩
  inj:=h.inj }
theorem lookD_no{ds:Defs}{v:Int}(h:v ∉ ds.map (·.1)):lookD ds v=none:=by
 cases hl:lookD ds v with
 | none=>rfl
 | some p=>exact absurd (List.mem_map.2 ⟨_,lookD_some hl,rfl⟩) h
theorem defineM_zero{ds:Defs}{v:Int}{p:Int×Int}(hv:0≤v∧v≤4095)(h:v ∉ ds.map (·.1)):(defineM ds v p).1=0:=by
 unfold defineM
 rw [lookD_no h]
 simp [within,hv]
theorem paramsM_zero(k:Int):∀(l:List Int) (ds:Defs),(∀v∈l,0≤v∧v≤4095)→(ds.map (·.1)++l).Nodup→(paramsM k ds l).1=0
 | [],_,_,_=>rfl
 | p::r,ds,hv,hn=>by
  have hp:p ∉ ds.map (·.1):=fun q=>by
   rw [List.nodup_append] at hn
   exact hn.2.2 p q p List.mem_cons_self rfl
  have h0:=defineM_zero (p:=(k,0)) (hv p List.mem_cons_self) hp
  simp only [paramsM]
  rw [if_neg (by rw [h0];simp),defineM_eq h0]
  refine paramsM_zero k r _ (fun v h=>hv v (List.mem_cons_of_mem _ h)) ?_
  rw [List.map_append,List.append_assoc]
  exact hn
theorem insM_zero(k:Int):∀(l:List Ins) (n:Int) (ds:Defs),(∀i∈l,0≤i.to∧i.to≤4095∧formE i=0)→(ds.map (·.1)++l.map Ins.to).Nodup→(insM k n ds l).1=0
 | [],_,_,_,_=>rfl
 | i::r,n,ds,hv,hn=>by
  have hp:i.to ∉ ds.map (·.1):=fun q=>by
   rw [List.nodup_append] at hn
   exact hn.2.2 _ q _ List.mem_cons_self rfl
  have hi:=hv i List.mem_cons_self
  have h0:=defineM_zero (p:=(k,n+1)) ⟨hi.1,hi.2.1⟩ hp
  simp only [insM]
  rw [if_neg (by rw [h0];simp),if_neg (by rw [hi.2.2];simp),defineM_eq h0]
  refine insM_zero k r _ _ (fun j h=>hv j (List.mem_cons_of_mem _ h)) ?_
  rw [List.map_append,List.append_assoc]
  exact hn
theorem blockM_zero{f:Func}{ds:Defs}{k:Int}{b:Block}(hb:blkOf f k=b)(hp:∀v∈b.params,0≤v∧v≤4095)(hi:∀i∈b.ins,0≤i.to∧i.to≤4095∧formE i=0)(he:endE f b.term=0)(hn:(ds.map (·.1)++blkVals b).Nodup):(blockM f ds k).1=0:=by
 unfold blockM
 rw [hb]
 unfold blkVals at hn
 rw [←List.append_assoc] at hn
 have h1:=paramsM_zero k b.params ds hp (by
  rw [List.nodup_append] at hn
  exact hn.1)
 rw [if_neg (by rw [h1];simp),paramsM_eq k b.params ds h1]
 have h2:=insM_zero k b.ins 0 (ds++parDefs k b.params) hi (by
  rw [List.map_append]
  have:(parDefs k b.params).map (·.1)=b.params:=by
   unfold parDefs
   rw [List.map_map]
   exact List.map_id' _
  rw [this]
  exact hn)
 rw [if_neg (by rw [h2];simp)]
 exact he
theorem blkDefs_fst(k:Int)(b:Block):(blkDefs k b).map (·.1)=blkVals b:=by
 rw [blkDefs,List.map_append,insDefs_fst,blkVals,parDefs,List.map_map]
 congr 1
 exact List.map_id' _
theorem blocksM_zero{f:Func}(hp:∀b∈f.blocks,(∀v∈b.params,0≤v∧v≤4095)∧(∀i∈b.ins,0≤i.to∧i.to≤4095∧formE i=0)∧endE f b.term=0) :
  ∀(n k:Nat) (ds:Defs),k+n=f.blocks.length→(ds.map (·.1)++(f.blocks.drop k).flatMap blkVals).Nodup→(blocksM f n k ds).1=0
 | 0,_,_,_,_=>rfl
 | n+1,k,ds,hk,hn=>by
  have hb:f.blocks[k]?=some f.blocks[k]:=List.getElem?_eq_getElem (by omega)
  have hbo:blkOf f (k:Int)=f.blocks[k]:=by simp [blkOf,hb]
  rw [drop_at hb,List.flatMap_cons,←List.append_assoc] at hn
  obtain⟨p1,p2,p3⟩:=hp _ (List.mem_of_getElem? hb)
  have h0:=blockM_zero (ds:=ds) hbo p1 p2 p3 (by
   rw [List.nodup_append] at hn
   exact hn.1)
  simp only [blocksM]
  rw [if_neg (by rw [h0];simp),blockM_eq h0,hbo]
  have e:(k:Int)+1=((k+1:Nat):Int):=by omega
  rw [e]
  refine blocksM_zero hp n (k+1) _ (by omega) ?_
  rw [List.map_append,blkDefs_fst]
  exact hn
theorem insUses_intro{ds:Defs}{over:List Bs}{seen:Bs}{k:Nat}:∀(l:List Ins) (n:Nat),(∀(j:Nat) i,l[j]?=some i→∀a∈i.args,fineM ds over seen k ((n+j:Nat):Int) a=true)→insUses ds over seen k n l=true
 | [],_,_=>rfl
 | x::r,n,h=>by
  simp only [insUses,Bool.and_eq_true,List.all_eq_true]
  refine⟨fun a ha=>h 0 x rfl a ha,insUses_intro r (n+1) fun j i hj a ha=>?_⟩
  rw [show n+1+j=n+(j+1) by omega]
  exact h (j+1) i (by simpa using hj) a ha
theorem allUses_intro{ds:Defs}{over:List Bs}{seen:Bs}:∀(l:List Block) (k:Nat),(∀(j:Nat) b,l[j]?=some b→blkUses ds over seen (k+j) b=true)→allUses ds over seen k l=true
 | [],_,_=>rfl
 | x::r,k,h=>by
  simp only [allUses,Bool.and_eq_true]
  refine⟨h 0 x rfl,allUses_intro r (k+1) fun j b hj=>?_⟩
  rw [show k+1+j=k+(j+1) by omega]
  exact h (j+1) b (by simpa using hj)
theorem fine_intro{f:Func}(hn:(valsF f).Nodup){k:Nat}{n v:Int}(h:Fine f k n v):fineM (dsF f) (domM f).1 (domM f).2 k n v=true:=by
 obtain⟨p,h1,h2⟩:=h
 have hl:lookD (dsF f) v=some p:=(lookD_mem (by rw [dsF_fst];exact hn)).2 (mem_dsF.2 h1)
 unfold fineM
 rw [hl]
 simp only [Bool.or_eq_true,Bool.and_eq_true,decide_eq_true_eq,Bool.not_eq_true',decide_eq_false_iff_not]
 cases hs:seenF f k with
 | false=>exact .inr (.inr hs)
 | true =>
  rcases h2 hs with q | q
  ·exact .inl q
  exact .inr (.inl q)
theorem uses_intro{f:Func}(hn:(valsF f).Nodup)(h:UsesW f):usesM f (dsF f)=0:=by
 unfold usesM
 rw [if_pos]
 refine allUses_intro f.blocks 0 fun j b hj=>?_
 rw [Nat.zero_add]
 unfold blkUses usedM
 simp only [Bool.and_eq_true,Bool.or_eq_true,decide_eq_true_eq,List.all_eq_true]
 refine⟨insUses_intro b.ins 0 fun n i hi a ha=>?_,?_,fun e he a ha=>fine_intro hn (h.args j b hj e he a ha)⟩
 ·rw [Nat.zero_add]
  exact fine_intro hn (h.ins j b hj n i hi a ha)
 by_cases h1:b.term.kind=1
 ·exact .inl (.inl h1)
 by_cases h4:b.term.kind=4
 ·exact .inl (.inr h4)
 exact .inr (fine_intro hn (h.arg j b hj h1 h4))
def sumI(bs:List Block):Nat:=(bs.map fun b=>b.ins.length).sum
theorem wsum_eq:∀(bs:List Block) (m:Nat),(∀b∈bs,b.ins.length≤1024)→m+bs.length * 1024≤1000000→wsum m bs=((m+sumI bs:Nat):Int)
 | [],m,_,_=>by simp [wsum,sumI]
 | b::r,m,h,hm=>by
  have h1:=h b List.mem_cons_self
  rw [List.length_cons] at hm
  have hw:IntKind.i64.wrap ((m:Int)+(b.ins.length:Int))=((m+b.ins.length:Nat):Int):=by
   rw [wrap_in .i64 _ (by show(-9223372036854775808:Int)≤_;omega) (by show _≤(9223372036854775807:Int);omega)]
   omega
  simp only [wsum]
  rw [hw,wsum_eq r (m+b.ins.length) (fun x hx=>h x (List.mem_cons_of_mem _ hx)) (by omega)]
  unfold sumI
  rw [List.map_cons,List.sum_cons,Nat.add_assoc]
theorem check_intro{f:Func}(hne:f.blocks≠[])(hfew:f.blocks.length≤128)(hname:-1≤f.name∧f.name≤1048575)(hins:∀b∈f.blocks,b.ins.length≤1024)(hsum:sumI f.blocks≤1024)(hpar:(blkOf f 0).params.length≤6)
  (hv:∀v∈valsF f,0≤v∧v≤4095) (hn:(valsF f).Nodup) (hb:∀b∈f.blocks,(∀i∈b.ins,formE i=0)∧endE f b.term=0) (hu:UsesW f):checkFuncM f=0:=by
 have hbv:∀b∈f.blocks,(∀v∈b.params,0≤v∧v≤4095)∧(∀i∈b.ins,0≤i.to∧i.to≤4095∧formE i=0)∧endE f b.term=0:=fun b h=>by
  have hin:∀v∈blkVals b,0≤v∧v≤4095:=fun v q=>hv v (List.mem_flatMap.2 ⟨b,h,q⟩)
  refine⟨fun v q=>hin v (List.mem_append_left _ q),fun i q=>?_,(hb b h).2⟩
  have:=hin i.to (List.mem_append_right _ (List.mem_map.2 ⟨i,q,rfl⟩))
  exact⟨this.1,this.2,(hb b h).1 i q⟩
 have h0:=blocksM_zero hbv f.blocks.length 0 [] (by omega) (by
  rw [List.drop_zero]
  exact hn)
 have h1:=blocksM_eq f.blocks.length 0 [] (by omega) h0
 rw [List.drop_zero,List.nil_append] at h1
 have hw:=wsum_eq f.blocks 0 hins (by omega)
 rw [Nat.zero_add] at hw
 have hl:=List.length_pos_iff.2 hne
 unfold checkFuncM
 have hww:wsum 0 f.blocks=((sumI f.blocks:Nat):Int):=hw
 rw [if_neg (by omega),if_neg (by rw [hww];omega),if_neg (by simp [within,hname]),if_neg (by
  have h0':(blocksM f f.blocks.length 0 []).1=0:=h0
  rw [h0']
  simp)]
 have h1':(blocksM f f.blocks.length 0 []).2=dsF f:=h1
 rw [h1']
 exact uses_intro hn hu
theorem sum_few{f:Func}(hfit:f.fit)(h:checkFuncM f=0):sumI f.blocks≤1024:=by
 have hw:=checkFunc_ok hfit h
 have he:=wsum_eq f.blocks 0 hw.ins (by have:=hw.few;omega)
 unfold checkFuncM at h
 split at h
 ·simp at h
 split at h
 ·simp at h
 rename_i h2
 rw [Nat.zero_add] at he
 have he':wsum 0 f.blocks=((sumI f.blocks:Nat):Int):=he
 rw [he'] at h2
 omega
theorem dmax_E{n k:Nat}{D:Nat→Nat→Prop}{R:Nat→Prop}{S:Ds}(hn:n≤128)(hl:S.over.length=n)(h1:∀i j,j<n→D i j→i<n∧(S.at_ j).has i=true)(h2:∀j,j<128→S.seen.has j=true→R j)(hk:k<n){e:Edge}(he:0≤e.block∧e.block.toNat<n)(hR:R k→R e.block.toNat)
  (hD:R k→∀i,D i e.block.toNat→i=e.block.toNat∨D i k) (hs:R k):(∀i j,j<n→D i j→i<n∧((domE k S e).at_ j).has i=true)∧(∀j,j<128→(domE k S e).seen.has j=true→R j)∧(domE k S e).over.length=n:=by
 unfold domE
 simp only
 split
 ·refine⟨fun i j hj hij=>?_,fun j hj hsj=>?_,by simp only;rw [List.length_set,hl]⟩
  ·refine⟨(h1 i j hj hij).1,?_⟩
   have hi:=(h1 i j hj hij).1
   unfold Ds.at_
   simp only
   rw [List.getElem?_set]
   split
   ·rename_i q
    rw [if_pos (by rw [hl];exact he.2),Option.getD_some,Bs.has_add _ _ _ (by omega) (by omega),Bs.has_meet]
    simp only [Bool.or_eq_true,Bool.and_eq_true,decide_eq_true_eq]
    rw [←q] at hij
    rcases hD hs i hij with r | r
    ·exact .inr r
    exact .inl ⟨(h1 i _ he.2 hij).2,(h1 i k hk r).2⟩
   exact(h1 i j hj hij).2
  simp only at hsj
  rw [Bs.has_add _ _ _ (by omega) hj] at hsj
  simp only [Bool.or_eq_true,decide_eq_true_eq] at hsj
  rcases hsj with q | q
  ·exact h2 j hj q
  rw [q]
  exact hR hs
 exact⟨h1,h2,hl⟩
structure DmX(n:Nat)(D:Nat→Nat→Prop)(R:Nat→Prop)(S:Ds):Prop where
 len:S.over.length=n
 dom:∀i j,j<n→D i j→i<n∧(S.at_ j).has i=true
 seen:∀j,j<128→S.seen.has j=true→R j
structure DmC(f:Func)(D:Nat→Nat→Prop)(R:Nat→Prop):Prop where
 few:f.blocks.length≤128
 edges:∀b∈f.blocks,∀e∈b.term.to,0≤e.block∧e.block.toNat<f.blocks.length
 next:∀(k:Nat) b,f.blocks[k]?=some b→R k→∀e∈b.term.to,R e.block.toNat∧∀i,D i e.block.toNat→i=e.block.toNat∨D i k
theorem dmx_F{f:Func}{D:Nat→Nat→Prop}{R:Nat→Prop}(hc:DmC f D R){k:Nat}{b:Block}(hb:f.blocks[k]?=some b)(hR:R k):∀(l:List Edge) {S:Ds},(∀e∈l,e∈b.term.to)→DmX f.blocks.length D R S→DmX f.blocks.length D R (l.foldl (domE k) S)
 | [],_,_,h=>h
 | e::r,S,hl,h=>by
  have hn:=hc.next k b hb hR e (hl e List.mem_cons_self)
  obtain⟨a1,a2,a3⟩:=dmax_E hc.few h.len h.dom h.seen (lt_of_getElem? hb) (hc.edges b (List.mem_of_getElem? hb) e (hl e List.mem_cons_self)) (fun _=>hn.1) (fun _=>hn.2) hR
  rw [List.foldl_cons]
  exact dmx_F hc hb hR r (fun x hx=>hl x (List.mem_cons_of_mem _ hx)) ⟨a3,a1,a2⟩
theorem dmx_R{f:Func}{D:Nat→Nat→Prop}{R:Nat→Prop}(hc:DmC f D R):∀(l:List Block) (k:Nat) {S:Ds},l=f.blocks.drop k→DmX f.blocks.length D R S→DmX f.blocks.length D R (domR k S l)
 | [],_,_,_,h=>h
 | b::r,k,S,hl,h=>by
  have hb:f.blocks[k]?=some b:=by
   have:=congrArg (fun l=>l[0]?) hl
   simpa using this.symm
  have hr:r=f.blocks.drop (k+1):=by
   rw [drop_at hb] at hl
   simpa using hl
  rw [domR]
  refine dmx_R hc r (k+1) hr ?_
  unfold domB
  split
  ·exact h
  rename_i hs
  have hk:=lt_of_getElem? hb
  exact dmx_F hc hb (h.seen k (by have:=hc.few;omega) (by simpa using hs)) _ (fun e he=>he) h
theorem dmx_I{f:Func}{D:Nat→Nat→Prop}{R:Nat→Prop}(hc:DmC f D R):∀(n:Nat) {S:Ds},DmX f.blocks.length D R S→DmX f.blocks.length D R (domI f n S)
 | 0,_,h=>h
 | n+1,S,h=>by
  simp only [domI]
  split
  ·exact dmx_I hc n (dmx_R hc f.blocks 0 (S:=⟨S.over,S.seen,false⟩) (by rw [List.drop_zero]) ⟨h.len,h.dom,h.seen⟩)
  exact h
theorem allB_in:∀(n j:Nat),n≤128→j<n→(allB n).has j=true
 | 0,_,_,h=>absurd h (Nat.not_lt_zero _)
 | n+1,j,hn,hj=>by
  rw [allB,Bs.has_add _ _ _ (by omega) (by omega)]
  by_cases e:j=n
  ·simp [e]
  rw [allB_in n j (by omega) (by omega)]
  rfl
theorem dom_max{f:Func}{D:Nat→Nat→Prop}{R:Nat→Prop}(hne:f.blocks≠[])(hc:DmC f D R)(h0:R 0)(hz:∀i,D i 0→i=0)(hlt:∀i j,D i j→i<f.blocks.length){i j:Nat}(hj:j<f.blocks.length)(h:D i j):(overF f j).has i=true:=by
 have hl:=List.length_pos_iff.2 hne
 have hs:DmX f.blocks.length D R (domS f):=by
  refine⟨by simp [domS],fun i j hj hij=>⟨hlt i j hij,?_⟩,fun j hj hsj=>?_⟩
  ·unfold Ds.at_ domS
   simp only
   rw [List.getElem?_set]
   split
   ·rename_i e
    subst e
    rw [if_pos (by simpa using hl),Option.getD_some,hz i hij]
    decide
   rw [List.getElem?_replicate,if_pos hj,Option.getD_some]
   exact allB_in _ _ hc.few (hlt i j hij)
  have:(Bs.none.add 0).has j=true:=hsj
  rw [Bs.has_add _ _ _ (by omega) hj] at this
  have hn:Bs.none.has j=false:=by unfold Bs.has Bs.none;simp
  rw [hn] at this
  simp only [Bool.false_or,decide_eq_true_eq] at this
  rw [this]
  exact h0
 exact((dmx_I hc 20000 hs).dom i j hj h).2
end Go.Proofs.Ytlclgfgmhnmnaaa
namespace Go.Proofs.Ytlclgfgmhnmnaaa
open Go.Av
section
variable {f:Func}
theorem blk_at{k:Int}(h0:0≤k)(h1:k<f.blocks.length):f.blocks[k.toNat]?=some (blkOf f k):=by
 unfold blkOf
 rw [List.getElem?_eq_getElem (by omega)]
 rfl
end
theorem shape_same{t t':Term}(h1:t.kind=t'.kind)(h2:t.arg=t'.arg)(h3:t.n=t'.n)(h4:t.cases=t'.cases)(h5:t.to.length=t'.to.length):shapeM t=shapeM t':=by
 unfold shapeM edgesM argM
 rw [h1,h2,h3,h4,h5]
theorem DefAt.range{f:Func}{v:Int}{p:Int×Int}(h:DefAt f v p):0≤p.1∧p.1<f.blocks.length:=by
 obtain⟨k,b,h1,h2,_⟩:=h
 have:=lt_of_getElem? h1
 omega
theorem end_intro{f:Func}{t:Term}(h1:shapeM t=true)(h2:t.cases.length≤256)(h3:t.kind=4→1≤t.n∧t.n≤6)(h4:casesE t.cases t.cases.length=0)(h5:∀e∈t.to,(1≤e.block∧e.block≤(f.blocks.length:Int) - 1)∧e.args.length=(blkOf f e.block).params.length):endE f t=0:=by
 unfold endE
 rw [if_neg (by simp [h1]),if_neg (by omega),if_neg (fun q=>by
  have:=h3 q.1
  have q2:=q.2
  simp [within,this] at q2),if_neg (by rw [h4];simp)]
 generalize t.to=l at h5
 induction l with
 | nil=>rfl
 | cons e r ih =>
  have he:=h5 e List.mem_cons_self
  simp only [edgesE]
  rw [if_neg (by simp [within,he.1]),if_neg (by rw [he.2];simp)]
  exact ih fun x hx=>h5 x (List.mem_cons_of_mem _ hx)
theorem end_cases{f:Func}{t:Term}(h:endE f t=0):casesE t.cases t.cases.length=0:=by
 unfold endE at h
 split at h
 ·simp at h
 split at h
 ·simp at h
 split at h
 ·simp at h
 split at h
 ·rename_i q
  exact absurd h q
 rename_i q
 simpa using q
end Go.Proofs.Ytlclgfgmhnmnaaa
namespace Go.Proofs.Ytlclgfgmhnmnaaa
open Go.Av
structure SpI(f:Func)(S:Sp):Prop where
 w:SpW f S
 old:∀(k:Nat) b l,f.blocks[k]?=some b→S.tos[k]?=some l→∀(n:Nat) x,b.term.to[n]?=some x→l[n]?=some x∨∃i:Nat,l[n]?=some ⟨((f.blocks.length+i:Nat):Int),[]⟩∧S.news[i]?=some (jumpB x)
 new:∀(i:Nat) c,S.news[i]?=some c→∃(k:Nat) (b:Block) (x:Edge),f.blocks[k]?=some b∧x∈b.term.to∧c=jumpB x
theorem spI_start(f:Func):SpI f (spS f):=⟨spS_w f,fun k b l h1 h2 n x h3=>by
 unfold spS at h2
 simp only [List.getElem?_map,h1,Option.map_some,Option.some.injEq] at h2
 rw [←h2]
 exact .inl h3,fun i c h=>by simp [spS] at h⟩
theorem spI_step{f:Func}{k n:Nat}{S:Sp}(h:SpI f S):SpI f (spStep f k n S):=by
 refine⟨spStep_w h.w,?_,?_⟩
 ·intro j b l h1 h2 m x h3
  unfold spStep at h2 ⊢
  cases hx:(toOf f (k:Int))[n]? with
  | none =>
   rw [hx] at h2
   exact h.old j b l h1 h2 m x h3
  | some y =>
   rw [hx] at h2
   simp only at h2 ⊢
   by_cases hc:critB f k y=true
   ·rw [if_pos hc] at h2 ⊢
    simp only at h2 ⊢
    have hext:∀i:Nat,S.news[i]?=some (jumpB x)→(S.news++[jumpB y])[i]?=some (jumpB x):=fun i q=>by
     rw [List.getElem?_append_left (lt_of_getElem? q)]
     exact q
    have hold:∀l',S.tos[j]?=some l'→l'[m]?=l[m]?→l[m]?=some x∨∃i:Nat,l[m]?=some ⟨((f.blocks.length+i:Nat):Int),[]⟩∧(S.news++[jumpB y])[i]?=some (jumpB x):=fun l' q1 q2=>by
     rw [←q2]
     rcases h.old j b l' h1 q1 m x h3 with r | ⟨i,r1,r2⟩
     ·exact .inl r
     exact .inr ⟨i,r1,hext i r2⟩
    rw [List.getElem?_set] at h2
    split at h2
    ·rename_i e
     subst e
     split at h2
     ·rename_i hk
      simp only [Option.some.injEq] at h2
      obtain⟨l',hl'⟩:∃l',S.tos[k]?=some l':=⟨_,List.getElem?_eq_getElem hk⟩
      rw [hl',Option.getD_some] at h2
      by_cases e2:n=m
      ·subst e2
       have hto:toOf f (k:Int)=b.term.to:=by
        unfold toOf blkOf
        rw [Int.toNat_natCast,h1]
        rfl
       rw [hto,h3] at hx
       simp only [Option.some.injEq] at hx
       subst hx
       refine .inr ⟨S.news.length,?_,by simp⟩
       rw [←h2,List.getElem?_set_self]
       rw [h.w.each k b l' h1 hl']
       exact lt_of_getElem? h3
      exact hold l' hl' (by rw [←h2,List.getElem?_set_ne e2])
     cases h2
    exact hold l h2 rfl
   rw [if_neg hc] at h2 ⊢
   exact h.old j b l h1 h2 m x h3
 intro i c hi
 unfold spStep at hi
 cases hx:(toOf f (k:Int))[n]? with
 | none =>
  rw [hx] at hi
  exact h.new i c hi
 | some y =>
  rw [hx] at hi
  simp only at hi
  split at hi
  ·simp only at hi
   by_cases hl:i<S.news.length
   ·rw [List.getElem?_append_left hl] at hi
    exact h.new i c hi
   have:=lt_of_getElem? hi
   rw [List.length_append,List.length_singleton] at this
   have e:i=S.news.length:=by omega
   subst e
   rw [List.getElem?_append_right (Nat.le_refl _),Nat.sub_self] at hi
   simp only [List.getElem?_cons_zero,Option.some.injEq] at hi
   have hk:k<f.blocks.length:=by
    refine Classical.byContradiction fun q=>?_
    unfold toOf blkOf at hx
    rw [Int.toNat_natCast,show f.blocks[k]?=none from List.getElem?_eq_none (by omega)] at hx
    cases hx
   have hb:f.blocks[k]?=some f.blocks[k]:=List.getElem?_eq_getElem hk
   have hto:toOf f (k:Int)=f.blocks[k].term.to:=by
    unfold toOf blkOf
    rw [Int.toNat_natCast,hb]
    rfl
   rw [hto] at hx
   exact⟨k,_,y,hb,List.mem_of_getElem? hx,hi.symm⟩
  exact h.new i c hi
theorem spI_E{f:Func}{k:Nat}:∀(m n:Nat) {S:Sp},SpI f S→SpI f (spE f k m n S)
 | 0,_,_,h=>h
 | m+1,n,_,h=>spI_E m (n+1) (spI_step h)
theorem spI_K{f:Func}:∀(m k:Nat) {S:Sp},SpI f S→SpI f (spK f m k S)
 | 0,_,_,h=>h
 | m+1,k,_,h=>spI_K m (k+1) (spI_E _ 0 h)
theorem split_i(f:Func):SpI f (spM f):=spI_K _ 0 (spI_start f)
section
variable {f:Func}
theorem split_len:(splitM f).blocks.length=f.blocks.length+(spM f).news.length:=by
 unfold splitM
 rw [List.length_append,List.length_zipWith,(split_i f).w.len]
 omega
theorem split_old{k:Nat}{c:Block}(hk:k<f.blocks.length):(splitM f).blocks[k]?=some c↔∃b l,f.blocks[k]?=some b∧(spM f).tos[k]?=some l∧c=setTo b l:=by
 have hw:=(split_i f).w.len
 have e:(splitM f).blocks[k]?=(List.zipWith setTo f.blocks (spM f).tos)[k]?:=List.getElem?_append_left (by rw [List.length_zipWith];omega)
 have h1:f.blocks[k]?=some f.blocks[k]:=List.getElem?_eq_getElem hk
 have h2:(spM f).tos[k]?=some ((spM f).tos[k]'(by omega)):=List.getElem?_eq_getElem _
 rw [e,List.getElem?_zipWith,h1,h2]
 constructor
 ·intro h
  simp only [Option.some.injEq] at h
  exact⟨_,_,rfl,rfl,h.symm⟩
 rintro⟨b,l,q1,q2,q3⟩
 simp only [Option.some.injEq] at q1 q2
 rw [q1,q2,q3]
theorem split_new(i:Nat):(splitM f).blocks[f.blocks.length+i]?=(spM f).news[i]?:=by
 have hw:=(split_i f).w.len
 have hl:(List.zipWith setTo f.blocks (spM f).tos).length=f.blocks.length:=by
  rw [List.length_zipWith]
  omega
 have e:(splitM f).blocks[f.blocks.length+i]?=(spM f).news[f.blocks.length+i - (List.zipWith setTo f.blocks (spM f).tos).length]?:=List.getElem?_append_right (by omega)
 rw [e,hl,Nat.add_sub_cancel_left]
theorem split_edge{k:Nat}{b:Block}{l:List Edge}(hb:f.blocks[k]?=some b)(hl:(spM f).tos[k]?=some l){e:Edge}(he:e∈l):e∈b.term.to∨∃(i:Nat) (x:Edge),e=⟨((f.blocks.length+i:Nat):Int),[]⟩∧(spM f).news[i]?=some (jumpB x)∧x∈b.term.to:=by
 obtain⟨n,hn⟩:=List.mem_iff_getElem?.1 he
 have hlen:=(split_i f).w.each k b l hb hl
 have hnl:=lt_of_getElem? hn
 have hx:b.term.to[n]?=some (b.term.to[n]'(by omega)):=List.getElem?_eq_getElem _
 rcases (split_i f).old k b l hb hl n _ hx with q | ⟨i,q1,q2⟩
 ·rw [hn] at q
  simp only [Option.some.injEq] at q
  rw [q]
  exact .inl (List.getElem_mem _)
 rw [hn] at q1
 simp only [Option.some.injEq] at q1
 exact .inr ⟨i,_,q1,q2,List.getElem_mem _⟩
theorem edge_split{k:Nat}{b:Block}{l:List Edge}(hb:f.blocks[k]?=some b)(hl:(spM f).tos[k]?=some l){x:Edge}(hx:x∈b.term.to):x∈l∨∃i:Nat,(⟨((f.blocks.length+i:Nat):Int),[]⟩:Edge)∈l∧(spM f).news[i]?=some (jumpB x):=by
 obtain⟨n,hn⟩:=List.mem_iff_getElem?.1 hx
 rcases (split_i f).old k b l hb hl n _ hn with q | ⟨i,q1,q2⟩
 ·exact .inl (List.mem_of_getElem? q)
 exact .inr ⟨i,List.mem_of_getElem? q1,q2⟩
end
theorem jumpB_inj{x y:Edge}(h:jumpB x=jumpB y):x=y:=by
 unfold jumpB at h
 simpa using h
theorem zip_vals:∀(bs:List Block) (tos:List (List Edge)),tos.length=bs.length→(List.zipWith setTo bs tos).flatMap blkVals=bs.flatMap blkVals
 | [],_,_=>by simp
 | b::bs,l::tos,h=>by
  rw [List.zipWith_cons_cons,List.flatMap_cons,List.flatMap_cons,zip_vals bs tos (by simpa using h)]
  rfl
 | b::bs,[],h=>by simp at h
theorem zip_sum:∀(bs:List Block) (tos:List (List Edge)),tos.length=bs.length→sumI (List.zipWith setTo bs tos)=sumI bs
 | [],_,_=>by simp [sumI]
 | b::bs,l::tos,h=>by
  have ih:=zip_sum bs tos (by simpa using h)
  unfold sumI at ih ⊢
  rw [List.zipWith_cons_cons,List.map_cons,List.map_cons,List.sum_cons,List.sum_cons,ih]
  rfl
 | b::bs,[],h=>by simp at h
theorem dom_seen{f:Func}{D:Nat→Nat→Prop}{R:Nat→Prop}(hne:f.blocks≠[])(hc:DmC f D R)(h0:R 0)(hz:∀i,D i 0→i=0)(hlt:∀i j,D i j→i<f.blocks.length){j:Nat}(hj:j<128)(h:seenF f j=true):R j:=by
 have hl:=List.length_pos_iff.2 hne
 have hs:DmX f.blocks.length D R (domS f):=by
  refine⟨by simp [domS],fun i j hj hij=>⟨hlt i j hij,?_⟩,fun j hj hsj=>?_⟩
  ·unfold Ds.at_ domS
   simp only
   rw [List.getElem?_set]
   split
   ·rename_i e
    subst e
    rw [if_pos (by simpa using hl),Option.getD_some,hz i hij]
    decide
   rw [List.getElem?_replicate,if_pos hj,Option.getD_some]
   exact allB_in _ _ hc.few (hlt i j hij)
  have:(Bs.none.add 0).has j=true:=hsj
  rw [Bs.has_add _ _ _ (by omega) hj] at this
  have hn:Bs.none.has j=false:=by unfold Bs.has Bs.none;simp
  rw [hn] at this
  simp only [Bool.false_or,decide_eq_true_eq] at this
  rw [this]
  exact h0
 exact(dmx_I hc 20000 hs).seen j hj h
end Go.Proofs.Ytlclgfgmhnmnaaa
namespace Go.Proofs.Ytlclgfgmhnmnaaa
open Go.Av
def EdgN(f:Func)(k j:Nat):Prop:=∃b l,f.blocks[k]?=some b∧(spM f).tos[k]?=some l∧∃e∈l,e.block=(j:Int)
theorem edgN_src{f:Func}(hg:GrW f){k i:Nat}{x:Edge}(h:EdgN f k (f.blocks.length+i))(hx:(spM f).news[i]?=some (jumpB x)):∃b,f.blocks[k]?=some b∧x∈b.term.to:=by
 obtain⟨b,l,h1,h2,e,h3,h4⟩:=h
 refine⟨b,h1,?_⟩
 rcases split_edge h1 h2 h3 with q | ⟨j,y,q1,q2,q3⟩
 ·have:=(hg.edges b (List.mem_of_getElem? h1) e q).2
  omega
 rw [q1] at h4
 have h4':((f.blocks.length+j:Nat):Int)=((f.blocks.length+i:Nat):Int):=h4
 have:j=i:=by omega
 subst this
 rw [q2] at hx
 simp only [Option.some.injEq] at hx
 rw [←jumpB_inj hx]
 exact q3
def SpD(f:Func)(i j:Nat):Prop:=(j<f.blocks.length∧i<f.blocks.length∧(overF f j).has i=true)∨(f.blocks.length≤j∧((i=j∧j<f.blocks.length+(spM f).news.length)∨(i<f.blocks.length∧∀k,seenF f k=true→EdgN f k j→(overF f k).has i=true)))
def SpR(f:Func)(j:Nat):Prop:=(j<f.blocks.length∧seenF f j=true)∨(f.blocks.length≤j∧∃k,seenF f k=true∧EdgN f k j)
theorem def_split{f:Func}{v:Int}{p:Int×Int}(h:DefAt f v p):DefAt (splitM f) v p:=by
 obtain⟨k,b,h1,h2,h3⟩:=h
 have hk:=lt_of_getElem? h1
 have hw:=(split_i f).w.len
 have hl:(spM f).tos[k]?=some ((spM f).tos[k]'(by omega)):=List.getElem?_eq_getElem _
 exact⟨k,setTo b _,(split_old hk).2 ⟨b,_,h1,hl,rfl⟩,h2,h3⟩
section
variable {f:Func}
theorem split_case{k:Nat}{c:Block}(h:(splitM f).blocks[k]?=some c):(∃b l,k<f.blocks.length∧f.blocks[k]?=some b∧(spM f).tos[k]?=some l∧c=setTo b l)∨∃(i:Nat) (x:Edge),k=f.blocks.length+i∧(spM f).news[i]?=some (jumpB x)∧c=jumpB x∧∃(k0:Nat) (b0:Block),f.blocks[k0]?=some b0∧x∈b0.term.to:=by
 by_cases hk:k<f.blocks.length
 ·obtain⟨b,l,h1,h2,h3⟩:=(split_old hk).1 h
  exact .inl ⟨b,l,hk,h1,h2,h3⟩
 obtain⟨i,hi⟩:∃i,k=f.blocks.length+i:=⟨k - f.blocks.length,by omega⟩
 rw [hi,split_new] at h
 obtain⟨k0,b0,x,q1,q2,q3⟩:=(split_i f).new i c h
 exact .inr ⟨i,x,hi,by rw [h,q3],q3,k0,b0,q1,q2⟩
theorem split_c(hg:GrW f)(hd:DomW f)(hm:f.blocks.length+(spM f).news.length≤128):DmC (splitM f) (SpD f) (SpR f) where
 few:=by rw [split_len];exact hm
 edges:=fun c hc e he=>by
  obtain⟨k,hk⟩:=List.mem_iff_getElem?.1 hc
  rw [split_len]
  rcases split_case hk with⟨b,l,h1,h2,h3,h4⟩ | ⟨i,x,h1,h2,h3,k0,b0,h4,h5⟩
  ·rw [h4] at he
   rcases split_edge h2 h3 he with q | ⟨i,x,q1,q2,q3⟩
   ·have:=hg.edges b (List.mem_of_getElem? h2) e q
    omega
   have:=lt_of_getElem? q2
   rw [q1]
   simp only
   omega
  rw [h3] at he
  have hex:e=x:=by simpa [jumpB] using he
  have:=hg.edges b0 (List.mem_of_getElem? h4) x h5
  rw [hex]
  omega
 next:=fun k c hk hR e he=>by
  have hn:=hg.few
  rcases split_case hk with⟨b,l,h1,h2,h3,h4⟩ | ⟨i,x,h1,h2,h3,_⟩
  ·rw [h4] at he
   have hs:seenF f k=true:=by
    rcases hR with q | q
    ·exact q.2
    omega
   rcases split_edge h2 h3 he with q | ⟨i,x,q1,q2,q3⟩
   ·have hr:=hg.edges b (List.mem_of_getElem? h2) e q
    obtain⟨s1,s2⟩:=hd.step k b h2 hs e q
    refine⟨.inl ⟨by omega,s1⟩,fun z hz=>?_⟩
    rcases hz with⟨z1,z2,z3⟩ | ⟨z1,_⟩
    ·rcases s2 z (by omega) z3 with r | r
     ·exact .inl r
     exact .inr (.inl ⟨h1,z2,r⟩)
    omega
   have hen:EdgN f k (f.blocks.length+i):=⟨b,l,h2,h3,e,he,by rw [q1]⟩
   have heb:e.block.toNat=f.blocks.length+i:=by
    rw [q1]
    simp only
    omega
   rw [heb]
   refine⟨.inr ⟨by omega,k,hs,hen⟩,fun z hz=>?_⟩
   rcases hz with⟨z1,_⟩ | ⟨_,⟨z2,_⟩ | ⟨z2,z3⟩⟩
   ·omega
   ·exact .inl z2
   exact .inr (.inl ⟨h1,z2,z3 k hs hen⟩)
  rw [h3] at he
  have hex:e=x:=by simpa [jumpB] using he
  rw [hex]
  have hsrc:∀k',seenF f k'=true→EdgN f k' k→seenF f x.block.toNat=true∧x.block.toNat<f.blocks.length∧∀j,j<128→((overF f x.block.toNat).has j=true→j=x.block.toNat∨(overF f k').has j=true):=fun k' hs' hen=>by
   rw [h1] at hen
   obtain⟨b',r1,r2⟩:=edgN_src hg hen h2
   obtain⟨s1,s2⟩:=hd.step k' b' r1 hs' x r2
   have hr:=hg.edges b' (List.mem_of_getElem? r1) x r2
   exact⟨s1,by omega,s2⟩
  have hex2:∃k',seenF f k'=true∧EdgN f k' k:=by
   rcases hR with q | q
   ·omega
   exact q.2
  obtain⟨k',e1,e2⟩:=hex2
  obtain⟨s1,s2,_⟩:=hsrc k' e1 e2
  refine⟨.inl ⟨s2,s1⟩,fun z hz=>?_⟩
  rcases hz with⟨z1,z2,z3⟩ | ⟨z1,_⟩
  ·by_cases q:z=x.block.toNat
   ·exact .inl q
   exact .inr (.inr ⟨by omega,.inr ⟨z2,fun k'' f1 f2=>((hsrc k'' f1 f2).2.2 z (by omega) z3).resolve_left q⟩⟩)
  omega
theorem spD_zero(hg:GrW f)(hd:DomW f):∀i,SpD f i 0→i=0:=fun i h=>by
 have hl:=List.length_pos_iff.2 hg.ne
 have hn:=hg.few
 rcases h with⟨_,h2,h3⟩ | ⟨h1,_⟩
 ·exact(hd.zero i (by omega)).1 h3
 omega
theorem spD_lt:∀i j,SpD f i j→i<(splitM f).blocks.length:=fun i j h=>by
 rw [split_len]
 rcases h with⟨_,h2,_⟩ | ⟨_,⟨h2,h3⟩ | ⟨h2,_⟩⟩<;>omega
theorem split_ne(hg:GrW f):(splitM f).blocks≠[]:=fun q=>by
 have hl:=List.length_pos_iff.2 hg.ne
 have:=congrArg List.length q
 rw [split_len] at this
 simp only [List.length_nil] at this
 omega
theorem sumI_nil:∀l:List Block,(∀c∈l,c.ins=[])→sumI l=0
 | [],_=>rfl
 | c::l,h=>by
  have ih:=sumI_nil l fun d hd=>h d (List.mem_cons_of_mem _ hd)
  unfold sumI at ih ⊢
  rw [List.map_cons,List.sum_cons,ih,h c (List.mem_cons_self ..)]
  rfl
theorem split_check(hfit:f.fit)(hc:checkFuncM f=0)(hm:f.blocks.length+(spM f).news.length≤128):checkFuncM (splitM f)=0:=by
 have hv:=checkFunc_v hfit hc
 have hf:=hv.fn
 have hg:=hf.gr
 have hd:=hv.dom
 have hl:=List.length_pos_iff.2 hg.ne
 have hC:=split_c hg hd hm
 have hR0:SpR f 0:=.inl ⟨hl,hd.seen⟩
 have hz:=spD_zero hg hd
 have hlt:=spD_lt (f:=f)
 have hwl:=(split_i f).w.len
 have hmax:∀{i j:Nat},j<(splitM f).blocks.length→SpD f i j→(overF (splitM f) j).has i=true:=fun hj h=>dom_max (split_ne hg) hC hR0 hz hlt hj h
 have hseen:∀{j:Nat},j<128→seenF (splitM f) j=true→SpR f j:=fun hj h=>dom_seen (split_ne hg) hC hR0 hz hlt hj h
 have hold:∀{k:Nat} {n v:Int},k<f.blocks.length→Fine f k n v→Fine (splitM f) k n v:=fun {k n v} hk h=>by
  obtain⟨p,h1,h2⟩:=h
  have hp:=h1.range
  refine⟨p,def_split h1,fun hs=>?_⟩
  have hsf:seenF f k=true:=by
   rcases hseen (by omega) hs with q | q
   ·exact q.2
   omega
  rcases h2 hsf with q | ⟨q1,q2⟩
  ·exact .inl q
  exact .inr ⟨q1,hmax (by rw [split_len];omega) (.inl ⟨hk,by omega,q2⟩)⟩
 have hvals:valsF (splitM f)=valsF f:=by
  unfold valsF splitM
  rw [List.flatMap_append,zip_vals _ _ hwl]
  have:(spM f).news.flatMap blkVals=[]:=by
   rw [List.flatMap_eq_nil_iff]
   intro c hcm
   obtain⟨i,hi⟩:=List.mem_iff_getElem?.1 hcm
   obtain⟨_,_,x,_,_,q⟩:=(split_i f).new i c hi
   rw [q]
   rfl
  rw [this,List.append_nil]
 have hsum:sumI (splitM f).blocks=sumI f.blocks:=by
  have h1:sumI (splitM f).blocks=sumI (List.zipWith setTo f.blocks (spM f).tos)+sumI (spM f).news:=by
   unfold sumI splitM
   rw [List.map_append,List.sum_append]
  have h2:sumI (spM f).news=0:=by
   refine sumI_nil _ fun c hcm=>?_
   obtain⟨i,hi⟩:=List.mem_iff_getElem?.1 hcm
   obtain⟨_,_,x,_,_,q⟩:=(split_i f).new i c hi
   rw [q]
   rfl
  rw [h1,h2,zip_sum _ _ hwl]
  rfl
 have hpar:∀{k:Int},0≤k→k<f.blocks.length→(blkOf (splitM f) k).params=(blkOf f k).params:=fun {k} h0 h1=>by
  have hb:=blk_at h0 h1
  have hlk:(spM f).tos[k.toNat]?=some ((spM f).tos[k.toNat]'(by omega)):=List.getElem?_eq_getElem _
  have:=(split_old (f:=f) (k:=k.toNat) (by omega)).2 ⟨_,_,hb,hlk,rfl⟩
  have e:blkOf (splitM f) k=setTo (blkOf f k) ((spM f).tos[k.toNat]'(by omega)):=by
   show(splitM f).blocks[k.toNat]?.getD default=_
   rw [this]
   rfl
  rw [e]
  rfl
 have hpn:∀(i:Nat),i<(spM f).news.length→(blkOf (splitM f) ((f.blocks.length+i:Nat):Int)).params=[]:=fun i hi=>by
  have hni:(spM f).news[i]?=some ((spM f).news[i]'hi):=List.getElem?_eq_getElem _
  obtain⟨_,_,x,_,_,q⟩:=(split_i f).new i _ hni
  have:(splitM f).blocks[f.blocks.length+i]?=some (jumpB x):=by rw [split_new,hni,q]
  have e:blkOf (splitM f) ((f.blocks.length+i:Nat):Int)=jumpB x:=by
   unfold blkOf
   rw [Int.toNat_natCast,this]
   rfl
  rw [e]
  rfl
 refine check_intro (split_ne hg) (by rw [split_len];exact hm) hf.name (fun c hcm=>?_) (by rw [hsum];exact sum_few hfit hc) (by rw [hpar (by omega) (by omega)];exact hf.args) (by rw [hvals];exact hv.vals) (by rw [hvals];exact hv.nodup) (fun c hcm=>?_) ?_
 ·obtain⟨k,hk⟩:=List.mem_iff_getElem?.1 hcm
  rcases split_case hk with⟨b,l,_,h2,_,h4⟩ | ⟨i,x,_,_,h3,_⟩
  ·rw [h4]
   exact hf.ins b (List.mem_of_getElem? h2)
  rw [h3]
  simp [jumpB]
 ·obtain⟨k,hk⟩:=List.mem_iff_getElem?.1 hcm
  rcases split_case hk with⟨b,l,h1,h2,h3,h4⟩ | ⟨i,x,h1,h2,h3,k0,b0,h4,h5⟩
  ·have hbw:=hf.blk b (List.mem_of_getElem? h2)
   have hbl:=(split_i f).w.each k b l h2 h3
   obtain⟨m1,m2,m3,m4⟩:=edges_of_end hbw.fin
   rw [h4]
   refine⟨hbw.forms,end_intro ?_ m2 m3 (end_cases (f:=f) (t:=b.term) hbw.fin) fun e he=>?_⟩
   ·rw [shape_same (t:=(setTo b l).term) (t':=b.term) rfl rfl rfl rfl hbl]
    exact m1
   rw [split_len]
   rcases split_edge h2 h3 he with q | ⟨i,x,q1,q2,q3⟩
   ·obtain⟨e1,e2⟩:=m4 e q
    exact⟨by omega,by rw [hpar (by omega) (by omega)];exact e2⟩
   have hi:=lt_of_getElem? q2
   rw [q1]
   refine⟨by simp only;omega,?_⟩
   simp only
   rw [hpn i hi]
  have hbw:=hf.blk b0 (List.mem_of_getElem? h4)
  obtain⟨m1,m2,m3,m4⟩:=edges_of_end hbw.fin
  obtain⟨e1,e2⟩:=m4 x h5
  rw [h3]
  refine⟨fun i hi=>(by cases hi),end_intro (by simp [jumpB,shapeM,edgesM,argM]) (by simp [jumpB]) (by simp [jumpB]) rfl fun e he=>?_⟩
  have hex:e=x:=by simpa [jumpB] using he
  rw [hex,split_len]
  exact⟨by omega,by rw [hpar (by omega) (by omega)];exact e2⟩
 refine⟨fun k c hk n i hi a ha=>?_,fun k c hk h1 h4=>?_,fun k c hk e he a ha=>?_⟩
 ·rcases split_case hk with⟨b,l,h1,h2,h3,h4⟩ | ⟨i0,x,_,_,h3,_⟩
  ·rw [h4] at hi
   exact hold h1 (hv.uses.ins k b h2 n i hi a ha)
  rw [h3] at hi
  simp [jumpB] at hi
 ·rcases split_case hk with⟨b,l,q1,q2,q3,q4⟩ | ⟨i0,x,_,_,q3,_⟩
  ·rw [q4] at h1 h4 ⊢
   exact hold q1 (hv.uses.arg k b q2 h1 h4)
  rw [q3] at h1
  exact absurd rfl h1
 rcases split_case hk with⟨b,l,q1,q2,q3,q4⟩ | ⟨i0,x,q1,q2,q3,k0,b0,q4,q5⟩
 ·rw [q4] at he ⊢
  rcases split_edge q2 q3 he with q | ⟨i,x,r1,_,_⟩
  ·exact hold q1 (hv.uses.args k b q2 e q a ha)
  rw [r1] at ha
  cases ha
 rw [q3] at he ⊢
 have hex:e=x:=by simpa [jumpB] using he
 rw [hex] at ha
 obtain⟨p,p1,_⟩:=hv.uses.args k0 b0 q4 x q5 a ha
 have hp:=p1.range
 refine⟨p,def_split p1,fun hs=>.inr ⟨by omega,?_⟩⟩
 have hil:=lt_of_getElem? q2
 refine hmax (by rw [split_len];omega) (.inr ⟨by omega,.inr ⟨by omega,fun k' s1 s2=>?_⟩⟩)
 rw [q1] at s2
 obtain⟨b',r1,r2⟩:=edgN_src hg s2 q2
 obtain⟨p',t1,t2⟩:=hv.uses.args k' b' r1 x r2 a ha
 have:=t1.uniq hv p1
 subst this
 rcases t2 s1 with⟨u1,_⟩ | ⟨_,u2⟩
 ·rw [show p'.1.toNat=k' by omega]
  exact hd.self k' (lt_of_getElem? r1)
 exact u2
end
end Go.Proofs.Ytlclgfgmhnmnaaa
namespace Go.Proofs.Ytlclgfgmhnmnaaa
open Go.Av
inductive Avd(f:Func)(a:Int):Int→Prop
 | start (h:a≠0):Avd f a 0
 | step {p k:Int} (h:Avd f a p) (e:Edg f p k) (hne:a≠k):Avd f a k
theorem Avd.rch{f:Func}(hw:OrdW f){a k:Int}(h:Avd f a k):0≤plF f k:=by
 induction h with
 | start _=>rw [hw.zero];omega
 | step _ e _ ih=>exact hw.next _ _ ih e
def PdT(f:Func)(O:List Int):Prop:=∀x,0≤atI O x→∀a,¬Avd f a x→a≠x→¬Avd f a (atI O x)
theorem pd_chain{f:Func}(hw:OrdW f){O:List Int}(h:Tr f O)(hp:PdT f O){a:Int}:∀(n:Nat) (x:Int),Asg O x→plF f x<n→¬Avd f a x→Anc O a x
 | 0,x,hx,hn,_=>by
  have:=h.asg hw hx
  omega
 | n+1,x,hx,hn,ha=>by
  by_cases e:a=x
  ·rw [e]
   exact .refl
  rcases hx with q | q
  ·rw [q] at ha e
   exact absurd (Avd.start e) ha
  obtain⟨u1,u2,u3⟩:=h.up x q
  exact .up q (pd_chain hw h hp n _ u3 (by omega) (hp x q a ha e))
theorem pd_anc{f:Func}(hw:OrdW f){O:List Int}(h:Tr f O)(hp:PdT f O){a x:Int}(hx:Asg O x)(ha:¬Avd f a x):Anc O a x:=pd_chain hw h hp 300 x hx (by
 have h1:=(hw.low x).2
 have h2:=hw.few
 omega) ha
theorem pd_mid{f:Func}(hw:OrdW f){O:List Int}(h:Tr f O)(hp:PdT f O){a m x:Int}(hx:Asg O x)(ha:¬Avd f a x)(hm:Anc O m x)(ham:Anc O a m):¬Avd f a m:=by
 induction hm with
 | refl=>exact ha
 | @up x hu hm ih =>
  obtain⟨u1,u2,u3⟩:=h.up x hu
  by_cases e:a=x
  ·have h1:=hm.pl hw h u3
   have h2:=(ham.pl hw h h1.2.2.1).1
   rw [e] at h2
   omega
  exact ih u3 (hp x hu a ha e)
theorem pd_fold{f:Func}(hw:OrdW f){O:List Int}(h:Tr f O)(hp:PdT f O){a:Int}:∀(ps:List Int) (acc:Int),(∀p∈ps,0≤p∧p<f.blocks.length)→(∀p∈ps,¬Avd f a p)→(acc=-1∨(Asg O acc∧¬Avd f a acc)) →
  ps.foldl (predStep (plL f) O) acc=-1∨(Asg O (ps.foldl (predStep (plL f) O) acc)∧¬Avd f a (ps.foldl (predStep (plL f) O) acc))
 | [],acc,_,_,hacc=>hacc
 | p::r,acc,hps,hpa,hacc=>by
  rw [List.foldl_cons]
  refine pd_fold hw h hp r _ (fun q hq=>hps q (List.mem_cons_of_mem _ hq)) (fun q hq=>hpa q (List.mem_cons_of_mem _ hq)) ?_
  have hpr:=hps p List.mem_cons_self
  unfold predStep
  by_cases ha:Asg O p
  ·rw [if_neg fun q=>(pred_asg hw h hpr).1 q ha]
   split
   ·exact .inr ⟨ha,hpa p List.mem_cons_self⟩
   rename_i hn
   obtain⟨q1,q2⟩:=hacc.resolve_left (by omega)
   obtain⟨m1,m2,m3⟩:=meet_ok' hw h q1 ha
   have h1:=pd_anc hw h hp q1 q2
   have h2:=pd_anc hw h hp ha (hpa p List.mem_cons_self)
   exact .inr ⟨(m1.pl hw h q1).2.2.1,pd_mid hw h hp q1 q2 m1 (m3 a h1 h2)⟩
  rw [if_pos ((pred_asg hw h hpr).2 ha)]
  exact hacc
theorem pd_step{f:Func}(hg:GrW f)(hw:OrdW f){i:Int}{O:List Int}(h:Dinv f i O)(hp:PdT f O){z:Int}(hz:plF f z=i)(h1:1≤i):PdT f (O.set z.toNat (nextM (plL f) O (predsAt f z))):=by
 have hzr:=hw.range z (by omega)
 have hz1:1≤z:=by
  refine Classical.byContradiction fun q=>?_
  have:z=0:=by omega
  rw [this,hw.zero] at hz
  omega
 have hnx:=(dinv_step hg hw h hz h1).1
 intro x hx a ha hne
 rw [atI_set hz1 (by rw [h.tr.len];omega)] at hx ⊢
 split
 ·rename_i e
  subst e
  have:=pd_fold hw h.tr hp (a:=a) (predsAt f x) (-1) (fun p q=>(preds_edg hg hzr.1 q).1) (fun p q r=>ha (.step r (preds_edg hg hzr.1 q).2 hne)) (.inl rfl)
  exact(this.resolve_left fun q=>by
   have:nextM (plL f) O (predsAt f x)=-1:=q
   omega).2
 rename_i e
 rw [if_neg e] at hx
 exact hp x hx a ha hne
theorem pd_dmStep{f:Func}(hg:GrW f)(hw:OrdW f){i:Int}{S:Dm}(h:Dinv f i S.over)(hp:PdT f S.over){z:Int}(hz:plF f z=i)(h1:1≤i):PdT f (dmStep f S z).over:=by
 unfold dmStep
 split
 ·exact pd_step hg hw h hp hz h1
 exact hp
theorem pd_dmF{f:Func}(hg:GrW f)(hw:OrdW f):∀(l:List Int) (i:Nat) {S:Dm},1≤i→(∀(j:Nat) z,l[j]?=some z→plF f z=i+j)→Dinv f i S.over→PdT f S.over→PdT f (l.foldl (dmStep f) S).over
 | [],_,_,_,_,_,hp=>hp
 | z::r,i,S,h1,hl,h,hp=>by
  have hz:=hl 0 z rfl
  have hzi:plF f z=i:=by rw [hz];omega
  have a1:=(dmStep_ok hg hw h hzi (by omega)).1
  have a1':Dinv f ((i+1:Nat):Int) (dmStep f S z).over:=by
   rw [show((i+1:Nat):Int)=(i:Int)+1 by omega]
   exact a1
  rw [List.foldl_cons]
  exact pd_dmF hg hw r (i+1) (by omega) (fun j y hj=>by
   rw [hl (j+1) y hj]
   omega) a1' (pd_dmStep hg hw h hp hzi (by omega))
theorem pd_dmR{f:Func}(hg:GrW f)(hw:OrdW f){S:Dm}(h:Dinv f 1 S.over)(hp:PdT f S.over):PdT f (dmR f S).over :=
 pd_dmF hg hw ((orderM f).drop 1) 1 (by omega) (fun j z hj=>by
  rw [List.getElem?_drop] at hj
  rw [hw.at_ _ _ hj]
  omega) h hp
theorem pd_dmI{f:Func}(hg:GrW f)(hw:OrdW f):∀(n:Nat) {S:Dm},Dinv f 1 S.over→PdT f S.over→PdT f (dmI f n S).over
 | 0,_,_,hp=>hp
 | n+1,S,h,hp=>by
  simp only [dmI]
  split
  ·exact pd_dmI hg hw n (dinv_again hw (dmR_ok hg hw (S:=⟨S.over,false⟩) h).1) (pd_dmR hg hw (S:=⟨S.over,false⟩) h hp)
  exact hp
theorem tree_pd{f:Func}(hg:GrW f):PdT f (treeM f):=by
 have hw:=ord_w hg
 refine pd_dmI hg hw 30000 (dmS_ok hw) fun x hx=>?_
 have hat:atI (dmS f).over x=-1:=by
  unfold atI dmS
  simp only
  rw [List.getElem?_replicate]
  split<;>rfl
 rw [hat] at hx
 omega
theorem anc_iff{f:Func}(hg:GrW f){a k:Int}(hk:0≤plF f k):Anc (treeM f) a k↔¬Avd f a k:=by
 have hw:=ord_w hg
 have ht:=tree_w hg
 constructor
 ·intro h q
  induction q with
  | start hne =>
   cases h with
   | refl=>exact hne rfl
   | up h _=>rw [ht.tr.root] at h;omega
  | @step p k q e hne ih =>
   have hp:=q.rch hw
   have hpr:=hw.range p hp
   have hkr:=hw.range k hk
   have h1:1≤plF f k:=by
    obtain⟨x,hx,hxe⟩:=e
    have:=(hg.edges _ (List.mem_of_getElem? (show f.blocks[p.toNat]?=some (blkOf f p) by
     unfold blkOf
     rw [List.getElem?_eq_getElem (by omega)]
     rfl)) x hx).1
    refine Classical.byContradiction fun r=>?_
    have:=hw.inj k 0 hk (by rw [hw.zero];omega)
    omega
   exact ih hp (anc_pred hg h1 (edg_preds hpr hkr e) hp h hne)
 exact pd_anc hw ht.tr (tree_pd hg) (ht.asg' hw hk)
end Go.Proofs.Ytlclgfgmhnmnaaa
namespace Go.Proofs.Ytlclgfgmhnmnaaa
open Go.Av
theorem fitIs_nil':fitIs []:=fun _ h=>by cases h
theorem split_fit{f:Func}(hfit:f.fit)(hm:f.blocks.length+(spM f).news.length≤128):(splitM f).fit:=by
 refine⟨hfit.1,by rw [split_len];omega,fun c hcm=>?_⟩
 obtain⟨k,hk⟩:=List.mem_iff_getElem?.1 hcm
 rcases split_case hk with⟨b,l,h1,h2,h3,h4⟩ | ⟨i,x,h1,h2,h3,k0,b0,h4,h5⟩
 ·obtain⟨b1,b2,b3,b4,t1,t2,t3,t4,t5,t6,t7⟩:=hfit.2.2 _ (List.mem_of_getElem? h2)
  have hlen:=(split_i f).w.each k b l h2 h3
  rw [h4]
  refine⟨b1,b2,b3,b4,t1,t2,t3,t4,t5,by show l.length≤_;rw [hlen];exact t6,fun e he=>?_⟩
  rcases split_edge h2 h3 he with q | ⟨i,x,q1,q2,q3⟩
  ·exact t7 e q
  have:=lt_of_getElem? q2
  rw [q1]
  refine⟨?_,fitIs_nil',by simp⟩
  unfold fitI
  simp only
  omega
 obtain⟨b1,b2,b3,b4,t1,t2,t3,t4,t5,t6,t7⟩:=hfit.2.2 _ (List.mem_of_getElem? h4)
 rw [h3]
 refine⟨fitIs_nil',by simp [jumpB],by simp [jumpB],fun v hv=>(by cases hv),by simp [jumpB,fitI],by simp [jumpB,fitI],by simp [jumpB,fitI],fitIs_nil',by simp [jumpB],by simp [jumpB],fun e he=>?_⟩
 have hex:e=x:=by simpa [jumpB] using he
 rw [hex]
 exact t7 x h5
section
variable {f:Func}
theorem to_old{k:Int}(h0:0≤k)(h1:k<f.blocks.length):∃l,(spM f).tos[k.toNat]?=some l∧toOf (splitM f) k=l:=by
 have hw:=(split_i f).w.len
 have hb:=blk_at h0 h1
 obtain⟨l,hl⟩:∃l,(spM f).tos[k.toNat]?=some l:=⟨_,List.getElem?_eq_getElem (by omega)⟩
 refine⟨l,hl,?_⟩
 have hc:=(split_old (f:=f) (k:=k.toNat) (by omega)).2 ⟨_,l,hb,hl,rfl⟩
 show((splitM f).blocks[k.toNat]?.getD default).term.to=l
 rw [hc]
 rfl
theorem to_new{i:Nat}{x:Edge}(h:(spM f).news[i]?=some (jumpB x)):toOf (splitM f) ((f.blocks.length+i:Nat):Int)=[x]:=by
 show((splitM f).blocks[((f.blocks.length+i:Nat):Int).toNat]?.getD default).term.to=[x]
 rw [Int.toNat_natCast,split_new,h]
 rfl
theorem spl_edg{p k:Int}(h0:0≤p)(h1:p<f.blocks.length)(h:Edg f p k):Edg (splitM f) p k∨∃i:Nat,Edg (splitM f) p ((f.blocks.length+i:Nat):Int)∧Edg (splitM f) ((f.blocks.length+i:Nat):Int) k:=by
 obtain⟨x,hx,e⟩:=h
 obtain⟨l,hl,hto⟩:=to_old h0 h1
 rcases edge_split (blk_at h0 h1) hl hx with q | ⟨i,q1,q2⟩
 ·exact .inl ⟨x,by rw [hto];exact q,e⟩
 refine .inr ⟨i,⟨_,by rw [hto];exact q1,rfl⟩,⟨x,?_,e⟩⟩
 rw [to_new q2]
 exact List.mem_singleton.2 rfl
theorem edg_spl{p j:Int}(h0:0≤p)(h1:p<f.blocks.length)(h:Edg (splitM f) p j):Edg f p j∨∃(i:Nat) (x:Edge),j=((f.blocks.length+i:Nat):Int)∧(spM f).news[i]?=some (jumpB x)∧Edg f p x.block:=by
 obtain⟨y,hy,e⟩:=h
 obtain⟨l,hl,hto⟩:=to_old h0 h1
 rw [hto] at hy
 rcases split_edge (blk_at h0 h1) hl hy with q | ⟨i,x,q1,q2,q3⟩
 ·exact .inl ⟨y,q,e⟩
 exact .inr ⟨i,x,by rw [←e,q1],q2,x,q3,rfl⟩
theorem edg_new{i:Nat}{x:Edge}{j:Int}(h:(spM f).news[i]?=some (jumpB x))(he:Edg (splitM f) ((f.blocks.length+i:Nat):Int) j):j=x.block:=by
 obtain⟨y,hy,e⟩:=he
 rw [to_new h,List.mem_singleton] at hy
 rw [←e,hy]
theorem edg_range(hg:GrW f){p k:Int}(h0:0≤p)(h1:p<f.blocks.length)(h:Edg f p k):0≤k∧k<f.blocks.length:=by
 obtain⟨x,hx,e⟩:=h
 have:=hg.edges _ (List.mem_of_getElem? (blk_at h0 h1)) x hx
 omega
theorem avd_back(hg:GrW f)(hw':OrdW (splitM f)){a:Int}{j:Int}(h:Avd (splitM f) a j):(j<f.blocks.length→Avd f a j)∧∀(i:Nat) (x:Edge),j=((f.blocks.length+i:Nat):Int)→(spM f).news[i]?=some (jumpB x)→∃p,Avd f a p∧Edg f p x.block:=by
 have hw:=ord_w hg
 have hl:=List.length_pos_iff.2 hg.ne
 induction h with
 | start hne=>exact⟨fun _=>.start hne,fun i x e=>by omega⟩
 | @step p k h e hne ih =>
  have hpr:=hw'.range p (h.rch hw')
  rw [split_len] at hpr
  by_cases hp:p<f.blocks.length
  ·have hap:=ih.1 hp
   rcases edg_spl hpr.1 hp e with q | ⟨i,x,q1,q2,q3⟩
   ·have hr:=edg_range hg hpr.1 hp q
    exact⟨fun _=>.step hap q hne,fun i x e=>by omega⟩
   refine⟨fun _=>by omega,fun i' x' e' h'=>?_⟩
   have:i'=i:=by omega
   subst this
   rw [q2] at h'
   simp only [Option.some.injEq] at h'
   rw [←jumpB_inj h']
   exact⟨p,hap,q3⟩
  obtain⟨i,hi⟩:∃i:Nat,p=((f.blocks.length+i:Nat):Int):=⟨p.toNat - f.blocks.length,by omega⟩
  obtain⟨c,hcn⟩:∃c,(spM f).news[i]?=some c:=⟨_,List.getElem?_eq_getElem (by omega)⟩
  obtain⟨_,_,x,_,_,hcx⟩:=(split_i f).new i c hcn
  rw [hcx] at hcn
  rw [hi] at e
  have hk:=edg_new hcn e
  obtain⟨p',q1,q2⟩:=ih.2 i x hi hcn
  have hr':=hw.range p' (q1.rch hw)
  have hr:=edg_range hg hr'.1 hr'.2 q2
  rw [hk] at hne ⊢
  exact⟨fun _=>.step q1 q2 hne,fun i x e=>by omega⟩
theorem avd_split(hg:GrW f)(hw':OrdW (splitM f)){a k:Int}(ha:a<f.blocks.length)(hk:k<f.blocks.length):Avd f a k↔Avd (splitM f) a k:=by
 have hw:=ord_w hg
 constructor
 ·intro h
  clear hk
  induction h with
  | start hne=>exact .start hne
  | @step p k h e hne ih =>
   have hpr:=hw.range p (h.rch hw)
   rcases spl_edg hpr.1 hpr.2 e with q | ⟨i,q1,q2⟩
   ·exact .step ih q hne
   exact .step (.step ih q1 (by omega)) q2 hne
 exact fun h=>(avd_back hg hw' h).1 hk
theorem rch_avd'(hg:GrW f):∀(n:Nat) (k:Int),0≤plF f k→plF f k<n→Avd f (-1) k
 | 0,k,h,hn=>by omega
 | n+1,k,h,hn=>by
  have hw:=ord_w hg
  by_cases h0:plF f k=0
  ·have hk:k=0:=hw.inj k 0 h (by rw [hw.zero,h0])
   rw [hk]
   exact .start (by omega)
  obtain⟨p,he,hp0,hp1⟩:=hw.fwd k (by omega)
  have hkr:=hw.range k h
  exact .step (rch_avd' hg n p hp0 (by omega)) he (by omega)
theorem rch_avd(hg:GrW f){k:Int}:0≤plF f k↔Avd f (-1) k:=by
 have hw:=ord_w hg
 refine⟨fun h=>rch_avd' hg 300 k h ?_,fun h=>h.rch hw⟩
 have h1:=(hw.low k).2
 have h2:=hw.few
 omega
theorem rch_split(hg:GrW f)(hg':GrW (splitM f)){k:Int}(hk:k<f.blocks.length):0≤plF f k↔0≤plF (splitM f) k:=by
 rw [rch_avd hg,rch_avd hg',avd_split hg (ord_w hg') (by omega) hk]
end
end Go.Proofs.Ytlclgfgmhnmnaaa
namespace Go.Proofs.Ytlclgfgmhnmnaaa
open Go.Av
def backK(f:Func)(k:Int):List (Int×Int):=((toOf f k).filter fun x=>ancB (treeM f) x.block k).map fun x=>(k,x.block)
def backsM(f:Func):List (Int×Int):=(rchS f).flatMap (backK f)
structure Wl where
 work:List Int
 all:List Int
def wlStep(f:Func)(S:Wl):Wl :=
 match S.work.getLast? with
 | none=>S
 | some k=>if k∈rchS f∧k ∉ S.all then ⟨S.work.dropLast++predsAt f k,S.all++[k]⟩ else ⟨S.work.dropLast,S.all⟩
def Wl.weight(f:Func)(S:Wl):Nat:=(f.blocks.length - S.all.length) * 40000+S.work.length
structure WlOK(f:Func)(h:Int)(src:List Int)(S:Wl):Prop where
 head:S.all[0]?=some h
 nd:S.all.Nodup
 rng:∀k∈S.all,0≤k∧k<f.blocks.length
 rch:∀k∈S.all,k=h∨0≤plF f k
 wk:∀k∈S.work,0≤k∧k<f.blocks.length
 ind:∀P:Int→Prop,(∀k∈src,P k)→(∀k,k∈S.all→k≠h→P k→∀p∈predsAt f k,P p)→(∀k∈S.all,k≠h→P k)∧∀k∈S.work,P k
 cl:∀k∈S.all,k≠h→∀p∈predsAt f k,0≤plF f p→p∈S.all∨p∈S.work
 src:∀k∈src,0≤plF f k→k∈S.all∨k∈S.work
theorem nodup_ints{l:List Int}{n:Nat}(h:l.Nodup)(hr:∀x∈l,0≤x∧x<n):l.length≤n:=by
 have h1:=nodup_bound n (l.map Int.toNat) (by
  unfold List.Nodup
  rw [List.pairwise_map]
  refine List.Pairwise.imp_of_mem (fun ha hb hne e=>hne ?_) h
  have:=hr _ ha
  have:=hr _ hb
  omega) (fun x hx=>by
  obtain⟨y,hy,rfl⟩:=List.mem_map.1 hx
  have:=hr y hy
  omega)
 simpa using h1
theorem WlOK.few{f:Func}{h:Int}{src:List Int}{S:Wl}(hS:WlOK f h src S):S.all.length≤f.blocks.length:=nodup_ints hS.nd hS.rng
theorem predE_few(k j:Nat)(ls:List (List Int))(e:Edge):((predE k ls e)[j]?.getD []).length≤(ls[j]?.getD []).length+1:=by
 unfold predE
 rw [List.getElem?_set]
 split
 ·rename_i q
  subst q
  split
  ·simp
  simp
 omega
theorem predB_few(k j:Nat):∀(es:List Edge) (ls:List (List Int)),((predB k ls es)[j]?.getD []).length≤(ls[j]?.getD []).length+es.length
 | [],ls=>by simp [predB]
 | e::r,ls=>by
  have h1:=predB_few k j r (predE k ls e)
  have h2:=predE_few k j ls e
  have h3:predB k ls (e::r)=predB k (predE k ls e) r:=rfl
  rw [h3,List.length_cons]
  omega
theorem predL_few(j:Nat):∀(bs:List Block) (k:Nat) (ls:List (List Int)),(∀b∈bs,b.term.to.length≤257)→((predL k ls bs)[j]?.getD []).length≤(ls[j]?.getD []).length+bs.length * 257
 | [],k,ls,_=>by simp [predL]
 | b::r,k,ls,hb=>by
  have h1:=predL_few j r (k+1) (predB k ls b.term.to) fun x hx=>hb x (List.mem_cons_of_mem _ hx)
  have h2:=predB_few k j b.term.to ls
  have h3:=hb b List.mem_cons_self
  simp only [predL,List.length_cons]
  omega
theorem preds_few{f:Func}(hg:GrW f)(k:Int):(predsAt f k).length≤33000:=by
 have h1:=predL_few k.toNat f.blocks 0 (List.replicate f.blocks.length []) hg.to
 have h2:=hg.few
 have h3:((List.replicate f.blocks.length ([]:List Int))[k.toNat]?.getD []).length=0:=by
  rw [List.getElem?_replicate]
  split<;>rfl
 unfold predsAt predsM
 omega
theorem wl_start{f:Func}{h:Int}(h0:0≤h∧h<f.blocks.length){src:List Int}(hs:∀k∈src,0≤k∧k<f.blocks.length):WlOK f h src ⟨src,[h]⟩ where
 head:=rfl
 nd:=by simp
 rng:=fun k hk=>by
  simp only [List.mem_singleton] at hk
  rw [hk]
  exact h0
 rch:=fun k hk=>by
  simp only [List.mem_singleton] at hk
  exact .inl hk
 wk:=hs
 ind:=fun P h1 _=>⟨fun k hk hne=>by
  simp only [List.mem_singleton] at hk
  exact absurd hk hne,h1⟩
 cl:=fun k hk hne=>by
  simp only [List.mem_singleton] at hk
  exact absurd hk hne
 src:=fun k hk _=>.inr hk
theorem dropLast_last{l:List Int}{k:Int}(h:l.getLast?=some k):l=l.dropLast++[k]:=by
 have hne:l≠[]:=fun e=>by rw [e] at h;cases h
 rw [List.getLast?_eq_some_getLast hne] at h
 simp only [Option.some.injEq] at h
 rw [←h,List.dropLast_concat_getLast]
theorem wlStep_ok{f:Func}(hg:GrW f){h:Int}{src:List Int}{S:Wl}(hS:WlOK f h src S):WlOK f h src (wlStep f S):=by
 unfold wlStep
 cases hk:S.work.getLast? with
 | none=>exact hS
 | some k =>
  have he:=dropLast_last hk
  have hkr:k∈S.work:=by rw [he];simp
  simp only
  split
  ·rename_i hc
   have hkw:=hS.wk k hkr
   have hin:∀x,x∈S.all++[k]↔x∈S.all∨x=k:=fun x=>by simp
   exact {
    head:=by
     rw [List.getElem?_append_left (lt_of_getElem? hS.head)]
     exact hS.head
    nd:=by
     rw [List.nodup_append]
     refine⟨hS.nd,by simp,fun a ha b hb e=>?_⟩
     simp only [List.mem_singleton] at hb
     exact hc.2 (hb ▸ e ▸ ha)
    rng:=fun x hx=>by
     rcases (hin x).1 hx with q | q
     ·exact hS.rng x q
     rw [q];exact hkw
    rch:=fun x hx=>by
     rcases (hin x).1 hx with q | q
     ·exact hS.rch x q
     rw [q];exact .inr (mem_rchS.1 hc.1)
    wk:=fun x hx=>by
     rcases List.mem_append.1 hx with q | q
     ·exact hS.wk x (List.dropLast_subset _ q)
     exact(preds_edg hg hkw.1 q).1
    ind:=fun P h1 h2=>by
     obtain⟨i1,i2⟩:=hS.ind P h1 (fun x hx=>h2 x ((hin x).2 (.inl hx)))
     have hPk:=i2 k hkr
     refine⟨fun x hx hne=>?_,fun x hx=>?_⟩
     ·rcases (hin x).1 hx with q | q
      ·exact i1 x q hne
      rw [q];exact hPk
     rcases List.mem_append.1 hx with q | q
     ·exact i2 x (List.dropLast_subset _ q)
     by_cases e:k=h
     ·exact absurd (e ▸ List.mem_of_getElem? hS.head) hc.2
     exact h2 k ((hin k).2 (.inr rfl)) e hPk x q
    cl:=fun x hx hne p hp hr=>by
     rcases (hin x).1 hx with q | q
     ·rcases hS.cl x q hne p hp hr with r | r
      ·exact .inl ((hin p).2 (.inl r))
      rw [he] at r
      rcases List.mem_append.1 r with r | r
      ·exact .inr (List.mem_append_left _ r)
      exact .inl ((hin p).2 (.inr (by simpa using r)))
     rw [q] at hp
     exact .inr (List.mem_append_right _ hp)
    src:=fun x hx hr=>by
     rcases hS.src x hx hr with r | r
     ·exact .inl ((hin x).2 (.inl r))
     rw [he] at r
     rcases List.mem_append.1 r with r | r
     ·exact .inr (List.mem_append_left _ r)
     exact .inl ((hin x).2 (.inr (by simpa using r))) }
  rename_i hc
  have hcase:∀p,p∈S.all∨p∈S.work→0≤plF f p→p∈S.all∨p∈S.work.dropLast:=fun p hp hr=>by
   rcases hp with q | q
   ·exact .inl q
   rw [he] at q
   rcases List.mem_append.1 q with q | q
   ·exact .inr q
   simp only [List.mem_singleton] at q
   subst q
   exact .inl (Classical.byContradiction fun z=>hc ⟨mem_rchS.2 hr,z⟩)
  exact {
   head:=hS.head
   nd:=hS.nd
   rng:=hS.rng
   rch:=hS.rch
   wk:=fun x hx=>hS.wk x (List.dropLast_subset _ hx)
   ind:=fun P h1 h2=>⟨(hS.ind P h1 h2).1,fun x hx=>(hS.ind P h1 h2).2 x (List.dropLast_subset _ hx)⟩
   cl:=fun x hx hne p hp hr=>hcase p (hS.cl x hx hne p hp hr) hr
   src:=fun x hx hr=>hcase x (hS.src x hx hr) hr }
theorem wlStep_weight{f:Func}(hg:GrW f){h:Int}{src:List Int}{S:Wl}(hS:WlOK f h src S)(hw:S.work≠[]):(wlStep f S).weight f<S.weight f:=by
 have hok:=(wlStep_ok hg hS).few
 unfold wlStep at hok ⊢
 cases hk:S.work.getLast? with
 | none=>exact absurd (List.getLast?_eq_none_iff.1 hk) hw
 | some k =>
  have he:=congrArg List.length (dropLast_last hk)
  have hp:=preds_few hg k
  rw [hk] at hok
  simp only [List.length_append,List.length_singleton] at he
  simp only at hok ⊢
  split
  ·rename_i hc
   rw [if_pos hc] at hok
   simp only [Wl.weight,List.length_append,List.length_singleton] at hok ⊢
   omega
  simp only [Wl.weight]
  omega
def wlRun(f:Func):Nat→Wl→Wl
 | 0,S=>S
 | n+1,S=>if S.work.isEmpty then S else wlRun f n (wlStep f S)
theorem wlRun_ok{f:Func}(hg:GrW f){h:Int}{src:List Int}(n:Nat):∀(S:Wl),WlOK f h src S→S.weight f<n→WlOK f h src (wlRun f n S)∧(wlRun f n S).work=[]:=by
 induction n with
 | zero=>exact fun S _ hn=>absurd hn (Nat.not_lt_zero _)
 | succ n ih =>
  intro S hS hn
  simp only [wlRun]
  split
  ·rename_i e
   exact⟨hS,by simpa using e⟩
  rename_i e
  have hlt:=wlStep_weight hg hS (by simpa using e)
  exact ih _ (wlStep_ok hg hS) (Nat.lt_of_lt_of_le hlt (Nat.le_of_lt_succ hn))
theorem wlRun_done{f:Func}{S:Wl}(h:S.work=[])(n:Nat):wlRun f n S=S:=by
 cases n with
 | zero=>rfl
 | succ n=>simp [wlRun,h]
def srcM(f:Func)(h:Int):List Int:=((backsM f).filter fun p=>decide (p.2=h)).map (·.1)
def natM(f:Func)(h:Int):List Int:=(wlRun f 10000000 ⟨srcM f h,[h]⟩).all
theorem mem_backs{f:Func}{k h:Int}:(k,h)∈backsM f↔0≤plF f k∧(∃x∈toOf f k,x.block=h)∧ancB (treeM f) h k=true:=by
 unfold backsM backK
 simp only [List.mem_flatMap,List.mem_map,List.mem_filter,mem_rchS,Prod.mk.injEq]
 constructor
 ·rintro⟨z,hz,x,⟨hx,ha⟩,e1,e2⟩
  subst e1
  subst e2
  exact⟨hz,⟨x,hx,rfl⟩,ha⟩
 rintro⟨hz,⟨x,hx,e⟩,ha⟩
 subst e
 exact⟨k,hz,x,⟨hx,ha⟩,rfl,rfl⟩
theorem mem_src{f:Func}{k h:Int}:k∈srcM f h↔0≤plF f k∧(∃x∈toOf f k,x.block=h)∧ancB (treeM f) h k=true:=by
 rw [←mem_backs]
 unfold srcM
 simp only [List.mem_map,List.mem_filter,decide_eq_true_eq]
 constructor
 ·rintro⟨⟨a,b⟩,⟨h1,h2⟩,h3⟩
  simp only at h2 h3
  subst h2
  subst h3
  exact h1
 intro h1
 exact⟨(k,h),⟨h1,rfl⟩,rfl⟩
theorem backs_few{f:Func}(hg:GrW f):(backsM f).length≤33000:=by
 have h1:∀l:List Int,(∀k∈l,0≤plF f k)→(l.flatMap (backK f)).length≤l.length * 257:=by
  intro l
  induction l with
  | nil=>simp
  | cons a r ih =>
   intro hl
   have h2:=ih fun k hk=>hl k (List.mem_cons_of_mem _ hk)
   have hr:=(ord_w hg).range a (hl a List.mem_cons_self)
   have h3:(backK f a).length≤257:=by
    have hb:f.blocks[a.toNat]?=some (f.blocks[a.toNat]'(by omega)):=List.getElem?_eq_getElem _
    have h4:(toOf f a).length≤257:=by
     unfold toOf blkOf
     rw [hb]
     exact hg.to _ (List.mem_of_getElem? hb)
    unfold backK
    rw [List.length_map]
    exact Nat.le_trans (List.length_filter_le _ _) h4
   simp only [List.flatMap_cons,List.length_append,List.length_cons]
   omega
 have h5:=h1 (rchS f) fun k hk=>mem_rchS.1 hk
 have h6:=rchS_len f
 have h7:=(ord_w hg).few
 unfold backsM
 omega
theorem src_few{f:Func}(hg:GrW f)(h:Int):(srcM f h).length≤33000:=by
 unfold srcM
 rw [List.length_map]
 exact Nat.le_trans (List.length_filter_le _ _) (backs_few hg)
structure NatW(f:Func)(h:Int):Prop where
 head:(natM f h)[0]?=some h
 nd:(natM f h).Nodup
 rng:∀k∈natM f h,0≤k∧k<f.blocks.length
 rch:∀k∈natM f h,k=h∨0≤plF f k
 ind:∀P:Int→Prop,(∀k∈srcM f h,P k)→(∀k,k∈natM f h→k≠h→P k→∀p∈predsAt f k,P p)→∀k∈natM f h,k≠h→P k
 cl:∀k∈natM f h,k≠h→∀p∈predsAt f k,0≤plF f p→p∈natM f h
 src:∀k∈srcM f h,k∈natM f h
theorem nat_start{f:Func}(hg:GrW f){h:Int}(h0:0≤h∧h<f.blocks.length):WlOK f h (srcM f h) ⟨srcM f h,[h]⟩∧(⟨srcM f h,[h]⟩:Wl).weight f<10000000:=by
 refine⟨wl_start h0 fun k hk=>(ord_w hg).range k (mem_src.1 hk).1,?_⟩
 have h1:=src_few hg h
 have h2:=hg.few
 simp only [Wl.weight,List.length_singleton]
 omega
theorem nat_w{f:Func}(hg:GrW f){h:Int}(h0:0≤h∧h<f.blocks.length):NatW f h:=by
 obtain⟨s1,s2⟩:=nat_start hg h0
 obtain⟨r1,r2⟩:=wlRun_ok hg 10000000 _ s1 s2
 exact {
  head:=r1.head
  nd:=r1.nd
  rng:=r1.rng
  rch:=r1.rch
  ind:=fun P h1 h2=>(r1.ind P h1 h2).1
  cl:=fun k hk hne p hp hr=>by
   rcases r1.cl k hk hne p hp hr with q | q
   ·exact q
   rw [r2] at q
   cases q
  src:=fun k hk=>by
   rcases r1.src k hk (mem_src.1 hk).1 with q | q
   ·exact q
   rw [r2] at q
   cases q }
structure LoopM where
 head:Int
 blocks:List Int
 parent:Int
abbrev LoopM.cells(x:LoopM):List AVal:=[aI x.head,eIs x.blocks,aI x.parent]
def lpC(l:List LoopM):List AVal:=l.flatMap LoopM.cells
theorem lpC_app(a b:List LoopM):lpC (a++b)=lpC a++lpC b:=by simp [lpC]
theorem lpC_len(l:List LoopM):(lpC l).length=l.length * 3:=by
 induction l with
 | nil=>rfl
 | cons x r ih =>
  have:lpC (x::r)=x.cells++lpC r:=rfl
  rw [this,List.length_append,ih]
  simp only [LoopM.cells,List.length_cons,List.length_nil]
  omega
theorem lpC_split{l:List LoopM}{i:Nat}{x:LoopM}(h:l[i]?=some x):lpC l=lpC (l.take i)++(x.cells++lpC (l.drop (i+1)))∧(lpC (l.take i)).length=i * 3:=by
 have hi:=lt_of_getElem? h
 refine⟨?_,by rw [lpC_len,List.length_take];omega⟩
 have e:l=l.take i++x::l.drop (i+1):=by
  rw [←drop_at h,List.take_append_drop]
 have e2:lpC (x::l.drop (i+1))=x.cells++lpC (l.drop (i+1)):=rfl
 rw [←e2,←lpC_app,←e]
theorem lpC_at{l:List LoopM}{i:Nat}{x:LoopM}(h:l[i]?=some x):(lpC l)[i * 3]?=some (aI x.head)∧(lpC l)[i * 3+1]?=some (eIs x.blocks)∧(lpC l)[i * 3+2]?=some (aI x.parent)∧((lpC l).drop (i * 3)).take 3=x.cells:=by
 obtain⟨h1,h2⟩:=lpC_split h
 rw [h1]
 refine⟨?_,?_,?_,?_⟩
 ·rw [List.getElem?_append_right (by omega),h2,Nat.sub_self]
  rfl
 ·rw [List.getElem?_append_right (by omega),h2,show i * 3+1 - i * 3=1 by omega]
  rfl
 ·rw [List.getElem?_append_right (by omega),h2,show i * 3+2 - i * 3=2 by omega]
  rfl
 rw [List.drop_left' h2]
 rfl
theorem lpC_set{l:List LoopM}{i:Nat}{x:LoopM}(h:l[i]?=some x)(k:Int):splice (lpC l) (i * 3+2) [.v (.int .i64 k)]=lpC (l.set i ⟨x.head,x.blocks,k⟩):=by
 have hi:=lt_of_getElem? h
 obtain⟨h1,h2⟩:=lpC_split h
 have h3:(l.set i ⟨x.head,x.blocks,k⟩)[i]?=some ⟨x.head,x.blocks,k⟩:=List.getElem?_set_self hi
 obtain⟨h4,_⟩:=lpC_split h3
 rw [h4,List.take_set_of_le (Nat.le_refl _),List.drop_set_of_lt (by omega)]
 rw [splice_one _ (by rw [lpC_len];omega),h1,List.set_append_right _ _ (by omega),h2,show i * 3+2 - i * 3=2 by omega]
 rfl
theorem lpC_upto(n:Nat)(l:List LoopM):uptoL n (lpC l):=by
 rw [uptoL_iff]
 intro c hc
 simp only [lpC,List.mem_flatMap] at hc
 obtain⟨x,_,hc⟩:=hc
 simp only [LoopM.cells,List.mem_cons,List.not_mem_nil,or_false] at hc
 rcases hc with rfl | rfl | rfl
 ·trivial
 ·exact⟨aI_upto _ _,trivial⟩
 trivial
def nestStep(l:List LoopM)(i k:Nat):List LoopM :=
 match l[i]?,l[k]? with
 | some a,some b=>if k=i∨hasI b.blocks a.head=false then l else
   if a.parent<0∨b.blocks.length<((l[a.parent.toNat]?.map fun y=>y.blocks.length).getD 0) then l.set i ⟨a.head,a.blocks,k⟩ else l
 | _,_=>l
def nestK(i:Nat):Nat→Nat→List LoopM→List LoopM
 | 0,_,l=>l
 | m+1,k,l=>nestK i m (k+1) (nestStep l i k)
def nestI(n:Nat):Nat→Nat→List LoopM→List LoopM
 | 0,_,l=>l
 | m+1,i,l=>nestI n m (i+1) (nestK i n 0 l)
def nestM(l:List LoopM):List LoopM:=nestI l.length l.length 0 l
def NestOK(l m:List LoopM):Prop:=m.map (fun x=>(x.head,x.blocks))=l.map (fun x=>(x.head,x.blocks))∧∀x∈m,-1≤x.parent∧x.parent<l.length
theorem NestOK.len{l m:List LoopM}(h:NestOK l m):m.length=l.length:=by
 have:=congrArg List.length h.1
 simpa using this
theorem nestStep_ok{l m:List LoopM}(h:NestOK l m)(i k:Nat)(hk:k<l.length):NestOK l (nestStep m i k):=by
 unfold nestStep
 cases hi:m[i]? with
 | none=>exact h
 | some a =>
  cases hb:m[k]? with
  | none=>exact h
  | some b =>
   simp only
   split
   ·exact h
   split
   ·refine⟨?_,fun x hx=>?_⟩
    ·rw [List.map_set,←h.1]
     refine List.ext_getElem? fun j=>?_
     rw [List.getElem?_set]
     split
     ·rename_i e
      subst e
      have:=lt_of_getElem? hi
      rw [if_pos (by simpa using this),List.getElem?_map,hi]
      rfl
     rfl
    rcases List.mem_or_eq_of_mem_set hx with q | q
    ·exact h.2 x q
    rw [q]
    simp only
    omega
   exact h
theorem nestK_ok{l:List LoopM}(i:Nat):∀(m k:Nat) {x:List LoopM},NestOK l x→m+k≤l.length→NestOK l (nestK i m k x)
 | 0,_,_,h,_=>h
 | m+1,k,_,h,hk=>nestK_ok i m (k+1) (nestStep_ok h i k (by omega)) (by omega)
theorem nestI_ok{l:List LoopM}:∀(m i:Nat) {x:List LoopM},NestOK l x→NestOK l (nestI l.length m i x)
 | 0,_,_,h=>h
 | m+1,i,_,h=>nestI_ok m (i+1) (nestK_ok i l.length 0 h (by omega))
theorem nestM_ok{l:List LoopM}(h:∀x∈l,x.parent=-1):NestOK l (nestM l):=nestI_ok l.length 0 ⟨rfl,fun x hx=>by
 have:=h x hx
 omega⟩
def rawH(f:Func)(h:Nat):List LoopM:=if srcM f h=[] then [] else [⟨h,sortI (natM f h),-1⟩]
def rawM(f:Func):List LoopM:=(List.range f.blocks.length).flatMap (rawH f)
def loopsM(f:Func):List LoopM:=nestM (rawM f)
def eLoop(x:LoopM):AVal:=.agg x.cells
def outL(oid:Nat)(l:List LoopM):AVal:=if l=[] then .lst 3 [] .ex else .os oid l.length 3
theorem outL_snoc(n:Nat)(l:List LoopM)(x:LoopM):outL n (l++[x])=.os n (l.length+1) 3:=by
 have:l++[x]≠[]:=by simp
 rw [outL,if_neg this,List.length_append]
 rfl
structure FO(acc:List LoopM)(oid:Nat)(O:List AObj):Prop where
 up:∀o∈O,o.upto O.length
 out:acc≠[]→O[oid]?=some (.cells (lpC acc))
theorem FO.push{acc:List LoopM}{oid:Nat}{O:List AObj}(h:FO acc oid O){cs:List AVal}(hc:uptoL (O.length+1) cs):FO acc oid (O++[.cells cs]) where
 up:=by
  rw [List.length_append,List.length_singleton]
  exact uptoO_snoc (fun o ho=>AObj.upto_mono (by omega) (h.up o ho)) hc
 out:=fun q=>at_left (h.out q)
theorem FO.move{acc:List LoopM}{oid:Nat}{O:List AObj}(h:FO acc oid O){wid:Nat}(hw:acc≠[]→wid≠oid){cs:List AVal}(hc:uptoL (O.length+1) cs):FO acc oid (O.set wid .gone++[.cells cs]) where
 up:=by
  rw [List.length_append,List.length_set,List.length_singleton]
  exact uptoO_snoc (uptoO_set (fun o ho=>AObj.upto_mono (by omega) (h.up o ho)) trivial) hc
 out:=fun q=>at_left (at_set_ne (h.out q) (hw q))
theorem FO.set{acc:List LoopM}{oid:Nat}{O:List AObj}(h:FO acc oid O){wid:Nat}(hw:acc≠[]→wid≠oid){x:AObj}(hc:x.upto O.length):FO acc oid (O.set wid x) where
 up:=by
  rw [List.length_set]
  exact uptoO_set h.up hc
 out:=fun q=>at_set_ne (h.out q) (hw q)
theorem FO.outU{acc:List LoopM}{oid:Nat}{O:List AObj}(h:FO acc oid O):(outL oid acc).upto O.length:=by
 by_cases q:acc=[]
 ·rw [show outL oid acc=.lst 3 [] .ex from if_pos q]
  exact⟨trivial,trivial⟩
 rw [show outL oid acc=.os oid acc.length 3 from if_neg q]
 exact lt_of_getElem? (h.out q)
theorem eIss_upto(n:Nat)(l:List (List Int)):uptoL n (l.map eIs):=by
 rw [uptoL_iff]
 intro c hc
 obtain⟨x,_,rfl⟩:=List.mem_map.1 hc
 exact⟨aI_upto _ _,trivial⟩
theorem lpC_snoc(l:List LoopM)(x:LoopM):lpC (l++[x])=lpC l++x.cells:=by
 rw [lpC_app]
 simp [lpC]
theorem lpC_share(m:List LoopM):(lpC m).map AVal.shareCell=cellsAll (m.map eLoop):=by
 induction m with
 | nil=>rfl
 | cons x r ih =>
  have h1:lpC (x::r)=x.cells++lpC r:=rfl
  have h2:cellsAll ((x::r).map eLoop)=x.cells++cellsAll (r.map eLoop):=rfl
  rw [h1,h2,List.map_append,ih]
  rfl
theorem eLoop_upto(n:Nat)(m:List LoopM):uptoL n (m.map eLoop):=by
 rw [uptoL_iff]
 intro c hc
 obtain⟨x,_,rfl⟩:=List.mem_map.1 hc
 exact⟨trivial,⟨aI_upto _ _,trivial⟩,trivial,trivial⟩
theorem wl_preds{f:Func}(hg:GrW f){h:Int}(hsr:srcM f h≠[]){S:Wl}(hS:WlOK f h (srcM f h) S){k:Int}(hk:k∈S.work)(hr:0≤plF f k):predsAt f k≠[]:=by
 have hw:=ord_w hg
 have ht:=tree_w hg
 obtain⟨s,hs⟩:=List.exists_mem_of_ne_nil _ hsr
 have hms:=mem_src.1 hs
 obtain⟨x,hx,hxe⟩:=hms.2.1
 have hh1:1≤h:=by
  have hr2:=hw.range s hms.1
  have hb:f.blocks[s.toNat]?=some (f.blocks[s.toNat]'(by omega)):=List.getElem?_eq_getElem _
  have h2:=(hg.edges _ (List.mem_of_getElem? hb) x (by
   simp only [toOf,blkOf,hb] at hx
   exact hx)).1
  omega
 have hP:=(hS.ind (fun k=>0≤plF f k→Anc (treeM f) h k) (fun s hs _=>by
   have:=mem_src.1 hs
   exact(ancB_iff hw ht.tr (ht.asg' hw this.1)).1 this.2.2) (fun x hx hne hP p hp hpr=>by
   have hxr:=(hS.rch x hx).resolve_left hne
   have hax:=hP hxr
   have hx1:1≤plF f x:=by
    refine Classical.byContradiction fun q=>?_
    have hx0:x=0:=hw.inj x 0 hxr (by rw [hw.zero];omega)
    subst hx0
    cases hax with
    | refl=>exact hne rfl
    | up q _=>rw [ht.tr.root] at q;omega
   exact anc_pred hg hx1 hp hpr hax (Ne.symm hne))).2 k hk hr
 have hk1:1≤plF f k:=by
  refine Classical.byContradiction fun q=>?_
  have hk0:k=0:=hw.inj k 0 hr (by rw [hw.zero];omega)
  subst hk0
  cases hP with
  | refl=>omega
  | up q _=>rw [ht.tr.root] at q;omega
 obtain⟨p,hp,hp0,_⟩:=hw.fwd k hk1
 have:=edg_preds (hw.range p hp0) (hw.range k hr) hp
 exact List.ne_nil_of_mem this
theorem srcM_split{f:Func}{h:Int}{z:Nat}{p:Int×Int}(hp:(backsM f)[z]?=some p):((((backsM f).drop z).filter fun p=>decide (p.2=h)).map (·.1))=(if p.2=h then [p.1] else [])++((((backsM f).drop (z+1)).filter fun p=>decide (p.2=h)).map (·.1)):=by
 rw [drop_at hp,List.filter_cons]
 by_cases e:p.2=h
 ·simp [e]
 simp [e]
end Go.Proofs.Ytlclgfgmhnmnaaa
namespace Go.Proofs.Ytlclgfgmhnmnaaa
open Go.Av
structure LpW(f:Func)(x:LoopM):Prop where
 src:srcM f x.head≠[]
 rng:0≤x.head∧x.head<f.blocks.length
 bl:x.blocks=sortI (natM f x.head)
theorem raw_w{f:Func}{x:LoopM}(h:x∈rawM f):LpW f x∧x.parent=-1:=by
 unfold rawM at h
 obtain⟨k,hk,hx⟩:=List.mem_flatMap.1 h
 rw [List.mem_range] at hk
 unfold rawH at hx
 split at hx
 ·cases hx
 rename_i q
 rw [List.mem_singleton] at hx
 subst hx
 exact⟨⟨q,⟨by simp,by simpa using hk⟩,rfl⟩,rfl⟩
theorem raw_inc(f:Func):(rawM f).Pairwise (fun x y=>x.head<y.head):=by
 unfold rawM
 rw [List.pairwise_flatMap]
 have hh:∀(k:Nat),∀x∈rawH f k,x.head=k:=fun k x hx=>by
  unfold rawH at hx
  split at hx
  ·cases hx
  rw [List.mem_singleton] at hx
  rw [hx]
 refine⟨fun k _=>?_,List.Pairwise.imp (fun hab x hx y hy=>?_) List.pairwise_lt_range⟩
 ·unfold rawH
  split
  ·exact List.Pairwise.nil
  exact List.pairwise_singleton _ _
 rw [hh _ x hx,hh _ y hy]
 omega
theorem loops_nest(f:Func):NestOK (rawM f) (loopsM f):=nestM_ok fun _ hx=>(raw_w hx).2
theorem loops_w{f:Func}{x:LoopM}(h:x∈loopsM f):LpW f x:=by
 have h1:=(loops_nest f).1
 have h2:(x.head,x.blocks)∈(loopsM f).map (fun x=>(x.head,x.blocks)):=List.mem_map.2 ⟨x,h,rfl⟩
 rw [h1] at h2
 obtain⟨y,hy,e⟩:=List.mem_map.1 h2
 simp only [Prod.mk.injEq] at e
 have hw:=(raw_w hy).1
 obtain⟨e1,e2⟩:=e
 exact⟨by rw [←e1];exact hw.src,by rw [←e1];exact hw.rng,by rw [←e1,←e2];exact hw.bl⟩
theorem loops_inc(f:Func):(loopsM f).Pairwise (fun x y=>x.head<y.head):=by
 have h1:=(loops_nest f).1
 have h2:((rawM f).map (fun x=>(x.head,x.blocks))).Pairwise (fun a b=>a.1<b.1):=by
  rw [List.pairwise_map]
  exact raw_inc f
 rw [←h1,List.pairwise_map] at h2
 exact h2
theorem loops_len(f:Func):(loopsM f).length≤f.blocks.length:=by
 have h:=nodup_ints (l:=(loopsM f).map (·.head)) (n:=f.blocks.length) (by
  unfold List.Nodup
  rw [List.pairwise_map]
  exact List.Pairwise.imp (fun q=>by omega) (loops_inc f)) (fun k hk=>by
  obtain⟨x,hx,rfl⟩:=List.mem_map.1 hk
  exact(loops_w hx).rng)
 simpa using h
section
variable {f:Func} {x:LoopM}
theorem LpW.mem(h:LpW f x){k:Int}:k∈x.blocks↔k∈natM f x.head:=by
 rw [h.bl]
 exact(sortI_perm _).mem_iff
theorem LpW.nd(h:LpW f x)(hg:GrW f):x.blocks.Nodup:=by
 rw [h.bl]
 exact(sortI_perm _).nodup_iff.2 (nat_w hg h.rng).nd
theorem LpW.blk(h:LpW f x)(hg:GrW f){k:Int}(hk:k∈x.blocks):0≤k∧k<f.blocks.length:=(nat_w hg h.rng).rng k (h.mem.1 hk)
theorem LpW.few(h:LpW f x)(hg:GrW f):x.blocks.length≤f.blocks.length:=nodup_ints (h.nd hg) fun _ hk=>h.blk hg hk
end
theorem nodup_sub:∀{l m:List Int},l.Nodup→(∀x∈l,x∈m)→l.length≤m.length
 | [],_,_,_=>Nat.zero_le _
 | a::l,m,hn,hs=>by
  rw [List.nodup_cons] at hn
  have ha:=hs a List.mem_cons_self
  have h1:=nodup_sub (l:=l) (m:=m.erase a) hn.2 fun x hx=>(List.mem_erase_of_ne (fun e=>hn.1 (by rw [←e];exact hx))).2 (hs x (List.mem_cons_of_mem _ hx))
  rw [List.length_erase_of_mem ha] at h1
  have:=List.length_pos_of_mem ha
  rw [List.length_cons]
  omega
theorem find_few{f:Func}(hg:GrW f){x:LoopM}(hx:x∈loopsM f):x.blocks.length≤128:=Nat.le_trans ((loops_w hx).few hg) hg.few
end Go.Proofs.Ytlclgfgmhnmnaaa
namespace Go.Proofs.Ytlclgfgmhnmnaaa
open Go.Av
structure SpU(f:Func)(S:Sp):Prop where
 i:SpI f S
 lt:∀(k:Nat) l (n:Nat) (e:Edge),S.tos[k]?=some l→l[n]?=some e→e.block<((f.blocks.length+S.news.length:Nat):Int)
 un:∀(k j:Nat) l m (e d:Edge),S.tos[k]?=some l→e∈l→S.tos[j]?=some m→d∈m→e.block=d.block→(f.blocks.length:Int)≤e.block→k=j
theorem spU_start{f:Func}(hg:GrW f):SpU f (spS f):=by
 have key:∀(k:Nat) l (e:Edge),(spS f).tos[k]?=some l→e∈l→e.block<(f.blocks.length:Int):=fun k l e h1 h2=>by
  unfold spS at h1
  simp only [List.getElem?_map,Option.map_eq_some_iff] at h1
  obtain⟨b,hb,q⟩:=h1
  rw [←q] at h2
  exact(hg.edges b (List.mem_of_getElem? hb) e h2).2
 refine⟨spI_start f,fun k l n e h1 h2=>?_,fun k j l m e d h1 h2 _ _ _ h3=>?_⟩
 ·have:=key k l e h1 (List.mem_of_getElem? h2)
  omega
 have:=key k l e h1 h2
 omega
theorem spU_step{f:Func}{k n:Nat}{S:Sp}(h:SpU f S):SpU f (spStep f k n S):=by
 have hi:=spI_step (k:=k) (n:=n) h.i
 unfold spStep at hi ⊢
 cases hx:(toOf f (k:Int))[n]? with
 | none=>exact h
 | some y =>
  rw [hx] at hi
  simp only at hi ⊢
  by_cases hc:critB f k y=true
  ·rw [if_pos hc] at hi ⊢
   have hcase:∀(j:Nat) m (d:Edge),(S.tos.set k ((S.tos[k]?.getD []).set n ⟨((f.blocks.length+S.news.length:Nat):Int),[]⟩))[j]?=some m→d∈m→(j=k∧d.block=((f.blocks.length+S.news.length:Nat):Int))∨∃m',S.tos[j]?=some m'∧d∈m':=fun j m d h1 h2=>by
    rw [List.getElem?_set] at h1
    split at h1
    ·rename_i e
     subst e
     split at h1
     ·rename_i hk
      simp only [Option.some.injEq] at h1
      obtain⟨l',hl'⟩:∃l',S.tos[k]?=some l':=⟨_,List.getElem?_eq_getElem hk⟩
      rw [hl',Option.getD_some] at h1
      rw [←h1] at h2
      rcases List.mem_or_eq_of_mem_set h2 with q | q
      ·exact .inr ⟨l',hl',q⟩
      exact .inl ⟨rfl,by rw [q]⟩
     cases h1
    exact .inr ⟨m,h1,h2⟩
   have hold:∀(j:Nat) m (d:Edge),S.tos[j]?=some m→d∈m→d.block<((f.blocks.length+S.news.length:Nat):Int):=fun j m d h1 h2=>by
    obtain⟨z,hz⟩:=List.mem_iff_getElem?.1 h2
    exact h.lt j m z d h1 hz
   refine⟨hi,fun j l z e h1 h2=>?_,fun j1 j2 l m e d h1 h2 h3 h4 h5 h6=>?_⟩
   ·simp only [List.length_append,List.length_singleton]
    rcases hcase j l e h1 (List.mem_of_getElem? h2) with⟨_,q⟩ | ⟨m',q1,q2⟩
    ·omega
    have:=hold j m' e q1 q2
    omega
   rcases hcase j1 l e h1 h2 with⟨p1,p2⟩ | ⟨l',p1,p2⟩
   ·rcases hcase j2 m d h3 h4 with⟨q1,q2⟩ | ⟨m',q1,q2⟩
    ·omega
    have:=hold j2 m' d q1 q2
    omega
   rcases hcase j2 m d h3 h4 with⟨q1,q2⟩ | ⟨m',q1,q2⟩
   ·have:=hold j1 l' e p1 p2
    omega
   exact h.un j1 j2 l' m' e d p1 p2 q1 q2 h5 h6
  rw [if_neg hc]
  exact h
theorem spU_E{f:Func}{k:Nat}:∀(m n:Nat) {S:Sp},SpU f S→SpU f (spE f k m n S)
 | 0,_,_,h=>h
 | m+1,n,_,h=>spU_E m (n+1) (spU_step h)
theorem spU_K{f:Func}:∀(m k:Nat) {S:Sp},SpU f S→SpU f (spK f m k S)
 | 0,_,_,h=>h
 | m+1,k,_,h=>spU_K m (k+1) (spU_E _ 0 h)
theorem split_u{f:Func}(hg:GrW f):SpU f (spM f):=spU_K _ 0 (spU_start hg)
section
variable {f:Func}
theorem one_src(hg:GrW f){p q:Int}{i:Nat}(hp:0≤p∧p<f.blocks.length)(hq:0≤q∧q<f.blocks.length)(h1:Edg (splitM f) p ((f.blocks.length+i:Nat):Int))(h2:Edg (splitM f) q ((f.blocks.length+i:Nat):Int)):p=q:=by
 obtain⟨x,hx,e⟩:=h1
 obtain⟨y,hy,d⟩:=h2
 obtain⟨l,hl,hto⟩:=to_old hp.1 hp.2
 obtain⟨m,hm,hmo⟩:=to_old hq.1 hq.2
 rw [hto] at hx
 rw [hmo] at hy
 have:=(split_u hg).un _ _ l m x y hl hx hm hy (by rw [e,d]) (by rw [e];omega)
 omega
theorem split_new'(hg:GrW f){k:Int}(h0:(f.blocks.length:Int)≤k)(h1:k<(splitM f).blocks.length):∃(i:Nat) (x:Edge),k=((f.blocks.length+i:Nat):Int)∧(spM f).news[i]?=some (jumpB x)∧0≤x.block∧x.block<f.blocks.length:=by
 rw [split_len] at h1
 obtain⟨i,hi⟩:∃i:Nat,k=((f.blocks.length+i:Nat):Int):=⟨k.toNat - f.blocks.length,by omega⟩
 obtain⟨c,hcn⟩:∃c,(spM f).news[i]?=some c:=⟨_,List.getElem?_eq_getElem (by omega)⟩
 obtain⟨_,b,x,q1,q2,hcx⟩:=(split_i f).new i c hcn
 rw [hcx] at hcn
 have:=hg.edges b (List.mem_of_getElem? q1) x q2
 exact⟨i,x,hi,hcn,by omega,by omega⟩
theorem new_pred(hg:GrW f){p:Int}{i:Nat}(h1:p<(splitM f).blocks.length)(he:Edg (splitM f) p ((f.blocks.length+i:Nat):Int)):p<f.blocks.length:=by
 refine Classical.byContradiction fun q=>?_
 obtain⟨j,x,hj,hx,r1,r2⟩:=split_new' hg (by omega) h1
 rw [hj] at he
 have:=edg_new hx he
 omega
theorem mem_src'{g:Func}(hg:GrW g){k h:Int}:k∈srcM g h↔0≤plF g k∧Edg g k h∧Anc (treeM g) h k:=by
 rw [mem_src]
 constructor
 ·rintro⟨h1,h2,h3⟩
  exact⟨h1,h2,(ancB_iff (ord_w hg) (tree_w hg).tr ((tree_w hg).asg' (ord_w hg) h1)).1 h3⟩
 rintro⟨h1,h2,h3⟩
 exact⟨h1,h2,(ancB_iff (ord_w hg) (tree_w hg).tr ((tree_w hg).asg' (ord_w hg) h1)).2 h3⟩
theorem anc_split'(hg:GrW f)(hg':GrW (splitM f)){a k:Int}(ha:a<f.blocks.length)(hk0:0≤plF f k):Anc (treeM f) a k↔Anc (treeM (splitM f)) a k:=by
 have hw:=ord_w hg
 have hk:=(hw.range k hk0).2
 rw [anc_iff hg hk0,anc_iff hg' ((rch_split hg hg' hk).1 hk0),avd_split hg (ord_w hg') ha hk]
theorem src_to(hg:GrW f)(hg':GrW (splitM f)){s h:Int}(hs:s∈srcM f h):s∈srcM (splitM f) h∨∃i:Nat,((f.blocks.length+i:Nat):Int)∈srcM (splitM f) h∧Edg (splitM f) s ((f.blocks.length+i:Nat):Int):=by
 have hw:=ord_w hg
 have hw':=ord_w hg'
 obtain⟨h1,h2,h3⟩:=(mem_src' hg).1 hs
 have hr:=hw.range s h1
 have hh:=hw.range h (hw.next _ _ h1 h2)
 have h1':=(rch_split hg hg' hr.2).1 h1
 have h3':=(anc_split' hg hg' hh.2 h1).1 h3
 rcases spl_edg hr.1 hr.2 h2 with q | ⟨i,q1,q2⟩
 ·exact .inl ((mem_src' hg').2 ⟨h1',q,h3'⟩)
 have hni:=hw'.next _ _ h1' q1
 refine .inr ⟨i,(mem_src' hg').2 ⟨hni,q2,?_⟩,q1⟩
 rw [anc_iff hg' hni]
 intro hav
 generalize hz:((f.blocks.length+i:Nat):Int)=z at hav
 cases hav with
 | start hne=>omega
 | @step p k hp e hne =>
  rw [←hz] at e
  have hpr:=hw'.range p (hp.rch hw')
  have hpo:=new_pred hg hpr.2 e
  have:=one_src hg ⟨hpr.1,hpo⟩ hr e q1
  rw [this] at hp
  exact(anc_iff hg' h1').1 h3' hp
theorem src_back(hg:GrW f)(hg':GrW (splitM f)){h:Int}(hs:srcM (splitM f) h≠[]):h<f.blocks.length∧srcM f h≠[]:=by
 have hw:=ord_w hg
 have hw':=ord_w hg'
 have ht':=tree_w hg'
 obtain⟨s,hs⟩:=List.exists_mem_of_ne_nil _ hs
 obtain⟨h1,h2,h3⟩:=(mem_src' hg').1 hs
 have hr:=hw'.range s h1
 have hrh:=hw'.next _ _ h1 h2
 have hh:=hw'.range h hrh
 have hN:h<f.blocks.length:=by
  refine Classical.byContradiction fun q=>?_
  obtain⟨i,x,hi,hx,x1,x2⟩:=split_new' hg (by omega) hh.2
  have hp0:1≤plF (splitM f) h:=by
   refine Classical.byContradiction fun r=>?_
   have:=hw'.inj h 0 hrh (by rw [hw'.zero];omega)
   omega
  obtain⟨p,he,p1,p2⟩:=hw'.fwd h hp0
  have hpr:=hw'.range p p1
  rw [hi] at he h2
  have hpo:=new_pred hg hpr.2 he
  have hso:=new_pred hg hr.2 h2
  have e:=one_src hg ⟨hpr.1,hpo⟩ ⟨hr.1,hso⟩ he h2
  have:=(h3.pl hw' ht'.tr (ht'.asg' hw' h1)).1
  rw [e] at p2
  omega
 refine⟨hN,?_⟩
 by_cases hso:s<f.blocks.length
 ·have h1':=(rch_split hg hg' hso).2 h1
  rcases edg_spl hr.1 hso h2 with q | ⟨i,x,q1,_,_⟩
  ·exact List.ne_nil_of_mem ((mem_src' hg).2 ⟨h1',q,(anc_split' hg hg' hN h1').2 h3⟩)
  omega
 obtain⟨i,x,hi,hx,x1,x2⟩:=split_new' hg (by omega) hr.2
 have hl:=List.length_pos_iff.2 hg.ne
 have hp0:1≤plF (splitM f) s:=by
  refine Classical.byContradiction fun r=>?_
  have:=hw'.inj s 0 h1 (by rw [hw'.zero];omega)
  omega
 obtain⟨p,he,p1,p2⟩:=hw'.fwd s hp0
 have hpr:=hw'.range p p1
 have hanc:=anc_pred hg' hp0 (edg_preds hpr hr he) p1 h3 (by omega)
 rw [hi] at he h2
 have hpo:=new_pred hg hpr.2 he
 have p1':=(rch_split hg hg' hpo).2 p1
 rcases edg_spl hpr.1 hpo he with q | ⟨i',x',q1,q2,q3⟩
 ·have:=edg_range hg hpr.1 hpo q
  omega
 have:i'=i:=by omega
 subst this
 rw [q2] at hx
 simp only [Option.some.injEq] at hx
 have hxx:=jumpB_inj hx
 have hb:=edg_new q2 h2
 rw [←hb] at q3
 exact List.ne_nil_of_mem ((mem_src' hg).2 ⟨p1',q3,(anc_split' hg hg' hN p1').2 hanc⟩)
theorem src_iff(hg:GrW f)(hg':GrW (splitM f))(h:Int):srcM (splitM f) h=[]↔srcM f h=[]:=by
 constructor
 ·intro q
  refine Classical.byContradiction fun r=>?_
  obtain⟨s,hs⟩:=List.exists_mem_of_ne_nil _ r
  rcases src_to hg hg' hs with z | ⟨i,z,_⟩
  ·rw [q] at z
   cases z
  rw [q] at z
  cases z
 intro q
 refine Classical.byContradiction fun r=>?_
 exact(src_back hg hg' r).2 q
theorem nat_split(hg:GrW f)(hg':GrW (splitM f)){h:Int}(h0:0≤h∧h<f.blocks.length){k:Int}(hk:k∈natM f h):k∈natM (splitM f) h:=by
 have hw:=ord_w hg
 have hw':=ord_w hg'
 have hsl:=split_len (f:=f)
 have h0':0≤h∧h<(splitM f).blocks.length:=⟨h0.1,by omega⟩
 have hN:=nat_w hg h0
 have hN':=nat_w hg' h0'
 by_cases e:k=h
 ·rw [e]
  exact List.mem_of_getElem? hN'.head
 have hcl:∀x p,x∈natM (splitM f) h→x≠h→0≤plF (splitM f) p→Edg (splitM f) p x→p∈natM (splitM f) h:=fun x p hx hne hp he=>hN'.cl x hx hne p (edg_preds (hw'.range p hp) (hN'.rng x hx) he) hp
 refine hN.ind (fun k=>0≤plF f k→k∈natM (splitM f) h) (fun s hs hsr=>?_) (fun x hx hne hP p hp hpr=>?_) k hk e ((hN.rch k hk).resolve_left e)
 ·have hr:=(hw.range s hsr).2
  rcases src_to hg hg' hs with q | ⟨i,q1,q2⟩
  ·exact hN'.src s q
  exact hcl _ s (hN'.src _ q1) (by omega) ((rch_split hg hg' hr).1 hsr) q2
 have hxr:=(hN.rch x hx).resolve_left hne
 have hxm:=hP hxr
 have hrr:=hw.range p hpr
 have hpe:=(preds_edg hg (hN.rng x hx).1 hp).2
 have hpr':=(rch_split hg hg' hrr.2).1 hpr
 rcases spl_edg hrr.1 hrr.2 hpe with q | ⟨i,q1,q2⟩
 ·exact hcl x p hxm hne hpr' q
 have hni:=hw'.next _ _ hpr' q1
 exact hcl _ p (hcl x _ hxm hne hni q2) (by omega) hpr' q1
theorem raw_heads(g:Func):(rawM g).map (fun x=>x.head)=((List.range g.blocks.length).filter fun h:Nat=>decide (srcM g (h:Int)≠[])).map fun h:Nat=>(h:Int):=by
 unfold rawM
 induction List.range g.blocks.length with
 | nil=>rfl
 | cons a l ih =>
  rw [List.flatMap_cons,List.map_append,ih,List.filter_cons]
  unfold rawH
  by_cases q:srcM g (a:Int)=[]
  ·simp [q]
  simp [q]
theorem loops_heads(g:Func):(loopsM g).map (fun x=>x.head)=(rawM g).map (fun x=>x.head):=by
 have h:=congrArg (List.map Prod.fst) (loops_nest g).1
 rw [List.map_map,List.map_map] at h
 exact h
theorem heads_split(hg:GrW f)(hg':GrW (splitM f)):(loopsM (splitM f)).map (fun x=>x.head)=(loopsM f).map (fun x=>x.head):=by
 rw [loops_heads,loops_heads,raw_heads,raw_heads,split_len,List.range_add,List.filter_append]
 have h1:(((List.range (spM f).news.length).map (f.blocks.length + ·)).filter fun h:Nat=>decide (srcM (splitM f) (h:Int)≠[]))=[]:=by
  rw [List.filter_eq_nil_iff]
  intro a ha
  obtain⟨i,_,rfl⟩:=List.mem_map.1 ha
  rw [decide_eq_true_iff]
  intro q
  have:=(src_back hg hg' q).1
  omega
 rw [h1,List.append_nil]
 congr 1
 refine List.filter_congr fun a _=>?_
 rw [Bool.eq_iff_iff,decide_eq_true_iff,decide_eq_true_iff,ne_eq,ne_eq,src_iff hg hg']
theorem loops_split(hg:GrW f)(hg':GrW (splitM f)):(loopsM (splitM f)).length=(loopsM f).length∧∀(i:Nat) x y,(loopsM f)[i]?=some x→(loopsM (splitM f))[i]?=some y→x.head=y.head∧x.blocks.length≤y.blocks.length:=by
 have hh:=heads_split hg hg'
 refine⟨by simpa using congrArg List.length hh,fun i x y hx hy=>?_⟩
 have e:x.head=y.head:=by
  have:=congrArg (fun l=>l[i]?) hh
  simpa [hx,hy] using this.symm
 refine⟨e,?_⟩
 have wx:=loops_w (List.mem_of_getElem? hx)
 have wy:=loops_w (List.mem_of_getElem? hy)
 refine nodup_sub (wx.nd hg) fun k hk=>wy.mem.2 ?_
 rw [←e]
 exact nat_split hg hg' wx.rng (wx.mem.1 hk)
end
end Go.Proofs.Ytlclgfgmhnmnaaa
namespace Go.Proofs.Ytlclgfgmhnmnaaa
open Go.Av
theorem blocks_len(bs:List Block):(cellsAll (bs.map Block.enc)).length=bs.length * 7:=by
 induction bs with
 | nil=>rfl
 | cons b r ih =>
  have e:cellsAll ((b::r).map Block.enc)=b.enc.cells++cellsAll (r.map Block.enc):=rfl
  have hb:b.enc.cells.length=7:=rfl
  rw [e,List.length_append,ih,hb,List.length_cons]
  omega
theorem blocks_scalar(bs:List Block):∀d∈cellsAll (bs.map Block.enc),d.scalar:=by
 induction bs with
 | nil=>intro d hd;cases hd
 | cons b r ih =>
  intro d hd
  have e:cellsAll ((b::r).map Block.enc)=b.enc.cells++cellsAll (r.map Block.enc):=rfl
  rw [e] at hd
  rcases List.mem_append.1 hd with q | q
  ·simp only [Block.enc,AVal.cells,List.mem_cons,List.not_mem_nil,or_false] at q
   rcases q with rfl | rfl | rfl | rfl | rfl | rfl | rfl<;>trivial
  exact ih d q
theorem awp_blocks2{P:Program}{kb:Nat}{c:Code}{Q:AEx→St→Prop}{n:Nat}{slots:List (Nat×AVal)}{O:List AObj}{ids:List Nat}{bs T:List Block}{X oid:Nat}{name:Int}
  (hl:ids.length=bs.length) (hX:oid≠X) (hout:O[X]?=some (.cells [aI name,.os oid (bs.length+T.length) 7])) (hlst:O[oid]?=some (.cells (blsC ids bs++cellsAll (T.map Block.enc))))
  (hown:∀(j id:Nat) (b:Block),ids[j]?=some id→bs[j]?=some b→b.term.to≠[]→id≠oid∧id≠X∧O[id]?=some (.cells (edC b.term.to)))
  (hinj:∀(i j id:Nat) (b d:Block),ids[i]?=some id→ids[j]?=some id→bs[i]?=some b→bs[j]?=some d→b.term.to≠[]→d.term.to≠[]→i=j)
  (h:∀O',O'.length=O.length→O'[X]?=some (.cells [aI name,eBlocks (bs++T)])→AWP P kb c Q ⟨n,slots,O'⟩):AWP P kb c Q ⟨n,slots,O⟩:=by
 have hT:=blocks_len T
 refine awp_frzp (A:=oid) (C:=fun i=>mixB i ids bs++cellsAll (T.map Block.enc)) (N:=bs.length) (M:=bs.length * 7+T.length * 7) (fun i=>i * 7+6) (fun i d hd=>by
   rcases List.mem_append.1 hd with q | q
   ·exact mixB_scalar i ids bs d q
   exact blocks_scalar T d q) (fun i=>by rw [List.length_append,mixB_len i hl,hT])
  (fun i O=>O[X]?=some (.cells [aI name,.os oid (bs.length+T.length) 7])∧∀(j id:Nat) (b:Block),i≤j→ids[j]?=some id→bs[j]?=some b→b.term.to≠[]→id≠oid∧id≠X∧O[id]?=some (.cells (edC b.term.to)))
  (fun i O hi hA hf=>?_) bs.length 0 O (by omega) hlst ⟨hout,fun j id b _=>hown j id b⟩ (fun O1 hO1 hA hf=>?_)
 ·have hid:ids[i]?=some (ids[i]'(by omega)):=List.getElem?_eq_getElem _
  have hb:bs[i]?=some (bs[i]'hi):=List.getElem?_eq_getElem _
  generalize ids[i]'(by omega)=id at hid
  generalize bs[i]'hi=b at hb
  obtain⟨m1,m2⟩:=mixB_at i hid hb
  have hml:=lt_of_getElem? m1
  by_cases ht:b.term.to=[]
  ·refine .inl ⟨?_,hf.1,fun j id b hij=>hf.2 j id b (by omega)⟩
   have he:eEdges b.term.to=outE id b.term.to:=by
    rw [ht]
    rfl
   show mixB (i+1) ids bs++_=mixB i ids bs++_
   rw [m2,he]
   congr 1
   apply List.ext_getElem?
   intro j
   rw [List.getElem?_set]
   split
   ·rename_i e
    first | rw [←e,m1] | rw [←e,if_pos (lt_of_getElem? m1),m1]
   rfl
  obtain⟨o1,o2,o3⟩:=hf.2 i id b (Nat.le_refl _) hid hb ht
  refine .inr ⟨id,.cells (edC b.term.to),.os id b.term.to.length 2,eEdges b.term.to,o1,o3,by simp [AObj.isSpare],trivial,?_,?_,FSub.os (cs:=edC b.term.to) o3 (fun x hx=>by obtain⟨e,_,rfl⟩:=List.mem_map.1 hx;rfl) (by simp) (by rw [List.drop_zero,List.take_of_length_le (by rw [edC_len];omega)];exact edC_share _),?_,fun j id' b' hij h1 h2 h3=>?_⟩
  ·show(mixB i ids bs++_)[i * 7+6]?=_
   rw [List.getElem?_append_left hml,m1]
   exact congrArg some (if_neg ht)
  ·show mixB (i+1) ids bs++_=(mixB i ids bs++_).set (i * 7+6) _
   rw [m2,List.set_append_left _ _ hml]
  ·rw [List.getElem?_set_ne (fun e=>hX e),List.getElem?_set_ne (fun e=>o2 e)]
   exact hf.1
  obtain⟨p1,p2,p3⟩:=hf.2 j id' b' (by omega) h1 h2 h3
  refine⟨p1,p2,?_⟩
  rw [List.getElem?_set_ne (fun e=>p1 e.symm),List.getElem?_set_ne (fun e=>?_)]
  ·exact p3
  subst e
  have:=hinj i j id b b' hid h1 hb h2 ht h3
  omega
 have hall:mixB bs.length ids bs++cellsAll (T.map Block.enc)=cellsAll ((bs++T).map Block.enc):=by
  rw [mixB_all hl,List.map_append]
  simp [cellsAll]
 rw [hall] at hA
 refine awp_freeze_in oid hA (by simp [AObj.isSpare]) trivial slots (fun s z hz=>⟨z,hz,.refl z⟩) X (Ne.symm hX) [aI name,.os oid (bs.length+T.length) 7] [aI name,eBlocks (bs++T)] hf.1 rfl (fun d hd=>?_) (fun j a d ha hd=>?_) (h _ (by rw [List.length_set,List.length_set,hO1]) ?_)
 ·simp only [List.mem_cons,List.not_mem_nil,or_false] at hd
  rcases hd with rfl | rfl<;>trivial
 ·match j,ha,hd with
  | 0,ha,hd =>
   simp only [List.getElem?_cons_zero,Option.some.injEq] at ha hd
   subst ha
   subst hd
   exact .refl _
  | 1,ha,hd =>
   simp only [List.getElem?_cons_succ,List.getElem?_cons_zero,Option.some.injEq] at ha hd
   subst ha
   subst hd
   refine FSub.os hA (fun x hx=>?_) (by simp) ?_
   ·obtain⟨b,_,rfl⟩:=List.mem_map.1 hx
    rfl
   have hml:=blocks_len (bs++T)
   rw [List.length_append] at hml
   rw [List.drop_zero,List.take_of_length_le (by omega)]
   exact blocks_share (bs++T)
  | j+2,ha,hd=>simp at ha
 rw [List.getElem?_set_self (by rw [List.length_set];exact lt_of_getElem? hf.1)]
theorem blsC_to{ids:List Nat}{bs:List Block}{T:List AVal}{k id:Nat}{b:Block}(h1:ids[k]?=some id)(h2:bs[k]?=some b):(blsC ids bs++T)[k * 7+6]?=some (outE id b.term.to):=by
 have h3:=blsC_at h1 h2
 have h4:(((blsC ids bs).drop (k * 7)).take 7)[6]?=some (outE id b.term.to):=by
  rw [h3]
  rfl
 rw [List.getElem?_take,if_pos (by omega),List.getElem?_drop] at h4
 rw [List.getElem?_append_left (lt_of_getElem? h4)]
 exact h4
theorem blC_set(id:Nat)(b:Block)(l:List Edge)(h:l.length=b.term.to.length):blC id (setTo b l)=blC id b:=by
 unfold blC setTo outE
 simp only
 by_cases q:b.term.to=[]
 ·rw [if_pos q,if_pos (by rw [q] at h;exact List.length_eq_zero_iff.1 h)]
 rw [if_neg q,if_neg (fun r=>q (by rw [r] at h;exact List.length_eq_zero_iff.1 h.symm)),h]
theorem blsC_set:∀{ids:List Nat} {bs:List Block} {tos:List (List Edge)},tos.length=bs.length→(∀(k:Nat) b l,bs[k]?=some b→tos[k]?=some l→l.length=b.term.to.length)→blsC ids (List.zipWith setTo bs tos)=blsC ids bs
 | [],_,_,_,_=>by simp [blsC]
 | _::_,[],[],_,_=>rfl
 | i::ids,b::bs,l::tos,h,hl=>by
  have e1:blsC (i::ids) (List.zipWith setTo (b::bs) (l::tos))=blC i (setTo b l)++blsC ids (List.zipWith setTo bs tos):=rfl
  have e2:blsC (i::ids) (b::bs)=blC i b++blsC ids bs:=rfl
  rw [e1,e2,blC_set i b l (hl 0 b l rfl rfl),blsC_set (by simpa using h) fun k b l h1 h2=>hl (k+1) b l (by simpa using h1) (by simpa using h2)]
 | _::_,[],_::_,h,_=>by simp at h
 | _::_,_::_,[],h,_=>by simp at h
theorem edC_two{es:List Edge}{n:Nat}{e:Edge}(h:es[n]?=some e):((edC es).drop (n * 2)).take 2=[aI e.block,eIs e.args]:=by
 obtain⟨h1,h2⟩:=edC_at h
 have hl:=lt_of_getElem? h2
 apply List.ext_getElem?
 intro i
 rw [List.getElem?_take]
 by_cases h0:i=0
 ·subst h0
  rw [if_pos (by omega),List.getElem?_drop,Nat.add_zero,h1]
  rfl
 by_cases h3:i=1
 ·subst h3
  rw [if_pos (by omega),List.getElem?_drop,h2]
  rfl
 rw [if_neg (by omega),List.getElem?_eq_none (by simp;omega)]
theorem edC_put{es:List Edge}{n:Nat}(h:n<es.length)(e:Edge):splice (edC es) (n * 2) [aI e.block,eIs e.args]=edC (es.set n e):=by
 have hl:=edC_len es
 have hx:es[n]?=some es[n]:=List.getElem?_eq_getElem h
 have hlen:(edC (es.take n)).length=n * 2:=by rw [edC_len,List.length_take];omega
 have e1:es=es.take n++es[n]::es.drop (n+1):=by rw [←drop_at hx,List.take_append_drop]
 have e2:edC es=edC (es.take n)++(aI es[n].block::eIs es[n].args::edC (es.drop (n+1))):=by
  conv=>lhs;rw [e1]
  rw [edC_append]
  rfl
 have e3:edC (es.set n e)=edC (es.take n)++(aI e.block::eIs e.args::edC (es.drop (n+1))):=by
  have:es.set n e=es.take n++e::es.drop (n+1):=by
   conv=>lhs;rw [e1]
   rw [List.set_append_right _ _ (by rw [List.length_take];omega),List.length_take,show n - min n es.length=0 by omega]
   rfl
  rw [this,edC_append]
  rfl
 rw [e3]
 apply List.ext_getElem?
 intro i
 rw [splice_get (by rw [hl];simp;omega),e2]
 simp only [List.length_cons,List.length_nil]
 by_cases h1:i<n * 2
 ·rw [if_neg (by omega),List.getElem?_append_left (by omega),List.getElem?_append_left (by omega)]
 by_cases h2:i<n * 2+2
 ·rw [if_pos (by omega),List.getElem?_append_right (by omega),hlen]
  rcases (show i=n * 2∨i=n * 2+1 by omega) with q | q
  ·subst q
   rw [Nat.sub_self]
   rfl
  subst q
  rw [show n * 2+1 - n * 2=1 by omega]
  rfl
 rw [if_neg (by omega),List.getElem?_append_right (by omega),List.getElem?_append_right (by omega),hlen]
 obtain⟨j,hj⟩:∃j,i - n * 2=j+2:=⟨i - n * 2 - 2,by omega⟩
 rw [hj]
 rfl
theorem edC_scalar(es:List Edge):∀d∈edC es,d.scalar:=fun d hd=>by
 simp only [edC,List.mem_flatMap] at hd
 obtain⟨e,_,hd⟩:=hd
 simp only [List.mem_cons,List.not_mem_nil,or_false] at hd
 rcases hd with rfl | rfl<;>trivial
theorem sub_splice{O:List AObj}{cs xs ys:List AVal}{i:Nat}(hl:xs.length=ys.length)(hi:i+xs.length≤cs.length)(h:∀(j:Nat) c d,xs[j]?=some c→ys[j]?=some d→Sub O c d)(j:Nat)(c d:AVal)(h1:(splice cs i xs)[j]?=some c)(h2:(splice cs i ys)[j]?=some d):Sub O c d:=by
 rw [splice_get hi] at h1
 rw [splice_get (by omega)] at h2
 rw [←hl] at h2
 split at h1
 ·rename_i q
  rw [if_pos q] at h2
  exact h _ c d h1 h2
 rename_i q
 rw [if_neg q,h1] at h2
 simp only [Option.some.injEq] at h2
 rw [h2]
 exact .refl _
theorem aI_shares(l:List Int):(l.map aI).map AVal.share=l.map aI:=by
 rw [List.map_map]
 rfl
theorem clone_spec(l:List Int)(hl:l.length≤2 ^ 43):PCall Try.prog 66 [eIs l] (eIs l):=by
 have hs:=aI_shares l
 refine zf true 0 Try.func66 Try.ntmps66 ?_
 dsimp only [Tmp,TypeId,slotsOf]
 refine zh1 (za0 ?_)
 refine awp_nil2 0 rfl (fun hn=>?_) ?_
 ·simp -dsimp only [simprocAttr,↓vpre,zp]
  refine zh2 (za0 ?_)
  refine zw0 rfl ?_
  refine zh1 (za0 ?_)
  refine awp_ret ?_
  simp -dsimp only [simprocAttr,↓vpre,zp,zr,Try.results66]
  exact⟨trivial,by show AVal.lst 1 [] Own.sh=.lst 1 (l.map aI) .sh;rw [hn]⟩
 simp -dsimp only [simprocAttr,↓vpre,zp]
 refine zh2 (za0 ?_)
 refine zu0 rfl ?_
 refine zb0 ?_
 refine zg1 ?_
 simp -dsimp only [simprocAttr,↓vpre,zp,hs]
 repeat(refine⟨by omega,?_⟩)
 refine za0 ?_
 refine awp_ret ?_
 simp -dsimp only [simprocAttr,↓vpre,zp,zr,Try.results66]
structure Cx where
 k:Nat
 bid:Nat
 ids:List Nat
 O:List AObj
structure Ci where
 j:Nat
 O:List AObj
structure Ce where
 z:Nat
 tid:Nat
 O:List AObj
theorem ins_take{l:List Ins}{j:Nat}{i:Ins}(h:l[j]?=some i):(l.take (j+1)).map Ins.enc=(l.take j).map Ins.enc++[i.enc]:=by
 rw [List.take_add_one,h,List.map_append]
 rfl
theorem own_norm(O:List AObj)(C0:List AVal):(O++[AObj.cells C0]++[AObj.spare 0]).set O.length (.cells (C0.set 1 (.lst 4 [] (.tok (O++[AObj.cells C0]).length))))=O++[.cells (C0.set 1 (.lst 4 [] (.tok (O.length+1)))),.spare 0]:=by simp
abbrev bcC0(id:Nat)(b:Block)(l:List AVal)(t:AVal):List AVal:=[eIs b.params,.lst 4 l (.tok id),aI b.term.kind,aI b.term.arg,aI b.term.n,eIs b.term.cases,t]
abbrev bcC(id:Nat)(b:Block)(l:List Ins)(t:AVal):List AVal:=[eIs b.params,.lst 4 (l.map Ins.enc) (.tok id),aI b.term.kind,aI b.term.arg,aI b.term.n,eIs b.term.cases,t]
theorem bcC_upto{n id:Nat}(b:Block)(l:List Ins){t:AVal}(h:id<n)(ht:t.upto n):uptoL n (bcC id b l t):=⟨⟨aI_upto _ _,trivial⟩,⟨Ins.map_upto _ _,h⟩,trivial,trivial,trivial,⟨aI_upto _ _,trivial⟩,ht,trivial⟩
theorem copy_spec(f:Func)(hs:SmW f)(hne:f.blocks≠[]):ECall Try.prog 39 [.gone,.cells [aI 0,.lst 7 [] .ex]] [f.enc] (CpR f):=by
 have hcl:=fun(l:List Int) (h:l.length≤4096)=>clone_spec l (by omega)
 have hS0:=copy_start f
 have hn:=hs.few
 obtain⟨N,hN⟩:∃N,N=f.blocks.length:=⟨_,rfl⟩
 rw [←hN] at hn
 refine ecall_all hT Try.func39 rfl (by kernel_rfl) (by simp [Try.ntmps39]) ?_
 show AWP Try.prog _ _ _ ⟨83,_,_⟩
 dsimp only [Tmp,TypeId,slotsOf]
 refine zh1 (za0 ?_)
 refine awp_freeze1 1 2 (.ip none [aI f.name,eBlocks f.blocks]) rfl (by simp [AObj.isSpare]) trivial rfl ?_ ?_
 rotate_left
 simp -dsimp only [simprocAttr,↓vpre,zp]
 ·refine zh1 (za0 ?_)
  refine zg2 ?_
  simp -dsimp only [simprocAttr,↓vpre,zp,←hN]
  refine za0 ?_
  show AWP Try.prog _ _ _ ⟨_,_,[.gone,.cells [aI 0,.lst 7 [] .ex],.gone,.cells [aI 0,.lst 7 [] .ex],.cells [aI f.name,.lst 7 [] .ex]]⟩
  generalize [AObj.gone,.cells [aI 0,.lst 7 [] .ex],.gone,.cells [aI 0,.lst 7 [] .ex],.cells [aI f.name,.lst 7 [] .ex]]=O0 at *
  refine awp_block (awp_loop (ι:={X:Cx // X.k≤N∧CpS f (f.blocks.take X.k) X.bid X.ids X.O}) (fun X=>⟨83,[(1,.ip none [aI f.name,eBlocks f.blocks]),(2,.mp 3 0),(3,.mp 4 0),(15,eBlocks f.blocks),(16,aI N),(17,aI X.1.k)],X.1.O⟩) (fun X=>N - X.1.k) ⟨⟨0,0,[],O0⟩,by simp,hS0⟩ ?_ ?_)
  ·refine zq rfl ?_ ?_
   simp -dsimp only [simprocAttr,↓vpre,zp,zc]
   all_goals rfl
  rintro⟨⟨k,bid,ids,O⟩,hk,hS⟩
  simp only at hk hS
  refine zh1 (za0 ?_)
  apply zk1 rfl<;>intro h
  ·refine zb0 ?_
   have hlt:k<N:=by simpa using h
   obtain⟨b,hb⟩:∃b,f.blocks[k]?=some b:=⟨f.blocks[k]'(by omega),List.getElem?_eq_getElem _⟩
   have hbm:=List.mem_of_getElem? hb
   have htk:f.blocks.take (k+1)=f.blocks.take k++[b]:=by rw [List.take_add_one,hb];rfl
   have hbp:=hs.params b hbm
   have hbi:=hs.ins b hbm
   have hba:=hs.iargs b hbm
   have hbc:=hs.cases b hbm
   have hbt:=hs.to b hbm
   have hbe:=hs.eargs b hbm
   have hcp:=hcl b.params (by omega)
   have hcc:=hcl b.term.cases (by omega)
   have h3l:=lt_of_getElem? hS.r3
   have h4l:=lt_of_getElem? hS.out
   refine awp_seq (awp_block ?_)
   refine zg1 ?_
   simp -dsimp only [simprocAttr,↓vpre,zp,hb]
   refine za0 ?_
   refine awp_local 5 ([eIs b.params,eInss b.ins,aI b.term.kind,aI b.term.arg,aI b.term.n,eIs b.term.cases,eEdges b.term.to]) [(1,.ip none [aI f.name,eBlocks f.blocks]),(2,.mp 3 0),(3,.mp 4 0),(15,eBlocks f.blocks),(16,aI N),(17,aI k),(5,.ip none [eIs b.params,eInss b.ins,aI b.term.kind,aI b.term.arg,aI b.term.n,eIs b.term.cases,eEdges b.term.to])] (by simp [putS,dropS,Go.Av.look]) (by rfl) (by omega) (by simp [putS,dropS,Go.Av.look]) ?_ ?_ ?_
   ·exact hS.up
   ·simp [AVal.upto,uptoL,aI_upto,Edge.map_upto,Ins.map_upto,Block.map_upto,h3l,h4l]
   refine zh1 ?_
   refine zi hcp ?_
   refine⟨ob (by kernel_rfl),?_⟩
   refine za0 ?_
   refine awp_ownCell O.length 1 (sz:=4) (xs:=[]) (snoc_get _ _) rfl ?_
   show AWP Try.prog _ _ _ ⟨_,_,(O++[AObj.cells [eIs b.params,.lst 4 [] .ex,aI b.term.kind,aI b.term.arg,aI b.term.n,eIs b.term.cases,eEdges b.term.to]]++[AObj.spare 0]).set O.length (.cells ([eIs b.params,.lst 4 [] .ex,aI b.term.kind,aI b.term.arg,aI b.term.n,eIs b.term.cases,eEdges b.term.to].set 1 (.lst 4 [] (.tok (O++[AObj.cells [eIs b.params,.lst 4 [] .ex,aI b.term.kind,aI b.term.arg,aI b.term.n,eIs b.term.cases,eEdges b.term.to]]).length))))⟩
   rw [own_norm]
   have hI:=CpI.start hS.up (cs:=bcC (O.length+1) b [] (eEdges b.term.to)) (bcC_upto b [] (by omega) ⟨Edge.map_upto _ _,trivial⟩)
   show AWP Try.prog _ _ _ ⟨_,_,O++[AObj.cells (bcC (O.length+1) b [] (eEdges b.term.to)),.spare 0]⟩
   generalize O++[AObj.cells (bcC (O.length+1) b [] (eEdges b.term.to)),.spare 0]=O2 at *
   refine zh2 (za0 ?_)
   refine awp_block (awp_loop (ι:={X:Ci // X.j≤b.ins.length∧CpI O (bcC (O.length+1) b (b.ins.take X.j) (eEdges b.term.to)) X.j X.O}) (fun X=>⟨83,[(1,.ip none [aI f.name,eBlocks f.blocks]),(2,.mp 3 0),(3,.mp 4 0),(15,eBlocks f.blocks),(16,aI N),(17,aI k),(5,.ip none [eIs b.params,eInss b.ins,aI b.term.kind,aI b.term.arg,aI b.term.n,eIs b.term.cases,eEdges b.term.to]),(6,.mp O.length 0),(28,eInss b.ins),(29,aI b.ins.length),(30,aI X.1.j)],X.1.O⟩) (fun X=>b.ins.length - X.1.j) ⟨⟨0,O2⟩,by simp,hI⟩ ?_ ?_)
   ·refine zq rfl ?_ ?_
    simp -dsimp only [simprocAttr,↓vpre,zp,zc]
    all_goals rfl
   rintro⟨⟨j,O2⟩,hj,hI⟩
   simp only at hj hI
   have hI2:=hI.len
   refine zh1 (za0 ?_)
   apply zk1 rfl<;>intro h
   ·refine zb0 ?_
    have hlj:j<b.ins.length:=by simpa using h
    obtain⟨i,hi⟩:∃i,b.ins[j]?=some i:=⟨b.ins[j],by simp [hlj]⟩
    have hci:=hcl i.args (by have:=hba i (List.mem_of_getElem? hi);omega)
    have hcell:=hI.cell
    have hsp:=hI.sp
    have htl:(b.ins.take j).length=j:=by rw [List.length_take];omega
    refine awp_seq (awp_block ?_)
    refine zg1 ?_
    simp -dsimp only [simprocAttr,↓vpre,zp,hi]
    refine za0 ?_
    refine zh1 ?_
    refine zi hci ?_
    refine za0 ?_
    refine awp_local 8 ([aI i.to,aI i.op,aI i.n,eIs i.args]) [(1,.ip none [aI f.name,eBlocks f.blocks]),(2,.mp 3 0),(3,.mp 4 0),(15,eBlocks f.blocks),(16,aI N),(17,aI k),(5,.ip none [eIs b.params,eInss b.ins,aI b.term.kind,aI b.term.arg,aI b.term.n,eIs b.term.cases,eEdges b.term.to]),(6,.mp O.length 0),(28,eInss b.ins),(29,aI b.ins.length),(30,aI j),(8,.ip none [aI i.to,aI i.op,aI i.n,eIs i.args])] (by simp [putS,dropS,Go.Av.look]) (by rfl) (by omega) (by simp [putS,dropS,Go.Av.look]) ?_ ?_ ?_
    ·exact hI.up
    ·have h6l:=lt_of_getElem? hcell
     simp [AVal.upto,uptoL,aI_upto,Edge.map_upto,Ins.map_upto,Block.map_upto,h6l,show 3<O2.length by omega,show 4<O2.length by omega]
    have hcell':∀y,(O2.set (O.length+1) y)[O.length]?=some (.cells (bcC (O.length+1) b (b.ins.take j) (eEdges b.term.to))):=fun y=>by rw [List.getElem?_set_ne (by omega)];exact hcell
    refine zg0 ?_
    simp -dsimp only [simprocAttr,↓vpre,zp,hcell,hcell',hsp,bcC,List.length_map,htl]
    repeat(refine⟨by omega,?_⟩)
    refine za0 ?_
    have hIn:=(hI.room (j+1)).one (cs':=bcC (O.length+1) b (b.ins.take (j+1)) (eEdges b.term.to)) (bcC_upto b _ (by omega) ⟨Edge.map_upto _ _,trivial⟩)
    show AWP Try.prog _ _ _ ⟨_,_,(O2.set (O.length+1) (AObj.spare (j+1))).set O.length (.cells (bcC0 (O.length+1) b ((b.ins.take j).map Ins.enc++[i.enc]) (eEdges b.term.to)))⟩
    rw [←ins_take hi]
    have hIn:CpI O _ _ ((O2.set (O.length+1) (AObj.spare (j+1))).set O.length (.cells (bcC0 (O.length+1) b ((b.ins.take (j+1)).map Ins.enc) (eEdges b.term.to)))):=hIn
    generalize (O2.set (O.length+1) (AObj.spare (j+1))).set O.length (.cells (bcC0 (O.length+1) b ((b.ins.take (j+1)).map Ins.enc) (eEdges b.term.to)))=O5 at *
    refine zh0 ?_
    repeat(refine⟨by omega,?_⟩)
    refine zl0 ?_
    refine⟨⟨⟨j+1,O5⟩,hlj,hIn⟩,by simp;omega,?_⟩
    refine zq rfl ?_ ?_
    simp -dsimp only [simprocAttr,↓vpre,zp,zc]
    ·exact Sub.int (by simp)
    rfl
   refine awp_exit ?_
   simp -dsimp only [vend,ne_eq,Nat.reduceEqDiff,reduceCtorEq]
   have hjl:b.ins.length≤j:=by
    have:=of_decide_eq_false h
    omega
   rw [List.take_of_length_le hjl] at hI
   have hcell:=hI.cell
   refine zg1 ?_
   simp -dsimp only [simprocAttr,↓vpre,zp,hcell]
   refine .inl ⟨_,hcc,by simp only [uptoL,AVal.upto,zt,zu,aI_upto],later_intro ?_⟩
   simp -dsimp only [simprocAttr,↓vpre,zp,hcell]
   refine za0 ?_
   have hIn:=hI.one (cs':=bcC (O.length+1) b b.ins (eEdges b.term.to)) (bcC_upto b _ (by omega) ⟨Edge.map_upto _ _,trivial⟩)
   show AWP Try.prog _ _ _ ⟨_,_,O2.set O.length (.cells (bcC (O.length+1) b b.ins (eEdges b.term.to)))⟩
   generalize O2.set O.length (.cells (bcC (O.length+1) b b.ins (eEdges b.term.to)))=O5 at *
   have hcell:=hIn.cell
   refine zg1 ?_
   simp -dsimp only [simprocAttr,↓vpre,zp,hcell]
   refine za0 ?_
   have h2l:=hIn.len
   have hnil:bcC (O.length+1) b b.ins (.lst 2 [] .ex)=[eIs b.params,.lst 4 (b.ins.map Ins.enc) (.tok (O.length+1)),aI b.term.kind,aI b.term.arg,aI b.term.n,eIs b.term.cases,.lst 2 [] .ex]:=rfl
   refine awp_retell2 O.length (bcC (O.length+1) b b.ins (.lst 2 [] .ex)) (List.getElem?_set_self (by omega)) rfl (fun d hd=>?_) (fun j c d hc hd=>?_) ?_
   ·simp only [bcC,bcC0,List.mem_cons,List.not_mem_nil,or_false] at hd
    rcases hd with rfl | rfl | rfl | rfl | rfl | rfl | rfl<;>trivial
   ·match j,hc,hd with
    | 0,hc,hd=>exact Sub.of_eq (by simpa [bcC,bcC0] using hc.symm.trans hd)
    | 1,hc,hd=>exact Sub.of_eq (by simpa [bcC,bcC0] using hc.symm.trans hd)
    | 2,hc,hd=>exact Sub.of_eq (by simpa [bcC,bcC0] using hc.symm.trans hd)
    | 3,hc,hd=>exact Sub.of_eq (by simpa [bcC,bcC0] using hc.symm.trans hd)
    | 4,hc,hd=>exact Sub.of_eq (by simpa [bcC,bcC0] using hc.symm.trans hd)
    | 5,hc,hd=>exact Sub.of_eq (by simpa [bcC,bcC0] using hc.symm.trans hd)
    | 6,hc,hd =>
     simp only [bcC,bcC0,List.getElem?_cons_succ,List.getElem?_cons_zero,Option.some.injEq] at hc hd
     subst hc
     subst hd
     exact Sub.nil_lst 2
    | j+7,hc,hd=>simp at hc
   rw [List.set_set]
   have hE:=CpE.start (cs:=bcC (O.length+1) b b.ins) (hIn.one (cs':=bcC (O.length+1) b b.ins (.lst 2 [] .ex)) (bcC_upto b _ (by omega) ⟨trivial,trivial⟩))
   generalize O5.set O.length (.cells (bcC (O.length+1) b b.ins (.lst 2 [] .ex)))=O6 at *
   refine zh2 (za0 ?_)
   refine awp_block (awp_loop (ι:={X:Ce // X.z≤b.term.to.length∧CpE O (bcC (O.length+1) b b.ins) X.tid (b.term.to.take X.z) X.O}) (fun X=>⟨83,[(1,.ip none [aI f.name,eBlocks f.blocks]),(2,.mp 3 0),(3,.mp 4 0),(15,eBlocks f.blocks),(16,aI N),(17,aI k),(5,.ip none [eIs b.params,eInss b.ins,aI b.term.kind,aI b.term.arg,aI b.term.n,eIs b.term.cases,eEdges b.term.to]),(6,.mp O.length 0),(55,eEdges b.term.to),(56,aI b.term.to.length),(57,aI X.1.z)],X.1.O⟩) (fun X=>b.term.to.length - X.1.z) ⟨⟨0,0,O6⟩,by simp,hE⟩ ?_ ?_)
   ·refine zq rfl ?_ ?_
    simp -dsimp only [simprocAttr,↓vpre,zp,zc]
    all_goals rfl
   rintro⟨⟨z,tid,O3⟩,hz,hE⟩
   simp only at hz hE
   have hE2:=hE.len
   refine zh1 (za0 ?_)
   apply zk1 rfl<;>intro h
   ·refine zb0 ?_
    have hlz:z<b.term.to.length:=by simpa using h
    obtain⟨e,he⟩:∃e,b.term.to[z]?=some e:=⟨b.term.to[z],by simp [hlz]⟩
    have hce:=hcl e.args (hbe e (List.mem_of_getElem? he))
    have hcell:=hE.cell
    have hti:b.term.to.take (z+1)=b.term.to.take z++[e]:=by rw [List.take_add_one,he];rfl
    have htl:(b.term.to.take z).length=z:=by rw [List.length_take];omega
    have h6l:=lt_of_getElem? hcell
    refine awp_seq (awp_block ?_)
    refine zg1 ?_
    simp -dsimp only [simprocAttr,↓vpre,zp,he]
    refine za0 ?_
    refine awp_local 10 ([aI e.block,eIs e.args]) [(1,.ip none [aI f.name,eBlocks f.blocks]),(2,.mp 3 0),(3,.mp 4 0),(15,eBlocks f.blocks),(16,aI N),(17,aI k),(5,.ip none [eIs b.params,eInss b.ins,aI b.term.kind,aI b.term.arg,aI b.term.n,eIs b.term.cases,eEdges b.term.to]),(6,.mp O.length 0),(55,eEdges b.term.to),(56,aI b.term.to.length),(57,aI z),(10,.ip none [aI e.block,eIs e.args])] (by simp [putS,dropS,Go.Av.look]) (by rfl) (by omega) (by simp [putS,dropS,Go.Av.look]) ?_ ?_ ?_
    ·exact hE.up
    ·simp [AVal.upto,uptoL,aI_upto,Edge.map_upto,Ins.map_upto,Block.map_upto,h6l,show 3<O3.length by omega,show 4<O3.length by omega]
    by_cases hzn:b.term.to.take z=[]
    ·have hox:outX tid (b.term.to.take z)=.lst 2 [] .ex:=if_pos hzn
     rw [hox] at hcell
     have hcell':∀X,(O3++X)[O.length]?=some (.cells (bcC (O.length+1) b b.ins (.lst 2 [] .ex))):=fun X=>at_left hcell
     refine zs0 ?_
     simp -dsimp only [simprocAttr,↓vpre,zp,hcell,hcell',bcC,cellsAll_v,cells_os']
     repeat(refine⟨by omega,?_⟩)
     refine .inl ⟨_,hce,by simp only [uptoL,AVal.upto,zt,zu,aI_upto],later_intro ?_⟩
     simp -dsimp only [simprocAttr,↓vpre,zp,hcell,hcell',bcC,cellsAll_v,cells_os']
     repeat(refine⟨by omega,?_⟩)
     refine⟨trivial,?_⟩
     refine⟨ob (by kernel_rfl),?_⟩
     refine za0 ?_
     have hput:CpE O (bcC (O.length+1) b b.ins) O3.length (b.term.to.take z++[e]) ((O3++[AObj.cells [aI e.block,eIs e.args]]).set O.length (.cells (bcC (O.length+1) b b.ins (.os O3.length 1 2)))):=hE.push e (fun v n hv hn=>bcC_upto b _ (by omega) hv) rfl hE.up (fun _ _=>rfl) (by rw [hzn];rfl) (by rw [hzn];rfl)
     show AWP Try.prog _ _ _ ⟨_,_,(O3++[AObj.cells [aI e.block,eIs e.args]]).set O.length (.cells (bcC (O.length+1) b b.ins (.os O3.length 1 2)))⟩
     generalize (O3++[AObj.cells [aI e.block,eIs e.args]]).set O.length (.cells (bcC (O.length+1) b b.ins (.os O3.length 1 2)))=O7 at *
     refine zh0 ?_
     repeat(refine⟨by omega,?_⟩)
     refine zl0 ?_
     refine⟨⟨⟨z+1,O3.length,O7⟩,hlz,by rw [hti];exact hput⟩,by simp;omega,?_⟩
     refine zq rfl ?_ ?_
     simp -dsimp only [simprocAttr,↓vpre,zp,zc]
     ·exact Sub.int (by simp)
     rfl
    obtain⟨o1,o2⟩:=hE.own hzn
    have hox:outX tid (b.term.to.take z)=.os tid z 2:=by
     unfold outX
     rw [if_neg hzn,htl]
    rw [hox] at hcell
    have hcell':∀X,(O3.set tid .gone++X)[O.length]?=some (.cells (bcC (O.length+1) b b.ins (.os tid z 2))):=fun X=>at_left (at_set_ne hcell (by omega))
    have hTT:(edC (b.term.to.take z)).take (z * 2)=edC (b.term.to.take z):=List.take_of_length_le (by rw [edC_len];omega)
    have hel:=edC_len (b.term.to.take z)
    rw [htl] at hel
    refine zg0 ?_
    simp -dsimp only [simprocAttr,↓vpre,zp,hcell,hcell',bcC,o2,hTT,hel,cellsAll_v,cells_os']
    repeat(refine⟨by omega,?_⟩)
    refine .inl ⟨_,hce,by simp only [uptoL,AVal.upto,zt,zu,aI_upto],later_intro ?_⟩
    simp -dsimp only [simprocAttr,↓vpre,zp,hcell,hcell',bcC,o2,hTT,hel,cellsAll_v,cells_os']
    repeat(refine⟨by omega,?_⟩)
    refine⟨trivial,?_⟩
    refine⟨ob (by kernel_rfl),?_⟩
    refine za0 ?_
    have hput:CpE O (bcC (O.length+1) b b.ins) O3.length (b.term.to.take z++[e]) ((O3.set tid .gone++[AObj.cells (edC (b.term.to.take z)++[aI e.block,eIs e.args])]).set O.length (.cells (bcC (O.length+1) b b.ins (.os O3.length (z+1) 2)))):=hE.push (O4:=O3.set tid .gone) e (fun v n hv hn=>bcC_upto b _ (by omega) hv) (List.length_set) (uptoO_set hE.up trivial) (fun k hk=>by rw [List.getElem?_set_ne (Ne.symm (hk hzn))]) (by rw [edC_snoc]) (by rw [htl])
    show AWP Try.prog _ _ _ ⟨_,_,(O3.set tid .gone++[AObj.cells (edC (b.term.to.take z)++[aI e.block,eIs e.args])]).set O.length (.cells (bcC (O.length+1) b b.ins (.os O3.length (z+1) 2)))⟩
    generalize (O3.set tid .gone++[AObj.cells (edC (b.term.to.take z)++[aI e.block,eIs e.args])]).set O.length (.cells (bcC (O.length+1) b b.ins (.os O3.length (z+1) 2)))=O7 at *
    refine zh0 ?_
    repeat(refine⟨by omega,?_⟩)
    refine zl0 ?_
    refine⟨⟨⟨z+1,O3.length,O7⟩,hlz,by rw [hti];exact hput⟩,by simp;omega,?_⟩
    refine zq rfl ?_ ?_
    simp -dsimp only [simprocAttr,↓vpre,zp,zc]
    ·exact Sub.int (by simp)
    rfl
   refine awp_exit ?_
   simp -dsimp only [vend,ne_eq,Nat.reduceEqDiff,reduceCtorEq]
   have hzl:b.term.to.length≤z:=by
    have:=of_decide_eq_false h
    omega
   rw [List.take_of_length_le hzl] at hE
   have hcell:=hE.cell
   have hout:=hS.out
   have ho4:=hE.keep 4 (by omega)
   rw [hout] at ho4
   have htkl:(f.blocks.take k).length=k:=by rw [List.length_take];omega
   have hown:=hE.own
   have h6l:=lt_of_getElem? hcell
   by_cases hdn:f.blocks.take k=[]
   ·have hob:outBl bid (f.blocks.take k)=.lst 7 [] .ex:=if_pos hdn
    rw [hob] at ho4
    have ho4':∀X,(O3++X)[4]?=some (.cells [aI f.name,.lst 7 [] .ex]):=fun X=>at_left ho4
    refine zs0 ?_
    simp -dsimp only [simprocAttr,↓vpre,zp,hcell,bcC,ho4,ho4',cellsAll_v,cells_os',outX_share,outE_share]
    repeat(refine⟨by omega,?_⟩)
    refine⟨trivial,?_⟩
    refine za0 ?_
    have hput:CpS f (f.blocks.take k++[b]) O3.length (ids++[tid]) ((O3++[AObj.cells (blC tid b)]).set 4 (.cells [aI f.name,.os O3.length 1 7])):=hS.snoc (by omega) hE.up (fun k hk _=>hE.keep k hk) (fun q=>⟨by have:=(hown q).1;omega,(hown q).2⟩) (by rw [blsC_snoc hS.cp.li,hdn];simp [blsC]) (by rw [hdn];rfl)
    show AWP Try.prog _ _ _ ⟨_,_,(O3++[AObj.cells (blC tid b)]).set 4 (.cells [aI f.name,.os O3.length 1 7])⟩
    generalize (O3++[AObj.cells (blC tid b)]).set 4 (.cells [aI f.name,.os O3.length 1 7])=O7 at *
    refine zh0 ?_
    repeat(refine⟨by omega,?_⟩)
    refine zl0 ?_
    refine⟨⟨⟨k+1,O3.length,ids++[tid],O7⟩,hlt,by rw [htk];exact hput⟩,by simp;omega,?_⟩
    refine zq rfl ?_ ?_
    simp -dsimp only [simprocAttr,↓vpre,zp,zc]
    ·exact Sub.int (by simp)
    rfl
   obtain⟨b1,b2⟩:=hS.blk hdn
   have hbl:=lt_of_getElem? b2
   have b3:=hE.keep bid hbl
   rw [b2] at b3
   have hob:outBl bid (f.blocks.take k)=.os bid k 7:=by
    unfold outBl
    rw [if_neg hdn,htkl]
   rw [hob] at ho4
   have ho4':∀X,(O3.set bid .gone++X)[4]?=some (.cells [aI f.name,.os bid k 7]):=fun X=>at_left (at_set_ne ho4 (by omega))
   have hbll:=blsC_len hS.cp.li
   rw [htkl] at hbll
   have hTT:(blsC ids (f.blocks.take k)).take (k * 7)=blsC ids (f.blocks.take k):=List.take_of_length_le (by omega)
   refine zg0 ?_
   simp -dsimp only [simprocAttr,↓vpre,zp,hcell,bcC,ho4,ho4',b3,hTT,hbll,cellsAll_v,cells_os',outX_share,outE_share]
   repeat(refine⟨by omega,?_⟩)
   refine⟨trivial,?_⟩
   refine za0 ?_
   have hput:CpS f (f.blocks.take k++[b]) O3.length (ids++[tid]) ((O3.set bid .gone++[AObj.cells (blsC ids (f.blocks.take k)++blC tid b)]).set 4 (.cells [aI f.name,.os O3.length (k+1) 7])):=by
    have:=hS.snoc (O1:=O3.set bid .gone) (b:=b) (tid:=tid) (by rw [List.length_set];omega) (by rw [List.length_set];exact uptoO_set hE.up trivial) (fun k hk hkb=>by rw [List.getElem?_set_ne (Ne.symm (hkb hdn))];exact hE.keep k hk) (fun q=>⟨by have:=(hown q).1;omega,by rw [List.getElem?_set_ne (by have:=(hown q).1;omega)];exact(hown q).2⟩) (blsC_snoc hS.cp.li tid b).symm rfl
    rw [List.length_set,htkl] at this
    exact this
   show AWP Try.prog _ _ _ ⟨_,_,(O3.set bid .gone++[AObj.cells (blsC ids (f.blocks.take k)++blC tid b)]).set 4 (.cells [aI f.name,.os O3.length (k+1) 7])⟩
   generalize (O3.set bid .gone++[AObj.cells (blsC ids (f.blocks.take k)++blC tid b)]).set 4 (.cells [aI f.name,.os O3.length (k+1) 7])=O7 at *
   refine zh0 ?_
   repeat(refine⟨by omega,?_⟩)
   refine zl0 ?_
   refine⟨⟨⟨k+1,O3.length,ids++[tid],O7⟩,hlt,by rw [htk];exact hput⟩,by simp;omega,?_⟩
   refine zq rfl ?_ ?_
   simp -dsimp only [simprocAttr,↓vpre,zp,zc]
   ·exact Sub.int (by simp)
   rfl
  refine awp_exit ?_
  simp -dsimp only [vend,ne_eq,Nat.reduceEqDiff,reduceCtorEq]
  have hkN:k=N:=by
   have:=of_decide_eq_false h
   omega
  subst hkN
  rw [List.take_of_length_le (by omega)] at hS
  have hout:=hS.out
  have hr3:=hS.r3
  have hob:outBl bid f.blocks=.os bid f.blocks.length 7:=if_neg hne
  rw [hob] at hout
  have hbl:=lt_of_getElem? (hS.blk hne).2
  have hR:=hS.done hne (cs:=[aI f.name,.os bid f.blocks.length 7]) ⟨trivial,hbl,trivial⟩
  have h3l:=lt_of_getElem? hr3
  have hr3':(O.set 3 (.cells [aI f.name,.os bid f.blocks.length 7]))[3]?=some (.cells [aI f.name,.os bid f.blocks.length 7]):=List.getElem?_set_self h3l
  refine zg1 ?_
  simp -dsimp only [simprocAttr,↓vpre,zp,hout,hr3]
  refine za0 ?_
  refine awp_ret ?_
  simp -dsimp only [simprocAttr,↓vpre,zp,RetAll,Try.results39,retVals,retVal,mkRet,seqPost_ret,blockPost_ret,loopPost_ret,hr3']
  exact hR
 exact FSub.mp rfl rfl
end Go.Proofs.Ytlclgfgmhnmnaaa
namespace Go.Proofs.Ytlclgfgmhnmnaaa
open Go.Av Go.Sort
def lays189_ren:Go.Shelf.Ren:=⟨fun | 125=>87 | 128=>115 | 129=>116 | 189=>57 | 215=>123 | 216=>96 | 257=>86 | 294=>107 | 295=>108 | 296=>109 | 297=>110 | 298=>111 | 299=>112 | 300=>113 | 301=>114 | 328=>133 | 329=>134 | 330=>135 | 331=>136 | 332=>137 | 343=>145 | n=>n,fun | 0=>0 | 3=>3 | 4=>4 | 5=>5 | 9=>9 | 28=>45 | 46=>144 | 51=>186 | 53=>151 | 131=>115 | 182=>180 | 183=>181 | 218=>198 | 222=>202 | 228=>207 | 229=>208 | n=>n,fun n=>n⟩
theorem lays189:Go.Proofs.Lays.n189 Try.prog lays189_ren:={
 mixed:=by kernel_rfl,
 f125:=Try.func87.trans (congrArg some (by kernel_rfl)),
 f128:=Try.func115.trans (congrArg some (by kernel_rfl)),
 f129:=Try.func116.trans (congrArg some (by kernel_rfl)),
 f189:=Try.func57.trans (congrArg some (by kernel_rfl)),
 f215:=Try.func123.trans (congrArg some (by kernel_rfl)),
 f216:=Try.func96.trans (congrArg some (by kernel_rfl)),
 f257:=Try.func86.trans (congrArg some (by kernel_rfl)),
 f294:=Try.func107.trans (congrArg some (by kernel_rfl)),
 f295:=Try.func108.trans (congrArg some (by kernel_rfl)),
 f296:=Try.func109.trans (congrArg some (by kernel_rfl)),
 f297:=Try.func110.trans (congrArg some (by kernel_rfl)),
 f298:=Try.func111.trans (congrArg some (by kernel_rfl)),
 f299:=Try.func112.trans (congrArg some (by kernel_rfl)),
 f300:=Try.func113.trans (congrArg some (by kernel_rfl)),
 f301:=Try.func114.trans (congrArg some (by kernel_rfl)),
 f328:=Try.func133.trans (congrArg some (by kernel_rfl)),
 f329:=Try.func134.trans (congrArg some (by kernel_rfl)),
 f330:=Try.func135.trans (congrArg some (by kernel_rfl)),
 f331:=Try.func136.trans (congrArg some (by kernel_rfl)),
 f332:=Try.func137.trans (congrArg some (by kernel_rfl)),
 f343:=Try.func145.trans (congrArg some (by kernel_rfl)),
 t0:=Try.underlying0,
 a0:=Try.isAgg0,
 z0:=Try.sizeOf0,
 v0:=Try.zeroValue0,
 t3:=Try.underlying3,
 a3:=Try.isAgg3,
 z3:=Try.sizeOf3,
 v3:=Try.zeroValue3,
 t4:=Try.underlying4,
 a4:=Try.isAgg4,
 z4:=Try.sizeOf4,
 v4:=Try.zeroValue4,
 t5:=Try.underlying5,
 a5:=Try.isAgg5,
 z5:=Try.sizeOf5,
 v5:=Try.zeroValue5,
 t9:=Try.underlying9,
 a9:=Try.isAgg9,
 z9:=Try.sizeOf9,
 v9:=Try.zeroValue9,
 t28:=Try.underlying45,
 a28:=Try.isAgg45,
 z28:=Try.sizeOf45,
 v28:=Try.zeroValue45,
 t46:=Try.underlying144,
 a46:=Try.isAgg144,
 z46:=Try.sizeOf144,
 v46:=Try.zeroValue144,
 t51:=Try.underlying186,
 a51:=Try.isAgg186,
 z51:=Try.sizeOf186,
 v51:=Try.zeroValue186,
 t53:=Try.underlying151,
 a53:=Try.isAgg151,
 z53:=Try.sizeOf151,
 v53:=Try.zeroValue151,
 t131:=Try.underlying115,
 a131:=Try.isAgg115,
 z131:=Try.sizeOf115,
 v131:=Try.zeroValue115,
 t182:=Try.underlying180,
 a182:=Try.isAgg180,
 z182:=Try.sizeOf180,
 v182:=Try.zeroValue180,
 t183:=Try.underlying181,
 a183:=Try.isAgg181,
 z183:=Try.sizeOf181,
 v183:=Try.zeroValue181,
 t218:=Try.underlying198,
 a218:=Try.isAgg198,
 z218:=Try.sizeOf198,
 v218:=Try.zeroValue198,
 t222:=Try.underlying202,
 a222:=Try.isAgg202,
 z222:=Try.sizeOf202,
 v222:=Try.zeroValue202,
 t228:=Try.underlying207,
 a228:=Try.isAgg207,
 z228:=Try.sizeOf207,
 v228:=Try.zeroValue207,
 t229:=Try.underlying208,
 a229:=Try.isAgg208,
 z229:=Try.sizeOf208,
 v229:=Try.zeroValue208 }
theorem sort_calls:SortCalls Try.prog 57:=fun blk off cap zs w h1 h2 h3=>Any.slices_Sort_int lays189 blk off cap zs w h1 h2 h3
theorem sort_enters:Go.Av.Enters Try.prog 57:=⟨_,Try.func57,by kernel_rfl,by kernel_rfl⟩
theorem sort_spec{O:List AObj}{id:Nat}{zs:List Int}(ho:O[id]?=some (.cells (zs.map aI)))(hl:zs.length≤1000) :
  ECall Try.prog 57 O [.os id zs.length 1] (fun r O'=>r=.tup []∧O'=O.set id (.cells ((sortI zs).map aI))):=sort_bridge sort_enters sort_calls ho hl
theorem sort_nil_calls(p:Option Addr)(cap:Nat)(w:World):Calls Try.prog 57 #[.slice p 0 cap] w fun e w'=>e=.returned (.tuple #[])∧w'=w:=Any.slices_Sort_int_none lays189 p cap w
theorem sort_nil(O:List AObj):ECall Try.prog 57 O [.lst 1 [] .sh] (fun r O'=>r=.tup []∧O'=O):=by
 refine⟨sort_enters,fun g vs hg hgo hvs=>?_⟩
 obtain⟨h1,h2⟩:=hvs
 simp only [List.length_singleton] at h1
 have hv0:vs[0]?=some (vs[0]'(by omega)):=Array.getElem?_eq_getElem _
 have hr:=h2 0 _ _ rfl hv0
 have hv:∃p cap,vs = #[.slice p 0 cap]:=by
  have:∃p cap,vs[0]'(by omega)=.slice p 0 cap:=by
   generalize vs[0]'(by omega)=u at hr
   cases hr with
   | nil=>exact⟨_,_,rfl⟩
   | lst=>exact⟨_,_,rfl⟩
  obtain⟨p,cap,e⟩:=this
  refine⟨p,cap,?_⟩
  apply Array.ext
  ·simpa using h1
  intro i hi1 hi2
  have:i=0:=by omega
  subst this
  exact e
 obtain⟨p,cap,rfl⟩:=hv
 refine(sort_nil_calls p cap g.w).mono ?_
 rintro e w' ⟨rfl,rfl⟩
 exact⟨g,_,.tup [],rfl,rfl,Le.refl g,hg,.tup rfl (by simp),rfl,hgo⟩
end Go.Proofs.Ytlclgfgmhnmnaaa
namespace Go.Proofs.Ytlclgfgmhnmnaaa
open Go.Av


end Go.Proofs.Ytlclgfgmhnmnaaa
namespace Go.Av

end Go.Av
namespace Go.Proofs.Ytlclgfgmhnmnaaa
open Go.Av
def backRun{X:Type}(step:X→Nat→List Bool→X)(l:List Ins):Nat→X→List Bool→X
 | 0,x,s=>step x 0 s
 | n+1,x,s=>match l[n]? with
  | none=>x
  | some i=>backRun step l n (step x (n+1) s) (backI i s)




theorem hasI_iff{l:List Int}{n:Int}:hasI l n=true↔n∈l:=by
 unfold hasI
 rw [decide_eq_true_eq,List.findIdx_lt_length]
 simp

theorem backRun_ind{X:Type}{step:X→Nat→List Bool→X}{l:List Ins}{J:Nat→X→List Bool→Prop}(hs:∀n x s i,l[n]?=some i→J (n+1) x s→J n (step x (n+1) s) (backI i s)):∀n x s,n≤l.length→J n x s→∃x' s',J 0 x' s'∧backRun step l n x s=step x' 0 s'
 | 0,x,s,_,h=>⟨x,s,h,rfl⟩
 | n+1,x,s,hn,h=>by
  obtain⟨i,hi⟩:∃i,l[n]?=some i:=⟨l[n],List.getElem?_eq_getElem _⟩
  obtain⟨x',s',h1,h2⟩:=backRun_ind hs n _ _ (by omega) (hs n x s i hi h)
  refine⟨x',s',h1,?_⟩
  simp only [backRun,hi]
  exact h2
def setAt(f:Func)(S:List (List Bool))(k n:Nat):List Bool:=backM ((blkOf f k).ins.drop n) (S[k]?.getD [])
theorem setAt_step{f:Func}{S:List (List Bool)}{k n:Nat}{i:Ins}(h:(blkOf f k).ins[n]?=some i):setAt f S k n=backI i (setAt f S k (n+1)):=by
 unfold setAt
 rw [drop_at h]
 rfl
def twoIn(v w:Nat)(s:List Bool):Bool:=s[v]?.getD false&&s[w]?.getD false
def inStep(v w:Nat)(x:Bool)(_:Nat)(s:List Bool):Bool:=x || twoIn v w s
theorem inBlock{f:Func}{S:List (List Bool)}{k v w:Nat}{s0:List Bool}(hs0:S[k]?=some s0)(x0:Bool) :
  backRun (inStep v w) (blkOf f k).ins (blkOf f k).ins.length x0 s0=true↔x0=true∨∃n,n≤(blkOf f k).ins.length∧twoIn v w (setAt f S k n)=true:=by
 obtain⟨x',s',⟨j1,j2,j3⟩,he⟩:=backRun_ind (step:=inStep v w) (l:=(blkOf f k).ins) (J:=fun n x s=>s=setAt f S k n∧n≤(blkOf f k).ins.length∧(x=true↔x0=true∨∃m,n<m∧m≤(blkOf f k).ins.length∧twoIn v w (setAt f S k m)=true)) (fun n x s i hi ⟨j1,j2,j3⟩=>by
   subst j1
   refine⟨(setAt_step hi).symm,by omega,?_⟩
   rw [inStep,Bool.or_eq_true,j3]
   constructor
   ·rintro((q | ⟨m,q1,q2,q3⟩) | q)
    ·exact .inl q
    ·exact .inr ⟨m,by omega,q2,q3⟩
    exact .inr ⟨n+1,by omega,j2,q⟩
   rintro(q | ⟨m,q1,q2,q3⟩)
   ·exact .inl (.inl q)
   by_cases e:m=n+1
   ·subst e
    exact .inr q3
   exact .inl (.inr ⟨m,by omega,q2,q3⟩))
  (blkOf f k).ins.length x0 s0 (Nat.le_refl _) ⟨by simp [setAt,hs0,backM],Nat.le_refl _,⟨fun q=>.inl q,fun q=>by
   rcases q with q | ⟨m,q1,q2,_⟩
   ·exact q
   omega⟩⟩
 subst j1
 rw [he,inStep,Bool.or_eq_true,j3]
 constructor
 ·rintro((q | ⟨m,q1,q2,q3⟩) | q)
  ·exact .inl q
  ·exact .inr ⟨m,q2,q3⟩
  exact .inr ⟨0,by omega,q⟩
 rintro(q | ⟨m,q2,q3⟩)
 ·exact .inl (.inl q)
 by_cases e:m=0
 ·subst e
  exact .inr q3
 exact .inl (.inr ⟨m,by omega,q2,q3⟩)



end Go.Proofs.Ytlclgfgmhnmnaaa
