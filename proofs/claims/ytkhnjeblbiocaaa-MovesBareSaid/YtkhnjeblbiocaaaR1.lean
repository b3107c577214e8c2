/-
  Texts bound together by a program of mine: YtkhnjeblbiocaaaPum, YtkhnjeblbiocaaaPf, YtkhnjeblbiocaaaT48, YtkhnjeblbiocaaaPc, YtkhnjeblbiocaaaT41, YtkhnjeblbiocaaaPj, YtkhnjeblbiocaaaT43, YtkhnjeblbiocaaaPg, YtkhnjeblbiocaaaPk, YtkhnjeblbiocaaaPun, YtkhnjeblbiocaaaPuo, YtkhnjeblbiocaaaT44, YtkhnjeblbiocaaaT45, YtkhnjeblbiocaaaT46, YtkhnjeblbiocaaaT54, YtkhnjeblbiocaaaPl, YtkhnjeblbiocaaaPdb, YtkhnjeblbiocaaaPdc, YtkhnjeblbiocaaaPdd, YtkhnjeblbiocaaaPua, YtkhnjeblbiocaaaPub, YtkhnjeblbiocaaaPuq, YtkhnjeblbiocaaaPur, YtkhnjeblbiocaaaPux, YtkhnjeblbiocaaaPuy, YtkhnjeblbiocaaaPxa, YtkhnjeblbiocaaaPxb, YtkhnjeblbiocaaaPxg, YtkhnjeblbiocaaaPxh, YtkhnjeblbiocaaaT150, YtkhnjeblbiocaaaT151, YtkhnjeblbiocaaaT152, YtakdmelemfnmdaaAvv, YtkhnjeblbiocaaaT146, YtkhnjeblbiocaaaT147, YtkhnjeblbiocaaaT148, YtkhnjeblbiocaaaT153, YtkhnjeblbiocaaaT154, YtkhnjeblbiocaaaPxi, YtkhnjeblbiocaaaPy, YtkhnjeblbiocaaaPz, YtkhnjeblbiocaaaPwa, YtkhnjeblbiocaaaPus, YtkhnjeblbiocaaaPut, YtkhnjeblbiocaaaPuu, YtkhnjeblbiocaaaPuv, YtkhnjeblbiocaaaPwb, YtkhnjeblbiocaaaPva, YtkhnjeblbiocaaaPwd, YtkhnjeblbiocaaaPvb, YtkhnjeblbiocaaaPvc, YtkhnjeblbiocaaaPxj.
-/
import Derived.Test.YtkhnjeblbiocaaaJ4
import Derived.Sort.Grow
set_option linter.all false
set_option maxRecDepth 100000
set_option maxHeartbeats 4000000

namespace Go.Av
def CertE(P:Program)(o:Oper)(σ0:St)(R:AVal→List AObj→Prop):Prop :=
 ∀(base:G) (σ:St) (a:Act) (g:G),Rel base σ a g→σ.n=σ0.n→(∀x∈o.op.operands,∀y,σ0.ev x=some y→σ.ev x=some y)→σ.objs=σ0.objs →
  ∀(K:Act→World→Prop) (Q:Exit→Act→World→Prop),(∀r u g',R r g'.objs→Rel base ⟨σ.n,putO o.dst r σ.slots,g'.objs⟩ (a.put o.dst u) g'→K (a.put o.dst u) g'.w)→o.wp P a g.w K Q
theorem cert_ecallE{P:Program}{o:Oper}{σ:St}{x:Operand}{args:Array Operand}{ats:Array TypeId}{f:FuncId}{fs cs ars:List AVal}{R:AVal→List AObj→Prop}
  (ho:o.op=.call ⟨.value x,args,ats⟩) (hd:∀d,o.dst=some d→d<σ.n) (hx:σ.ev x=some (.fn (.func f) fs cs)) (ha:σ.evs args.toList=some ars)
  (hcall:ECall P f σ.objs (fs++ars++cs) R):CertE P o σ R:=by
 intro base τ a g hrel hn hag hm K Q hK
 have hxe:σ.ev x=some (.fn (.func f) fs cs):=hx
 have h1:=hrel.eval (hag x (by simp [ho,Op.operands,Call.operands]) _ hx)
 obtain⟨us,vs,e1,l1,l2,r1,r2⟩:=h1.fn_inv
 have h2:=evs_rel (σ:=σ) (a:=a) (g:=g) (xs:=args.toList) (fun z hz y hy=>hrel.eval (hag z (by
  rw [ho]
  simp only [Op.operands,Call.operands,Array.mem_append]
  exact .inr (Array.mem_toList_iff.1 hz)) y hy)) ha
 have h2':RVs g ars (args.map a.eval):=by
  have e:args.map a.eval=(args.toList.map a.eval).toArray:=Array.ext' (by rw [Array.toList_map])
  rw [e]
  exact h2
 have hall:=(RVs.append_arr (RVs.append_arr ⟨l1,r1⟩ h2') ⟨l2,r2⟩)
 have hrun:=run_callv (P:=P) (w:=g.w) ho e1 hcall.1
 unfold Oper.wp
 rw [hrun,Oper.upon_enter]
 refine(hcall.2 g _ hrel.good (hrel.objs.trans hm) hall).mono ?_
 rintro e w' ⟨g',v,r',q1,q2,q3,q4,q5,q6⟩
 subst q1
 subst q2
 refine hK r' v g' q6 ?_
 cases hdst:o.dst with
 | none=>exact hrel.step q3 q4
 | some d=>exact hrel.put q3 q4 (d:=d) (by rw [hn];exact hd d hdst) q5
theorem wpOps_chain_app{P:Program}{ops:Array Oper}{base:G}{ρ:St}{Q:Exit→Act→World→Prop}{rest:List Nat}(hQ:∀a g,Rel base ρ a g→wpOps P ops Q rest a g.w) :
  ∀(l:List (Nat×Kind)) (σ:St) (a:Act) (g:G),Chain P ops l σ ρ→Rel base σ a g→wpOps P ops Q (l.map (·.1)++rest) a g.w
 | [],σ,a,g,hch,hrel=>hQ a g (Same.rel hch hrel)
 | (i,k)::r,σ,a,g,hch,hrel=>by
  obtain⟨σ',⟨o,ho,hstep⟩,hrest⟩:=hch
  simp only [List.map_cons,List.cons_append,wpOps,ho]
  rcases hstep with⟨hw,r',m,hcert,hk,hσ⟩ | ⟨hw,_,hσ⟩
  ·rw [if_pos (wantedA_spec hrel hw)]
   refine .inl (hcert.2 base σ a g hrel rfl (fun x _ y hy=>hy) (Mode.agree_of (.inr rfl)) _ _ fun u g' hrel'=>?_)
   subst hσ
   exact wpOps_chain_app hQ r _ _ _ hrest hrel'
  rw [if_neg (by rw [wantedA_spec hrel hw];simp)]
  subst hσ
  refine wpOps_chain_app hQ r _ _ g hrest ?_
  cases hdst:o.dst with
  | none=>exact hrel
  | some d=>exact hrel.skip d
theorem idx_map(ks:List Kind)(s:Nat):(((ks.zipIdx 0).map fun p=>(p.2,p.1)).map fun p=>(s+p.1,p.2)).map (·.1)=(List.range ks.length).map (s + ·):=by
 apply List.ext_getElem?
 intro i
 simp only [List.getElem?_map,List.getElem?_zipIdx]
 by_cases h:i<ks.length
 ·simp [h]
 rw [List.getElem?_eq_none (by omega),List.getElem?_eq_none (by simp;omega)]
 rfl
theorem range_mid{n k:Nat}(h:k<n):List.range n=(List.range k).map (0 + ·)++(k::(List.range (n - (k+1))).map (k+1 + ·)):=by
 apply List.ext_getElem?
 intro i
 by_cases h1:i<k
 ·rw [List.getElem?_append_left (by simpa using h1)]
  simp [h1,show i<n by omega]
 rw [List.getElem?_append_right (by simp;omega)]
 simp only [List.length_map,List.length_range]
 by_cases h2:i=k
 ·subst h2
  simp [h]
 rw [show i - k=(i - k - 1)+1 by omega,List.getElem?_cons_succ,List.getElem?_map]
 by_cases h3:i<n
 ·rw [List.getElem?_range h3,List.getElem?_range (by omega),Option.map_some]
  congr 1
  omega
 rw [List.getElem?_eq_none (by simp;omega),List.getElem?_eq_none (by simp;omega)]
 rfl
theorem awp_call_ex{P:Program}{kb:Nat}{tab:Tab}(md:Md)(hT:TabOK P tab){id:Nat}{l l1 l2:List Oper}{o:Oper}{Q:AEx→St→Prop}{σ:St}(k:Nat)(h1:l.take k=l1)(h2:l[k]?=some o)(h3:l.drop (k+1)=l2)(hg:∀o∈l,o.guard=none)
  (h:vcOps P tab md l1 0 [] σ [] fun τ _=>∃R,CertE P o τ R∧∀r O',R r O'→vcOps P tab md l2 0 [] ⟨τ.n,putO o.dst r τ.slots,O'⟩ [] fun ρ _=>At ρ (Q .norm)):AWP P kb (.region id l.toArray false) Q σ:=by
 have hlt:=lt_of_getElem? h2
 obtain⟨τ,ks1,c1,n1,R,hc,h⟩:=vcOps_sound (all:=l1.toArray) hT l1 0 [] σ [] (fun j=>by simp) (fun j t hj=>by simp [slotAt] at hj) h
 intro base a g hb hr
 have hgo:o.guard=none:=hg o (List.mem_of_getElem? h2)
 have l1n:l1.length=k:=by rw [←h1,List.length_take];omega
 have l2n:l2.length=l.length - (k+1):=by rw [←h3,List.length_drop]
 have d1:=chain_shift (all:=l.toArray) (k:=0) (fun i o' hi=>by
  have hi':l1[i]?=some o':=by simpa using hi
  have:=lt_of_getElem? hi'
  rw [←h1,List.getElem?_take] at hi'
  split at hi'
  ·simpa using hi'
  cases hi') (by simpa using hg) c1
 refine wp_region ?_
 rw [show l.toArray.size=l.length from List.size_toArray,range_mid hlt]
 have e1:=idx_map ks1 0
 rw [n1,l1n] at e1
 rw [←e1]
 refine wpOps_chain_app (ρ:=τ) (fun a g hr=>?_) _ _ _ _ d1 hr
 have ho:l.toArray[k]?=some o:=by simpa using h2
 simp only [wpOps,ho]
 have hw:wantedA l.toArray o τ=some true:=by simp [wantedA,hgo]
 rw [if_pos (wantedA_spec hr hw)]
 refine .inl (hc base τ a g hr rfl (fun x _ y hy=>hy) rfl _ _ fun r u g' hR hrel'=>?_)
 obtain⟨ρ,ks2,c2,n2,hQ⟩:=vcOps_sound (all:=l2.toArray) hT l2 0 [] _ [] (fun j=>by simp) (fun j t hj=>by simp [slotAt] at hj) (h r g'.objs hR)
 have d2:=chain_shift (all:=l.toArray) (k:=k+1) (fun i o' hi=>by
  have hi':l2[i]?=some o':=by simpa using hi
  rw [←h3,List.getElem?_drop] at hi'
  simpa using hi') (by simpa using hg) c2
 have e2:=idx_map ks2 (k+1)
 rw [n2,l2n] at e2
 rw [←e2]
 have:=wpOps_chain_app (rest:=[]) (Q:=Post base Q) (P:=P) (ops:=l.toArray) (base:=base) (ρ:=ρ) (fun a g hr=>⟨g,ρ,rfl,hr,hQ⟩) _ _ _ _ d2 hrel'
 rw [List.append_nil] at this
 exact this
def RetAll(tab:Tab)(rv:List ResultVar)(R:AVal→List AObj→Prop):AEx→St→Prop
 | .exit _,_=>False
 | _,σ=>on (retVals tab σ rv) fun rs=>R (mkRet rs) σ.objs
theorem ecall_all{P:Program}{tab:Tab}(hT:TabOK P tab){f:FuncId}{fn:Func}{c:Code}{O:List AObj}{args:List AVal}{R:AVal→List AObj→Prop}(hf:P.funcs[f]?=some fn)(hb:fn.body=some c)
  (hname : (fn.name == "runtime.NumGoroutine") = false) (hn : args.length ≤ fn.ntmps) (h : AWP P O.length c (RetAll tab fn.results.toList R) ⟨fn.ntmps, slotsOf 0 args, O⟩) : ECall P f O args R := by
 refine⟨⟨fn,hf,hname,by simp [hb]⟩,fun g vs hg ho ha=>?_⟩
 refine calls_of_wp hf hb ?_
 have hrel:Rel g ⟨fn.ntmps,slotsOf 0 args,O⟩ { tmps:=vs++Array.replicate (fn.ntmps - vs.size) undef,defers:=[] } g:={
  le:=Le.refl g
  good:=hg
  objs:=ho
  size:=by
   have:=ha.1
   simp only [Array.size_append,Array.size_replicate]
   omega
  defers:=rfl
  slot:=fun s x hx=>by
   obtain⟨_,h1⟩:=look_slotsOf args 0 s x hx
   simp only [Nat.sub_zero] at h1
   have hlt:=lt_of_getElem? h1
   have hlt':s<vs.size:=by rw [ha.1];exact hlt
   refine⟨vs[s],?_,ha.2 s x _ h1 (by simp [hlt'])⟩
   simp only
   rw [Array.getElem?_append,if_pos hlt']
   simp [hlt'] }
 refine wp_mono (h g _ g (by rw [ho];exact Nat.le_refl _) hrel) fun e a w hp=>?_
 have key:∀g' σ',g'.w=w→Rel g σ' a g'→(on (retVals tab σ' fn.results.toList) fun rs=>R (Av.mkRet rs) σ'.objs) →
   a.defers=[]∧∃v,(results fn a.tmps).run P w=.ok v w∧∃g' v' r,Ending.returned v=.returned v'∧g'.w=w∧Le g g'∧Good g'∧RV g' r v'∧R r g'.objs:=by
  intro g' σ' hw hr hq
  subst hw
  obtain⟨rs,hrs,h4⟩:=on_elim hq
  obtain⟨us,q1,q2⟩:=retVals_spec hT hr hrs
  have hO:g'.objs=σ'.objs:=hr.objs
  refine⟨hr.defers,(if h:us.toArray.size=1 then us.toArray[0] else .tuple us.toArray),?_,g',_,_,rfl,rfl,hr.le,hr.good,RV.mkRet q2,by rw [hO];exact h4⟩
  have hm:fn.results.mapM (retSem a)=Functor.map List.toArray (fn.results.toList.mapM (retSem a)):=Array.mapM_eq_mapM_toList
  have hres:results fn a.tmps=(do
   let vs ←fn.results.mapM (retSem a)
   pure (if h:vs.size=1 then vs[0] else .tuple vs)):=rfl
  rw [hres,hm]
  simp only [Sem.run_bind,Sem.run_map,q1,Result.andThen_ok,Sem.run_pure]
 cases e with
 | normal =>
  obtain⟨g',σ',h1,h2,h3⟩:=hp
  exact key g' σ' h1 h2 h3
 | ret =>
  obtain⟨g',σ',h1,h2,h3⟩:=hp
  exact key g' σ' h1 h2 h3
 | exit id =>
  obtain⟨g',σ',h1,h2,h3⟩:=hp
  exact h3.elim
 | goto l=>exact hp.elim
 | panic c=>exact hp.elim
 | outgrown=>exact hp.elim
theorem awp_nil2{P:Program}{kb:Nat}{c:Code}{Q:AEx→St→Prop}{n:Nat}{slots:List (Nat×AVal)}{O:List AObj}(s:Nat){sz:Nat}{xs:List AVal}{o:Own}(hs:look slots s=some (.lst sz xs o))
  (h1:xs=[]→AWP P kb c Q ⟨n,putS s (.v (.slice none 0 0)) slots,O⟩) (h2:AWP P kb c Q ⟨n,putS s (.lst sz xs .nn) slots,O⟩):AWP P kb c Q ⟨n,slots,O⟩:=by
 intro base a g hb hr
 obtain⟨u,e1,e2⟩:=hr.slot s _ hs
 have key:∀y,RV g y u→Rel base ⟨n,putS s y slots,O⟩ a g:=fun y hy =>
  {le:=hr.le,good:=hr.good,objs:=hr.objs,size:=hr.size,defers:=hr.defers,slot:=fun k x hx=>by
    simp only [St.get,look_putS] at hx
    split at hx
    ·rename_i e
     subst e
     simp only [Option.some.injEq] at hx
     subst hx
     exact⟨u,e1,hy⟩
    exact hr.slot k x hx }
 cases e2 with
 | nil ho hn=>exact h1 rfl base a g hb (key _ (.v trivial))
 | lst hsz hsc hcap hmax hs f hm hr ho=>exact h2 base a g hb (key _ (.lst hsz hsc hcap hmax hs f hm hr trivial))
theorem awp_retell2{P:Program}{kb:Nat}{c:Code}{Q:AEx→St→Prop}{n:Nat}{slots:List (Nat×AVal)}{O:List AObj}(k:Nat){cs:List AVal}(ds:List AVal)(hok:O[k]?=some (.cells cs))(hl:ds.length=cs.length)(hsc:∀d∈ds,d.scalar)
  (hs:∀(j:Nat) (c d:AVal),cs[j]?=some c→ds[j]?=some d→Sub O c d) (h:AWP P kb c Q ⟨n,slots,O.set k (.cells ds)⟩):AWP P kb c Q ⟨n,slots,O⟩ :=
 AWP.weaken h fun base a g hb hr=>by
  have hO:g.objs=O:=hr.objs
  have hok':g.objs[k]?=some (.cells cs):=by rw [hO];exact hok
  obtain⟨l,arr,t,e1,e2,e3,e4,e5,e6⟩:=hr.good.cells k cs hok'
  have ht:Turns g k (.cells cs) (some l) (.cells ds) g.w:={
   obj:=hok'
   os:=rfl
   tape:=rfl
   output:=rfl
   size:=Nat.le_refl _
   block:=fun _ _ _=>rfl
   cell:=fun b off x hx _=>hx
   place:=fun l1 h1 _=>by
    simp only [Option.some.injEq] at h1
    subst h1
    exact .inr ⟨l,e1,trivial,rfl,Nat.le_refl _⟩
   spare:=fun m h=>by cases h
   plain:=fun _=>⟨by simp [AObj.isSpare],e1⟩
   gone:=by simp }
  have hle:=Le.turn hr.good ht
  have hgood:=Good.turn hr.good ht ⟨l,arr,t,rfl,e2,e3,by omega,fun j d u hd hu=>by
   have hlt:=lt_of_getElem? hd
   have hc:cs[j]?=some cs[j]:=List.getElem?_eq_getElem (by omega)
   exact(hs j _ d hc hd g u hO (e5 j _ u hc hu)).mono hle,hsc,e6.2⟩ (fun l1 h1 _=>by
    simp only [Option.some.injEq] at h1
    subst h1
    exact lt_of_getElem?' e3)
  refine⟨g.turn k (some l) (.cells ds) g.w,rfl,{ le:=hr.le.trans hle,good:=hgood,objs:=by simp [G.turn,hO],size:=hr.size,defers:=hr.defers,slot:=fun s y hy=>?_ }⟩
  have hy':(St.mk n slots O).get s=some y:=hy
  obtain⟨u,h3,h4⟩:=hr.slot s y hy'
  exact⟨u,h3,h4.mono hle⟩
theorem Sub.nil_lst{O:List AObj}(sz:Nat):Sub O (.v (.slice none 0 0)) (.lst sz [] .ex):=fun g u _ h=>by
 obtain⟨e,_⟩:=h.v_inv
 rw [e]
 exact .nil (fun id q=>by cases q) (by simp)
theorem awp_ownAll{P:Program}{kb:Nat}{c:Code}{Q:AEx→St→Prop}{n:Nat}{slots:List (Nat×AVal)}{O:List AObj}(k m:Nat)(hk:k<O.length)
  (h:AWP P kb c Q ⟨n,slots,(O++List.replicate m (AObj.spare 0)).set k (.cells ((List.range m).map fun j=>.lst 1 [] (.tok (O.length+j))))⟩):AWP P kb c Q ⟨n,slots,O.set k (.cells (List.replicate m (.lst 1 [] .ex)))⟩:=by
 obtain⟨conv,hconv⟩:∃conv:Nat→List AVal,conv=fun q=>((List.range q).map fun j=>AVal.lst 1 [] (.tok (O.length+j)))++List.replicate (m - q) (.lst 1 [] .ex):=⟨_,rfl⟩
 have key:∀q,q≤m→AWP P kb c Q ⟨n,slots,(O++List.replicate q (AObj.spare 0)).set k (.cells (conv q))⟩→AWP P kb c Q ⟨n,slots,O.set k (.cells (List.replicate m (.lst 1 [] .ex)))⟩:=fun q=>by
  induction q with
  | zero =>
   intro _ h
   simpa [hconv] using h
  | succ q ih =>
   intro hq h
   refine ih (by omega) (awp_ownCell k q (sz:=1) (cs:=conv q) (xs:=[]) ?_ ?_ ?_)
   ·rw [List.getElem?_set_self (by simp;omega)]
   ·rw [hconv]
    simp only
    rw [List.getElem?_append_right (by simp)]
    simp only [List.length_map,List.length_range,Nat.sub_self]
    rw [show m - q=(m - (q+1))+1 by omega,List.replicate_succ]
    rfl
   have e1:(O++List.replicate q (AObj.spare 0)).set k (.cells (conv q))++[AObj.spare ([]:List AVal).length]=(O++List.replicate (q+1) (AObj.spare 0)).set k (.cells (conv q)):=by
    rw [List.set_append_left _ _ hk,List.set_append_left _ _ hk,List.append_assoc]
    congr 1
    rw [List.replicate_succ']
    rfl
   have e2:(conv q).set q (.lst 1 [] (.tok ((O++List.replicate q (AObj.spare 0)).set k (.cells (conv q))).length))=conv (q+1):=by
    rw [hconv]
    simp only [List.length_set,List.length_append,List.length_replicate]
    rw [List.set_append_right _ _ (by simp)]
    simp only [List.length_map,List.length_range,Nat.sub_self]
    rw [show m - q=(m - (q+1))+1 by omega,List.replicate_succ,List.set_cons_zero,List.range_succ,List.map_append,List.append_assoc]
    rfl
   rw [e1,e2,List.set_set]
   exact h
 refine key m (Nat.le_refl _) ?_
 simpa [hconv] using h
end Go.Av
namespace Go.Proofs.Ytkhnjeblbiocaaa
open Go.Av
def outC(b:Nat)(ls:List (List Int)):List AVal:=ls.mapIdx fun j l=>.lst 1 (l.map aI) (.tok (b+j))
theorem outC_get{b:Nat}{ls:List (List Int)}{j:Nat}{l:List Int}(h:ls[j]?=some l):(outC b ls)[j]?=some (.lst 1 (l.map aI) (.tok (b+j))):=by
 simp [outC,h]
theorem outC_set{b:Nat}{ls:List (List Int)}{j:Nat}(l:List Int):(outC b ls).set j (.lst 1 (l.map aI) (.tok (b+j)))=outC b (ls.set j l):=by
 apply List.ext_getElem?
 intro i
 simp only [outC,List.getElem?_set,List.getElem?_mapIdx,List.length_mapIdx]
 by_cases e:j=i
 ·subst e
  by_cases hl:j<ls.length
  ·simp [hl]
  simp [hl]
 simp [e]
theorem outC_len(b:Nat)(ls:List (List Int)):(outC b ls).length=ls.length:=by simp [outC]
theorem outC_nil(b n:Nat):outC b (List.replicate n [])=(List.range n).map fun j=>.lst 1 [] (.tok (b+j)):=by
 apply List.ext_getElem?
 intro i
 simp only [outC,List.getElem?_mapIdx,List.getElem?_map]
 by_cases h:i<n
 ·simp [h]
 simp [h]
theorem outC_share(b:Nat)(ls:List (List Int)):(outC b ls).map AVal.shareCell=cellsAll (ls.map eIs):=by
 have h1:cellsAll (ls.map eIs)=ls.map eIs:=by
  induction ls with
  | nil=>rfl
  | cons l r ih =>
   simp only [List.map_cons,cellsAll,List.flatMap_cons] at ih ⊢
   rw [ih]
   rfl
 rw [h1]
 apply List.ext_getElem?
 intro i
 simp only [outC,List.getElem?_map,List.getElem?_mapIdx]
 cases ls[i]? with
 | none=>rfl
 | some l =>
  simp only [Option.map_some,Option.some.injEq]
  rw [shareCell_lst]
theorem outC_upto{b n:Nat}{ls:List (List Int)}(h:b+ls.length≤n):uptoL n (outC b ls):=by
 rw [uptoL_iff]
 intro x hx
 obtain⟨j,hj⟩:=List.mem_iff_getElem?.1 hx
 simp only [outC,List.getElem?_mapIdx] at hj
 cases hl:ls[j]? with
 | none=>rw [hl] at hj;cases hj
 | some l =>
  rw [hl] at hj
  simp only [Option.map_some,Option.some.injEq] at hj
  subst hj
  have:=lt_of_getElem? hl
  exact⟨aI_upto _ _,show _<_ by omega⟩
theorem splice_one{cs:List AVal}{j:Nat}(x:AVal)(h:j<cs.length):splice cs j [x]=cs.set j x:=by
 apply List.ext_getElem?
 intro i
 rw [splice_get (by simp;omega),List.getElem?_set]
 simp only [List.length_cons,List.length_nil,Nat.zero_add]
 by_cases e:j=i
 ·subst e
  simp [h]
 rw [if_neg (by omega),if_neg e]
structure PO(ls:List (List Int))(O:List AObj):Prop where
 len:O.length=ls.length+2
 arr:O[1]?=some (.cells (outC 2 ls))
 sp:∀j l,ls[j]?=some l→O[2+j]?=some (.spare l.length)
 up:∀o∈O,o.upto O.length
theorem PO.push{ls:List (List Int)}{O:List AObj}(h:PO ls O){j:Nat}{l:List Int}(hj:ls[j]?=some l)(k:Int):PO (ls.set j (l++[k])) ((O.set (2+j) (.spare (l.length+1))).set 1 (.cells (outC 2 (ls.set j (l++[k]))))):=by
 have hlt:=lt_of_getElem? hj
 have hl:=h.len
 refine⟨by simp [hl],?_,fun i m hi=>?_,?_⟩
 ·rw [List.getElem?_set_self (by simp;omega)]
 ·rw [List.getElem?_set_ne (by omega)]
  by_cases e:j=i
  ·subst e
   rw [List.getElem?_set_self hlt] at hi
   simp only [Option.some.injEq] at hi
   subst hi
   rw [List.getElem?_set_self (by omega)]
   simp
  rw [List.getElem?_set_ne e] at hi
  rw [List.getElem?_set_ne (by omega)]
  exact h.sp i m hi
 have h1:∀o∈O.set (2+j) (.spare (l.length+1)),o.upto O.length:=uptoO_set h.up trivial
 have h2:=uptoO_set (k:=1) (x:=.cells (outC 2 (ls.set j (l++[k])))) h1 (by
  show uptoL _ _
  exact outC_upto (by simp [hl];omega))
 simpa using h2
def predE(k:Nat)(ls:List (List Int))(e:Edge):List (List Int):=ls.set e.block.toNat ((ls[e.block.toNat]?.getD [])++[(k:Int)])
def predB(k:Nat)(ls:List (List Int))(es:List Edge):List (List Int):=es.foldl (predE k) ls
def predL:Nat→List (List Int)→List Block→List (List Int)
 | _,ls,[]=>ls
 | k,ls,b::r=>predL (k+1) (predB k ls b.term.to) r
def predsM(f:Func):List (List Int):=predL 0 (List.replicate f.blocks.length []) f.blocks
theorem predE_len(k:Nat)(ls:List (List Int))(e:Edge):(predE k ls e).length=ls.length:=by simp [predE]
theorem predB_len(k:Nat):∀(es:List Edge) (ls:List (List Int)),(predB k ls es).length=ls.length
 | [],_=>rfl
 | e::r,ls=>by
  show(predB k (predE k ls e) r).length=_
  rw [predB_len k r,predE_len]
theorem predL_len:∀(l:List Block) (k:Nat) (ls:List (List Int)),(predL k ls l).length=ls.length
 | [],_,_=>rfl
 | b::r,k,ls=>by
  simp only [predL]
  rw [predL_len r,predB_len]
theorem to_few{f:Func}{t:Term}(hend:EndW f t):t.to.length≤257:=by
 rcases (show(t.kind=0∨t.kind=4)∨t.kind=1∨t.kind=2∨t.kind=3 by have:=hend.kind;omega) with q | q | q | q
 ·rw [hend.to q];simp
 ·rw [hend.jump q];omega
 ·rw [hend.cond q];omega
 rw [hend.switch q];have:=hend.cases;omega
theorem preds_len(f:Func):(predsM f).length=f.blocks.length:=by simp [predsM,predL_len]
theorem nils_flat(n:Nat):(List.replicate n [AVal.lst 1 [] .ex]).flatten=List.replicate n (.lst 1 [] .ex):=by
 induction n with
 | zero=>rfl
 | succ n ih=>rw [List.replicate_succ,List.flatten_cons,ih,List.replicate_succ];rfl
def nextF(x v:Int):Int:=max x (v+1)
def blkVals(b:Block):List Int:=b.params++b.ins.map Ins.to
def valsF(f:Func):List Int:=f.blocks.flatMap blkVals
def freshM(f:Func):Int:=(valsF f).foldl nextF 0
theorem fresh1_spec{O:List AObj}(hup:∀o∈O,o.upto O.length){A:Nat}{x:Int}(hA:O[A]?=some (.cells [aI x]))(v:Int)(hv:0≤v∧v≤2 ^ 60) :
  ECall Try.prog 38 O [aI v,.mp A 0] (fun r O'=>r=.tup []∧O'=O.set A (.cells [aI (nextF x v)])):=by
 have hAl:=lt_of_getElem? hA
 have htk:(O.set A (.cells [aI (nextF x v)])).take O.length=O.set A (.cells [aI (nextF x v)]):=take_set_len
 have hu2:∀o∈O.set A (.cells [aI (nextF x v)]),o.upto O.length:=uptoO_set hup ⟨trivial,trivial⟩
 unfold nextF at *
 refine zf true O.length Try.func38 Try.ntmps38 ?_
 dsimp only [Tmp,TypeId,slotsOf]
 refine zg0 ?_
 simp -dsimp only [simprocAttr,↓vpre,zp,hA]
 repeat(refine⟨by omega,?_⟩)
 refine at_intro ?_
 simp -dsimp only [simprocAttr,↓vpre,zp,zr,Try.results38,htk,List.length_set]
 exact⟨hu2,trivial⟩
def ValsW(f:Func):Prop:=∀v∈valsF f,0≤v∧v≤4095
theorem nextF_le{x v:Int}(hx:x≤4096)(hv:v≤4095):nextF x v≤4096:=by
 unfold nextF
 omega
theorem foldNext_le:∀(l:List Int) (x:Int),x≤4096→(∀v∈l,v≤4095)→l.foldl nextF x≤4096
 | [],_,hx,_=>hx
 | v::r,x,hx,h=>foldNext_le r _ (nextF_le hx (h v (by simp))) (fun w hw=>h w (by simp [hw]))
theorem foldNext_ge:∀(l:List Int) (x:Int),x≤l.foldl nextF x∧∀v∈l,v<l.foldl nextF x
 | [],_=>⟨Int.le_refl _,by simp⟩
 | v::r,x=>by
  have ih:=foldNext_ge r (nextF x v)
  have:x≤nextF x v∧v<nextF x v:=by unfold nextF;omega
  simp only [List.foldl_cons]
  refine⟨by omega,fun w hw=>?_⟩
  rcases List.mem_cons.1 hw with q | q
  ·subst q
   omega
  exact ih.2 w q
theorem values_spec{O:List AObj}(hup:∀o∈O,o.upto O.length){A:Nat}(f:Func)(hf:ValsW f)(hbl:f.blocks.length≤2 ^ 47)(hbp:∀b∈f.blocks,b.params.length≤2 ^ 47∧b.ins.length≤2 ^ 47)(hA:O[A]?=some (.cells [aI 0])) :
  ECall Try.prog 37 O [f.enc,.fn (.func 38) [] [.mp A 0]] (fun r O'=>r=.tup []∧O'=O.set A (.cells [aI (freshM f)])):=by
 have hAl:=lt_of_getElem? hA
 obtain⟨R,hR⟩:∃R,R=freshM f:=⟨_,rfl⟩
 rw [←hR]
 unfold freshM valsF at hR
 have hgt:∀x,(O.set A x)[A]?=some x:=fun x=>List.getElem?_set_self hAl
 have hup2:∀x:Int,∀o∈O.set A (.cells [aI x]),o.upto (O.set A (.cells [aI x])).length:=fun x=>by
  rw [List.length_set]
  exact uptoO_set hup ⟨trivial,trivial⟩
 have hlen:∀x,(O.set A x).length=O.length:=fun x=>List.length_set
 have hsame:O.set A (.cells [aI 0])=O:=set_same hA
 have htk:∀x:Int,(O.set A (.cells [aI x])).take O.length=O.set A (.cells [aI x]):=fun x=>take_set_len
 have hst:∀x y,(O.set A x).set A y=O.set A y:=fun x y=>List.set_set ..
 refine zf true O.length Try.func37 Try.ntmps37 ?_
 dsimp only [Tmp,TypeId,slotsOf]
 refine zh1 (za0 ?_)
 refine awp_local 2 ([aI f.name,eBlocks f.blocks]) [(1,.fn (.func 38) [] [.mp A 0]),(2,.ip none [aI f.name,eBlocks f.blocks])] rfl (by rfl) (by omega) (by simp [putS,dropS,Go.Av.look]) ?_ ?_ ?_
 ·exact hup
 ·simp [AVal.upto,uptoL,aI_upto,Block.map_upto,hAl]
 refine zh1 (za0 ?_)
 refine awp_block (awp_loop (ι:={x:Nat×Int // x.1≤f.blocks.length∧R=((f.blocks.drop x.1).flatMap blkVals).foldl nextF x.2∧x.2≤4096}) (fun x=>⟨41,[(1,.fn (.func 38) [] [.mp A 0]),(11,eBlocks f.blocks),(12,aI f.blocks.length),(13,aI x.1.1)],O.set A (.cells [aI x.1.2])⟩) (fun x=>f.blocks.length - x.1.1) ⟨(0,0),by simp,hR,by simp⟩ ?_ ?_)
 ·refine zq rfl ?_ ?_
  simp -dsimp only [simprocAttr,↓vpre,zp,zc]
  exact hsame.symm
 rintro⟨⟨k,x⟩,hk,hke,hx⟩
 simp only at hk hke hx
 refine zh1 (za0 ?_)
 apply zk1 rfl<;>intro h
 ·refine zb0 ?_
  have hlt:k<f.blocks.length:=by simpa using h
  obtain⟨b,hb⟩:∃b,f.blocks[k]?=some b:=⟨f.blocks[k],by simp [hlt]⟩
  have hbm:=List.mem_of_getElem? hb
  have hbv:∀v∈blkVals b,0≤v∧v≤4095:=fun v hv=>hf v (List.mem_flatMap.2 ⟨b,hbm,hv⟩)
  rw [drop_at hb] at hke
  rw [List.flatMap_cons,List.foldl_append,blkVals,List.foldl_append] at hke
  have hbp:=hbp b hbm
  have hlx:=hlen (.cells [aI x])
  refine awp_seq (awp_block ?_)
  refine zg1 ?_
  simp -dsimp only [simprocAttr,↓vpre,zp,hb]
  refine za0 ?_
  refine awp_local 5 ([eIs b.params,eInss b.ins,aI b.term.kind,aI b.term.arg,aI b.term.n,eIs b.term.cases,eEdges b.term.to]) [(1,.fn (.func 38) [] [.mp A 0]),(5,.ip none [eIs b.params,eInss b.ins,aI b.term.kind,aI b.term.arg,aI b.term.n,eIs b.term.cases,eEdges b.term.to]),(11,eBlocks f.blocks),(12,aI f.blocks.length),(13,aI k)] rfl (by rfl) (by omega) (by simp [putS,dropS,Go.Av.look]) ?_ ?_ ?_
  ·exact hup2 x
  ·simp [AVal.upto,uptoL,aI_upto,Block.map_upto,Edge.map_upto,Ins.map_upto,hAl]
  refine zh2 (za0 ?_)
  refine awp_block (awp_loop (ι:={y:Nat×Int // y.1≤b.params.length∧R=((f.blocks.drop (k+1)).flatMap blkVals).foldl nextF ((b.ins.map Ins.to).foldl nextF ((b.params.drop y.1).foldl nextF y.2))∧y.2≤4096}) (fun y=>⟨41,[(1,.fn (.func 38) [] [.mp A 0]),(5,.ip none [eIs b.params,eInss b.ins,aI b.term.kind,aI b.term.arg,aI b.term.n,eIs b.term.cases,eEdges b.term.to]),(11,eBlocks f.blocks),(12,aI f.blocks.length),(13,aI k),(18,eIs b.params),(19,aI b.params.length),(20,aI y.1.1)],O.set A (.cells [aI y.1.2])⟩) (fun y=>b.params.length - y.1.1) ⟨(0,x),by simp,hke,hx⟩ ?_ ?_)
  ·refine zq rfl ?_ ?_
   simp -dsimp only [simprocAttr,↓vpre,zp,zc]
   rfl
  rintro⟨⟨j,y⟩,hj,hje,hy⟩
  simp only at hj hje hy
  refine zh1 (za0 ?_)
  apply zk1 rfl<;>intro h
  ·refine zb0 ?_
   have hltj:j<b.params.length:=by simpa using h
   obtain⟨v,hv⟩:∃v,b.params[j]?=some v:=⟨b.params[j],by simp [hltj]⟩
   rw [drop_at hv,List.foldl_cons] at hje
   have hvr:=hbv v (by simp [blkVals,List.mem_of_getElem? hv])
   have hfr:=fresh1_spec (hup2 y) (hgt _) v ⟨hvr.1,by omega⟩
   rw [hst] at hfr
   refine awp_seq (awp_block ?_)
   refine zg1 ?_
   simp -dsimp only [simprocAttr,↓vpre,zp,hv]
   refine za0 ?_
   refine zh0 ?_
   refine .inr (.inl ⟨_,_,hfr,.inl (later_intro (zj ?_))⟩)
   refine za0 ?_
   refine zh0 ?_
   repeat(refine⟨by omega,?_⟩)
   refine zl0 ?_
   refine⟨⟨(j+1,nextF y v),hltj,hje,nextF_le hy hvr.2⟩,by simp;omega,?_⟩
   refine zq rfl ?_ ?_
   simp -dsimp only [simprocAttr,↓vpre,zp,zc]
   ·exact Sub.int (by simp)
   rfl
  refine awp_exit ?_
  simp -dsimp only [vend,ne_eq,Nat.reduceEqDiff,reduceCtorEq]
  have hjj:j=b.params.length:=by simp at h;omega
  subst hjj
  rw [List.drop_length,List.foldl_nil] at hje
  refine zh1 (za0 ?_)
  refine awp_block (awp_loop (ι:={z:Nat×Int // z.1≤b.ins.length∧R=((f.blocks.drop (k+1)).flatMap blkVals).foldl nextF (((b.ins.drop z.1).map Ins.to).foldl nextF z.2)∧z.2≤4096}) (fun z=>⟨41,[(1,.fn (.func 38) [] [.mp A 0]),(11,eBlocks f.blocks),(12,aI f.blocks.length),(13,aI k),(29,eInss b.ins),(30,aI b.ins.length),(31,aI z.1.1)],O.set A (.cells [aI z.1.2])⟩) (fun z=>b.ins.length - z.1.1) ⟨(0,y),by simp,hje,hy⟩ ?_ ?_)
  ·refine zq rfl ?_ ?_
   simp -dsimp only [simprocAttr,↓vpre,zp,zc]
   rfl
  rintro⟨⟨q,z⟩,hq,hqe,hz⟩
  simp only at hq hqe hz
  refine zh1 (za0 ?_)
  apply zk1 rfl<;>intro h
  ·refine zb0 ?_
   have hltq:q<b.ins.length:=by simpa using h
   obtain⟨i,hi⟩:∃i,b.ins[q]?=some i:=⟨b.ins[q],by simp [hltq]⟩
   rw [drop_at hi,List.map_cons,List.foldl_cons] at hqe
   have hvr:=hbv i.to (by simp only [blkVals,List.mem_append,List.mem_map];exact .inr ⟨i,List.mem_of_getElem? hi,rfl⟩)
   have hfr:=fresh1_spec (hup2 z) (hgt _) i.to ⟨hvr.1,by omega⟩
   rw [hst] at hfr
   have hlx:=hlen (.cells [aI z])
   refine awp_seq (awp_block ?_)
   refine zg1 ?_
   simp -dsimp only [simprocAttr,↓vpre,zp,hi]
   refine za0 ?_
   refine awp_local 9 ([aI i.to,aI i.op,aI i.n,eIs i.args]) [(1,.fn (.func 38) [] [.mp A 0]),(9,.ip none [aI i.to,aI i.op,aI i.n,eIs i.args]),(11,eBlocks f.blocks),(12,aI f.blocks.length),(13,aI k),(29,eInss b.ins),(30,aI b.ins.length),(31,aI q)] rfl (by rfl) (by omega) (by simp [putS,dropS,Go.Av.look]) ?_ ?_ ?_
   ·exact hup2 z
   ·simp [AVal.upto,uptoL,aI_upto,Block.map_upto,Edge.map_upto,Ins.map_upto,hAl]
   refine zh0 ?_
   refine .inr (.inl ⟨_,_,hfr,.inl (later_intro (zj ?_))⟩)
   refine za0 ?_
   refine zh0 ?_
   repeat(refine⟨by omega,?_⟩)
   refine zl0 ?_
   refine⟨⟨(q+1,nextF z i.to),hltq,hqe,nextF_le hz hvr.2⟩,by simp;omega,?_⟩
   refine zq rfl ?_ ?_
   simp -dsimp only [simprocAttr,↓vpre,zp,zc]
   ·exact Sub.int (by simp)
   rfl
  refine awp_exit ?_
  simp -dsimp only [vend,ne_eq,Nat.reduceEqDiff,reduceCtorEq]
  have hqq:q=b.ins.length:=by simp at h;omega
  subst hqq
  rw [List.drop_length,List.map_nil,List.foldl_nil] at hqe
  refine zh0 ?_
  repeat(refine⟨by omega,?_⟩)
  refine zl0 ?_
  refine⟨⟨(k+1,z),hlt,hqe,hz⟩,by simp;omega,?_⟩
  refine zq rfl ?_ ?_
  simp -dsimp only [simprocAttr,↓vpre,zp,zc]
  ·exact Sub.int (by simp)
  rfl
 refine awp_exit ?_
 simp -dsimp only [vend,ne_eq,Nat.reduceEqDiff,reduceCtorEq]
 have hkk:k=f.blocks.length:=by simp at h;omega
 subst hkk
 rw [List.drop_length,List.flatMap_nil,List.foldl_nil] at hke
 subst hke
 skip
 simp -dsimp only [simprocAttr,↓vpre,zp,zr,Try.results37,htk,List.length_set]
 have:=hup2 R
 rw [hlen] at this
 exact⟨this,trivial⟩
theorem fresh_spec(f:Func)(hf:ValsW f)(hbl:f.blocks.length≤2 ^ 47)(hbp:∀b∈f.blocks,b.params.length≤2 ^ 47∧b.ins.length≤2 ^ 47):PCall Try.prog 17 [f.enc] (aI (freshM f)):=by
 have hvs:=values_spec (O:=[.gone,.cells [aI 0]]) (A:=1) (by simp [AObj.upto,uptoL,AVal.upto]) f hf hbl hbp rfl
 refine zf true 0 Try.func17 Try.ntmps17 ?_
 dsimp only [Tmp,TypeId,slotsOf]
 refine zh1 (za0 ?_)
 refine awp_freeze1 1 0 (.ip none [aI f.name,eBlocks f.blocks]) rfl (by simp [AObj.isSpare]) trivial rfl ?_ ?_
 rotate_left
 simp -dsimp only [simprocAttr,↓vpre,zp]
 ·refine zh1 (za0 ?_)
  refine zh1 ?_
  refine .inr (.inl ⟨_,_,hvs,.inl (later_intro (zj ?_))⟩)
  refine za0 ?_
  refine zh1 (za0 ?_)
  refine awp_ret ?_
  simp -dsimp only [simprocAttr,↓vpre,zp,zr,Try.results17]
 exact FSub.mp rfl rfl
def parDefs(k:Int)(l:List Int):Defs:=l.map fun p=>(p,(k,0))
def insDefs(k:Int):Int→List Ins→Defs
 | _,[]=>[]
 | n,i::r=>(i.to,(k,n+1))::insDefs k (n+1) r
def blkDefs(k:Int)(b:Block):Defs:=parDefs k b.params++insDefs k 0 b.ins
def allDefs:Int→List Block→Defs
 | _,[]=>[]
 | k,b::r=>blkDefs k b++allDefs (k+1) r
theorem defineM_eq{ds:Defs}{v:Int}{p:Int×Int}(h:(defineM ds v p).1=0):(defineM ds v p).2=ds++[(v,p)]:=by
 unfold defineM at h ⊢
 split at h
 ·simp at h
 rename_i h1
 rw [if_neg h1]
 split at h
 ·simp at h
 rename_i h2
 rw [if_neg h2]
theorem paramsM_eq(k:Int):∀(l:List Int) (ds:Defs),(paramsM k ds l).1=0→(paramsM k ds l).2=ds++parDefs k l
 | [],ds,_=>by simp [paramsM,parDefs]
 | p::r,ds,h=>by
  simp only [paramsM] at h ⊢
  split at h
  ·rename_i hne
   exact absurd h hne
  rename_i he
  rw [if_neg he,paramsM_eq k r _ h,defineM_eq (by simpa using he)]
  simp [parDefs]
theorem insM_eq(k:Int):∀(l:List Ins) (n:Int) (ds:Defs),(insM k n ds l).1=0→(insM k n ds l).2=ds++insDefs k n l
 | [],n,ds,_=>by simp [insM,insDefs]
 | i::r,n,ds,h=>by
  simp only [insM] at h ⊢
  split at h
  ·rename_i hne
   exact absurd h hne
  rename_i he
  split at h
  ·rename_i hf
   exact absurd h hf
  rename_i hf
  rw [if_neg he,if_neg hf,insM_eq k r _ _ h,defineM_eq (by simpa using he)]
  simp [insDefs]
theorem blockM_eq{f:Func}{ds:Defs}{k:Int}(h:(blockM f ds k).1=0):(blockM f ds k).2=ds++blkDefs k (blkOf f k):=by
 unfold blockM at h ⊢
 split at h
 ·rename_i hne
  exact absurd h hne
 rename_i hp
 split at h
 ·rename_i hne
  exact absurd h hne
 rename_i hi
 rw [if_neg hp,if_neg hi]
 simp only
 rw [insM_eq k _ _ _ (by simpa using hi),paramsM_eq k _ _ (by simpa using hp),blkDefs,List.append_assoc]
theorem blocksM_eq{f:Func}:∀(n k:Nat) (ds:Defs),k+n=f.blocks.length→(blocksM f n k ds).1=0→(blocksM f n k ds).2=ds++allDefs k (f.blocks.drop k)
 | 0,k,ds,hk,_=>by
  rw [List.drop_of_length_le (by omega)]
  simp [blocksM,allDefs]
 | n+1,k,ds,hk,h=>by
  simp only [blocksM] at h ⊢
  split at h
  ·rename_i hne
   exact absurd h hne
  rename_i he
  rw [if_neg he]
  have hb:f.blocks[k]?=some f.blocks[k]:=List.getElem?_eq_getElem (by omega)
  have ih:=blocksM_eq n (k+1) (blockM f ds k).2 (by omega) h
  have e:((k+1:Nat):Int)=(k:Int)+1:=by omega
  rw [e] at ih
  rw [ih,blockM_eq (by simpa using he),drop_at hb,allDefs,List.append_assoc]
  congr 3
  simp [blkOf,hb]
def dsF(f:Func):Defs:=allDefs 0 f.blocks
theorem FnW.ds{f:Func}(hfit:f.fit)(h:checkFuncM f=0):(blocksM f f.blocks.length 0 []).2=dsF f∧DefsW f.blocks.length (dsF f):=by
 have he:(blocksM f f.blocks.length 0 []).1=0:=by
  unfold checkFuncM at h
  split at h
  ·simp at h
  split at h
  ·simp at h
  split at h
  ·simp at h
  split at h
  ·rename_i h4
   exact absurd h h4
  rename_i h4
  simpa using h4
 have e:=blocksM_eq f.blocks.length 0 [] (by omega) he
 rw [List.drop_zero,List.nil_append] at e
 have hw:=(blocksM_ok f.blocks.length 0 [] (.nil _) (by omega) (by simp) he).1
 have e':(blocksM f f.blocks.length 0 []).2=dsF f:=e
 rw [e'] at hw
 exact⟨e',hw⟩
theorem lookD_mem{ds:Defs}(hn:(ds.map (·.1)).Nodup){v:Int}{p:Int×Int}:lookD ds v=some p↔(v,p)∈ds:=by
 induction ds with
 | nil=>simp [lookD]
 | cons e r ih =>
  obtain⟨a,q⟩:=e
  simp only [List.map_cons,List.nodup_cons,List.mem_map,not_exists,not_and] at hn
  have ih:=ih hn.2
  simp only [lookD,List.mem_cons,Prod.mk.injEq]
  by_cases h:a=v
  ·subst h
   rw [if_pos rfl]
   constructor
   ·intro h
    simp only [Option.some.injEq] at h
    exact .inl ⟨rfl,h.symm⟩
   rintro(⟨_,h⟩ | h)
   ·rw [h]
   exact absurd rfl (hn.1 _ h)
  rw [if_neg h,ih]
  constructor
  ·exact .inr
  rintro(⟨h1,_⟩ | h1)
  ·exact absurd h1.symm h
  exact h1
theorem mem_insDefs{k:Int}{v:Int}{p:Int×Int}:∀(l:List Ins) (n:Int),(v,p)∈insDefs k n l↔∃(j:Nat) (i:Ins),l[j]?=some i∧i.to=v∧p=(k,n+j+1)
 | [],n=>by simp [insDefs]
 | i::r,n=>by
  simp only [insDefs,List.mem_cons,Prod.mk.injEq]
  rw [mem_insDefs r (n+1)]
  constructor
  ·rintro(⟨h1,h2⟩ | ⟨j,x,h1,h2,h3⟩)
   ·exact⟨0,i,rfl,h1.symm,by simpa using h2⟩
   exact⟨j+1,x,h1,h2,by rw [h3];congr 1;omega⟩
  rintro⟨j,x,h1,h2,h3⟩
  cases j with
  | zero =>
   simp only [List.getElem?_cons_zero,Option.some.injEq] at h1
   subst h1
   exact .inl ⟨h2.symm,by simpa using h3⟩
  | succ j=>exact .inr ⟨j,x,h1,h2,by rw [h3];congr 1;omega⟩
theorem mem_allDefs{v:Int}{p:Int×Int}:∀(l:List Block) (k:Int),(v,p)∈allDefs k l↔∃(j:Nat) (b:Block),l[j]?=some b∧(v,p)∈blkDefs (k+j) b
 | [],k=>by simp [allDefs]
 | b::r,k=>by
  rw [allDefs,List.mem_append,mem_allDefs r (k+1)]
  constructor
  ·rintro(h | ⟨j,x,h1,h2⟩)
   ·exact⟨0,b,rfl,by simpa using h⟩
   exact⟨j+1,x,h1,by rw [show k+((j+1:Nat):Int)=k+1+j by omega];exact h2⟩
  rintro⟨j,x,h1,h2⟩
  cases j with
  | zero =>
   simp only [List.getElem?_cons_zero,Option.some.injEq] at h1
   subst h1
   exact .inl (by simpa using h2)
  | succ j=>exact .inr ⟨j,x,h1,by rw [show k+((j+1:Nat):Int)=k+1+j by omega] at h2;exact h2⟩
def DefAt(f:Func)(v:Int)(p:Int×Int):Prop:=∃(k:Nat) (b:Block),f.blocks[k]?=some b∧p.1=k∧((p.2=0∧v∈b.params)∨∃(j:Nat) (i:Ins),b.ins[j]?=some i∧i.to=v∧p.2=j+1)
theorem mem_dsF{f:Func}{v:Int}{p:Int×Int}:(v,p)∈dsF f↔DefAt f v p:=by
 obtain⟨p1,p2⟩:=p
 rw [dsF,mem_allDefs]
 constructor
 ·rintro⟨k,b,h1,h2⟩
  rw [blkDefs,List.mem_append] at h2
  rcases h2 with h2 | h2
  ·simp only [parDefs,List.mem_map,Prod.mk.injEq] at h2
   obtain⟨x,h3,h4,h5,h6⟩:=h2
   subst h4
   exact⟨k,b,h1,by simp only;omega,.inl ⟨h6.symm,h3⟩⟩
  obtain⟨j,i,h3,h4,h5⟩:=(mem_insDefs _ _).1 h2
  simp only [Prod.mk.injEq] at h5
  exact⟨k,b,h1,by simp only;omega,.inr ⟨j,i,h3,h4,by simp only;omega⟩⟩
 rintro⟨k,b,h1,h2,h3⟩
 simp only at h2 h3
 subst h2
 refine⟨k,b,h1,?_⟩
 rw [blkDefs,List.mem_append]
 rcases h3 with⟨h3,h4⟩ | ⟨j,i,h3,h4,h5⟩
 ·subst h3
  exact .inl (by simpa [parDefs] using h4)
 exact .inr ((mem_insDefs _ _).2 ⟨j,i,h3,h4,by subst h5;simp⟩)
theorem insDefs_fst(k:Int):∀(l:List Ins) (n:Int),(insDefs k n l).map (·.1)=l.map Ins.to
 | [],_=>rfl
 | i::r,n=>by rw [insDefs,List.map_cons,insDefs_fst k r,List.map_cons]
theorem allDefs_fst:∀(l:List Block) (k:Int),(allDefs k l).map (·.1)=l.flatMap blkVals
 | [],_=>rfl
 | b::r,k=>by
  rw [allDefs,List.map_append,allDefs_fst r,List.flatMap_cons,blkDefs,List.map_append,insDefs_fst,blkVals,parDefs,List.map_map]
  congr 2
  exact List.map_id' _
theorem dsF_fst(f:Func):(dsF f).map (·.1)=valsF f:=allDefs_fst _ _
theorem domE_again{k:Nat}{S:Ds}{e:Edge}(h:(domE k S e).again=false):domE k S e=S∧((S.at_ e.block.toNat).meet (S.at_ k)).add e.block.toNat=S.at_ e.block.toNat∧S.seen.has e.block.toNat=true:=by
 unfold domE at h ⊢
 simp only at h ⊢
 split at h
 ·cases h
 rename_i hc
 rw [if_neg hc]
 simp only [ne_eq,not_or,Decidable.not_not,Bool.not_eq_false] at hc
 exact⟨rfl,hc⟩
theorem domF_again{k:Nat}:∀(l:List Edge) {S:Ds},(l.foldl (domE k) S).again=false→l.foldl (domE k) S=S∧∀e∈l,((S.at_ e.block.toNat).meet (S.at_ k)).add e.block.toNat=S.at_ e.block.toNat∧S.seen.has e.block.toNat=true
 | [],S,_=>⟨rfl,by simp⟩
 | e::r,S,h=>by
  rw [List.foldl_cons] at h
  have ih:=domF_again r h
  rw [ih.1] at h
  have h1:=domE_again h
  rw [List.foldl_cons,ih.1,h1.1]
  rw [h1.1] at ih
  refine⟨rfl,fun x hx=>?_⟩
  rcases List.mem_cons.1 hx with q | q
  ·subst q
   exact h1.2
  exact ih.2 x q
theorem domR_again:∀(l:List Block) (k:Nat) {S:Ds},(domR k S l).again=false→domR k S l=S∧∀(j:Nat) b,l[j]?=some b→S.seen.has (k+j)=true→∀e∈b.term.to,((S.at_ e.block.toNat).meet (S.at_ (k+j))).add e.block.toNat=S.at_ e.block.toNat∧S.seen.has e.block.toNat=true
 | [],k,S,_=>⟨rfl,fun j b h=>by simp at h⟩
 | b::r,k,S,h=>by
  rw [domR] at h
  have ih:=domR_again r (k+1) h
  rw [ih.1] at h
  have h1:domB k S b=S∧(S.seen.has k=true→∀e∈b.term.to,((S.at_ e.block.toNat).meet (S.at_ k)).add e.block.toNat=S.at_ e.block.toNat∧S.seen.has e.block.toNat=true):=by
   unfold domB at h ⊢
   split
   ·rename_i hs
    exact⟨rfl,fun q=>by rw [hs] at q;cases q⟩
   rename_i hs
   rw [if_neg hs] at h
   have:=domF_again _ h
   exact⟨this.1,fun _=>this.2⟩
  rw [domR,ih.1,h1.1]
  rw [h1.1] at ih
  refine⟨rfl,fun j x hj hs=>?_⟩
  cases j with
  | zero =>
   simp only [List.getElem?_cons_zero,Option.some.injEq] at hj
   subst hj
   exact h1.2 hs
  | succ j =>
   rw [show k+(j+1)=k+1+j by omega] at hs ⊢
   exact ih.2 j x hj hs
theorem domI_ends{f:Func}(he:∀b∈f.blocks,∀e∈b.term.to,0≤e.block∧e.block.toNat<f.blocks.length):∀(n:Nat) {S:Ds},DsOK f.blocks.length S→(S.again=true→S.weight<n)→(domI f n S).again=false
 | 0,S,_,h=>by
  cases hs:S.again with
  | false=>exact hs
  | true=>exact absurd (h hs) (by omega)
 | n+1,S,hS,h=>by
  simp only [domI]
  split
  ·rename_i ha
   have hw:=h ha
   have hr:=domR_ok f.blocks (k:=0) (S:=⟨S.over,S.seen,false⟩) ⟨hS.few,hS.len,hS.fit,hS.seen,hS.self⟩ he
   have hwS:(⟨S.over,S.seen,false⟩:Ds).weight=S.weight:=rfl
   refine domI_ends he n hr.1 fun q=>?_
   rcases hr.2.2 q with q | q
   ·cases q
   omega
  rename_i ha
  simpa using ha
structure Dz(S:Ds):Prop where
 zero:S.at_ 0=Bs.none.add 0
 seen:S.seen.has 0=true
theorem domE_z{n k:Nat}{S:Ds}(h:Dz S){e:Edge}(h1:1≤e.block)(h2:e.block.toNat<n)(h3:n≤128):Dz (domE k S e):=by
 unfold domE
 simp only
 split
 ·refine⟨?_,?_⟩
  ·have:=h.zero
   unfold Ds.at_ at this ⊢
   simp only
   rw [List.getElem?_set_ne (by omega)]
   exact this
  simp only
  rw [Bs.has_add _ _ _ (by omega) (by omega),h.seen]
  rfl
 exact h
theorem domF_z{n k:Nat}(h3:n≤128):∀(l:List Edge) {S:Ds},Dz S→(∀e∈l,1≤e.block∧e.block.toNat<n)→Dz (l.foldl (domE k) S)
 | [],_,h,_=>h
 | e::r,S,h,he=>domF_z h3 r (domE_z h (he e (by simp)).1 (he e (by simp)).2 h3) fun x hx=>he x (by simp [hx])
theorem domR_z{n:Nat}(h3:n≤128):∀(l:List Block) {k:Nat} {S:Ds},Dz S→(∀b∈l,∀e∈b.term.to,1≤e.block∧e.block.toNat<n)→Dz (domR k S l)
 | [],_,_,h,_=>h
 | b::r,k,S,h,he=>by
  refine domR_z h3 r (k:=k+1) ?_ fun x hx=>he x (by simp [hx])
  unfold domB
  split
  ·exact h
  exact domF_z h3 _ h (he b (by simp))
theorem domI_z{f:Func}(h3:f.blocks.length≤128)(he:∀b∈f.blocks,∀e∈b.term.to,1≤e.block∧e.block.toNat<f.blocks.length):∀(n:Nat) {S:Ds},Dz S→Dz (domI f n S)
 | 0,_,h=>h
 | n+1,S,h=>by
  simp only [domI]
  split
  ·exact domI_z h3 he n (domR_z h3 _ (S:=⟨S.over,S.seen,false⟩) ⟨h.zero,h.seen⟩ he)
  exact h
theorem domI_last{f:Func}:∀(n:Nat) {S:Ds},S.again=true→(domI f n S).again=false→∃T:Ds,domI f n S=domR 0 T f.blocks
 | 0,S,h1,h2=>by
  rw [domI,h1] at h2
  cases h2
 | n+1,S,h1,h2=>by
  simp only [domI,h1,if_true] at h2 ⊢
  cases hr:(domR 0 ⟨S.over,S.seen,false⟩ f.blocks).again with
  | false=>exact⟨_,domI_done hr n⟩
  | true=>exact domI_last n hr h2
def overF(f:Func)(k:Nat):Bs:=(domM f).1[k]?.getD .none
def seenF(f:Func)(k:Nat):Bool:=(domM f).2.has k
structure DomW(f:Func):Prop where
 seen:seenF f 0=true
 zero:∀j,j<128→((overF f 0).has j=true↔j=0)
 self:∀k,k<f.blocks.length→(overF f k).has k=true
 step:∀(k:Nat) b,f.blocks[k]?=some b→seenF f k=true→∀e∈b.term.to,seenF f e.block.toNat=true∧∀j,j<128→((overF f e.block.toNat).has j=true→j=e.block.toNat∨(overF f k).has j=true)
theorem domM_w{f:Func}(h0:f.blocks≠[])(h1:f.blocks.length≤128)(he:∀b∈f.blocks,∀e∈b.term.to,1≤e.block∧e.block<f.blocks.length):DomW f:=by
 have he':∀b∈f.blocks,∀e∈b.term.to,0≤e.block∧e.block.toNat<f.blocks.length:=fun b hb e hx=>by have:=he b hb e hx;omega
 have he1:∀b∈f.blocks,∀e∈b.term.to,1≤e.block∧e.block.toNat<f.blocks.length:=fun b hb e hx=>by have:=he b hb e hx;omega
 have hl:=List.length_pos_iff.2 h0
 have hS:=domS_ok h0 h1
 have hw0:=weight_le hS
 have hz0:Dz (domS f):=⟨by unfold Ds.at_ domS;simp only;rw [List.getElem?_set_self (by simpa using hl)];rfl,by show(Bs.none.add 0).has 0=true;decide⟩
 have hend:=domI_ends he' 20000 hS (fun _=>by omega)
 have hz:=domI_z h1 he1 20000 hz0
 obtain⟨T,hT⟩:=domI_last 20000 rfl hend
 have hok:DsOK f.blocks.length (domI f 20000 (domS f)):=by
  have key:∀(n:Nat) (S:Ds),DsOK f.blocks.length S→DsOK f.blocks.length (domI f n S):=fun n=>by
   induction n with
   | zero=>exact fun S h=>h
   | succ n ih =>
    intro S h
    simp only [domI]
    split
    ·exact ih _ (domR_ok f.blocks (k:=0) (S:=⟨S.over,S.seen,false⟩) ⟨h.few,h.len,h.fit,h.seen,h.self⟩ he').1
    exact h
  exact key _ _ hS
 have hTa:=domR_again f.blocks 0 (S:=T) (by rw [←hT];exact hend)
 have hfix:=hTa.2
 rw [show T=domI f 20000 (domS f) from hTa.1.symm.trans hT.symm] at hfix
 have hov:∀k,overF f k=(domI f 20000 (domS f)).at_ k:=fun k=>rfl
 have hse:∀k,seenF f k=(domI f 20000 (domS f)).seen.has k:=fun k=>rfl
 generalize domI f 20000 (domS f)=S at *
 refine⟨by rw [hse,hz.seen],fun j hj=>?_,fun k hk=>by rw [hov];exact hok.self k hk,fun k b hb hs e hx=>?_⟩
 ·rw [hov,hz.zero,Bs.has_add _ _ _ (by omega) hj]
  have:Bs.none.has j=false:=by unfold Bs.has Bs.none;simp
  simp [this]
 have hb1:=he1 b (List.mem_of_getElem? hb) e hx
 obtain⟨q1,q2⟩:=hfix k b hb (by rw [Nat.zero_add,←hse];exact hs) e hx
 rw [Nat.zero_add] at q1
 refine⟨by rw [hse];exact q2,fun j hj q=>?_⟩
 rw [hov,←q1,Bs.has_add _ _ _ (by omega) hj,Bs.has_meet] at q
 rw [hov]
 simp only [Bool.or_eq_true,Bool.and_eq_true,decide_eq_true_eq] at q
 rcases q with q | q
 ·exact .inr q.2
 exact .inl q
theorem lookD_some{ds:Defs}{v:Int}{p:Int×Int}(h:lookD ds v=some p):(v,p)∈ds:=by
 induction ds with
 | nil=>cases h
 | cons e r ih =>
  obtain⟨a,q⟩:=e
  simp only [lookD] at h
  split at h
  ·rename_i e
   simp only [Option.some.injEq] at h
   rw [e,h]
   simp
  exact List.mem_cons.2 (.inr (ih h))
def Fine(f:Func)(k:Nat)(n:Int)(v:Int):Prop:=∃p,DefAt f v p∧(seenF f k=true→(p.1=k∧p.2≤n)∨(p.1≠k∧(overF f k).has p.1.toNat=true))
theorem fine_of{f:Func}{k:Nat}{n v:Int}(h:fineM (dsF f) (domM f).1 (domM f).2 k n v=true):Fine f k n v:=by
 unfold fineM at h
 cases hl:lookD (dsF f) v with
 | none=>rw [hl] at h;cases h
 | some p =>
  rw [hl] at h
  refine⟨p,mem_dsF.1 (lookD_some hl),fun hs=>?_⟩
  have hs':(domM f).2.has k=true:=hs
  simp only [hs',Bool.not_true,Bool.or_false,Bool.or_eq_true,Bool.and_eq_true,decide_eq_true_eq,Bool.not_eq_true',decide_eq_false_iff_not] at h
  exact h
structure UsesW(f:Func):Prop where
 ins:∀(k:Nat) b,f.blocks[k]?=some b→∀(n:Nat) i,b.ins[n]?=some i→∀a∈i.args,Fine f k n a
 arg:∀(k:Nat) b,f.blocks[k]?=some b→b.term.kind≠1→b.term.kind≠4→Fine f k b.ins.length b.term.arg
 args:∀(k:Nat) b,f.blocks[k]?=some b→∀e∈b.term.to,∀a∈e.args,Fine f k b.ins.length a
theorem insUses_all{ds:Defs}{over:List Bs}{seen:Bs}{k:Nat}:∀(l:List Ins) (n:Nat),insUses ds over seen k n l=true→∀(j:Nat) i,l[j]?=some i→∀a∈i.args,fineM ds over seen k ((n+j:Nat):Int) a=true
 | [],_,_=>fun j i h=>by simp at h
 | x::r,n,h=>fun j i hj a ha=>by
  simp only [insUses,Bool.and_eq_true,List.all_eq_true] at h
  cases j with
  | zero =>
   simp only [List.getElem?_cons_zero,Option.some.injEq] at hj
   subst hj
   exact h.1 a ha
  | succ j =>
   rw [show n+(j+1)=n+1+j by omega]
   exact insUses_all r (n+1) h.2 j i hj a ha
theorem allUses_all{ds:Defs}{over:List Bs}{seen:Bs}:∀(l:List Block) (k:Nat),allUses ds over seen k l=true→∀(j:Nat) b,l[j]?=some b→blkUses ds over seen (k+j) b=true
 | [],_,_=>fun j i h=>by simp at h
 | x::r,k,h=>fun j b hj=>by
  simp only [allUses,Bool.and_eq_true] at h
  cases j with
  | zero =>
   simp only [List.getElem?_cons_zero,Option.some.injEq] at hj
   subst hj
   exact h.1
  | succ j =>
   rw [show k+(j+1)=k+1+j by omega]
   exact allUses_all r (k+1) h.2 j b hj
theorem uses_w{f:Func}(h:usesM f (dsF f)=0):UsesW f:=by
 have ha:allUses (dsF f) (domM f).1 (domM f).2 0 f.blocks=true:=by
  unfold usesM at h
  split at h
  ·assumption
  simp at h
 have hb:∀(k:Nat) b,f.blocks[k]?=some b→blkUses (dsF f) (domM f).1 (domM f).2 k b=true:=fun k b hk=>by
  have:=allUses_all f.blocks 0 ha k b hk
  rwa [Nat.zero_add] at this
 have hu:∀(k:Nat) b,f.blocks[k]?=some b→usedM b.term (fineM (dsF f) (domM f).1 (domM f).2 k b.ins.length)=true:=fun k b hk=>by
  have:=hb k b hk
  simp only [blkUses,Bool.and_eq_true] at this
  exact this.2
 refine⟨fun k b hk n i hn a ha=>?_,fun k b hk h1 h4=>?_,fun k b hk e he a ha=>?_⟩
 ·have:=hb k b hk
  simp only [blkUses,Bool.and_eq_true] at this
  have:=insUses_all b.ins 0 this.1 n i hn a ha
  rw [Nat.zero_add] at this
  exact fine_of this
 ·have:=hu k b hk
  simp only [usedM,Bool.and_eq_true,Bool.or_eq_true,decide_eq_true_eq,h1,h4,false_or] at this
  exact fine_of this.1
 have:=hu k b hk
 simp only [usedM,Bool.and_eq_true,List.all_eq_true] at this
 exact fine_of (this.2 e he a ha)
structure FnV(f:Func):Prop where
 fn:FnW f
 dom:DomW f
 uses:UsesW f
 vals:ValsW f
 nodup:(valsF f).Nodup
 edges:∀b∈f.blocks,∀e∈b.term.to,1≤e.block∧e.block<f.blocks.length
theorem checkFunc_v{f:Func}(hfit:f.fit)(h:checkFuncM f=0):FnV f:=by
 have hw:=checkFunc_ok hfit h
 obtain⟨hd,hdw⟩:=FnW.ds hfit h
 have he:∀b∈f.blocks,∀e∈b.term.to,1≤e.block∧e.block<f.blocks.length:=fun b hb e hx=>by
  have:=((end_ok (hw.blk b hb).fin).edges e hx).1
  omega
 refine⟨hw,domM_w hw.ne hw.few he,uses_w (by rw [←hd];exact hw.uses),fun v hv=>?_,?_,he⟩
 ·rw [←dsF_fst] at hv
  obtain⟨e,h1,rfl⟩:=List.mem_map.1 hv
  exact hdw.range e h1
 rw [←dsF_fst]
 exact hdw.nodup
theorem DefAt.uniq{f:Func}(hv:FnV f){v:Int}{p q:Int×Int}(h:DefAt f v p)(h':DefAt f v q):p=q:=by
 have hn:=hv.nodup
 rw [←dsF_fst] at hn
 have e1:=(lookD_mem hn).2 (mem_dsF.2 h)
 have e2:=(lookD_mem hn).2 (mem_dsF.2 h')
 rw [e1] at e2
 simpa using e2
theorem FnV.below{f:Func}(hv:FnV f){v:Int}(h:v∈valsF f):0≤v∧v<freshM f∧freshM f≤4096 :=
 ⟨(hv.vals v h).1,(foldNext_ge (valsF f) 0).2 v h,foldNext_le _ _ (by omega) fun w hw=>(hv.vals w hw).2⟩
def predsR(f:Func):AVal:=if checkFuncM f=0 then .tup [.lst 1 ((predsM f).map eIs) .sh,aI 0] else .tup [.lst 1 [] .sh,aI (checkFuncM f)]
def Bnd(c:Nat)(ls:List (List Int)):Prop:=∀l∈ls,l.length≤c
theorem Bnd.push{c:Nat}{ls:List (List Int)}(h:Bnd c ls){j:Nat}{l:List Int}(hj:ls[j]?=some l)(k:Int):Bnd (c+1) (ls.set j (l++[k])):=fun m hm=>by
 rcases List.mem_or_eq_of_mem_set hm with q | q
 ·have:=h m q
  omega
 subst q
 have:=h l (List.mem_of_getElem? hj)
 simp
 omega
theorem Bnd.mono{c d:Nat}{ls:List (List Int)}(h:Bnd c ls)(hd:c≤d):Bnd d ls:=fun l hl=>Nat.le_trans (h l hl) hd
theorem preds_spec(f:Func)(hfit:f.fit):PCall Try.prog 22 [f.enc] (predsR f):=by
 have hck:=checkFunc_spec f hfit
 unfold predsR
 by_cases hc:checkFuncM f=0
 ·rw [if_pos hc]
  rw [hc] at hck
  have hw:=checkFunc_ok hfit hc
  have hn:f.blocks.length≤128:=hw.few
  obtain⟨N,hN⟩:∃N,N=f.blocks.length:=⟨_,rfl⟩
  obtain⟨R,hR⟩:∃R,R=predsM f:=⟨_,rfl⟩
  have hRl:R.length=N:=by rw [hR,hN,predsM,predL_len];simp
  rw [←hR]
  unfold predsM at hR
  refine zf true 0 Try.func22 Try.ntmps22 ?_
  dsimp only [Tmp,TypeId,slotsOf]
  refine zh1 (za0 ?_)
  refine awp_freeze1 1 0 (.ip none [aI f.name,eBlocks f.blocks]) rfl (by simp [AObj.isSpare]) trivial rfl ?_ ?_
  rotate_left
  simp -dsimp only [simprocAttr,↓vpre,zp]
  ·refine zh2 ?_
   refine zi hck ?_
   refine za0 ?_
   refine zh1 (za0 ?_)
   apply zk0 rfl<;>intro h
   ·cases h
   refine zb0 ?_
   refine zg1 ?_
   simp -dsimp only [simprocAttr,↓vpre,zp,nils_flat,←hN]
   refine⟨by omega,by omega,?_⟩
   refine za0 ?_
   have hpo:PO (List.replicate N []) (([AObj.gone,AObj.cells []]++List.replicate N (AObj.spare 0)).set 1 (.cells ((List.range N).map fun j=>.lst 1 [] (.tok ([AObj.gone,AObj.cells []].length+j))))):=by
    refine⟨by simp,?_,fun j l hj=>?_,?_⟩
    ·rw [List.getElem?_set_self (by simp),outC_nil]
     rfl
    ·have hj':=lt_of_getElem? hj
     rw [List.length_replicate] at hj'
     rw [List.getElem?_set_ne (by omega),List.getElem?_append_right (by simp)]
     simp only [List.length_cons,List.length_nil,Nat.zero_add,Nat.add_sub_cancel_left]
     simp [hj'] at hj ⊢
     rw [hj]
     rfl
    rw [←outC_nil]
    have:=uptoO_set (k:=1) (n:=N+2) (x:=.cells (outC 2 (List.replicate N []))) (O:=[AObj.gone,AObj.cells []]++List.replicate N (AObj.spare 0)) (fun o ho=>by
     rcases List.mem_append.1 ho with q | q
     ·simp at q
      rcases q with rfl | rfl<;>trivial
     rw [(List.mem_replicate.1 q).2]
     trivial) (outC_upto (by simp;omega))
    simpa using this
   show AWP Try.prog _ _ _ ⟨_,_,List.set [AObj.gone,AObj.cells []] 1 (.cells (List.replicate N (AVal.lst 1 [] .ex)))⟩
   refine awp_ownAll 1 N (by simp) ?_
   generalize ([AObj.gone,AObj.cells []]++List.replicate N (AObj.spare 0)).set 1 (.cells ((List.range N).map fun j=>.lst 1 [] (.tok ([AObj.gone,AObj.cells []].length+j))))=O0 at *
   rw [←hN] at hR
   refine zg2 ?_
   simp -dsimp only [simprocAttr,↓vpre,zp,←hN]
   refine za0 ?_
   refine awp_block (awp_loop (ι:={p:Nat×List (List Int)×List AObj // p.1≤N∧PO p.2.1 p.2.2∧p.2.1.length=N∧Bnd (p.1 * 257) p.2.1∧R=predL p.1 p.2.1 (f.blocks.drop p.1)}) (fun p=>⟨50,[(1,.ip none [aI f.name,eBlocks f.blocks]),(5,.ms 1 0 N N),(20,eBlocks f.blocks),(21,aI N),(22,aI p.1.1)],p.1.2.2⟩) (fun p=>N - p.1.1) ⟨(0,_,O0),by simp,hpo,by simp,by intro l hl;simp [(List.mem_replicate.1 hl).2],hR⟩ ?_ ?_)
   ·refine zq rfl ?_ ?_
    simp -dsimp only [simprocAttr,↓vpre,zp,zc]
    all_goals rfl
   rintro⟨⟨k,ls,O⟩,hk,hp,hls,hbd,hke⟩
   simp only at hk hp hls hbd hke
   have hOl:=hp.len
   have hup:=hp.up
   refine zh1 (za0 ?_)
   apply zk1 rfl<;>intro h
   ·refine zb0 ?_
    have hlt:k<N:=by simpa using h
    obtain⟨b,hb⟩:∃b,f.blocks[k]?=some b:=⟨f.blocks[k]'(by omega),List.getElem?_eq_getElem _⟩
    have hbm:=List.mem_of_getElem? hb
    have hend:=end_ok (hw.blk b hbm).fin
    have hto:b.term.to.length≤257:=by
     rcases (show(b.term.kind=0∨b.term.kind=4)∨b.term.kind=1∨b.term.kind=2∨b.term.kind=3 by have:=hend.kind;omega) with q | q | q | q
     ·rw [hend.to q];simp
     ·rw [hend.jump q];omega
     ·rw [hend.cond q];omega
     rw [hend.switch q];have:=hend.cases;omega
    rw [drop_at hb] at hke
    simp only [predL] at hke
    obtain⟨L1,hL1⟩:∃L1,L1=predB k ls b.term.to:=⟨_,rfl⟩
    rw [←hL1] at hke
    refine awp_seq (awp_block ?_)
    refine zg1 ?_
    simp -dsimp only [simprocAttr,↓vpre,zp,hb]
    refine za0 ?_
    refine awp_local 7 ([eIs b.params,eInss b.ins,aI b.term.kind,aI b.term.arg,aI b.term.n,eIs b.term.cases,eEdges b.term.to]) [(1,.ip none [aI f.name,eBlocks f.blocks]),(5,.ms 1 0 N N),(20,eBlocks f.blocks),(21,aI N),(22,aI k),(6,aI k),(7,.ip none [eIs b.params,eInss b.ins,aI b.term.kind,aI b.term.arg,aI b.term.n,eIs b.term.cases,eEdges b.term.to])] (by simp [putS,dropS,Go.Av.look]) (by rfl) (by omega) (by simp [putS,dropS,Go.Av.look]) ?_ ?_ ?_
    ·exact hup
    ·simp [AVal.upto,uptoL,aI_upto,Edge.map_upto,Ins.map_upto,Block.map_upto,hOl]
    refine zh1 (za0 ?_)
    refine awp_block (awp_loop (ι:={p:Nat×List (List Int)×List AObj // p.1≤b.term.to.length∧PO p.2.1 p.2.2∧p.2.1.length=N∧Bnd (k * 257+p.1) p.2.1∧L1=predB k p.2.1 (b.term.to.drop p.1)}) (fun p=>⟨50,[(1,.ip none [aI f.name,eBlocks f.blocks]),(5,.ms 1 0 N N),(20,eBlocks f.blocks),(21,aI N),(22,aI k),(6,aI k),(29,eEdges b.term.to),(30,aI b.term.to.length),(31,aI p.1.1)],p.1.2.2⟩) (fun p=>b.term.to.length - p.1.1) ⟨(0,ls,O),by simp,hp,hls,hbd,hL1⟩ ?_ ?_)
    ·refine zq rfl ?_ ?_
     simp -dsimp only [simprocAttr,↓vpre,zp,zc]
     all_goals rfl
    rintro⟨⟨z,ls,O⟩,hz,hp,hls,hbd,hze⟩
    simp only at hz hp hls hbd hze
    have hOl:=hp.len
    have hup:=hp.up
    refine zh1 (za0 ?_)
    apply zk1 rfl<;>intro h
    ·refine zb0 ?_
     have hlz:z<b.term.to.length:=by simpa using h
     obtain⟨e,he⟩:∃e,b.term.to[z]?=some e:=⟨b.term.to[z],by simp [hlz]⟩
     have hee:=(hend.edges e (List.mem_of_getElem? he)).1
     rw [drop_at he] at hze
     simp only [predB,List.foldl_cons] at hze
     obtain⟨j,hj⟩:∃j:Nat,e.block=(j:Int):=⟨e.block.toNat,by omega⟩
     have hjN:j<N:=by omega
     obtain⟨l,hl⟩:∃l,ls[j]?=some l:=⟨ls[j]'(by omega),List.getElem?_eq_getElem _⟩
     have hpe:predE k ls e=ls.set j (l++[(k:Int)]):=by simp [predE,hj,hl]
     rw [hpe] at hze
     have hget:=outC_get (b:=2) hl
     have hsp:=hp.sp j l hl
     have hpn:=hp.push hl k
     have hput:=outC_set (b:=2) (ls:=ls) (j:=j) (l++[(k:Int)])
     rw [List.map_append] at hput
     have hlb:=hbd l (List.mem_of_getElem? hl)
     have harr:=hp.arr
     have harr2:=at_set_ne (k:=1) (j:=2+j) (y:=.spare (l.length+1)) harr (by omega)
     refine awp_seq (awp_block ?_)
     refine zg1 ?_
     simp -dsimp only [simprocAttr,↓vpre,zp,he]
     refine za0 ?_
     refine awp_local 9 ([aI e.block,eIs e.args]) [(1,.ip none [aI f.name,eBlocks f.blocks]),(5,.ms 1 0 N N),(20,eBlocks f.blocks),(21,aI N),(22,aI k),(6,aI k),(29,eEdges b.term.to),(30,aI b.term.to.length),(31,aI z),(9,.ip none [aI e.block,eIs e.args])] (by simp [putS,dropS,Go.Av.look]) (by rfl) (by omega) (by simp [putS,dropS,Go.Av.look]) ?_ ?_ ?_
     ·exact hup
     ·simp [AVal.upto,uptoL,aI_upto,Edge.map_upto,Ins.map_upto,Block.map_upto,hOl]
     refine zg0 ?_
     simp -dsimp only [simprocAttr,↓vpre,zp,hj,harr,hget,hsp,harr2,hput,Int.toNat_natCast,Nat.mul_one,List.length_map,List.length_set]
     refine⟨by omega,by omega,by omega,by omega,by rw [outC_len];omega,?_⟩
     refine⟨orderB_ren [1,2+j] O.length [.pure,.pure,.pure,.pure,.pure,.pure,.pure,.rd 0,.pure,.pure,.wr 2 [1],.pure,.wr 2 [0]] (by simp;omega) (by simp;omega) rfl rfl (by kernel_rfl),at_intro ?_⟩
     simp -dsimp only [vend,ne_eq,Nat.reduceEqDiff,reduceCtorEq]
     have hput':(outC 2 ls).set j (.lst 1 (l.map aI++[.v (.int .i64 k)]) (.tok (2+j)))=outC 2 (ls.set j (l++[(k:Int)])):=hput
     rw [splice_one _ (by rw [outC_len];omega),hput']
     refine zh0 ?_
     repeat(refine⟨by omega,?_⟩)
     refine zl0 ?_
     refine⟨⟨(z+1,_,_),by simp only;omega,hpn,by simp [hls],hbd.push hl k,hze⟩,by simp;omega,?_⟩
     refine zq rfl ?_ ?_
     simp -dsimp only [simprocAttr,↓vpre,zp,zc]
     ·exact Sub.int (by simp)
     rfl
    refine awp_exit ?_
    simp -dsimp only [vend,ne_eq,Nat.reduceEqDiff,reduceCtorEq]
    have hzz:z=b.term.to.length:=by simp at h;omega
    subst hzz
    rw [List.drop_length] at hze
    simp only [predB,List.foldl_nil] at hze
    subst hze
    refine zh0 ?_
    repeat(refine⟨by omega,?_⟩)
    refine zl0 ?_
    refine⟨⟨(k+1,_,O),by simp only;omega,hp,hls,hbd.mono (by omega),hke⟩,by simp;omega,?_⟩
    refine zq rfl ?_ ?_
    simp -dsimp only [simprocAttr,↓vpre,zp,zc]
    ·exact Sub.int (by simp)
    rfl
   refine awp_exit ?_
   simp -dsimp only [vend,ne_eq,Nat.reduceEqDiff,reduceCtorEq]
   have hkk:k=N:=by simp at h;omega
   subst hkk
   rw [hN,List.drop_length] at hke
   simp only [predL] at hke
   subst hke
   have hshare:=outC_share 2 R
   have hcl:(outC 2 R).length=k:=by rw [outC_len,hls]
   refine awp_freeze1 5 1 (o:=.cells (outC 2 R)) (.lst 1 (R.map eIs) .sh) hp.arr (by simp [AObj.isSpare]) trivial rfl (FSub.ms (cs:=outC 2 R) hp.arr (by intro x hx;obtain⟨l,_,rfl⟩:=List.mem_map.1 hx;rfl) (by rw [List.length_map,hls]) (by rw [List.drop_zero,Nat.mul_one,←hcl,List.take_length,hshare])) ?_
   simp -dsimp only [simprocAttr,↓vpre,zp]
   refine zh1 (za0 ?_)
   refine awp_ret ?_
   simp -dsimp only [simprocAttr,↓vpre,zp,zr,Try.results22]
   simp only [uptoL,AVal.upto,and_true]
   rw [uptoL_iff]
   intro x hx
   obtain⟨l,_,rfl⟩:=List.mem_map.1 hx
   exact⟨aI_upto _ _,trivial⟩
  exact FSub.mp rfl rfl
 rw [if_neg hc]
 obtain⟨e,he⟩:∃e,e=checkFuncM f:=⟨_,rfl⟩
 rw [←he] at hc hck ⊢
 have hde:decide (e=0)=false:=decide_eq_false hc
 refine zf true 0 Try.func22 Try.ntmps22 ?_
 dsimp only [Tmp,TypeId,slotsOf]
 refine zh1 (za0 ?_)
 refine awp_freeze1 1 0 (.ip none [aI f.name,eBlocks f.blocks]) rfl (by simp [AObj.isSpare]) trivial rfl ?_ ?_
 rotate_left
 simp -dsimp only [simprocAttr,↓vpre,zp]
 ·refine zh2 ?_
  refine zi hck ?_
  refine za0 ?_
  refine zg1 ?_
  simp -dsimp only [simprocAttr,↓vpre,zp,hde]
  refine za0 ?_
  refine zw0 rfl ?_
  refine zh1 (za0 ?_)
  refine awp_ret ?_
  simp -dsimp only [simprocAttr,↓vpre,zp,zr,Try.results22]
  simp [uptoL,AVal.upto]
 exact FSub.mp rfl rfl
end Go.Proofs.Ytkhnjeblbiocaaa
namespace Go.Av
theorem FSub.os{O:List AObj}{id len sz:Nat}{cs xs:List AVal}(hid:O[id]?=some (.cells cs))(hsz:∀x∈xs,x.cells.length=sz)(hlen:xs.length=len)(hd:((cs.drop 0).take (len * sz)).map AVal.shareCell=cellsAll xs):FSub O id (.os id len sz) (.lst sz xs .sh):=fun g u l' hg hO he hle h=>by
 obtain⟨l,o1,cap',h1,h2,_,hlc,_,hmax,eu⟩:=h.os_inv
 subst eu
 rw [he] at h1
 simp only [Option.some.injEq] at h1
 subst h1
 have hid':g.objs[id]?=some (.cells cs):=by rw [hO];exact hid
 obtain⟨arr,t',hlo,hrow,hal,hcs,hcsc,_⟩:=hg.row hid' he
 subst hlen
 have key:∀(j:Nat) (c:AVal),(cellsAll xs)[j]?=some c→∃c',cs[0+j]?=some c'∧c'.shareCell=c:=fun j c hj=>by
  rw [←hd,List.getElem?_map,Option.map_eq_some_iff] at hj
  obtain⟨c',hj,e⟩:=hj
  have:=take_get hj
  rw [List.getElem?_drop] at this
  exact⟨c',this,e⟩
 refine .lst hsz (fun x hx c hc=>?_) hlc hmax (fun _=>rfl) (fun j=>arr.getD (0+j) undef) (fun j c hj=>?_) (fun j c hj=>?_) trivial
 ·have hmem:c∈cellsAll xs:=by
   simp only [cellsAll,List.mem_flatMap]
   exact⟨x,hx,hc⟩
  obtain⟨j,hj⟩:=List.getElem?_of_mem hmem
  obtain⟨c',hj',e⟩:=key j c hj
  subst e
  exact AVal.scalar_shareCell (hcsc c' (List.mem_of_getElem? hj'))
 ·obtain⟨c',hj',e⟩:=key j c hj
  have hlt:=lt_of_getElem? hj'
  refine⟨?_,freeze_own hg he hid' trivial _⟩
  show g.w.cell? _=_
  simp only
  rw [cell_of_row hrow]
  simp [Array.getD_eq_getD_getElem?,show j<arr.size by omega]
 obtain⟨c',hj',e⟩:=key j c hj
 have hlt:=lt_of_getElem? hj'
 subst e
 exact((hcs _ c' _ hj' (by simp [Array.getD_eq_getD_getElem?,show j<arr.size by omega])).mono hle).shareCell
end Go.Av
namespace Go.Proofs.Ytkhnjeblbiocaaa
open Go.Av
theorem cellsAll_v(x:Value):cellsAll [AVal.v x]=[AVal.v x]:=rfl
theorem cells_os'(id len sz:Nat):(AVal.os id len sz).cells=[AVal.os id len sz]:=rfl
end Go.Proofs.Ytkhnjeblbiocaaa
namespace Go.Av

end Go.Av
namespace Go.Proofs.Ytkhnjeblbiocaaa
open Go.Av

def toOf(f:Func)(b:Int):List Edge:=(blkOf f b).term.to
structure GrW(f:Func):Prop where
 ne:f.blocks≠[]
 few:f.blocks.length≤128
 to:∀b∈f.blocks,b.term.to.length≤257
 edges:∀b∈f.blocks,∀e∈b.term.to,1≤e.block∧e.block<f.blocks.length
theorem FnW.gr{f:Func}(h:FnW f):GrW f :=
 ⟨h.ne,h.few,fun b hb=>to_few (end_ok (h.blk b hb).fin),fun b hb e he=>by
  have:=((end_ok (h.blk b hb).fin).edges e he).1
  omega⟩
structure SmW(f:Func):Prop where
 few:f.blocks.length≤128
 params:∀b∈f.blocks,b.params.length≤4096
 ins:∀b∈f.blocks,b.ins.length≤1024
 iargs:∀b∈f.blocks,∀i∈b.ins,i.args.length≤16
 cases:∀b∈f.blocks,b.term.cases.length≤256
 to:∀b∈f.blocks,b.term.to.length≤257
 eargs:∀b∈f.blocks,∀e∈b.term.to,e.args.length≤4096
def edC(es:List Edge):List AVal:=es.flatMap fun e=>[aI e.block,eIs e.args]
def outX(id:Nat)(es:List Edge):AVal:=if es=[] then .lst 2 [] .ex else .os id es.length 2
def outE(id:Nat)(es:List Edge):AVal:=if es=[] then .lst 2 [] .sh else .os id es.length 2
def blC(id:Nat)(b:Block):List AVal:=[eIs b.params,eInss b.ins,aI b.term.kind,aI b.term.arg,aI b.term.n,eIs b.term.cases,outE id b.term.to]
def blsC(ids:List Nat)(bs:List Block):List AVal:=(List.zipWith blC ids bs).flatten
def outBl(id:Nat)(bs:List Block):AVal:=if bs=[] then .lst 7 [] .ex else .os id bs.length 7
theorem outX_share(id:Nat)(es:List Edge):(outX id es).shareCell=outE id es:=by
 unfold outX outE
 split<;>rfl
theorem outE_share(id:Nat)(es:List Edge):(outE id es).shareCell=outE id es:=by
 unfold outE
 split<;>rfl
theorem edC_snoc(es:List Edge)(e:Edge):edC (es++[e])=edC es++[aI e.block,eIs e.args]:=by simp [edC]
theorem edC_len(es:List Edge):(edC es).length=es.length * 2:=by
 induction es with
 | nil=>rfl
 | cons e r ih =>
  have:edC (e::r)=[aI e.block,eIs e.args]++edC r:=rfl
  rw [this,List.length_append,ih]
  simp only [List.length_cons,List.length_nil]
  omega
theorem edC_upto(n:Nat)(es:List Edge):uptoL n (edC es):=by
 rw [uptoL_iff]
 intro c hc
 simp only [edC,List.mem_flatMap] at hc
 obtain⟨e,_,hc⟩:=hc
 simp only [List.mem_cons,List.not_mem_nil,or_false] at hc
 rcases hc with rfl | rfl
 ·trivial
 exact⟨aI_upto _ _,trivial⟩
theorem edC_share(es:List Edge):(edC es).map AVal.shareCell=cellsAll (es.map Edge.enc):=by
 induction es with
 | nil=>rfl
 | cons e r ih =>
  have h1:edC (e::r)=[aI e.block,eIs e.args]++edC r:=rfl
  have h2:cellsAll ((e::r).map Edge.enc)=[aI e.block,eIs e.args]++cellsAll (r.map Edge.enc):=rfl
  rw [h1,h2,List.map_append,ih]
  rfl
theorem blsC_snoc{ids:List Nat}{bs:List Block}(h:ids.length=bs.length)(id:Nat)(b:Block):blsC (ids++[id]) (bs++[b])=blsC ids bs++blC id b:=by
 unfold blsC
 rw [List.zipWith_append h]
 simp
theorem blsC_len:∀{ids:List Nat} {bs:List Block},ids.length=bs.length→(blsC ids bs).length=bs.length * 7
 | [],[],_=>rfl
 | i::ids,b::bs,h=>by
  have e:blsC (i::ids) (b::bs)=blC i b++blsC ids bs:=rfl
  rw [e,List.length_append,blsC_len (by simpa using h)]
  simp only [blC,List.length_cons,List.length_nil]
  omega
 | [],b::bs,h=>by simp at h
 | i::ids,[],h=>by simp at h
theorem blC_upto{n id:Nat}(b:Block)(h:b.term.to≠[]→id<n):uptoL n (blC id b):=by
 refine⟨⟨aI_upto _ _,trivial⟩,⟨Ins.map_upto _ _,trivial⟩,trivial,trivial,trivial,⟨aI_upto _ _,trivial⟩,?_,trivial⟩
 unfold outE
 split
 ·exact⟨trivial,trivial⟩
 rename_i q
 exact h q
structure CpO(b0:Nat)(ids:List Nat)(bs:List Block)(O:List AObj):Prop where
 li:ids.length=bs.length
 own:∀(j id:Nat) (b:Block),ids[j]?=some id→bs[j]?=some b→b.term.to≠[]→b0≤id∧O[id]?=some (.cells (edC b.term.to))
 inj:∀(i j id:Nat) (b c:Block),ids[i]?=some id→ids[j]?=some id→bs[i]?=some b→bs[j]?=some c→b.term.to≠[]→c.term.to≠[]→i=j
structure CpS(f:Func)(done:List Block)(bid:Nat)(ids:List Nat)(O:List AObj):Prop where
 up:∀o∈O,o.upto O.length
 r0:O[0]?=some .gone
 r1:O[1]?=some (.cells [aI 0,.lst 7 [] .ex])
 r3:O[3]?=some (.cells [aI 0,.lst 7 [] .ex])
 out:O[4]?=some (.cells [aI f.name,outBl bid done])
 blk:done≠[]→5≤bid∧O[bid]?=some (.cells (blsC ids done))
 cp:CpO 5 ids done O
 ne:∀(j id:Nat) (b:Block),ids[j]?=some id→done[j]?=some b→b.term.to≠[]→id≠bid
theorem blsC_upto{n:Nat}:∀{ids:List Nat} {bs:List Block},(∀(j id:Nat) (b:Block),ids[j]?=some id→bs[j]?=some b→b.term.to≠[]→id<n)→uptoL n (blsC ids bs):=by
 intro ids bs h
 rw [uptoL_iff]
 intro c hc
 unfold blsC at hc
 obtain⟨l,hl,hc⟩:=List.mem_flatten.1 hc
 obtain⟨j,hj⟩:=List.mem_iff_getElem?.1 hl
 rw [List.getElem?_zipWith] at hj
 cases h1:ids[j]? with
 | none=>rw [h1] at hj;cases hj
 | some id =>
  cases h2:bs[j]? with
  | none=>rw [h1,h2] at hj;cases hj
  | some b =>
   rw [h1,h2] at hj
   simp only [Option.some.injEq] at hj
   subst hj
   exact uptoL_iff.1 (blC_upto b (h j id b h1 h2)) c hc
theorem CpS.snoc{f:Func}{done:List Block}{bid:Nat}{ids:List Nat}{O O1:List AObj}(h:CpS f done bid ids O){b:Block}{tid:Nat}(hlen:O.length≤O1.length)(hup:∀o∈O1,o.upto O1.length)
  (hsame:∀k,k<O.length→(done≠[]→k≠bid)→O1[k]?=O[k]?) (ht:b.term.to≠[]→O.length≤tid∧O1[tid]?=some (.cells (edC b.term.to))) {cs ar:List AVal} (hcs:cs=blsC (ids++[tid]) (done++[b])) (har:ar=[aI f.name,.os O1.length (done.length+1) 7]) :
  CpS f (done++[b]) O1.length (ids++[tid]) ((O1++[AObj.cells cs]).set 4 (.cells ar)):=by
 have h4:=lt_of_getElem? h.out
 have hli:=h.cp.li
 have hkeep:∀k,k<O.length→k≠4→(done≠[]→k≠bid)→((O1++[AObj.cells cs]).set 4 (.cells ar))[k]?=O[k]?:=fun k hk hk4 hkb=>by
  rw [List.getElem?_set_ne (Ne.symm hk4),List.getElem?_append_left (by omega),hsame k hk hkb]
 have hb5:done≠[]→5≤bid:=fun q=>(h.blk q).1
 have hids:∀(j id:Nat) (c:Block),(ids++[tid])[j]?=some id→(done++[b])[j]?=some c→(ids[j]?=some id∧done[j]?=some c)∨(j=ids.length∧id=tid∧c=b):=fun j id c h1 h2=>by
  by_cases hj:j<ids.length
  ·rw [List.getElem?_append_left hj] at h1
   rw [List.getElem?_append_left (by omega)] at h2
   exact .inl ⟨h1,h2⟩
  have hj1:=lt_of_getElem? h1
  rw [List.length_append,List.length_singleton] at hj1
  have hje:j=ids.length:=by omega
  subst hje
  rw [List.getElem?_append_right (Nat.le_refl _),Nat.sub_self] at h1
  rw [List.getElem?_append_right (by omega),←hli,Nat.sub_self] at h2
  simp only [List.getElem?_cons_zero,Option.some.injEq] at h1 h2
  exact .inr ⟨rfl,h1.symm,h2.symm⟩
 have hdn:∀(j id:Nat) (c:Block),ids[j]?=some id→done[j]?=some c→c.term.to≠[]→5≤id∧id<O.length∧O1[id]?=some (.cells (edC c.term.to)):=fun j id c h1 h2 h3=>by
  obtain⟨o1,o2⟩:=h.cp.own j id c h1 h2 h3
  have hl:=lt_of_getElem? o2
  refine⟨o1,hl,?_⟩
  rw [hsame id hl (fun _=>h.ne j id c h1 h2 h3)]
  exact o2
 have hown:∀(j id:Nat) (c:Block),(ids++[tid])[j]?=some id→(done++[b])[j]?=some c→c.term.to≠[]→5≤id∧id<O1.length∧O1[id]?=some (.cells (edC c.term.to)):=fun j id c h1 h2 h3=>by
  rcases hids j id c h1 h2 with⟨q1,q2⟩ | ⟨_,q2,q3⟩
  ·obtain⟨p1,p2,p3⟩:=hdn j id c q1 q2 h3
   exact⟨p1,by omega,p3⟩
  rw [q3] at h3 ⊢
  rw [q2]
  obtain⟨t1,t2⟩:=ht h3
  exact⟨by omega,lt_of_getElem? t2,t2⟩
 subst hcs
 subst har
 exact {
  up:=by
   intro o ho
   rw [List.length_set,List.length_append,List.length_singleton]
   rcases List.mem_or_eq_of_mem_set ho with q | q
   ·rcases List.mem_append.1 q with q | q
    ·exact AObj.upto_mono (by omega) (hup o q)
    rw [List.mem_singleton] at q
    subst q
    exact blsC_upto fun j id c h1 h2 h3=>by
     have:=(hown j id c h1 h2 h3).2.1
     omega
   subst q
   exact⟨trivial,show _<_ by omega,trivial⟩
  r0:=by rw [hkeep 0 (lt_of_getElem? h.r0) (by omega) (fun q=>by have:=hb5 q;omega)];exact h.r0
  r1:=by rw [hkeep 1 (lt_of_getElem? h.r1) (by omega) (fun q=>by have:=hb5 q;omega)];exact h.r1
  r3:=by rw [hkeep 3 (lt_of_getElem? h.r3) (by omega) (fun q=>by have:=hb5 q;omega)];exact h.r3
  out:=by
   rw [List.getElem?_set_self (by rw [List.length_append];omega)]
   have:outBl O1.length (done++[b])=.os O1.length (done.length+1) 7:=by
    unfold outBl
    rw [if_neg (by simp),List.length_append]
    rfl
   rw [this]
  blk:=fun _=>by
   refine⟨by omega,?_⟩
   rw [List.getElem?_set_ne (by omega),List.getElem?_append_right (Nat.le_refl _),Nat.sub_self]
   rfl
  cp:={
   li:=by rw [List.length_append,List.length_append,hli];rfl
   own:=fun j id c h1 h2 h3=>by
    obtain⟨p1,p2,p3⟩:=hown j id c h1 h2 h3
    refine⟨p1,?_⟩
    rw [List.getElem?_set_ne (by omega),List.getElem?_append_left p2]
    exact p3
   inj:=fun i j id c d h1 h2 h3 h4 h5 h6=>by
    rcases hids i id c h1 h3 with⟨p1,p2⟩ | ⟨p1,p2,p3⟩
    ·rcases hids j id d h2 h4 with⟨q1,q2⟩ | ⟨q1,q2,q3⟩
     ·exact h.cp.inj i j id c d p1 q1 p2 q2 h5 h6
     have:=(hdn i id c p1 p2 h5).2.1
     rw [q3] at h6
     have:=(ht h6).1
     omega
    rcases hids j id d h2 h4 with⟨q1,q2⟩ | ⟨q1,q2,q3⟩
    ·have:=(hdn j id d q1 q2 h6).2.1
     rw [p3] at h5
     have:=(ht h5).1
     omega
    omega }
  ne:=fun j id c h1 h2 h3=>by
   have:=(hown j id c h1 h2 h3).2.1
   omega }
structure CpI(O:List AObj)(cs:List AVal)(n:Nat)(O2:List AObj):Prop where
 len:O2.length=O.length+2
 up:∀o∈O2,o.upto O2.length
 keep:∀k,k<O.length→O2[k]?=O[k]?
 cell:O2[O.length]?=some (.cells cs)
 sp:O2[O.length+1]?=some (.spare n)
theorem CpI.start{O:List AObj}(hup:∀o∈O,o.upto O.length){cs:List AVal}(hcs:uptoL (O.length+2) cs):CpI O cs 0 (O++[.cells cs,.spare 0]) where
 len:=by simp
 up:=fun o ho=>by
  rw [List.length_append]
  rcases List.mem_append.1 ho with q | q
  ·exact AObj.upto_mono (by omega) (hup o q)
  simp only [List.mem_cons,List.not_mem_nil,or_false] at q
  rcases q with rfl | rfl
  ·exact hcs
  trivial
 keep:=fun k hk=>by rw [List.getElem?_append_left hk]
 cell:=by
  rw [List.getElem?_append_right (Nat.le_refl _),Nat.sub_self]
  rfl
 sp:=by
  rw [List.getElem?_append_right (by omega),show O.length+1 - O.length=1 by omega]
  rfl
theorem CpI.one{O:List AObj}{cs:List AVal}{n:Nat}{O2:List AObj}(h:CpI O cs n O2){cs':List AVal}(hcs:uptoL (O.length+2) cs'):CpI O cs' n (O2.set O.length (.cells cs')) where
 len:=by rw [List.length_set,h.len]
 up:=by
  rw [List.length_set]
  exact uptoO_set h.up (by rw [h.len];exact hcs)
 keep:=fun k hk=>by rw [List.getElem?_set_ne (by omega),h.keep k hk]
 cell:=by rw [List.getElem?_set_self (by rw [h.len];omega)]
 sp:=by rw [List.getElem?_set_ne (by omega),h.sp]
theorem CpI.room{O:List AObj}{cs:List AVal}{n:Nat}{O2:List AObj}(h:CpI O cs n O2)(m:Nat):CpI O cs m (O2.set (O.length+1) (.spare m)) where
 len:=by rw [List.length_set,h.len]
 up:=by
  rw [List.length_set]
  exact uptoO_set h.up trivial
 keep:=fun k hk=>by rw [List.getElem?_set_ne (by omega),h.keep k hk]
 cell:=by rw [List.getElem?_set_ne (by omega),h.cell]
 sp:=by rw [List.getElem?_set_self (by rw [h.len];omega)]
structure CpE(O:List AObj)(cs:AVal→List AVal)(tid:Nat)(es:List Edge)(O3:List AObj):Prop where
 len:O.length+2≤O3.length
 up:∀o∈O3,o.upto O3.length
 keep:∀k,k<O.length→O3[k]?=O[k]?
 cell:O3[O.length]?=some (.cells (cs (outX tid es)))
 own:es≠[]→O.length+2≤tid∧O3[tid]?=some (.cells (edC es))
theorem CpE.start{O:List AObj}{cs:AVal→List AVal}{n:Nat}{O2:List AObj}(h:CpI O (cs (.lst 2 [] .ex)) n O2):CpE O cs 0 [] O2 where
 len:=by rw [h.len];omega
 up:=h.up
 keep:=h.keep
 cell:=h.cell
 own:=fun q=>absurd rfl q
theorem CpE.push{O:List AObj}{cs:AVal→List AVal}{tid:Nat}{es:List Edge}{O3 O4:List AObj}(h:CpE O cs tid es O3)(e:Edge)(hcs:∀v n,v.upto n→O.length+2≤n→uptoL n (cs v))(hlen:O4.length=O3.length)(hup:∀o∈O4,o.upto O3.length)
  (hsame:∀k,(es≠[]→k≠tid)→O4[k]?=O3[k]?) {c a:List AVal} (hc:c=edC (es++[e])) (ha:a=cs (.os O3.length (es.length+1) 2)):CpE O cs O3.length (es++[e]) ((O4++[AObj.cells c]).set O.length (.cells a)):=by
 have hl:=h.len
 have hx:outX O3.length (es++[e])=.os O3.length (es.length+1) 2:=by
  unfold outX
  rw [if_neg (by simp),List.length_append]
  rfl
 subst hc
 subst ha
 exact {
  len:=by rw [List.length_set,List.length_append,hlen];omega
  up:=by
   intro o ho
   rw [List.length_set,List.length_append,List.length_singleton,hlen]
   rcases List.mem_or_eq_of_mem_set ho with q | q
   ·rcases List.mem_append.1 q with q | q
    ·exact AObj.upto_mono (by omega) (hup o q)
    rw [List.mem_singleton] at q
    subst q
    exact edC_upto _ _
   subst q
   exact hcs _ _ (show O3.length<O3.length+1 by omega) (by omega)
  keep:=fun k hk=>by
   rw [List.getElem?_set_ne (by omega),List.getElem?_append_left (by omega),hsame k (fun q=>by have:=(h.own q).1;omega),h.keep k hk]
  cell:=by
   rw [List.getElem?_set_self (by rw [List.length_append];omega),hx]
  own:=fun _=>by
   refine⟨by omega,?_⟩
   rw [List.getElem?_set_ne (by omega),List.getElem?_append_right (by omega),hlen,Nat.sub_self]
   rfl }
def CpR(f:Func)(r:AVal)(O:List AObj):Prop:=∃(ids:List Nat) (bid:Nat),r=.agg [aI f.name,.os bid f.blocks.length 7]∧(∀o∈O,o.upto O.length)∧O[0]?=some .gone∧O[1]?=some (.cells [aI 0,.lst 7 [] .ex]) ∧
 (5≤bid∧O[bid]?=some (.cells (blsC ids f.blocks)))∧CpO 5 ids f.blocks O∧∀(j id:Nat) (b:Block),ids[j]?=some id→f.blocks[j]?=some b→b.term.to≠[]→id≠bid
theorem copy_start(f:Func):CpS f [] 0 [] [.gone,.cells [aI 0,.lst 7 [] .ex],.gone,.cells [aI 0,.lst 7 [] .ex],.cells [aI f.name,.lst 7 [] .ex]] where
 up:=fun o ho=>by
  simp only [List.mem_cons,List.not_mem_nil,or_false] at ho
  rcases ho with rfl | rfl | rfl | rfl | rfl
  ·trivial
  ·exact⟨trivial,⟨trivial,trivial⟩,trivial⟩
  ·trivial
  ·exact⟨trivial,⟨trivial,trivial⟩,trivial⟩
  exact⟨trivial,⟨trivial,trivial⟩,trivial⟩
 r0:=rfl
 r1:=rfl
 r3:=rfl
 out:=rfl
 blk:=fun q=>absurd rfl q
 cp:=⟨rfl,fun j id b h=>by simp at h,fun i j id b c h=>by simp at h⟩
 ne:=fun j id b h=>by simp at h
theorem CpS.done{f:Func}{bid:Nat}{ids:List Nat}{O:List AObj}(h:CpS f f.blocks bid ids O)(hne:f.blocks≠[]){cs:List AVal}(hcs:uptoL O.length cs):CpR f (.agg [aI f.name,.os bid f.blocks.length 7]) (O.set 3 (.cells cs)):=by
 obtain⟨b1,b2⟩:=h.blk hne
 refine⟨ids,bid,rfl,?_,?_,?_,⟨b1,?_⟩,⟨h.cp.li,fun j id b q1 q2 q3=>?_,h.cp.inj⟩,h.ne⟩
 ·rw [List.length_set]
  exact uptoO_set h.up hcs
 ·rw [List.getElem?_set_ne (by omega)];exact h.r0
 ·rw [List.getElem?_set_ne (by omega)];exact h.r1
 ·rw [List.getElem?_set_ne (by omega)];exact b2
 obtain⟨o1,o2⟩:=h.cp.own j id b q1 q2 q3
 exact⟨o1,by rw [List.getElem?_set_ne (by omega)];exact o2⟩






def predsAt(f:Func)(k:Int):List Int:=(predsM f)[k.toNat]?.getD []

end Go.Proofs.Ytkhnjeblbiocaaa
namespace Go.Proofs.Ytkhnjeblbiocaaa
open Go.Av Go.Sort

end Go.Proofs.Ytkhnjeblbiocaaa
namespace Go.Proofs.Ytkhnjeblbiocaaa
open Go.Av

end Go.Proofs.Ytkhnjeblbiocaaa
namespace Go.Av
theorem awp_frzp{P:Program}{kb:Nat}{c:Code}{Q:AEx→St→Prop}{n:Nat}{slots:List (Nat×AVal)}{A:Nat}{C:Nat→List AVal}{N M:Nat}(pos:Nat→Nat)
  (hsc:∀i,∀d∈C i,d.scalar) (hl:∀i,(C i).length=M) (F:Nat→List AObj→Prop)
  (hF:∀i O,i<N→O[A]?=some (.cells (C i))→F i O→(C (i+1)=C i∧F (i+1) O) ∨
   ∃id o x y,id≠A∧O[id]?=some o∧¬o.isSpare∧o.live∧(C i)[pos i]?=some x∧(C (i+1))=(C i).set (pos i) y∧FSub O id x y∧F (i+1) ((O.set id .gone).set A (.cells (C (i+1))))) :
  ∀(m i:Nat) (O:List AObj),i+m=N→O[A]?=some (.cells (C i))→F i O→(∀O',O'.length=O.length→O'[A]?=some (.cells (C N))→F N O'→AWP P kb c Q ⟨n,slots,O'⟩)→AWP P kb c Q ⟨n,slots,O⟩
 | 0,i,O,hi,hA,hf,h=>by
  have:i=N:=by omega
  subst this
  exact h O rfl hA hf
 | m+1,i,O,hi,hA,hf,h=>by
  rcases hF i O (by omega) hA hf with⟨e,hf'⟩ | ⟨id,o,x,y,h1,h2,h3,h4,h5,h6,h7,hf'⟩
  ·exact awp_frzp pos hsc hl F hF m (i+1) O (by omega) (by rw [e];exact hA) hf' h
  have hAl:=lt_of_getElem? hA
  refine awp_freeze_in id h2 h3 h4 slots (fun s z hz=>⟨z,hz,.refl z⟩) A (Ne.symm h1) (C i) (C (i+1)) hA (by rw [hl,hl]) (hsc (i+1)) (fun j a b ha hb=>?_) (awp_frzp pos hsc hl F hF m (i+1) _ (by omega) (by rw [List.getElem?_set_self (by rw [List.length_set];exact hAl)]) hf' fun O' hO'=>h O' (by rw [hO',List.length_set,List.length_set]))
  rw [h6,List.getElem?_set] at hb
  split at hb
  ·rename_i e
   rw [←e,h5] at ha
   rw [if_pos (lt_of_getElem? h5)] at hb
   simp only [Option.some.injEq] at ha hb
   subst ha
   subst hb
   exact h7
  rw [ha] at hb
  simp only [Option.some.injEq] at hb
  subst hb
  exact .refl _
end Go.Av
namespace Go.Proofs.Ytkhnjeblbiocaaa
open Go.Av
theorem edC_append(a b:List Edge):edC (a++b)=edC a++edC b:=by simp [edC]
theorem edC_at{es:List Edge}{n:Nat}{e:Edge}(h:es[n]?=some e):(edC es)[n * 2]?=some (aI e.block)∧(edC es)[n * 2+1]?=some (eIs e.args):=by
 have hl:=lt_of_getElem? h
 have e1:es=es.take n++e::es.drop (n+1):=by
  rw [←drop_at h,List.take_append_drop]
 have hlen:(edC (es.take n)).length=n * 2:=by rw [edC_len,List.length_take];omega
 have e2:edC es=edC (es.take n)++(aI e.block::eIs e.args::edC (es.drop (n+1))):=by
  conv=>lhs;rw [e1]
  rw [edC_append]
  rfl
 rw [e2]
 refine⟨?_,?_⟩
 ·rw [List.getElem?_append_right (by omega),hlen,Nat.sub_self]
  rfl
 rw [List.getElem?_append_right (by omega),hlen,show n * 2+1 - n * 2=1 by omega]
 rfl
theorem blsC_at:∀{ids:List Nat} {bs:List Block} {k id:Nat} {b:Block},ids[k]?=some id→bs[k]?=some b→((blsC ids bs).drop (k * 7)).take 7=blC id b
 | i::ids,c::bs,0,id,b,h1,h2=>by
  simp only [List.getElem?_cons_zero,Option.some.injEq] at h1 h2
  subst h1
  subst h2
  rfl
 | i::ids,c::bs,k+1,id,b,h1,h2=>by
  have ih:=blsC_at (ids:=ids) (bs:=bs) (k:=k) (by simpa using h1) (by simpa using h2)
  have e:blsC (i::ids) (c::bs)=blC i c++blsC ids bs:=rfl
  have hl:(blC i c).length=7:=rfl
  rw [e,List.drop_append,List.drop_of_length_le (by rw [hl];omega),hl,List.nil_append,show(k+1) * 7 - 7=k * 7 by omega]
  exact ih
 | [],_,k,id,b,h1,_=>by simp at h1
 | i::ids,[],k,id,b,_,h2=>by simp at h2
def mixB:Nat→List Nat→List Block→List AVal
 | 0,ids,bs=>blsC ids bs
 | i+1,_::ids,b::bs=>b.enc.cells++mixB i ids bs
 | _+1,_,_=>[]
theorem mixB_len:∀(i:Nat) {ids:List Nat} {bs:List Block},ids.length=bs.length→(mixB i ids bs).length=bs.length * 7
 | 0,ids,bs,h=>blsC_len h
 | i+1,_::ids,b::bs,h=>by
  have hb:b.enc.cells.length=7:=rfl
  rw [mixB,List.length_append,mixB_len i (by simpa using h),hb,List.length_cons]
  omega
 | i+1,[],[],_=>rfl
 | i+1,[],b::bs,h=>by simp at h
 | i+1,x::ids,[],h=>by simp at h
theorem blC_scalar(id:Nat)(b:Block):∀d∈blC id b,d.scalar:=fun d hd=>by
 simp only [blC,List.mem_cons,List.not_mem_nil,or_false] at hd
 rcases hd with rfl | rfl | rfl | rfl | rfl | rfl | rfl
 ·trivial
 ·trivial
 ·trivial
 ·trivial
 ·trivial
 ·trivial
 unfold outE
 split<;>trivial
theorem mixB_scalar:∀(i:Nat) (ids:List Nat) (bs:List Block),∀d∈mixB i ids bs,d.scalar
 | 0,ids,bs=>fun d hd=>by
  unfold mixB blsC at hd
  obtain⟨l,hl,hd⟩:=List.mem_flatten.1 hd
  obtain⟨j,hj⟩:=List.mem_iff_getElem?.1 hl
  rw [List.getElem?_zipWith] at hj
  cases h1:ids[j]? with
  | none=>rw [h1] at hj;cases hj
  | some id =>
   cases h2:bs[j]? with
   | none=>rw [h1,h2] at hj;cases hj
   | some b =>
    rw [h1,h2] at hj
    simp only [Option.some.injEq] at hj
    subst hj
    exact blC_scalar id b d hd
 | i+1,x::ids,b::bs=>fun d hd=>by
  rw [mixB] at hd
  rcases List.mem_append.1 hd with q | q
  ·simp only [Block.enc,AVal.cells,List.mem_cons,List.not_mem_nil,or_false] at q
   rcases q with rfl | rfl | rfl | rfl | rfl | rfl | rfl<;>trivial
  exact mixB_scalar i ids bs d q
 | i+1,[],[]=>fun d hd=>by cases hd
 | i+1,[],b::bs=>fun d hd=>by cases hd
 | i+1,x::ids,[]=>fun d hd=>by cases hd
theorem mixB_at:∀(i:Nat) {ids:List Nat} {bs:List Block} {id:Nat} {b:Block},ids[i]?=some id→bs[i]?=some b →
  (mixB i ids bs)[i * 7+6]?=some (outE id b.term.to)∧mixB (i+1) ids bs=(mixB i ids bs).set (i * 7+6) (eEdges b.term.to)
 | 0,x::ids,c::bs,id,b,h1,h2=>by
  simp only [List.getElem?_cons_zero,Option.some.injEq] at h1 h2
  subst h1
  subst h2
  exact⟨rfl,rfl⟩
 | i+1,x::ids,c::bs,id,b,h1,h2=>by
  obtain⟨i1,i2⟩:=mixB_at i (ids:=ids) (bs:=bs) (id:=id) (b:=b) (by simpa using h1) (by simpa using h2)
  have hb:c.enc.cells.length=7:=rfl
  have e:mixB (i+1) (x::ids) (c::bs)=c.enc.cells++mixB i ids bs:=rfl
  have e2:mixB (i+1+1) (x::ids) (c::bs)=c.enc.cells++mixB (i+1) ids bs:=rfl
  rw [e,e2,i2]
  refine⟨?_,?_⟩
  ·rw [List.getElem?_append_right (by omega),hb,show(i+1) * 7+6 - 7=i * 7+6 by omega]
   exact i1
  rw [List.set_append_right _ _ (by omega),hb,show(i+1) * 7+6 - 7=i * 7+6 by omega]
 | 0,[],_,id,b,h1,_=>by simp at h1
 | 0,_::_,[],id,b,_,h2=>by simp at h2
 | i+1,[],_,id,b,h1,_=>by simp at h1
 | i+1,_::_,[],id,b,_,h2=>by simp at h2
theorem mixB_all:∀{ids:List Nat} {bs:List Block},ids.length=bs.length→mixB bs.length ids bs=cellsAll (bs.map Block.enc)
 | [],[],_=>rfl
 | x::ids,b::bs,h=>by
  have e:cellsAll ((b::bs).map Block.enc)=b.enc.cells++cellsAll (bs.map Block.enc):=rfl
  rw [e,←mixB_all (ids:=ids) (by simpa using h)]
  rfl
 | [],b::bs,h=>by simp at h
 | x::ids,[],h=>by simp at h
theorem blocks_share(bs:List Block):(cellsAll (bs.map Block.enc)).map AVal.shareCell=cellsAll (bs.map Block.enc):=by
 induction bs with
 | nil=>rfl
 | cons b r ih =>
  have e:cellsAll ((b::r).map Block.enc)=b.enc.cells++cellsAll (r.map Block.enc):=rfl
  rw [e,List.map_append,ih]
  rfl
def jumpB(x:Edge):Block:=⟨[],[],⟨1,0,0,[],[x]⟩⟩
def setTo(b:Block)(es:List Edge):Block:=⟨b.params,b.ins,⟨b.term.kind,b.term.arg,b.term.n,b.term.cases,es⟩⟩
structure Sp where
 tos:List (List Edge)
 news:List Block
def critB(f:Func)(k:Nat)(x:Edge):Bool:=decide (2≤(blkOf f (k:Int)).term.to.length)&&decide (2≤(predsAt f x.block).length)
def spStep(f:Func)(k n:Nat)(S:Sp):Sp :=
 match (toOf f (k:Int))[n]? with
 | none=>S
 | some x=>if critB f k x then ⟨S.tos.set k ((S.tos[k]?.getD []).set n ⟨((f.blocks.length+S.news.length:Nat):Int),[]⟩),S.news++[jumpB x]⟩ else S
def spE(f:Func)(k:Nat):Nat→Nat→Sp→Sp
 | 0,_,S=>S
 | m+1,n,S=>spE f k m (n+1) (spStep f k n S)
def spK(f:Func):Nat→Nat→Sp→Sp
 | 0,_,S=>S
 | m+1,k,S=>spK f m (k+1) (spE f k (toOf f (k:Int)).length 0 S)
def spS(f:Func):Sp:=⟨f.blocks.map fun b=>b.term.to,[]⟩
def spM(f:Func):Sp:=spK f f.blocks.length 0 (spS f)
def splitM(f:Func):Func:=⟨f.name,List.zipWith setTo f.blocks (spM f).tos++(spM f).news⟩
structure SpW(f:Func)(S:Sp):Prop where
 len:S.tos.length=f.blocks.length
 each:∀(k:Nat) b l,f.blocks[k]?=some b→S.tos[k]?=some l→l.length=b.term.to.length
theorem spS_w(f:Func):SpW f (spS f):=⟨by simp [spS],fun k b l h1 h2=>by
 unfold spS at h2
 simp only [List.getElem?_map,h1,Option.map_some,Option.some.injEq] at h2
 rw [←h2]⟩
theorem spStep_w{f:Func}{k n:Nat}{S:Sp}(h:SpW f S):SpW f (spStep f k n S):=by
 unfold spStep
 split
 ·exact h
 split
 ·refine⟨by rw [List.length_set];exact h.len,fun j b l h1 h2=>?_⟩
  simp only at h2
  rw [List.getElem?_set] at h2
  split at h2
  ·rename_i e
   subst e
   split at h2
   ·simp only [Option.some.injEq] at h2
    rename_i hk
    obtain⟨m,hm⟩:∃m,S.tos[k]?=some m:=⟨_,List.getElem?_eq_getElem hk⟩
    rw [←h2,List.length_set,hm,Option.getD_some]
    exact h.each k b m h1 hm
   cases h2
  exact h.each j b l h1 h2
 exact h
structure SpO(f:Func)(ids:List Nat)(X:Nat)(S:Sp)(bid:Nat)(O:List AObj):Prop where
 up:∀o∈O,o.upto O.length
 r1:O[1]?=some (.cells [aI 0,.lst 7 [] .ex])
 x5:5≤X
 xb:bid≠X
 out:O[X]?=some (.cells [aI f.name,.os bid (f.blocks.length+S.news.length) 7])
 bl:5≤bid∧O[bid]?=some (.cells (blsC ids f.blocks++cellsAll (S.news.map Block.enc)))
 li:ids.length=f.blocks.length
 w:SpW f S
 own:∀(j id:Nat) (b:Block) (l:List Edge),ids[j]?=some id→f.blocks[j]?=some b→S.tos[j]?=some l→b.term.to≠[]→5≤id∧id≠bid∧id≠X∧O[id]?=some (.cells (edC l))
 inj:∀(i j id:Nat) (b c:Block),ids[i]?=some id→ids[j]?=some id→f.blocks[i]?=some b→f.blocks[j]?=some c→b.term.to≠[]→c.term.to≠[]→i=j
theorem SpO.start{f:Func}{ids:List Nat}{bid:Nat}{O:List AObj}(hup:∀o∈O,o.upto O.length)(h1:O[1]?=some (.cells [aI 0,.lst 7 [] .ex]))(hb:5≤bid∧O[bid]?=some (.cells (blsC ids f.blocks)))(hc:CpO 5 ids f.blocks O)
  (hne:∀(j id:Nat) (b:Block),ids[j]?=some id→f.blocks[j]?=some b→b.term.to≠[]→id≠bid):SpO f ids O.length (spS f) bid (O++[AObj.cells [aI f.name,.os bid f.blocks.length 7]]) where
 up:=fun o ho=>by
  have hbl:=lt_of_getElem? hb.2
  rw [List.length_append,List.length_singleton]
  rcases List.mem_append.1 ho with q | q
  ·exact AObj.upto_mono (by omega) (hup o q)
  rw [List.mem_singleton] at q
  subst q
  exact⟨trivial,show _<_ by omega,trivial⟩
 r1:=at_left h1
 x5:=by
  have:=lt_of_getElem? hb.2
  omega
 xb:=by
  have:=lt_of_getElem? hb.2
  omega
 out:=snoc_get _ _
 bl:=⟨hb.1,by
  have h2:=at_left (X:=[AObj.cells [aI f.name,.os bid f.blocks.length 7]]) hb.2
  have e:blsC ids f.blocks++cellsAll ((spS f).news.map Block.enc)=blsC ids f.blocks:=List.append_nil _
  rw [e]
  exact h2⟩
 li:=hc.li
 w:=spS_w f
 own:=fun j id b l q1 q2 q3 q4=>by
  obtain⟨o1,o2⟩:=hc.own j id b q1 q2 q4
  have:=lt_of_getElem? o2
  unfold spS at q3
  simp only [List.getElem?_map,q2,Option.map_some,Option.some.injEq] at q3
  rw [←q3]
  exact⟨o1,hne j id b q1 q2 q4,by omega,at_left o2⟩
 inj:=hc.inj
theorem SpO.edge{f:Func}{ids:List Nat}{X:Nat}{S:Sp}{bid:Nat}{O:List AObj}(h:SpO f ids X S bid O){k id:Nat}{b:Block}{l m:List Edge}(hid:ids[k]?=some id)(hb:f.blocks[k]?=some b)(hl:S.tos[k]?=some l)(hne:b.term.to≠[])(hm:m.length=l.length) :
  SpO f ids X ⟨S.tos.set k m,S.news⟩ bid (O.set id (.cells (edC m))):=by
 obtain⟨o1,o2,o3,o4⟩:=h.own k id b l hid hb hl hne
 have hil:=lt_of_getElem? o4
 have hx5:=h.x5
 have hb5:=h.bl.1
 exact {
  up:=by
   rw [List.length_set]
   exact uptoO_set h.up (show AObj.upto O.length (.cells (edC m)) from edC_upto _ _)
  r1:=by rw [List.getElem?_set_ne (by omega)];exact h.r1
  x5:=h.x5
  xb:=h.xb
  out:=by rw [List.getElem?_set_ne o3];exact h.out
  bl:=⟨h.bl.1,by rw [List.getElem?_set_ne o2];exact h.bl.2⟩
  li:=h.li
  w:=⟨by rw [List.length_set];exact h.w.len,fun j c x h1 h2=>by
   simp only at h2
   rw [List.getElem?_set] at h2
   split at h2
   ·rename_i e
    subst e
    split at h2
    ·simp only [Option.some.injEq] at h2
     rw [hb] at h1
     simp only [Option.some.injEq] at h1
     rw [←h2,←h1,hm]
     exact h.w.each k b l hb hl
    cases h2
   exact h.w.each j c x h1 h2⟩
  own:=fun j z c x h1 h2 h3 h4=>by
   simp only at h3
   rw [List.getElem?_set] at h3
   by_cases e:k=j
   ·subst e
    rw [hid] at h1
    simp only [Option.some.injEq] at h1
    subst h1
    rw [if_pos rfl] at h3
    split at h3
    ·simp only [Option.some.injEq] at h3
     subst h3
     exact⟨o1,o2,o3,List.getElem?_set_self hil⟩
    cases h3
   rw [if_neg e] at h3
   obtain⟨p1,p2,p3,p4⟩:=h.own j z c x h1 h2 h3 h4
   refine⟨p1,p2,p3,?_⟩
   rw [List.getElem?_set_ne (fun q=>?_)]
   ·exact p4
   subst q
   exact e (h.inj k j id b c hid h1 hb h2 hne h4)
  inj:=h.inj }
theorem SpO.block{f:Func}{ids:List Nat}{X:Nat}{S:Sp}{bid:Nat}{O:List AObj}(h:SpO f ids X S bid O)(c:Block){cs ar:List AVal}(hcs:cs=(blsC ids f.blocks++cellsAll (S.news.map Block.enc))++c.enc.cells)(har:ar=[aI f.name,.os O.length (f.blocks.length+S.news.length+1) 7]) :
  SpO f ids X ⟨S.tos,S.news++[c]⟩ O.length ((O.set bid .gone++[AObj.cells cs]).set X (.cells ar)):=by
 have hXl:=lt_of_getElem? h.out
 have hbl:=lt_of_getElem? h.bl.2
 have hx5:=h.x5
 have hb5:=h.bl.1
 have hxb:=h.xb
 have hkeep:∀j,j<O.length→j≠X→j≠bid→((O.set bid .gone++[AObj.cells cs]).set X (.cells ar))[j]?=O[j]?:=fun j hj h1 h2=>by
  rw [List.getElem?_set_ne (Ne.symm h1),List.getElem?_append_left (by rw [List.length_set];omega),List.getElem?_set_ne (Ne.symm h2)]
 have hce:cellsAll ((S.news++[c]).map Block.enc)=cellsAll (S.news.map Block.enc)++c.enc.cells:=by
  rw [List.map_append]
  simp [cellsAll]
 subst har
 exact {
  up:=by
   intro o ho
   rw [List.length_set,List.length_append,List.length_set,List.length_singleton]
   rcases List.mem_or_eq_of_mem_set ho with q | q
   ·rcases List.mem_append.1 q with q | q
    ·rcases List.mem_or_eq_of_mem_set q with q | q
     ·exact AObj.upto_mono (by omega) (h.up o q)
     subst q
     trivial
    rw [List.mem_singleton] at q
    subst q
    subst hcs
    show uptoL _ _
    have h1:=h.up _ (List.mem_of_getElem? h.bl.2)
    have h2:uptoL O.length (blsC ids f.blocks++cellsAll (S.news.map Block.enc)):=h1
    rw [uptoL_iff] at h2 ⊢
    intro x hx
    rcases List.mem_append.1 hx with q | q
    ·exact AVal.upto_mono (by omega) x (h2 x q)
    have h3:=Block.enc_upto (O.length+1) c
    have h4:uptoL (O.length+1) c.enc.cells:=h3
    exact uptoL_iff.1 h4 x q
   subst q
   exact⟨trivial,show _<_ by omega,trivial⟩
  r1:=by rw [hkeep 1 (lt_of_getElem? h.r1) (by omega) (by omega)];exact h.r1
  x5:=h.x5
  xb:=by omega
  out:=by
   rw [List.getElem?_set_self (by rw [List.length_append,List.length_set];omega),List.length_append]
   rfl
  bl:=⟨by omega,by
   rw [List.getElem?_set_ne (by omega),List.getElem?_append_right (by rw [List.length_set];omega),List.length_set,Nat.sub_self,hce,←List.append_assoc,←hcs]
   rfl⟩
  li:=h.li
  w:=⟨h.w.len,h.w.each⟩
  own:=fun j z b l h1 h2 h3 h4=>by
   obtain⟨p1,p2,p3,p4⟩:=h.own j z b l h1 h2 h3 h4
   have:=lt_of_getElem? p4
   exact⟨p1,by omega,p3,by rw [hkeep z this p3 p2];exact p4⟩
  inj:=h.inj }
theorem blocks_len(bs:List Block):(cellsAll (bs.map Block.enc)).length=bs.length * 7:=by
 induction bs with
 | nil=>rfl
 | cons b r ih =>
  have e:cellsAll ((b::r).map Block.enc)=b.enc.cells++cellsAll (r.map Block.enc):=rfl
  have hb:b.enc.cells.length=7:=rfl
  rw [e,List.length_append,ih,hb,List.length_cons]
  omega
theorem blocks_scalar(bs:List Block):∀d∈cellsAll (bs.map Block.enc),d.scalar:=by
 induction bs with
 | nil=>intro d hd;cases hd
 | cons b r ih =>
  intro d hd
  have e:cellsAll ((b::r).map Block.enc)=b.enc.cells++cellsAll (r.map Block.enc):=rfl
  rw [e] at hd
  rcases List.mem_append.1 hd with q | q
  ·simp only [Block.enc,AVal.cells,List.mem_cons,List.not_mem_nil,or_false] at q
   rcases q with rfl | rfl | rfl | rfl | rfl | rfl | rfl<;>trivial
  exact ih d q
theorem awp_blocks2{P:Program}{kb:Nat}{c:Code}{Q:AEx→St→Prop}{n:Nat}{slots:List (Nat×AVal)}{O:List AObj}{ids:List Nat}{bs T:List Block}{X oid:Nat}{name:Int}
  (hl:ids.length=bs.length) (hX:oid≠X) (hout:O[X]?=some (.cells [aI name,.os oid (bs.length+T.length) 7])) (hlst:O[oid]?=some (.cells (blsC ids bs++cellsAll (T.map Block.enc))))
  (hown:∀(j id:Nat) (b:Block),ids[j]?=some id→bs[j]?=some b→b.term.to≠[]→id≠oid∧id≠X∧O[id]?=some (.cells (edC b.term.to)))
  (hinj:∀(i j id:Nat) (b d:Block),ids[i]?=some id→ids[j]?=some id→bs[i]?=some b→bs[j]?=some d→b.term.to≠[]→d.term.to≠[]→i=j)
  (h:∀O',O'.length=O.length→O'[X]?=some (.cells [aI name,eBlocks (bs++T)])→AWP P kb c Q ⟨n,slots,O'⟩):AWP P kb c Q ⟨n,slots,O⟩:=by
 have hT:=blocks_len T
 refine awp_frzp (A:=oid) (C:=fun i=>mixB i ids bs++cellsAll (T.map Block.enc)) (N:=bs.length) (M:=bs.length * 7+T.length * 7) (fun i=>i * 7+6) (fun i d hd=>by
   rcases List.mem_append.1 hd with q | q
   ·exact mixB_scalar i ids bs d q
   exact blocks_scalar T d q) (fun i=>by rw [List.length_append,mixB_len i hl,hT])
  (fun i O=>O[X]?=some (.cells [aI name,.os oid (bs.length+T.length) 7])∧∀(j id:Nat) (b:Block),i≤j→ids[j]?=some id→bs[j]?=some b→b.term.to≠[]→id≠oid∧id≠X∧O[id]?=some (.cells (edC b.term.to)))
  (fun i O hi hA hf=>?_) bs.length 0 O (by omega) hlst ⟨hout,fun j id b _=>hown j id b⟩ (fun O1 hO1 hA hf=>?_)
 ·have hid:ids[i]?=some (ids[i]'(by omega)):=List.getElem?_eq_getElem _
  have hb:bs[i]?=some (bs[i]'hi):=List.getElem?_eq_getElem _
  generalize ids[i]'(by omega)=id at hid
  generalize bs[i]'hi=b at hb
  obtain⟨m1,m2⟩:=mixB_at i hid hb
  have hml:=lt_of_getElem? m1
  by_cases ht:b.term.to=[]
  ·refine .inl ⟨?_,hf.1,fun j id b hij=>hf.2 j id b (by omega)⟩
   have he:eEdges b.term.to=outE id b.term.to:=by
    rw [ht]
    rfl
   show mixB (i+1) ids bs++_=mixB i ids bs++_
   rw [m2,he]
   congr 1
   apply List.ext_getElem?
   intro j
   rw [List.getElem?_set]
   split
   ·rename_i e
    first | rw [←e,m1] | rw [←e,if_pos (lt_of_getElem? m1),m1]
   rfl
  obtain⟨o1,o2,o3⟩:=hf.2 i id b (Nat.le_refl _) hid hb ht
  refine .inr ⟨id,.cells (edC b.term.to),.os id b.term.to.length 2,eEdges b.term.to,o1,o3,by simp [AObj.isSpare],trivial,?_,?_,FSub.os (cs:=edC b.term.to) o3 (fun x hx=>by obtain⟨e,_,rfl⟩:=List.mem_map.1 hx;rfl) (by simp) (by rw [List.drop_zero,List.take_of_length_le (by rw [edC_len];omega)];exact edC_share _),?_,fun j id' b' hij h1 h2 h3=>?_⟩
  ·show(mixB i ids bs++_)[i * 7+6]?=_
   rw [List.getElem?_append_left hml,m1]
   exact congrArg some (if_neg ht)
  ·show mixB (i+1) ids bs++_=(mixB i ids bs++_).set (i * 7+6) _
   rw [m2,List.set_append_left _ _ hml]
  ·rw [List.getElem?_set_ne (fun e=>hX e),List.getElem?_set_ne (fun e=>o2 e)]
   exact hf.1
  obtain⟨p1,p2,p3⟩:=hf.2 j id' b' (by omega) h1 h2 h3
  refine⟨p1,p2,?_⟩
  rw [List.getElem?_set_ne (fun e=>p1 e.symm),List.getElem?_set_ne (fun e=>?_)]
  ·exact p3
  subst e
  have:=hinj i j id b b' hid h1 hb h2 ht h3
  omega
 have hall:mixB bs.length ids bs++cellsAll (T.map Block.enc)=cellsAll ((bs++T).map Block.enc):=by
  rw [mixB_all hl,List.map_append]
  simp [cellsAll]
 rw [hall] at hA
 refine awp_freeze_in oid hA (by simp [AObj.isSpare]) trivial slots (fun s z hz=>⟨z,hz,.refl z⟩) X (Ne.symm hX) [aI name,.os oid (bs.length+T.length) 7] [aI name,eBlocks (bs++T)] hf.1 rfl (fun d hd=>?_) (fun j a d ha hd=>?_) (h _ (by rw [List.length_set,List.length_set,hO1]) ?_)
 ·simp only [List.mem_cons,List.not_mem_nil,or_false] at hd
  rcases hd with rfl | rfl<;>trivial
 ·match j,ha,hd with
  | 0,ha,hd =>
   simp only [List.getElem?_cons_zero,Option.some.injEq] at ha hd
   subst ha
   subst hd
   exact .refl _
  | 1,ha,hd =>
   simp only [List.getElem?_cons_succ,List.getElem?_cons_zero,Option.some.injEq] at ha hd
   subst ha
   subst hd
   refine FSub.os hA (fun x hx=>?_) (by simp) ?_
   ·obtain⟨b,_,rfl⟩:=List.mem_map.1 hx
    rfl
   have hml:=blocks_len (bs++T)
   rw [List.length_append] at hml
   rw [List.drop_zero,List.take_of_length_le (by omega)]
   exact blocks_share (bs++T)
  | j+2,ha,hd=>simp at ha
 rw [List.getElem?_set_self (by rw [List.length_set];exact lt_of_getElem? hf.1)]
theorem blsC_to{ids:List Nat}{bs:List Block}{T:List AVal}{k id:Nat}{b:Block}(h1:ids[k]?=some id)(h2:bs[k]?=some b):(blsC ids bs++T)[k * 7+6]?=some (outE id b.term.to):=by
 have h3:=blsC_at h1 h2
 have h4:(((blsC ids bs).drop (k * 7)).take 7)[6]?=some (outE id b.term.to):=by
  rw [h3]
  rfl
 rw [List.getElem?_take,if_pos (by omega),List.getElem?_drop] at h4
 rw [List.getElem?_append_left (lt_of_getElem? h4)]
 exact h4
theorem blC_set(id:Nat)(b:Block)(l:List Edge)(h:l.length=b.term.to.length):blC id (setTo b l)=blC id b:=by
 unfold blC setTo outE
 simp only
 by_cases q:b.term.to=[]
 ·rw [if_pos q,if_pos (by rw [q] at h;exact List.length_eq_zero_iff.1 h)]
 rw [if_neg q,if_neg (fun r=>q (by rw [r] at h;exact List.length_eq_zero_iff.1 h.symm)),h]
theorem blsC_set:∀{ids:List Nat} {bs:List Block} {tos:List (List Edge)},tos.length=bs.length→(∀(k:Nat) b l,bs[k]?=some b→tos[k]?=some l→l.length=b.term.to.length)→blsC ids (List.zipWith setTo bs tos)=blsC ids bs
 | [],_,_,_,_=>by simp [blsC]
 | _::_,[],[],_,_=>rfl
 | i::ids,b::bs,l::tos,h,hl=>by
  have e1:blsC (i::ids) (List.zipWith setTo (b::bs) (l::tos))=blC i (setTo b l)++blsC ids (List.zipWith setTo bs tos):=rfl
  have e2:blsC (i::ids) (b::bs)=blC i b++blsC ids bs:=rfl
  rw [e1,e2,blC_set i b l (hl 0 b l rfl rfl),blsC_set (by simpa using h) fun k b l h1 h2=>hl (k+1) b l (by simpa using h1) (by simpa using h2)]
 | _::_,[],_::_,h,_=>by simp at h
 | _::_,_::_,[],h,_=>by simp at h
theorem edC_two{es:List Edge}{n:Nat}{e:Edge}(h:es[n]?=some e):((edC es).drop (n * 2)).take 2=[aI e.block,eIs e.args]:=by
 obtain⟨h1,h2⟩:=edC_at h
 have hl:=lt_of_getElem? h2
 apply List.ext_getElem?
 intro i
 rw [List.getElem?_take]
 by_cases h0:i=0
 ·subst h0
  rw [if_pos (by omega),List.getElem?_drop,Nat.add_zero,h1]
  rfl
 by_cases h3:i=1
 ·subst h3
  rw [if_pos (by omega),List.getElem?_drop,h2]
  rfl
 rw [if_neg (by omega),List.getElem?_eq_none (by simp;omega)]
theorem edC_put{es:List Edge}{n:Nat}(h:n<es.length)(e:Edge):splice (edC es) (n * 2) [aI e.block,eIs e.args]=edC (es.set n e):=by
 have hl:=edC_len es
 have hx:es[n]?=some es[n]:=List.getElem?_eq_getElem h
 have hlen:(edC (es.take n)).length=n * 2:=by rw [edC_len,List.length_take];omega
 have e1:es=es.take n++es[n]::es.drop (n+1):=by rw [←drop_at hx,List.take_append_drop]
 have e2:edC es=edC (es.take n)++(aI es[n].block::eIs es[n].args::edC (es.drop (n+1))):=by
  conv=>lhs;rw [e1]
  rw [edC_append]
  rfl
 have e3:edC (es.set n e)=edC (es.take n)++(aI e.block::eIs e.args::edC (es.drop (n+1))):=by
  have:es.set n e=es.take n++e::es.drop (n+1):=by
   conv=>lhs;rw [e1]
   rw [List.set_append_right _ _ (by rw [List.length_take];omega),List.length_take,show n - min n es.length=0 by omega]
   rfl
  rw [this,edC_append]
  rfl
 rw [e3]
 apply List.ext_getElem?
 intro i
 rw [splice_get (by rw [hl];simp;omega),e2]
 simp only [List.length_cons,List.length_nil]
 by_cases h1:i<n * 2
 ·rw [if_neg (by omega),List.getElem?_append_left (by omega),List.getElem?_append_left (by omega)]
 by_cases h2:i<n * 2+2
 ·rw [if_pos (by omega),List.getElem?_append_right (by omega),hlen]
  rcases (show i=n * 2∨i=n * 2+1 by omega) with q | q
  ·subst q
   rw [Nat.sub_self]
   rfl
  subst q
  rw [show n * 2+1 - n * 2=1 by omega]
  rfl
 rw [if_neg (by omega),List.getElem?_append_right (by omega),List.getElem?_append_right (by omega),hlen]
 obtain⟨j,hj⟩:∃j,i - n * 2=j+2:=⟨i - n * 2 - 2,by omega⟩
 rw [hj]
 rfl
theorem edC_scalar(es:List Edge):∀d∈edC es,d.scalar:=fun d hd=>by
 simp only [edC,List.mem_flatMap] at hd
 obtain⟨e,_,hd⟩:=hd
 simp only [List.mem_cons,List.not_mem_nil,or_false] at hd
 rcases hd with rfl | rfl<;>trivial
theorem sub_splice{O:List AObj}{cs xs ys:List AVal}{i:Nat}(hl:xs.length=ys.length)(hi:i+xs.length≤cs.length)(h:∀(j:Nat) c d,xs[j]?=some c→ys[j]?=some d→Sub O c d)(j:Nat)(c d:AVal)(h1:(splice cs i xs)[j]?=some c)(h2:(splice cs i ys)[j]?=some d):Sub O c d:=by
 rw [splice_get hi] at h1
 rw [splice_get (by omega)] at h2
 rw [←hl] at h2
 split at h1
 ·rename_i q
  rw [if_pos q] at h2
  exact h _ c d h1 h2
 rename_i q
 rw [if_neg q,h1] at h2
 simp only [Option.some.injEq] at h2
 rw [h2]
 exact .refl _
end Go.Proofs.Ytkhnjeblbiocaaa
namespace Go.Av
theorem cert_append_mm{P:Program}{tab:Tab}(hT:TabOK P tab){o:Oper}{σ:St}{t e:TypeId}{x y:Operand}{ti te:TInfo}{id h c off n d:Nat}{cs:List AVal}
  (ho:o.op=.call ⟨.builtin .append,#[x,y],#[t,t]⟩) (hd:∀d,o.dst=some d→d<σ.n) (ht:tab t=some ti) (hdesc:ti.desc=.slice e) (he:tab e=some te) (hx:σ.ev x=some (.ms id 0 h c)) (hob:σ.objs[id]?=some (.cells cs)) (hy:σ.ev y=some (.ms id off n d))
  (hroom:h+n≤c) (hin:(h+n) * te.size≤cs.length) (hoff:off+n * te.size≤cs.length) (h62:h+n≤2 ^ 62) :
  Cert P o σ (.ms id 0 (h+n) c) (.write (σ.objs.set id (.cells (splice cs (h * te.size) ((cs.drop off).take (n * te.size)))))) :=
 Cert.ofRun hd fun base σ' a g hrel hh ho'=>by
  have hO:g.objs=σ.objs:=ho'.resolve_left (by simp)
  have hg:=hrel.good
  have hu:=slice_desc hT ht hdesc
  have hx':=hh x (by simp [ho,Op.operands,Call.operands]) _ hx
  have hy':=hh y (by simp [ho,Op.operands,Call.operands]) _ hy
  obtain⟨l,o1,q1,q2,q3,hlc,hmax,cap',hcap,eu⟩:=hx'.ms_inv
  obtain⟨l2,o2,p1,p2,p3,hlc2,hmax2,cap2,hcap2,ey⟩:=hy'.ms_inv
  rw [q1] at p1
  simp only [Option.some.injEq] at p1
  subst p1
  obtain⟨⟨i,z,h1,h2,h3,h4,h5,h6,h7,h8,h9⟩,_⟩:=hT e te he
  have hob':g.objs[id]?=some (.cells cs):=by rw [hO];exact hob
  obtain⟨arr,t',hlo,hrow,hlen,hcs,hcsc,hlsz⟩:=hg.row hob' q1
  have hexec:=run_builtin1 (P:=P) ho a g.w
  simp only [builtin,List.map_toArray,List.map_cons,List.map_nil] at hexec
  obtain⟨m,hm⟩:∃m,m=n * te.size:=⟨_,rfl⟩
  obtain⟨ys,hys⟩:∃ys,ys=(cs.drop off).take m:=⟨_,rfl⟩
  obtain⟨news,hnews⟩:∃news,news=(arr.toList.drop off).take m:=⟨_,rfl⟩
  have hmul:(h+n) * te.size=h * te.size+m:=by rw [Nat.add_mul,hm]
  rw [hmul] at hin
  rw [←hm] at hoff ⊢
  rw [←hys]
  have hnl:news.length=m:=by
   rw [hnews,List.length_take,List.length_drop,Array.length_toList]
   omega
  have hyl:ys.length=m:=by
   rw [hys,List.length_take,List.length_drop]
   omega
  have hyr:RVs g ys news.toArray:=by
   refine⟨by simp [hnl,hyl],fun j b u hj hu=>?_⟩
   have hlt:=lt_of_getElem? hj
   rw [hys,List.getElem?_take,if_pos (by omega),List.getElem?_drop] at hj
   refine hcs (off+j) b u hj ?_
   simp only [List.getElem?_toArray,hnews] at hu
   rw [List.getElem?_take,if_pos (by omega),List.getElem?_drop] at hu
   simpa using hu
  have hysc:∀b∈ys,b.scalar:=fun b hb=>by
   rw [hys] at hb
   exact hcsc b (List.mem_of_mem_drop (List.mem_of_mem_take hb))
  have hload:(Builtin.firstCells i.size n (a.eval y)).run P g.w=.ok news.toArray g.w:=by
   rw [ey,h2]
   simp only [Builtin.firstCells]
   rw [←hm]
   have:=run_loadCells (P:=P) g.w ⟨l.block,off,none⟩ m (fun j=>arr.getD (off+j) undef) (fun j hj=>by
    rw [addr_add]
    have:g.w.cell? ⟨l.block,off+j,none⟩=arr[off+j]?:=cell_of_row (w:=g.w) hrow (off+j)
    rw [this]
    simp [Array.getD_eq_getD_getElem?,show off+j<arr.size by omega])
   rw [list_eq_range news m _ hnl (fun j hj=>by
    rw [hnews,List.getElem?_take,if_pos hj,List.getElem?_drop]
    simp [Array.getD_eq_getD_getElem?,show off+j<arr.size by omega])] at this
   exact this
  obtain⟨arr',harr'⟩:∃arr',arr'=(arr.toList.take (h * te.size)++news++arr.toList.drop (h * te.size+news.length)).toArray:=⟨_,rfl⟩
  have hst:=run_storeCells_at P l.block (h * te.size) t' news 0 arr g.w hrow (by rw [hnl];omega) (fun u hu=>by
   obtain⟨j,hj⟩:=List.getElem?_of_mem hu
   have hlt:=lt_of_getElem? hj
   rw [hnl,←hyl] at hlt
   have hc:=List.getElem?_eq_getElem hlt
   exact((hyr.2 j _ u hc (by simpa using hj)).scalar_cell (hysc _ (List.mem_of_getElem? hc))).1)
  simp only [Nat.add_zero] at hst
  rw [←harr'] at hst
  have hrun:=run_append_in (P:=P) g.w (g.w.setRow l.block arr') t o.type e i hu h1 ⟨l.block,0,none⟩ h cap' n (a.eval y) news (fun w=>by rw [ey];simp [Builtin.lenOf]) hload (by omega) (by rw [addr_add,h2,Nat.zero_add];exact hst)
  rw [←eu] at hrun
  have hturn:=turns_cells (cs':=splice cs (h * te.size) ys) hob' q1 hlo arr'
  have hle:=Le.turn hg hturn
  have hsp:=RVs.splice ⟨hlen,hcs⟩ hyr (off:=h * te.size) (by rw [hyl];omega)
  rw [←harr'] at hsp
  have hlt:=lt_of_getElem? hob'
  have hlt2:=env_lt hg hob'
  refine⟨.slice (some ⟨l.block,0,none⟩) (h+n) cap',g.turn id (some l) (.cells (splice cs (h * te.size) ys)) (g.w.setRow l.block arr'),?_,hle,Good.turn hg hturn ?_ ?_,?_,?_⟩
  ·refine .inl ?_
   rw [hexec]
   simp [hrun,G.turn]
  ·refine⟨l,arr',t',rfl,hlo,?_,hsp.1,fun j c u a b=>(hsp.2 j c u a b).mono hle,fun c hc=>?_,?_⟩
   ·exact setRow_heap g.w l.block arr arr' t' (0,0) hrow
   ·simp only [splice,List.mem_append] at hc
    rcases hc with hc | hc | hc
    ·exact hcsc c (List.mem_of_mem_take hc)
    ·exact hysc c hc
    exact hcsc c (List.mem_of_mem_drop hc)
   rw [harr']
   simp only [List.size_toArray,List.length_append,List.length_take,List.length_drop,Array.length_toList]
   omega
  ·intro l1 h1 _
   simp only [Option.some.injEq] at h1
   subst h1
   rw [setRow_size]
   exact lt_of_getElem?' hrow
  ·simp only [G.turn,Mode.post,hO]
  refine .ms (l:=l) (o:=.cells (splice cs (h * te.size) ys)) ?_ ?_ (by simp [AObj.isSpare]) hroom hcap h62
  ·simp only [G.turn]
   rw [List.getElem?_set_self hlt2]
  simp only [G.turn]
  rw [List.getElem?_set_self hlt]
theorem cert_slice_end{P:Program}{tab:Tab}(hT:TabOK P tab){o:Oper}{σ:St}{t e:TypeId}{x q:Operand}{ti te:TInfo}{id off len cap:Nat}{k:IntKind}
  (ho:o.op=.slice t x (some q) none none) (hd:∀d,o.dst=some d→d<σ.n) (ht:tab t=some ti) (hdesc:ti.desc=.slice e) (he:tab e=some te) (hx:σ.ev x=some (.ms id off len cap))
  (hq:σ.ev q=some (.v (.int k (len:Int)))):Cert P o σ (.lst te.size [] .sh) .pure :=
 Cert.ofQuiet .pure (.inl rfl) hd fun a g _ hh _=>by
  have hu:=slice_desc hT ht hdesc
  have hx':=hh x (by simp [ho,Op.operands]) _ hx
  have hl:=(hh q (by simp [ho,Op.operands]) _ hq).v_inv.1
  have hexec:execOp a.eval o=(do pure (.value (←Instr.sliceAt t (a.eval x) (some (a.eval q)) none none))):=by
   simp [execOp,ho]
  obtain⟨lc,o1,q1,q2,q3,hlc,hmax,cap',hcap,eu⟩:=hx'.ms_inv
  have bounds:(Instr.sliceBounds true len cap' (some (a.eval q)) none none).run P g.w=.ok (len,len,cap') g.w:=by
   have e2:=run_sliceBound (P:=P) k len len .sliceB g.w (by omega) (by omega)
   simp [Instr.sliceBounds,hl,e2]
  have hsize:=(hT e te he).sizeOf g.w
  refine⟨.slice (some (if cap'=len then ⟨lc.block,off,none⟩ else ((⟨lc.block,off,none⟩:Addr).add (len * te.size)))) 0 (cap' - len),?_,?_⟩
  ·rw [hexec]
   by_cases hc:cap'=len
   ·subst hc
    simp [Instr.sliceAt,run_underlying hu,Instr.slice,eu,bounds,hsize]
   simp [Instr.sliceAt,run_underlying hu,Instr.slice,eu,bounds,hsize,hc]
  have:RV g (.lst te.size [] .sh) (.slice (some (if cap'=len then ⟨lc.block,off,none⟩ else ((⟨lc.block,off,none⟩:Addr).add (len * te.size)))) ([]:List AVal).length (cap' - len)) :=
   .lst (fun x hx=>by cases hx) (fun x hx=>by cases hx) (by simp) (by simp) (fun h=>absurd rfl h) (fun _=>undef) (fun j c hc=>by simp [cellsAll] at hc) (fun j c hc=>by simp [cellsAll] at hc) trivial
  exact this
theorem cert_slice3{P:Program}{tab:Tab}(hT:TabOK P tab){o:Oper}{σ:St}{t e:TypeId}{x ql qh qm:Operand}{ti te:TInfo}{id off len cap l h m:Nat}{k k' k'':IntKind}
  (ho:o.op=.slice t x (some ql) (some qh) (some qm)) (hd:∀d,o.dst=some d→d<σ.n) (ht:tab t=some ti) (hdesc:ti.desc=.slice e) (he:tab e=some te) (hx:σ.ev x=some (.ms id off len cap))
  (hql:σ.ev ql=some (.v (.int k (l:Int)))) (hqh:σ.ev qh=some (.v (.int k' (h:Int)))) (hqm:σ.ev qm=some (.v (.int k'' (m:Int)))) (h1:l≤h) (h2:h≤m) (h3:m≤cap) (h4:l<m) (h62:m≤2 ^ 62):Cert P o σ (.ms id (off+l * te.size) (h - l) (m - l)) .pure :=
 Cert.ofQuiet .pure (.inl rfl) hd fun a g _ hh _=>by
  have hu:=slice_desc hT ht hdesc
  have hx':=hh x (by simp [ho,Op.operands]) _ hx
  have el:=(hh ql (by simp [ho,Op.operands]) _ hql).v_inv.1
  have eh:=(hh qh (by simp [ho,Op.operands]) _ hqh).v_inv.1
  have em:=(hh qm (by simp [ho,Op.operands]) _ hqm).v_inv.1
  have hexec:execOp a.eval o=(do pure (.value (←Instr.sliceAt t (a.eval x) (some (a.eval ql)) (some (a.eval qh)) (some (a.eval qm))))):=by
   simp [execOp,ho]
  obtain⟨lc,o1,q1,q2,q3,hlc,hmax,cap',hcap,eu⟩:=hx'.ms_inv
  have bounds:(Instr.sliceBounds true len cap' (some (a.eval ql)) (some (a.eval qh)) (some (a.eval qm))).run P g.w=.ok (l,h,m) g.w:=by
   have e1:=run_sliceBound (P:=P) k'' m cap' .slice3Acap g.w (by omega) (by omega)
   have e2:=run_sliceBound (P:=P) k' h m .slice3B g.w (by omega) (by omega)
   have e3:=run_sliceBound (P:=P) k l h .slice3C g.w (by omega) (by omega)
   simp [Instr.sliceBounds,el,eh,em,e1,e2,e3]
  have hsize:=(hT e te he).sizeOf g.w
  refine⟨.slice (some ((⟨lc.block,off,none⟩:Addr).add (l * te.size))) (h - l) (m - l),?_,?_⟩
  ·rw [hexec]
   simp [Instr.sliceAt,run_underlying hu,Instr.slice,eu,bounds,hsize,show m≠l by omega]
  rw [addr_add]
  exact .ms q1 q2 q3 (by omega) (by omega) (by omega)
end Go.Av
namespace Go.Proofs.Ytkhnjeblbiocaaa
open Go.Av
abbrev Mv:=Int×Int
abbrev eM(p:Mv):AVal:=.agg [aI p.1,aI p.2]
def mC(l:List Mv):List AVal:=l.flatMap fun p=>[aI p.1,aI p.2]
theorem mC_len(l:List Mv):(mC l).length=l.length * 2:=by
 unfold mC
 induction l with
 | nil=>rfl
 | cons p r ih =>
  rw [List.flatMap_cons,List.length_append,ih]
  show 2+r.length * 2=(r.length+1) * 2
  omega
theorem mC_app(l m:List Mv):mC (l++m)=mC l++mC m:=List.flatMap_append ..
theorem mC_cons(p:Mv)(m:List Mv):mC (p::m)=aI p.1::aI p.2::mC m:=rfl
theorem mC_cells(l:List Mv):cellsAll (l.map eM)=mC l:=by
 unfold mC cellsAll
 rw [List.flatMap_map]
 rfl
theorem mC_split{l:List Mv}{k:Nat}{p:Mv}(h:l[k]?=some p):mC l=mC (l.take k)++(aI p.1::aI p.2::mC (l.drop (k+1))):=by
 obtain⟨hk,e⟩:=List.getElem?_eq_some_iff.1 h
 have:l=l.take k++(p::l.drop (k+1)):=by rw [←e,←List.drop_eq_getElem_cons hk,List.take_append_drop]
 rw [←mC_cons,←mC_app,←this]
theorem mC_at{l:List Mv}{k:Nat}{p:Mv}(h:l[k]?=some p)(J:List AVal):((mC l++J).drop (k * 2)).take 2=[aI p.1,aI p.2]∧(mC l++J)[k * 2]?=some (aI p.1)∧(mC l++J)[k * 2+1]?=some (aI p.2):=by
 have hk:=(List.getElem?_eq_some_iff.1 h).1
 have hl:(mC (l.take k)).length=k * 2:=by rw [mC_len,List.length_take];omega
 rw [mC_split h,List.append_assoc]
 have e:((mC (l.take k)++(aI p.1::aI p.2::mC (l.drop (k+1))++J)).drop (k * 2))=aI p.1::aI p.2::mC (l.drop (k+1))++J:=by rw [←hl,List.drop_left]
 have g:∀i,(mC (l.take k)++(aI p.1::aI p.2::mC (l.drop (k+1))++J))[k * 2+i]?=(aI p.1::aI p.2::mC (l.drop (k+1))++J)[i]?:=fun i=>(List.getElem?_drop ..).symm.trans (by rw [e])
 exact⟨by rw [e];rfl,g 0,g 1⟩
theorem mC_set{l:List Mv}{k:Nat}{p:Mv}(h:l[k]?=some p)(q:Mv)(J:List AVal):splice (mC l++J) (k * 2) [aI q.1,aI q.2]=mC (l.set k q)++J:=by
 have hk:=(List.getElem?_eq_some_iff.1 h).1
 have hl:(mC (l.take k)).length=k * 2:=by rw [mC_len,List.length_take];omega
 have hs:(l.set k q)[k]?=some q:=List.getElem?_set_self hk
 have h1:(l.set k q).take k=l.take k:=by
  apply List.ext_getElem?
  intro i
  simp only [List.getElem?_take,List.getElem?_set]
  split
  ·rw [if_neg (by omega)]
  rfl
 have h2:(l.set k q).drop (k+1)=l.drop (k+1):=by
  apply List.ext_getElem?
  intro i
  simp only [List.getElem?_drop,List.getElem?_set]
  rw [if_neg (by omega)]
 rw [mC_split h,mC_split hs,h1,h2]
 unfold splice
 rw [List.append_assoc,←hl,List.take_left]
 simp only [List.length_cons,List.length_nil]
 rw [List.drop_length_add_append]
 simp
theorem mC_set2{l:List Mv}{k:Nat}{p:Mv}(h:l[k]?=some p)(v:Int)(J:List AVal):splice (mC l++J) (k * 2+1) [aI v]=mC (l.set k (p.1,v))++J:=by
 rw [←mC_set h (p.1,v) J]
 obtain⟨h1,h2,h3⟩:=mC_at h J
 have hk:=(List.getElem?_eq_some_iff.1 h).1
 have hl:(mC (l.take k)).length=k * 2:=by rw [mC_len,List.length_take];omega
 rw [mC_split h,List.append_assoc]
 unfold splice
 simp only [List.length_cons,List.length_nil]
 rw [←hl,List.take_left,List.take_length_add_append,List.drop_length_add_append,show(mC (l.take k)).length+1+(0+1)=(mC (l.take k)).length+2 by omega,List.drop_length_add_append]
 simp
theorem setM_same{α:Type}{l:List α}{j:Nat}{v:α}(h:l[j]?=some v):l.set j v=l:=by
 apply List.ext_getElem?
 intro i
 rw [List.getElem?_set]
 split
 ·rename_i e
  rw [←e,if_pos (lt_of_getElem? h),h]
 rfl
def idxFrom(q:Mv→Bool):List Mv→Nat→Int
 | [],_=>-1
 | x::r,k=>if q x then (k:Int) else idxFrom q r (k+1)
def idxM(q:Mv→Bool)(l:List Mv):Int:=idxFrom q l 0
theorem idxFrom_spec(q:Mv→Bool):∀(l:List Mv) (k:Nat),(idxFrom q l k=-1∧∀x∈l,q x=false)∨∃(j:Nat) (x:Mv),idxFrom q l k=((k+j:Nat):Int)∧l[j]?=some x∧q x=true∧∀y∈l.take j,q y=false
 | [],k=>.inl ⟨rfl,fun x hx=>by cases hx⟩
 | a::r,k=>by
  cases hq:q a with
  | true =>
   refine .inr ⟨0,a,?_,rfl,hq,fun y hy=>by cases hy⟩
   rw [idxFrom,if_pos hq]
   rfl
  | false =>
   rw [idxFrom,if_neg (by simp [hq])]
   rcases idxFrom_spec q r (k+1) with⟨h1,h2⟩ | ⟨j,x,h1,h2,h3,h4⟩
   ·refine .inl ⟨h1,fun x hx=>?_⟩
    rcases List.mem_cons.1 hx with e | e
    ·rw [e];exact hq
    exact h2 x e
   refine .inr ⟨j+1,x,by rw [h1];congr 1;omega,h2,h3,fun y hy=>?_⟩
   rw [List.take_succ_cons] at hy
   rcases List.mem_cons.1 hy with e | e
   ·rw [e];exact hq
   exact h4 y e
theorem idxM_spec(q:Mv→Bool)(l:List Mv):(idxM q l=-1∧∀x∈l,q x=false)∨∃(j:Nat) (x:Mv),idxM q l=(j:Int)∧l[j]?=some x∧q x=true∧∀y∈l.take j,q y=false:=by
 rcases idxFrom_spec q l 0 with h | ⟨j,x,h1,h2⟩
 ·exact .inl h
 exact .inr ⟨j,x,by rw [Nat.zero_add] at h1;exact h1,h2⟩
theorem idxM_any(q:Mv→Bool)(l:List Mv):decide (0≤idxM q l)=l.any q:=by
 rcases idxM_spec q l with⟨h1,h2⟩ | ⟨j,x,h1,h2,h3,_⟩
 ·rw [h1,List.any_eq_false.2 fun x hx=>by simp [h2 x hx]]
  rfl
 rw [h1,List.any_eq_true.2 ⟨x,List.mem_of_getElem? h2,h3⟩]
 exact decide_eq_true (by omega)
def dropQ(l:List Mv):List Mv:=l.filter fun x=>!decide (x.1=x.2)
def freeQ(left:List Mv)(x:Mv):Bool:=!left.any fun y=>decide (y.2=x.1)
def breakQ(v spare:Int)(y:Mv):Mv:=if y.2=v then (y.1,spare) else y
def seqStep(spare:Int)(left:List Mv):List Mv×List Mv :=
 match left with
 | []=>([],[])
 | x0::r =>
  if idxM (freeQ left) left<0 then (((x0::r).map (breakQ x0.1 spare)).tail,[(spare,x0.1),breakQ x0.1 spare x0])
  else ((x0::r).eraseIdx (idxM (freeQ left) left).toNat,[((x0::r)[(idxM (freeQ left) left).toNat]?).getD (0,0)])
def seqRun(spare:Int):Nat→List Mv→List Mv
 | 0,_=>[]
 | n+1,left=>if left=[] then [] else (seqStep spare left).2++seqRun spare n (seqStep spare left).1
def seqM(l:List Mv)(spare:Int):List Mv:=seqRun spare l.length (dropQ l)
def blC2(sid tid:Nat)(b:Block):List AVal:=[eIs b.params,.lst 4 (b.ins.map Ins.enc) (.tok sid),aI b.term.kind,aI b.term.arg,aI b.term.n,eIs b.term.cases,outX tid b.term.to]
def blsC2:List Nat→List Nat→List Block→List AVal
 | s::ss,t::ids,b::bs=>blC2 s t b++blsC2 ss ids bs
 | _,_,_=>[]
theorem blC2_upto{n sid tid:Nat}(b:Block)(hs:sid<n)(h:b.term.to≠[]→tid<n):uptoL n (blC2 sid tid b):=by
 refine⟨⟨aI_upto _ _,trivial⟩,⟨Ins.map_upto _ _,hs⟩,trivial,trivial,trivial,⟨aI_upto _ _,trivial⟩,?_,trivial⟩
 unfold outX
 split
 ·exact⟨trivial,trivial⟩
 rename_i q
 exact h q
theorem blsC2_upto{n:Nat}:∀{ss ids:List Nat} {bs:List Block},(∀(j id:Nat) (b:Block),ids[j]?=some id→bs[j]?=some b→b.term.to≠[]→id<n)→(∀s∈ss,s<n)→uptoL n (blsC2 ss ids bs)
 | [],_,_,_,_=>trivial
 | _::_,[],_,_,_=>trivial
 | _::_,_::_,[],_,_=>trivial
 | s::ss,t::ids,b::bs,h,hs=>by
  rw [blsC2,uptoL_iff]
  intro x hx
  rcases List.mem_append.1 hx with q | q
  ·exact uptoL_iff.1 (blC2_upto b (hs s List.mem_cons_self) (h 0 t b rfl rfl)) x q
  exact uptoL_iff.1 (blsC2_upto (fun j id b h1 h2=>h (j+1) id b h1 h2) (fun s hs'=>hs s (List.mem_cons_of_mem _ hs'))) x q
theorem blsC2_snoc{ss ids:List Nat}{bs:List Block}(h1:ss.length=bs.length)(h2:ids.length=bs.length)(s t:Nat)(b:Block):blsC2 (ss++[s]) (ids++[t]) (bs++[b])=blsC2 ss ids bs++blC2 s t b:=by
 induction bs generalizing ss ids with
 | nil =>
  rw [List.length_eq_zero_iff.1 h1,List.length_eq_zero_iff.1 h2]
  simp [blsC2]
 | cons d bs ih =>
  cases ss with
  | nil=>simp at h1
  | cons a ss =>
   cases ids with
   | nil=>simp at h2
   | cons c ids=>rw [List.cons_append,List.cons_append,List.cons_append,blsC2,blsC2,ih (by simpa using h1) (by simpa using h2),List.append_assoc]
theorem blsC2_len{ss ids:List Nat}{bs:List Block}(h1:ss.length=bs.length)(h2:ids.length=bs.length):(blsC2 ss ids bs).length=bs.length * 7:=by
 induction bs generalizing ss ids with
 | nil =>
  rw [List.length_eq_zero_iff.1 h1]
  rfl
 | cons d bs ih =>
  cases ss with
  | nil=>simp at h1
  | cons a ss =>
   cases ids with
   | nil=>simp at h2
   | cons c ids =>
    rw [blsC2,List.length_append,ih (by simpa using h1) (by simpa using h2),List.length_cons]
    show 7+_=_
    omega
structure CpS2(f:Func)(done:List Block)(bid:Nat)(ids ss:List Nat)(O:List AObj):Prop where
 up:∀o∈O,o.upto O.length
 r0:O[0]?=some .gone
 r1:O[1]?=some (.cells [aI 0,.lst 7 [] .ex])
 r3:O[3]?=some (.cells [aI 0,.lst 7 [] .ex])
 out:O[4]?=some (.cells [aI f.name,outBl bid done])
 blk:done≠[]→5≤bid∧O[bid]?=some (.cells (blsC2 ss ids done))
 cp:CpO 5 ids done O
 ne:∀(j id:Nat) (b:Block),ids[j]?=some id→done[j]?=some b→b.term.to≠[]→id≠bid
 ls:ss.length=done.length
 sp:∀(j s:Nat) (c:Block),ss[j]?=some s→done[j]?=some c→5≤s∧O[s]?=some (.spare c.ins.length)
 injs:∀(i j s:Nat),ss[i]?=some s→ss[j]?=some s→i=j
theorem CpS2.snoc{f:Func}{done:List Block}{bid:Nat}{ids ss:List Nat}{O O1:List AObj}(h:CpS2 f done bid ids ss O){b:Block}{tid sid:Nat}(hsd:O.length≤sid∧O1[sid]?=some (.spare b.ins.length))(hlen:O.length≤O1.length)(hup:∀o∈O1,o.upto O1.length)
  (hsame:∀k,k<O.length→(done≠[]→k≠bid)→O1[k]?=O[k]?) (ht:b.term.to≠[]→O.length≤tid∧O1[tid]?=some (.cells (edC b.term.to))) {cs ar:List AVal} (hcs:cs=blsC2 (ss++[sid]) (ids++[tid]) (done++[b])) (har:ar=[aI f.name,.os O1.length (done.length+1) 7]) :
  CpS2 f (done++[b]) O1.length (ids++[tid]) (ss++[sid]) ((O1++[AObj.cells cs]).set 4 (.cells ar)):=by
 have h4:=lt_of_getElem? h.out
 have hli:=h.cp.li
 have hkeep:∀k,k<O.length→k≠4→(done≠[]→k≠bid)→((O1++[AObj.cells cs]).set 4 (.cells ar))[k]?=O[k]?:=fun k hk hk4 hkb=>by
  rw [List.getElem?_set_ne (Ne.symm hk4),List.getElem?_append_left (by omega),hsame k hk hkb]
 have hb5:done≠[]→5≤bid:=fun q=>(h.blk q).1
 have hids:∀(j id:Nat) (c:Block),(ids++[tid])[j]?=some id→(done++[b])[j]?=some c→(ids[j]?=some id∧done[j]?=some c)∨(j=ids.length∧id=tid∧c=b):=fun j id c h1 h2=>by
  by_cases hj:j<ids.length
  ·rw [List.getElem?_append_left hj] at h1
   rw [List.getElem?_append_left (by omega)] at h2
   exact .inl ⟨h1,h2⟩
  have hj1:=lt_of_getElem? h1
  rw [List.length_append,List.length_singleton] at hj1
  have hje:j=ids.length:=by omega
  subst hje
  rw [List.getElem?_append_right (Nat.le_refl _),Nat.sub_self] at h1
  rw [List.getElem?_append_right (by omega),←hli,Nat.sub_self] at h2
  simp only [List.getElem?_cons_zero,Option.some.injEq] at h1 h2
  exact .inr ⟨rfl,h1.symm,h2.symm⟩
 have hdn:∀(j id:Nat) (c:Block),ids[j]?=some id→done[j]?=some c→c.term.to≠[]→5≤id∧id<O.length∧O1[id]?=some (.cells (edC c.term.to)):=fun j id c h1 h2 h3=>by
  obtain⟨o1,o2⟩:=h.cp.own j id c h1 h2 h3
  have hl:=lt_of_getElem? o2
  refine⟨o1,hl,?_⟩
  rw [hsame id hl (fun _=>h.ne j id c h1 h2 h3)]
  exact o2
 have hown:∀(j id:Nat) (c:Block),(ids++[tid])[j]?=some id→(done++[b])[j]?=some c→c.term.to≠[]→5≤id∧id<O1.length∧O1[id]?=some (.cells (edC c.term.to)):=fun j id c h1 h2 h3=>by
  rcases hids j id c h1 h2 with⟨q1,q2⟩ | ⟨_,q2,q3⟩
  ·obtain⟨p1,p2,p3⟩:=hdn j id c q1 q2 h3
   exact⟨p1,by omega,p3⟩
  rw [q3] at h3 ⊢
  rw [q2]
  obtain⟨t1,t2⟩:=ht h3
  exact⟨by omega,lt_of_getElem? t2,t2⟩
 have hlsd:=h.ls
 have hss:∀(j s:Nat) (c:Block),(ss++[sid])[j]?=some s→(done++[b])[j]?=some c→(ss[j]?=some s∧done[j]?=some c)∨(j=ss.length∧s=sid∧c=b):=fun j id c h1 h2=>by
  by_cases hj:j<ss.length
  ·rw [List.getElem?_append_left hj] at h1
   rw [List.getElem?_append_left (by omega)] at h2
   exact .inl ⟨h1,h2⟩
  have hj1:=lt_of_getElem? h1
  rw [List.length_append,List.length_singleton] at hj1
  have hje:j=ss.length:=by omega
  subst hje
  rw [List.getElem?_append_right (Nat.le_refl _),Nat.sub_self] at h1
  rw [List.getElem?_append_right (by omega),←hlsd,Nat.sub_self] at h2
  simp only [List.getElem?_cons_zero,Option.some.injEq] at h1 h2
  exact .inr ⟨rfl,h1.symm,h2.symm⟩
 have hso:∀(j s:Nat) (c:Block),ss[j]?=some s→done[j]?=some c→5≤s∧s<O.length∧O1[s]?=some (.spare c.ins.length):=fun j s c h1 h2=>by
  obtain⟨o1,o2⟩:=h.sp j s c h1 h2
  have hl:=lt_of_getElem? o2
  refine⟨o1,hl,?_⟩
  rw [hsame s hl (fun q e=>by
   have:=(h.blk q).2
   rw [←e,o2] at this
   simp at this)]
  exact o2
 have hsl:∀s∈ss++[sid],s<O1.length:=fun s hs=>by
  rcases List.mem_append.1 hs with q | q
  ·obtain⟨j,hj⟩:=List.mem_iff_getElem?.1 q
   have hjl:=lt_of_getElem? hj
   have hd:done[j]?=some (done[j]'(by omega)):=List.getElem?_eq_getElem _
   have:=(hso j s _ hj hd).2.1
   omega
  rw [List.mem_singleton.1 q]
  exact lt_of_getElem? hsd.2
 subst hcs
 subst har
 exact {
  up:=by
   intro o ho
   rw [List.length_set,List.length_append,List.length_singleton]
   rcases List.mem_or_eq_of_mem_set ho with q | q
   ·rcases List.mem_append.1 q with q | q
    ·exact AObj.upto_mono (by omega) (hup o q)
    rw [List.mem_singleton] at q
    subst q
    exact blsC2_upto (fun j id c h1 h2 h3=>by
     have:=(hown j id c h1 h2 h3).2.1
     omega) (fun s hs=>by
     have:=hsl s hs
     omega)
   subst q
   exact⟨trivial,show _<_ by omega,trivial⟩
  r0:=by rw [hkeep 0 (lt_of_getElem? h.r0) (by omega) (fun q=>by have:=hb5 q;omega)];exact h.r0
  r1:=by rw [hkeep 1 (lt_of_getElem? h.r1) (by omega) (fun q=>by have:=hb5 q;omega)];exact h.r1
  r3:=by rw [hkeep 3 (lt_of_getElem? h.r3) (by omega) (fun q=>by have:=hb5 q;omega)];exact h.r3
  out:=by
   rw [List.getElem?_set_self (by rw [List.length_append];omega)]
   have:outBl O1.length (done++[b])=.os O1.length (done.length+1) 7:=by
    unfold outBl
    rw [if_neg (by simp),List.length_append]
    rfl
   rw [this]
  blk:=fun _=>by
   refine⟨by omega,?_⟩
   rw [List.getElem?_set_ne (by omega),List.getElem?_append_right (Nat.le_refl _),Nat.sub_self]
   rfl
  cp:={
   li:=by rw [List.length_append,List.length_append,hli];rfl
   own:=fun j id c h1 h2 h3=>by
    obtain⟨p1,p2,p3⟩:=hown j id c h1 h2 h3
    refine⟨p1,?_⟩
    rw [List.getElem?_set_ne (by omega),List.getElem?_append_left p2]
    exact p3
   inj:=fun i j id c d h1 h2 h3 h4 h5 h6=>by
    rcases hids i id c h1 h3 with⟨p1,p2⟩ | ⟨p1,p2,p3⟩
    ·rcases hids j id d h2 h4 with⟨q1,q2⟩ | ⟨q1,q2,q3⟩
     ·exact h.cp.inj i j id c d p1 q1 p2 q2 h5 h6
     have:=(hdn i id c p1 p2 h5).2.1
     rw [q3] at h6
     have:=(ht h6).1
     omega
    rcases hids j id d h2 h4 with⟨q1,q2⟩ | ⟨q1,q2,q3⟩
    ·have:=(hdn j id d q1 q2 h6).2.1
     rw [p3] at h5
     have:=(ht h5).1
     omega
    omega }
  ne:=fun j id c h1 h2 h3=>by
   have:=(hown j id c h1 h2 h3).2.1
   omega
  ls:=by rw [List.length_append,List.length_append,h.ls];rfl
  sp:=fun j s c h1 h2=>by
   rcases hss j s c h1 h2 with⟨q1,q2⟩ | ⟨_,q2,q3⟩
   ·obtain⟨p1,p2,p3⟩:=hso j s c q1 q2
    refine⟨p1,?_⟩
    rw [List.getElem?_set_ne (by omega),List.getElem?_append_left (by omega)]
    exact p3
   have:=lt_of_getElem? hsd.2
   rw [q2,q3]
   refine⟨by omega,?_⟩
   rw [List.getElem?_set_ne (by omega),List.getElem?_append_left this]
   exact hsd.2
  injs:=fun i j s h1 h2=>by
   have aux:∀(i:Nat),(ss++[sid])[i]?=some s→(ss[i]?=some s∧s<O.length)∨(i=ss.length∧s=sid):=fun i hi=>by
    by_cases hj:i<ss.length
    ·rw [List.getElem?_append_left hj] at hi
     have hd:done[i]?=some (done[i]'(by have:=h.ls;omega)):=List.getElem?_eq_getElem _
     exact .inl ⟨hi,(hso i s _ hi hd).2.1⟩
    have hj1:=lt_of_getElem? hi
    rw [List.length_append,List.length_singleton] at hj1
    have hje:i=ss.length:=by omega
    rw [List.getElem?_append_right (by omega),hje,Nat.sub_self] at hi
    simp only [List.getElem?_cons_zero,Option.some.injEq] at hi
    exact .inr ⟨hje,hi.symm⟩
   rcases aux i h1 with⟨p1,p2⟩ | ⟨p1,p2⟩<;>rcases aux j h2 with⟨q1,q2⟩ | ⟨q1,q2⟩
   ·exact h.injs i j s p1 q1
   ·omega
   ·omega
   omega }
theorem copy_start2(f:Func):CpS2 f [] 0 [] [] [.gone,.cells [aI 0,.lst 7 [] .ex],.gone,.cells [aI 0,.lst 7 [] .ex],.cells [aI f.name,.lst 7 [] .ex]] where
 up:=(copy_start f).up
 r0:=rfl
 r1:=rfl
 r3:=rfl
 out:=rfl
 blk:=fun q=>absurd rfl q
 cp:=(copy_start f).cp
 ne:=fun j id b h=>by simp at h
 ls:=rfl
 sp:=fun j s c h=>by simp at h
 injs:=fun i j s h=>by simp at h
def CpR2(f:Func)(r:AVal)(O:List AObj):Prop:=∃(ids ss:List Nat) (bid:Nat),r=.agg [aI f.name,.os bid f.blocks.length 7]∧(∀o∈O,o.upto O.length)∧O[0]?=some .gone∧O[1]?=some (.cells [aI 0,.lst 7 [] .ex]) ∧
 (5≤bid∧O[bid]?=some (.cells (blsC2 ss ids f.blocks)))∧CpO 5 ids f.blocks O∧(∀(j id:Nat) (b:Block),ids[j]?=some id→f.blocks[j]?=some b→b.term.to≠[]→id≠bid) ∧
 ss.length=f.blocks.length∧(∀(j s:Nat) (c:Block),ss[j]?=some s→f.blocks[j]?=some c→5≤s∧O[s]?=some (.spare c.ins.length))∧∀(i j s:Nat),ss[i]?=some s→ss[j]?=some s→i=j
theorem CpS2.fin{f:Func}{bid:Nat}{ids ss:List Nat}{O:List AObj}(h:CpS2 f f.blocks bid ids ss O)(hne:f.blocks≠[]){cs:List AVal}(hcs:uptoL O.length cs):CpR2 f (.agg [aI f.name,.os bid f.blocks.length 7]) (O.set 3 (.cells cs)):=by
 obtain⟨b1,b2⟩:=h.blk hne
 refine⟨ids,ss,bid,rfl,?_,?_,?_,⟨b1,?_⟩,⟨h.cp.li,fun j id b q1 q2 q3=>?_,h.cp.inj⟩,h.ne,h.ls,fun j s c q1 q2=>?_,h.injs⟩
 ·rw [List.length_set]
  exact uptoO_set h.up hcs
 ·rw [List.getElem?_set_ne (by omega)];exact h.r0
 ·rw [List.getElem?_set_ne (by omega)];exact h.r1
 ·rw [List.getElem?_set_ne (by omega)];exact b2
 ·obtain⟨o1,o2⟩:=h.cp.own j id b q1 q2 q3
  exact⟨o1,by rw [List.getElem?_set_ne (by omega)];exact o2⟩
 obtain⟨o1,o2⟩:=h.sp j s c q1 q2
 exact⟨o1,by rw [List.getElem?_set_ne (by omega)];exact o2⟩
end Go.Proofs.Ytkhnjeblbiocaaa
namespace Go.Proofs.Ytkhnjeblbiocaaa
open Go.Av
theorem splice_left{A B xs:List AVal}{off:Nat}(h:off+xs.length≤A.length):splice (A++B) off xs=splice A off xs++B:=by
 unfold splice
 rw [List.take_append_of_le_length (by omega),List.drop_append_of_le_length (by omega)]
 simp
theorem splice_right{A B xs:List AVal}{p:Nat}:splice (A++B) (A.length+p) xs=A++splice B p xs:=by
 unfold splice
 rw [List.take_length_add_append,show A.length+p+xs.length=A.length+(p+xs.length) by omega,List.drop_length_add_append]
 simp
theorem blsC2_cons(s i:Nat)(ss ids:List Nat)(b:Block)(bs:List Block):blsC2 (s::ss) (i::ids) (b::bs)=blC2 s i b++blsC2 ss ids bs:=by rw [blsC2]
theorem blsC2_put:∀{ss ids:List Nat} {L:List Block} {k s id s':Nat} {b c:Block} {off:Nat} {xs:List AVal},ss[k]?=some s→ids[k]?=some id→L[k]?=some b→blC2 s' id c=splice (blC2 s id b) off xs→off+xs.length≤7→splice (blsC2 ss ids L) (k * 7+off) xs=blsC2 (ss.set k s') ids (L.set k c)
 | [],_,_,_,_,_,_,_,_,_,_,h,_,_,_,_=>by simp at h
 | _::_,[],_,_,_,_,_,_,_,_,_,_,h,_,_,_=>by simp at h
 | _::_,_::_,[],_,_,_,_,_,_,_,_,_,_,h,_,_=>by simp at h
 | a::ss,i::ids,x::L,0,s,id,s',b,c,off,xs,h0,h1,h2,h3,h4=>by
  simp only [List.getElem?_cons_zero,Option.some.injEq] at h0 h1 h2
  subst h0 h1 h2
  rw [List.set_cons_zero,List.set_cons_zero,blsC2_cons,blsC2_cons,h3,Nat.zero_mul,Nat.zero_add,splice_left h4]
 | a::ss,i::ids,x::L,k+1,s,id,s',b,c,off,xs,h0,h1,h2,h3,h4=>by
  rw [List.set_cons_succ,List.set_cons_succ,blsC2_cons,blsC2_cons,show(k+1) * 7+off=(blC2 a i x).length+(k * 7+off) by show _=7+_;omega,splice_right,blsC2_put (by simpa using h0) (by simpa using h1) (by simpa using h2) h3 h4]
theorem blsC2_row:∀{ss ids:List Nat} {L:List Block} {k s id:Nat} {b:Block},ss[k]?=some s→ids[k]?=some id→L[k]?=some b→((blsC2 ss ids L).drop (k * 7)).take 7=blC2 s id b
 | [],_,_,_,_,_,_,h,_,_=>by simp at h
 | _::_,[],_,_,_,_,_,_,h,_=>by simp at h
 | _::_,_::_,[],_,_,_,_,_,_,h=>by simp at h
 | a::ss,i::ids,x::L,0,s,id,b,h0,h1,h2=>by
  simp only [List.getElem?_cons_zero,Option.some.injEq] at h0 h1 h2
  subst h0 h1 h2
  rw [blsC2_cons]
  rfl
 | a::ss,i::ids,x::L,k+1,s,id,b,h0,h1,h2=>by
  rw [blsC2_cons,show(k+1) * 7=(blC2 a i x).length+k * 7 by show _=7+_;omega,List.drop_length_add_append]
  exact blsC2_row (by simpa using h0) (by simpa using h1) (by simpa using h2)
theorem blsC2_get{ss ids:List Nat}{L:List Block}{k s id:Nat}{b:Block}(h0:ss[k]?=some s)(h1:ids[k]?=some id)(h2:L[k]?=some b)(i:Nat)(hi:i<7):(blsC2 ss ids L)[k * 7+i]?=(blC2 s id b)[i]?:=by
 rw [←blsC2_row h0 h1 h2,List.getElem?_take,if_pos hi,List.getElem?_drop]
theorem setN_same{l:List Nat}{j v:Nat}(h:l[j]?=some v):l.set j v=l:=setM_same h
theorem blsC2_same{ss ids:List Nat}{L:List Block}{k s id:Nat}{b c:Block}(h0:ss[k]?=some s)(h1:ids[k]?=some id)(h2:L[k]?=some b)(h3:blC2 s id c=blC2 s id b):blsC2 ss ids (L.set k c)=blsC2 ss ids L:=by
 have:=blsC2_put (s':=s) (off:=0) (xs:=[]) h0 h1 h2 (by rw [h3];simp [splice]) (by simp)
 rw [setN_same h0] at this
 rw [←this]
 simp [splice]
theorem blC2_sub(O:List AObj)(s id:Nat)(b:Block)(j:Nat)(c d:AVal)(h1:(blC2 s id b)[j]?=some c)(h2:(blC id b)[j]?=some d):Sub O c d:=by
 match j,h1,h2 with
 | 0,h1,h2=>exact Sub.of_eq (Option.some.inj (h1.symm.trans h2))
 | 1,h1,h2 =>
  simp only [blC2,blC,List.getElem?_cons_succ,List.getElem?_cons_zero,Option.some.injEq] at h1 h2
  subst h1 h2
  exact fun _ _ _ h=>h.lst_share
 | 2,h1,h2=>exact Sub.of_eq (Option.some.inj (h1.symm.trans h2))
 | 3,h1,h2=>exact Sub.of_eq (Option.some.inj (h1.symm.trans h2))
 | 4,h1,h2=>exact Sub.of_eq (Option.some.inj (h1.symm.trans h2))
 | 5,h1,h2=>exact Sub.of_eq (Option.some.inj (h1.symm.trans h2))
 | 6,h1,h2 =>
  simp only [blC2,blC,List.getElem?_cons_succ,List.getElem?_cons_zero,Option.some.injEq] at h1 h2
  subst h1 h2
  unfold outX outE
  split
  ·exact fun _ _ _ h=>h.lst_share
  exact Sub.refl _
 | j+7,h1,_=>simp [blC2] at h1
theorem blsC2_sub(O:List AObj):∀{ss ids:List Nat} {L:List Block},ss.length=L.length→ids.length=L.length→∀(j:Nat) (c d:AVal),(blsC2 ss ids L)[j]?=some c→(blsC ids L)[j]?=some d→Sub O c d
 | [],_,_,_,_,j,c,d,h,_=>by simp [blsC2] at h
 | _::_,[],_,_,_,j,c,d,h,_=>by simp [blsC2] at h
 | _::_,_::_,[],_,_,j,c,d,h,_=>by simp [blsC2] at h
 | a::ss,i::ids,x::L,h1,h2,j,c,d,h3,h4=>by
  have e:blsC (i::ids) (x::L)=blC i x++blsC ids L:=rfl
  rw [blsC2_cons] at h3
  rw [e] at h4
  by_cases hj:j<7
  ·rw [List.getElem?_append_left (by show j<7;omega)] at h3 h4
   exact blC2_sub O a i x j c d h3 h4
  rw [List.getElem?_append_right (by show 7≤j;omega)] at h3 h4
  exact blsC2_sub O (by simpa using h1) (by simpa using h2) (j - 7) c d h3 h4
structure LvO(name:Int)(ids ss:List Nat)(X bid:Nat)(L:List Block)(O:List AObj):Prop where
 up:∀o∈O,o.upto O.length
 r1:O[1]?=some (.cells [aI 0,.lst 7 [] .ex])
 x5:5≤X
 xb:bid≠X
 b5:5≤bid
 out:O[X]?=some (.cells [aI name,.os bid L.length 7])
 bl:O[bid]?=some (.cells (blsC2 ss ids L))
 li:ids.length=L.length
 ls:ss.length=L.length
 own:∀(j id:Nat) (c:Block),ids[j]?=some id→L[j]?=some c→c.term.to≠[]→5≤id∧id≠bid∧id≠X∧O[id]?=some (.cells (edC c.term.to))
 inj:∀(i j id:Nat) (b c:Block),ids[i]?=some id→ids[j]?=some id→L[i]?=some b→L[j]?=some c→b.term.to≠[]→c.term.to≠[]→i=j
 sp:∀(j s:Nat) (c:Block),ss[j]?=some s→L[j]?=some c→5≤s∧O[s]?=some (.spare c.ins.length)
 injs:∀(i j s:Nat),ss[i]?=some s→ss[j]?=some s→i=j
theorem LvO.start{g:Func}{ids ss:List Nat}{bid:Nat}{O:List AObj}(hup:∀o∈O,o.upto O.length)(h1:O[1]?=some (.cells [aI 0,.lst 7 [] .ex]))(hb:5≤bid∧O[bid]?=some (.cells (blsC2 ss ids g.blocks)))(hc:CpO 5 ids g.blocks O)
  (hne:∀(j id:Nat) (b:Block),ids[j]?=some id→g.blocks[j]?=some b→b.term.to≠[]→id≠bid) (hls:ss.length=g.blocks.length) (hsp:∀(j s:Nat) (c:Block),ss[j]?=some s→g.blocks[j]?=some c→5≤s∧O[s]?=some (.spare c.ins.length)) (hinj:∀(i j s:Nat),ss[i]?=some s→ss[j]?=some s→i=j) :
  LvO g.name ids ss O.length bid g.blocks (O++[AObj.cells [aI g.name,.os bid g.blocks.length 7]]) where
 up:=fun o ho=>by
  have hbl:=lt_of_getElem? hb.2
  rw [List.length_append,List.length_singleton]
  rcases List.mem_append.1 ho with q | q
  ·exact AObj.upto_mono (by omega) (hup o q)
  rw [List.mem_singleton] at q
  subst q
  exact⟨trivial,show _<_ by omega,trivial⟩
 r1:=at_left h1
 x5:=by
  have:=lt_of_getElem? hb.2
  omega
 xb:=by
  have:=lt_of_getElem? hb.2
  omega
 b5:=hb.1
 out:=snoc_get _ _
 bl:=at_left hb.2
 li:=hc.li
 ls:=hls
 own:=fun j id b q1 q2 q4=>by
  obtain⟨o1,o2⟩:=hc.own j id b q1 q2 q4
  have:=lt_of_getElem? o2
  exact⟨o1,hne j id b q1 q2 q4,by omega,at_left o2⟩
 inj:=hc.inj
 sp:=fun j s c h1 h2=>⟨(hsp j s c h1 h2).1,at_left (hsp j s c h1 h2).2⟩
 injs:=hinj
section
variable {name:Int} {ids ss:List Nat} {X bid:Nat} {L:List Block} {O:List AObj}
theorem LvO.ext(h:LvO name ids ss X bid L O){Y:List AObj}(hY:∀o∈Y,o.upto (O.length+Y.length)):LvO name ids ss X bid L (O++Y) where
 up:=fun o ho=>by
  rw [List.length_append]
  rcases List.mem_append.1 ho with q | q
  ·exact AObj.upto_mono (by omega) (h.up o q)
  exact hY o q
 r1:=at_left h.r1
 x5:=h.x5
 xb:=h.xb
 b5:=h.b5
 out:=at_left h.out
 bl:=at_left h.bl
 li:=h.li
 ls:=h.ls
 own:=fun j id c h1 h2 h3=>by
  obtain⟨o1,o2,o3,o4⟩:=h.own j id c h1 h2 h3
  exact⟨o1,o2,o3,at_left o4⟩
 inj:=h.inj
 sp:=fun j s c h1 h2=>⟨(h.sp j s c h1 h2).1,at_left (h.sp j s c h1 h2).2⟩
 injs:=h.injs
theorem LvO.row(h:LvO name ids ss X bid L O){k s t:Nat}{b c:Block}(hs:ss[k]?=some s)(hb:L[k]?=some b)(hc:c.term.to=b.term.to)(ht:t=s∨(5≤t∧t ∉ ss∧∃m,O[t]?=some (.spare m))) :
  LvO name ids (ss.set k t) X bid (L.set k c) ((O.set t (.spare c.ins.length)).set bid (.cells (blsC2 (ss.set k t) ids (L.set k c)))):=by
 have hkl:=lt_of_getElem? hb
 have hbl:=lt_of_getElem? h.bl
 obtain⟨sp1,sp2⟩:=h.sp k s b hs hb
 obtain⟨ht5,m,htm⟩:5≤t∧∃m,O[t]?=some (.spare m):=by
  rcases ht with q | ⟨q1,_,q3⟩
  ·rw [q]
   exact⟨sp1,_,sp2⟩
  exact⟨q1,q3⟩
 have htl:=lt_of_getElem? htm
 have htb:t≠bid:=fun q=>by
  have:=h.bl
  rw [←q,htm] at this
  simp at this
 have htX:t≠X:=fun q=>by
  have:=h.out
  rw [←q,htm] at this
  simp at this
 have hat:∀(j:Nat) (d:Block),(L.set k c)[j]?=some d→(j=k∧d=c)∨(j≠k∧L[j]?=some d):=fun j d hd=>by
  rw [List.getElem?_set] at hd
  split at hd
  ·rename_i e
   first
   | exact .inl ⟨e.symm,(Option.some.inj hd).symm⟩
   | (rw [if_pos (by omega)] at hd;exact .inl ⟨e.symm,(Option.some.inj hd).symm⟩)
  rename_i e
  exact .inr ⟨fun q=>e q.symm,hd⟩
 have hto:∀(j:Nat) (d:Block),(L.set k c)[j]?=some d→∃d0,L[j]?=some d0∧d.term.to=d0.term.to:=fun j d hd=>by
  rcases hat j d hd with⟨e1,e2⟩ | ⟨_,e2⟩
  ·rw [e1,e2]
   exact⟨b,hb,hc⟩
  exact⟨d,e2,rfl⟩
 have hss:∀(j s':Nat),(ss.set k t)[j]?=some s'→(j=k∧s'=t)∨(j≠k∧ss[j]?=some s'):=fun j d hd=>by
  rw [List.getElem?_set] at hd
  split at hd
  ·rename_i e
   have:=lt_of_getElem? hs
   first
   | exact .inl ⟨e.symm,(Option.some.inj hd).symm⟩
   | (rw [if_pos (by omega)] at hd;exact .inl ⟨e.symm,(Option.some.inj hd).symm⟩)
  rename_i e
  exact .inr ⟨fun q=>e q.symm,hd⟩
 have hts:∀(j s':Nat),j≠k→ss[j]?=some s'→s'≠t:=fun j s' hj h1 q=>by
  rcases ht with e | ⟨_,e,_⟩
  ·rw [q,e] at h1
   exact hj (h.injs j k s h1 hs)
  exact e (by rw [←q];exact List.mem_of_getElem? h1)
 have hX:=h.xb
 have hb5:=h.b5
 have hx5:=h.x5
 exact {
  up:=by
   rw [List.length_set,List.length_set]
   refine uptoO_set (uptoO_set h.up trivial) (blsC2_upto (fun j id d h1 h2 h3=>?_) fun s' hs'=>?_)
   ·obtain⟨d0,e1,e2⟩:=hto j d h2
    exact lt_of_getElem? (h.own j id d0 h1 e1 (by rw [←e2];exact h3)).2.2.2
   obtain⟨j,hj⟩:=List.mem_iff_getElem?.1 hs'
   rcases hss j s' hj with⟨_,e⟩ | ⟨_,e⟩
   ·omega
   have hd:L[j]?=some (L[j]'(by have:=lt_of_getElem? e;rw [←h.ls];exact this)):=List.getElem?_eq_getElem _
   exact lt_of_getElem? (h.sp j s' _ e hd).2
  r1:=by rw [List.getElem?_set_ne (by omega),List.getElem?_set_ne (by omega)];exact h.r1
  x5:=h.x5
  xb:=hX
  b5:=hb5
  out:=by rw [List.getElem?_set_ne hX,List.getElem?_set_ne htX,List.length_set];exact h.out
  bl:=List.getElem?_set_self (by rw [List.length_set];exact hbl)
  li:=by rw [List.length_set];exact h.li
  ls:=by rw [List.length_set,List.length_set];exact h.ls
  own:=fun j id d h1 h2 h3=>by
   obtain⟨d0,e1,e2⟩:=hto j d h2
   obtain⟨o1,o2,o3,o4⟩:=h.own j id d0 h1 e1 (by rw [←e2];exact h3)
   have hti:t≠id:=fun q=>by
    rw [←q,htm] at o4
    simp at o4
   exact⟨o1,o2,o3,by rw [List.getElem?_set_ne (Ne.symm o2),List.getElem?_set_ne hti,e2];exact o4⟩
  inj:=fun i j id d e h1 h2 h3 h4 h5 h6=>by
   obtain⟨d0,e1,e2⟩:=hto i d h3
   obtain⟨f0,f1,f2⟩:=hto j e h4
   exact h.inj i j id d0 f0 h1 h2 e1 f1 (by rw [←e2];exact h5) (by rw [←f2];exact h6)
  sp:=fun j s' d h1 h2=>by
   rcases hss j s' h1 with⟨e1,e2⟩ | ⟨e1,e2⟩
   ·rcases hat j d h2 with⟨_,f2⟩ | ⟨f1,_⟩
    ·rw [e2,f2]
     exact⟨ht5,by rw [List.getElem?_set_ne (Ne.symm htb),List.getElem?_set_self htl]⟩
    exact absurd e1 f1
   rcases hat j d h2 with⟨f1,_⟩ | ⟨_,f2⟩
   ·exact absurd f1 e1
   obtain⟨p1,p2⟩:=h.sp j s' d e2 f2
   refine⟨p1,?_⟩
   rw [List.getElem?_set_ne (fun q=>by have:=h.bl;rw [q,p2] at this;simp at this),List.getElem?_set_ne (Ne.symm (hts j s' e1 e2))]
   exact p2
  injs:=fun i j s' h1 h2=>by
   rcases hss i s' h1 with⟨e1,e2⟩ | ⟨e1,e2⟩<;>rcases hss j s' h2 with⟨f1,f2⟩ | ⟨f1,f2⟩
   ·omega
   ·exact absurd e2 (hts j s' f1 f2)
   ·exact absurd f2 (hts i s' e1 e2)
   exact h.injs i j s' e2 f2 }
theorem LvO.edge(h:LvO name ids ss X bid L O){k id:Nat}{b:Block}{l:List Edge}(hid:ids[k]?=some id)(hb:L[k]?=some b)(hne:b.term.to≠[])(hl:l.length=b.term.to.length):LvO name ids ss X bid (L.set k (setTo b l)) (O.set id (.cells (edC l))):=by
 have hkl:=lt_of_getElem? hb
 obtain⟨o1,o2,o3,o4⟩:=h.own k id b hid hb hne
 have hil:=lt_of_getElem? o4
 have hat:∀(j:Nat) (d:Block),(L.set k (setTo b l))[j]?=some d→(j=k∧d=setTo b l)∨(j≠k∧L[j]?=some d):=fun j d hd=>by
  rw [List.getElem?_set] at hd
  split at hd
  ·rename_i e
   first
   | exact .inl ⟨e.symm,(Option.some.inj hd).symm⟩
   | (rw [if_pos (by omega)] at hd;exact .inl ⟨e.symm,(Option.some.inj hd).symm⟩)
  rename_i e
  exact .inr ⟨fun q=>e q.symm,hd⟩
 obtain⟨s,hs⟩:∃s,ss[k]?=some s:=⟨ss[k]'(by rw [h.ls];exact hkl),List.getElem?_eq_getElem _⟩
 have hrow:blC2 s id (setTo b l)=blC2 s id b:=by
  unfold blC2 setTo outX
  simp only
  by_cases q:b.term.to=[]
  ·exact absurd q hne
  rw [if_neg q,if_neg (fun z=>q (List.length_eq_zero_iff.1 (by rw [←hl,z];rfl))),hl]
 exact {
  up:=by
   rw [List.length_set]
   refine uptoO_set h.up ?_
   show uptoL _ _
   rw [uptoL_iff]
   intro d hd
   unfold edC at hd
   rw [List.mem_flatMap] at hd
   obtain⟨e,_,hd⟩:=hd
   simp only [List.mem_cons,List.not_mem_nil,or_false] at hd
   rcases hd with rfl | rfl
   ·trivial
   exact⟨aI_upto _ _,trivial⟩
  r1:=by rw [List.getElem?_set_ne (by omega)];exact h.r1
  x5:=h.x5
  xb:=h.xb
  b5:=h.b5
  out:=by rw [List.getElem?_set_ne o3,List.length_set];exact h.out
  bl:=by
   rw [List.getElem?_set_ne o2,blsC2_same hs hid hb hrow]
   exact h.bl
  li:=by rw [List.length_set];exact h.li
  ls:=by rw [List.length_set];exact h.ls
  own:=fun j id' d h1 h2 h3=>by
   rcases hat j d h2 with⟨e1,e2⟩ | ⟨e1,e2⟩
   ·subst e1 e2
    rw [hid] at h1
    simp only [Option.some.injEq] at h1
    subst h1
    exact⟨o1,o2,o3,List.getElem?_set_self hil⟩
   obtain⟨p1,p2,p3,p4⟩:=h.own j id' d h1 e2 h3
   refine⟨p1,p2,p3,?_⟩
   rw [List.getElem?_set_ne]
   ·exact p4
   intro q
   rw [←q] at h1
   exact e1 (h.inj j k id d b h1 hid e2 hb h3 hne)
  inj:=fun i j id' d e h1 h2 h3 h4 h5 h6=>by
   have aux:∀(j:Nat) (d:Block),(L.set k (setTo b l))[j]?=some d→d.term.to≠[]→∃d0,L[j]?=some d0∧d0.term.to≠[]:=fun j d hd hn=>by
    rcases hat j d hd with⟨e1,e2⟩ | ⟨e1,e2⟩
    ·subst e1
     exact⟨b,hb,hne⟩
    exact⟨d,e2,hn⟩
   obtain⟨d0,p1,p2⟩:=aux i d h3 h5
   obtain⟨e0,r1,r2⟩:=aux j e h4 h6
   exact h.inj i j id' d0 e0 h1 h2 p1 r1 p2 r2
  sp:=fun j s' d h1 h2=>by
   have aux:∃d0,L[j]?=some d0∧d.ins=d0.ins:=by
    rcases hat j d h2 with⟨e1,e2⟩ | ⟨e1,e2⟩
    ·rw [e1,e2]
     exact⟨b,hb,rfl⟩
    exact⟨d,e2,rfl⟩
   obtain⟨d0,e1,e2⟩:=aux
   obtain⟨p1,p2⟩:=h.sp j s' d0 h1 e1
   refine⟨p1,?_⟩
   rw [List.getElem?_set_ne (fun q=>by rw [q,p2] at o4;simp at o4),e2]
   exact p2
  injs:=h.injs }
end
theorem seqStep_len(spare:Int){left:List Mv}(hne:left≠[]):(seqStep spare left).1.length+1=left.length∧(seqStep spare left).2.length≤2:=by
 match left,hne with
 | x0::r,_ =>
  unfold seqStep
  simp only
  split
  ·simp
  rename_i h
  rcases idxM_spec (freeQ (x0::r)) (x0::r) with⟨e,_⟩ | ⟨j,x,e,hj,_,_⟩
  ·omega
  have hjl:=lt_of_getElem? hj
  rw [e,Int.toNat_natCast]
  refine⟨?_,by simp⟩
  rw [List.length_eraseIdx,if_pos hjl]
  simp only [List.length_cons] at hjl ⊢
  omega
theorem seqRun_len(spare:Int):∀(n:Nat) (left:List Mv),(seqRun spare n left).length≤2 * left.length
 | 0,left=>by simp [seqRun]
 | n+1,left=>by
  unfold seqRun
  split
  ·simp
  rename_i h
  obtain⟨h1,h2⟩:=seqStep_len spare h
  have:=seqRun_len spare n (seqStep spare left).1
  rw [List.length_append]
  omega
theorem seqM_len(l:List Mv)(spare:Int):(seqM l spare).length≤2 * l.length:=by
 have:=seqRun_len spare l.length (dropQ l)
 have h2:(dropQ l).length≤l.length:=List.length_filter_le ..
 unfold seqM
 omega
end Go.Proofs.Ytkhnjeblbiocaaa
namespace Go.Proofs.Ytkhnjeblbiocaaa
open Go.Av
def varB(v:Int):Bool:=decide (0≤v)&&decide (v<4096)
theorem var_spec(v:Int):PCall Try.prog 66 [aI v] (.v (.bool (varB v))):=by
 unfold varB
 by_cases h:0≤v
 ·have d:decide (0≤v)=true:=decide_eq_true h
  rw [d,Bool.true_and]
  refine zf true 0 Try.func66 Try.ntmps66 ?_
  dsimp only [Tmp,TypeId,slotsOf]
  refine zh1 (za0 ?_)
  refine zg1 ?_
  simp -dsimp only [simprocAttr,↓vpre,zp,d]
  refine za0 ?_
  refine awp_ret ?_
  simp -dsimp only [simprocAttr,↓vpre,zp,zr,Try.results66]
 have d:decide (0≤v)=false:=decide_eq_false h
 rw [d,Bool.false_and]
 refine zf true 0 Try.func66 Try.ntmps66 ?_
 dsimp only [Tmp,TypeId,slotsOf]
 refine zh1 (za0 ?_)
 refine zg1 ?_
 simp -dsimp only [simprocAttr,↓vpre,zp,d]
 refine za0 ?_
 refine awp_ret ?_
 simp -dsimp only [simprocAttr,↓vpre,zp,zr,Try.results66]
theorem nvar_spec(v:Int):PCall Try.prog 84 [aI v] (.v (.bool (!varB v))):=by
 have hv:=var_spec v
 refine zf true 0 Try.func84 Try.ntmps84 ?_
 dsimp only [Tmp,TypeId,slotsOf]
 refine zh1 (za0 ?_)
 refine zh1 ?_
 refine zi hv ?_
 refine za0 ?_
 refine awp_ret ?_
 simp -dsimp only [simprocAttr,↓vpre,zp,zr,Try.results84]
def idxPF(q:Int→Bool):List Int→Nat→Int
 | [],_=>-1
 | x::r,k=>if q x then (k:Int) else idxPF q r (k+1)
theorem idxPF_any(q:Int→Bool):∀(l:List Int) (k:Nat),decide (0≤idxPF q l k)=l.any q
 | [],k=>rfl
 | a::r,k=>by
  rw [idxPF,List.any_cons]
  cases hq:q a with
  | true =>
   rw [if_pos rfl,Bool.true_or]
   exact decide_eq_true (by omega)
  | false =>
   rw [if_neg (by simp),Bool.false_or]
   exact idxPF_any q r (k+1)
theorem idxV_spec(l:List Int):PCall Try.prog 105 [eIs l,.fn (.func 84) [] []] (aI (idxPF (fun a=>!varB a) l 0)):=by
 obtain⟨R,hR⟩:∃R,R=idxPF (fun a=>!varB a) l 0:=⟨_,rfl⟩
 rw [←hR]
 refine zf true 0 Try.func105 Try.ntmps105 ?_
 dsimp only [Tmp,TypeId,slotsOf]
 refine zh1 (za0 ?_)
 refine awp_len 0 rfl (fun hll=>?_)
 simp only [List.length_map] at hll
 refine zh2 (za0 ?_)
 refine awp_block (awp_loop (ι:={k:Nat // k≤l.length∧R=idxPF (fun a=>!varB a) (l.drop k) k}) (fun k=>⟨19,[(0,eIs l),(1,.fn (.func 84) [] []),(7,aI l.length),(8,aI k.1)],[]⟩) (fun k=>l.length - k.1) ⟨0,by omega,hR⟩ ?_ ?_)
 ·refine zq rfl ?_ ?_
  simp -dsimp only [simprocAttr,↓vpre,zp,zc]
  all_goals rfl
 rintro⟨k,hk,hke⟩
 refine zh1 (za0 ?_)
 apply zk1 rfl<;>intro h
 ·refine zb0 ?_
  have hlt:k<l.length:=by simpa using h
  obtain⟨x,hx⟩:∃x,l[k]?=some x:=⟨l[k],List.getElem?_eq_getElem hlt⟩
  have hv:=nvar_spec x
  rw [drop_at hx,idxPF] at hke
  refine awp_seq (awp_block ?_)
  refine zh1 (za0 ?_)
  refine zg1 ?_
  simp -dsimp only [simprocAttr,↓vpre,zp,hx]
  repeat(refine⟨by omega,?_⟩)
  refine zi hv ?_
  refine za0 ?_
  cases hq:varB x with
  | false =>
   rw [hq] at hke
   simp only [Bool.not_false,if_true] at hke
   refine zw0 rfl ?_
   refine zh1 (za0 ?_)
   refine awp_ret ?_
   simp -dsimp only [simprocAttr,↓vpre,zp,zr,Try.results105]
   rw [hke]
  | true =>
   rw [hq] at hke
   simp only [Bool.not_true,Bool.false_eq_true,if_false] at hke
   apply zk0 rfl<;>intro h
   ·cases h
   refine zb1 ?_
   refine zh0 ?_
   repeat(refine⟨by omega,?_⟩)
   refine zl0 ?_
   refine⟨⟨k+1,hlt,hke⟩,by show l.length - (k+1)<l.length - k;omega,?_⟩
   refine zq rfl ?_ ?_
   simp -dsimp only [simprocAttr,↓vpre,zp,zc]
   ·exact Sub.int (by simp)
   rfl
 refine awp_exit ?_
 simp -dsimp only [vend,ne_eq,Nat.reduceEqDiff,reduceCtorEq]
 have hkl:k=l.length:=by
  have:=of_decide_eq_false h
  omega
 subst hkl
 rw [List.drop_length] at hke
 refine zh1 (za0 ?_)
 refine awp_ret ?_
 simp -dsimp only [simprocAttr,↓vpre,zp,zr,Try.results105]
 rw [hke]
 rfl
theorem conV_spec(l:List Int):PCall Try.prog 83 [eIs l,.fn (.func 84) [] []] (.v (.bool (l.any fun a=>!varB a))):=by
 have hi:=idxV_spec l
 have ha:=idxPF_any (fun a=>!varB a) l 0
 refine zf true 0 Try.func83 Try.ntmps83 ?_
 dsimp only [Tmp,TypeId,slotsOf]
 refine zh1 (za0 ?_)
 refine zh1 ?_
 refine zi hi ?_
 refine za0 ?_
 refine awp_ret ?_
 simp -dsimp only [simprocAttr,↓vpre,zp,zr,Try.results83]
 rw [ha]
def mInsE(i:Ins):Int :=
 if (!varB i.to || i.args.any fun a=>!varB a)=true then 4
 else if i.op≠100 then formE i
 else if i.args.length≠1 then 3
 else if i.n≠0 then 4 else 0
theorem mins_spec(i:Ins):PCall Try.prog 68 [i.enc] (aI (mInsE i)):=by
 have hv:=var_spec i.to
 have hc:=conV_spec i.args
 have hf:=form_spec i
 obtain⟨R,hR⟩:∃R,R=mInsE i:=⟨_,rfl⟩
 rw [←hR]
 unfold mInsE at hR
 obtain⟨B,hB⟩:∃B,B=(!varB i.to || i.args.any fun a=>!varB a):=⟨_,rfl⟩
 rw [←hB] at hR
 generalize formE i=fe at *
 refine zf true 0 Try.func68 Try.ntmps68 ?_
 dsimp only [Tmp,TypeId,slotsOf]
 refine zh1 (za0 ?_)
 refine awp_freeze1 1 0 (.ip none [aI i.to,aI i.op,aI i.n,eIs i.args]) rfl (by simp [AObj.isSpare]) trivial rfl ?_ ?_
 rotate_left
 simp -dsimp only [simprocAttr,↓vpre,zp]
 rotate_left
 ·exact FSub.mp rfl rfl
 cases hvb:varB i.to with
 | false =>
  rw [hvb] at hv hB
  rw [show B=true from hB] at hR
  rw [if_pos rfl] at hR
  refine zh2 ?_
  refine zi hv ?_
  refine za0 ?_
  refine zw0 rfl ?_
  refine zh1 (za0 ?_)
  refine awp_ret ?_
  simp -dsimp only [simprocAttr,↓vpre,zp,zr,Try.results68]
  rw [hR]
 | true =>
  rw [hvb] at hv hB
  have hB2:B=i.args.any fun a=>!varB a:=hB
  rw [←hB2] at hc
  clear hB hB2
  cases B with
  | true =>
   rw [if_pos rfl] at hR
   refine zh2 ?_
   refine zi hv ?_
   refine zi hc ?_
   refine za0 ?_
   refine zw0 rfl ?_
   refine zh1 (za0 ?_)
   refine awp_ret ?_
   simp -dsimp only [simprocAttr,↓vpre,zp,zr,Try.results68]
   rw [hR]
  | false =>
   rw [if_neg (by simp)] at hR
   refine zh2 ?_
   refine zi hv ?_
   refine zi hc ?_
   refine za0 ?_
   apply zk0 rfl<;>intro h
   ·cases h
   refine zb0 ?_
   by_cases h100:i.op=100
   ·rw [if_neg (by simp [h100])] at hR
    have d1:decide (i.op=100)=true:=decide_eq_true h100
    refine zg2 ?_
    simp -dsimp only [simprocAttr,↓vpre,zp,d1]
    refine za0 ?_
    apply zk0 rfl<;>intro h
    ·cases h
    refine zb0 ?_
    refine awp_seq (awp_block ?_)
    by_cases hl:i.args.length=1
    ·rw [if_neg (by simp [hl])] at hR
     have d2:decide ((i.args.length:Int)=1)=true:=decide_eq_true (by omega)
     refine zg1 ?_
     simp -dsimp only [simprocAttr,↓vpre,zp,d2]
     refine za0 ?_
     apply zk0 rfl<;>intro h
     ·cases h
     by_cases hn:i.n=0
     ·rw [if_neg (by simp [hn])] at hR
      have d3:decide (i.n=0)=true:=decide_eq_true hn
      refine zg1 ?_
      simp -dsimp only [simprocAttr,↓vpre,zp,d3]
      refine za0 ?_
      apply zk0 rfl<;>intro h
      ·cases h
      refine zb1 ?_
      refine zh1 (za0 ?_)
      refine awp_ret ?_
      simp -dsimp only [simprocAttr,↓vpre,zp,zr,Try.results68]
      rw [hR]
     rw [if_pos hn] at hR
     have d3:decide (i.n=0)=false:=decide_eq_false hn
     refine zg1 ?_
     simp -dsimp only [simprocAttr,↓vpre,zp,d3]
     refine za0 ?_
     refine zw0 rfl ?_
     refine zh1 (za0 ?_)
     refine awp_ret ?_
     simp -dsimp only [simprocAttr,↓vpre,zp,zr,Try.results68]
     rw [hR]
    rw [if_pos hl] at hR
    have d2:decide ((i.args.length:Int)=1)=false:=decide_eq_false (by omega)
    refine zg1 ?_
    simp -dsimp only [simprocAttr,↓vpre,zp,d2]
    refine za0 ?_
    refine zw0 rfl ?_
    refine zh1 (za0 ?_)
    refine awp_ret ?_
    simp -dsimp only [simprocAttr,↓vpre,zp,zr,Try.results68]
    rw [hR]
   rw [if_pos h100] at hR
   have d1:decide (i.op=100)=false:=decide_eq_false h100
   unfold Ins.enc at hf
   refine zg2 ?_
   simp -dsimp only [simprocAttr,↓vpre,zp,d1]
   refine za0 ?_
   refine zw0 rfl ?_
   refine zh1 ?_
   refine zi hf ?_
   refine za0 ?_
   refine awp_ret ?_
   simp -dsimp only [simprocAttr,↓vpre,zp,zr,Try.results68]
   rw [hR]
def mParE:List Int→List Int→Int
 | _,[]=>0
 | d,v::r=>if varB v=false then 4 else if hasI d v=true then 7 else mParE (d++[v]) r
def mInssE:List Ins→Int
 | []=>0
 | i::r=>orE (mInsE i) (mInssE r)
def mBlkE(f:Func)(k:Nat)(b:Block):Int :=
 if 0<k∧0<b.params.length then 3
 else orE (mParE [] b.params) (orE (mInssE b.ins) (orE (endE f b.term) (if varB b.term.arg=true then 0 else 4)))
def mBlksE(f:Func):Nat→List Block→Int
 | _,[]=>0
 | k,b::r=>orE (mBlkE f k b) (mBlksE f (k+1) r)
def mFunE(f:Func):Int :=
 if f.blocks.length=0 then 3
 else if 128<f.blocks.length∨4096<wsum 0 f.blocks∨6<(blkOf f 0).params.length then 2
 else if f.name < -1∨1048576≤f.name then 4
 else mBlksE f 0 f.blocks
theorem mfun_spec(f:Func)(hfit:f.fit):PCall Try.prog 54 [f.enc] (aI (mFunE f)):=by
 have hfew:f.blocks.length≤2 ^ 47:=hfit.2.1
 obtain⟨R,hR⟩:∃R,R=mFunE f:=⟨_,rfl⟩
 rw [←hR]
 unfold mFunE at hR
 refine zf true 0 Try.func54 Try.ntmps54 ?_
 dsimp only [Tmp,TypeId,slotsOf]
 refine zh1 (za0 ?_)
 refine awp_freeze1 1 0 (.ip none [aI f.name,eBlocks f.blocks]) rfl (by simp [AObj.isSpare]) trivial rfl ?_ ?_
 rotate_left
 simp -dsimp only [simprocAttr,↓vpre,zp]
 rotate_left
 ·exact FSub.mp rfl rfl
 refine zh1 (za0 ?_)
 refine zh2 (za0 ?_)
 refine awp_block (awp_loop (ι:={x:Nat×Int // x.1≤f.blocks.length∧wsum 0 f.blocks=wsum x.2 (f.blocks.drop x.1)}) (fun x=>⟨121,[(1,.ip none [aI f.name,eBlocks f.blocks]),(2,aI 0),(3,aI x.1.2),(15,eBlocks f.blocks),(16,aI f.blocks.length),(17,aI x.1.1)],[.gone]⟩) (fun x=>f.blocks.length - x.1.1) ⟨(0,0),by simp,rfl⟩ ?_ ?_)
 ·refine zq rfl ?_ ?_
  simp -dsimp only [simprocAttr,↓vpre,zp,zc]
  rfl
 rintro⟨⟨k,m⟩,hk,hke⟩
 simp only at hk hke
 refine zh1 (za0 ?_)
 apply zk1 rfl<;>intro h
 ·refine zb0 ?_
  have hlt:k<f.blocks.length:=by simpa using h
  obtain⟨b,hb⟩:∃b,f.blocks[k]?=some b:=⟨f.blocks[k],by simp [hlt]⟩
  rw [drop_at hb] at hke
  simp only [wsum] at hke
  refine awp_seq (awp_block ?_)
  refine zg1 ?_
  simp -dsimp only [simprocAttr,↓vpre,zp,hb]
  refine za0 ?_
  refine awp_freeze1 5 1 (.ip none [eIs b.params,eInss b.ins,aI b.term.kind,aI b.term.arg,aI b.term.n,eIs b.term.cases,eEdges b.term.to]) rfl (by simp [AObj.isSpare]) trivial rfl ?_ ?_
  rotate_left
  simp -dsimp only [simprocAttr,↓vpre,zp]
  rotate_left
  ·exact FSub.mp rfl rfl
  refine awp_mid_op ⟨false,false⟩ hT 4 rfl rfl rfl (by simp) ?_
  simp -dsimp only [simprocAttr,↓vpre,zp]
  refine midOp_add rfl rfl (by simp) rfl rfl ?_
  simp -dsimp only [simprocAttr,↓vpre,zp]
  refine za0 ?_
  refine awp_trunc' 1 [(1,.ip none [aI f.name,eBlocks f.blocks]),(2,aI 0),(3,aI (IntKind.i64.wrap (m+b.ins.length))),(15,eBlocks f.blocks),(16,aI f.blocks.length),(17,aI k)] (by simp) (by omega) [.gone] ?_ ?_ ?_ ?_ ?_
  ·rfl
  ·simp [AObj.upto,uptoL,AVal.upto,aI_upto,Block.map_upto]
  ·simp [Says,St.get,putS,dropS,Go.Av.look,Sub.refl]
  ·simp [AObj.upto,uptoL,AVal.upto,aI_upto,Block.map_upto]
  refine zh0 ?_
  repeat(refine⟨by omega,?_⟩)
  refine zl0 ?_
  refine⟨⟨(k+1,IntKind.i64.wrap (m+b.ins.length)),by simp only;omega,hke⟩,by simp;omega,?_⟩
  refine zq rfl ?_ ?_
  simp -dsimp only [simprocAttr,↓vpre,zp,zc]
  ·exact Sub.int (by simp)
  rfl
 refine awp_exit ?_
 simp -dsimp only [vend,ne_eq,Nat.reduceEqDiff,reduceCtorEq]
 have hkk:k=f.blocks.length:=by simp at h;omega
 subst hkk
 rw [List.drop_length] at hke
 simp only [wsum] at hke
 rw [hke] at hR
 clear hk hke
 refine awp_seq (awp_block ?_)
 by_cases hl:f.blocks.length=0
 ·rw [if_pos hl] at hR
  have d0:decide ((f.blocks.length:Int)=0)=true:=decide_eq_true (by omega)
  refine zg1 ?_
  simp -dsimp only [simprocAttr,↓vpre,zp,d0]
  refine za0 ?_
  refine zw0 rfl ?_
  refine zh1 (za0 ?_)
  refine awp_ret ?_
  simp -dsimp only [simprocAttr,↓vpre,zp,zr,Try.results54]
  rw [hR]
 rw [if_neg hl] at hR
 have d0:decide ((f.blocks.length:Int)=0)=false:=decide_eq_false (by omega)
 have hB:f.blocks[0]?=some (blkOf f 0):=blkOf_at (f:=f) (k:=0) (by omega) (by omega)
 generalize blkOf f 0=B at *
 refine zg1 ?_
 simp -dsimp only [simprocAttr,↓vpre,zp,d0]
 refine za0 ?_
 apply zk0 rfl<;>intro h
 ·cases h
 refine awp_mid (⟨121,[(1,.ip none [aI f.name,eBlocks f.blocks]),(2,aI 0),(32,.v (.bool (decide ((128:Int)<f.blocks.length) || decide ((4096:Int)<m) || decide ((6:Int)<B.params.length))))],[.gone]⟩) ?_ ?_
 ·cases hA:decide ((128:Int)<f.blocks.length)<;>cases hBB:decide ((4096:Int)<m)<;>cases hC:decide ((6:Int)<B.params.length)
  all_goals
   refine awp_region hT hm ?_
   simp -dsimp only [simprocAttr,↓vpre,zp,hA,hBB,hC,hB]
   refine at_intro ?_
   show Covers _ _
   refine zq rfl ?_ ?_
   simp -dsimp only [simprocAttr,↓vpre,zp,zc]
   ·exact Sub.refl _
   rfl
 by_cases hbig:128<f.blocks.length∨4096<m∨6<B.params.length
 ·rw [if_pos hbig] at hR
  have hd:(decide ((128:Int)<f.blocks.length) || decide ((4096:Int)<m) || decide ((6:Int)<B.params.length))=true:=by
   simp only [Bool.or_eq_true,decide_eq_true_eq]
   omega
  rw [hd]
  refine zw0 rfl ?_
  refine zh1 (za0 ?_)
  refine awp_ret ?_
  simp -dsimp only [simprocAttr,↓vpre,zp,zr,Try.results54]
  rw [hR]
 rw [if_neg hbig] at hR
 have hd:(decide ((128:Int)<f.blocks.length) || decide ((4096:Int)<m) || decide ((6:Int)<B.params.length))=false:=by
  simp only [Bool.or_eq_false_iff,decide_eq_false_iff_not]
  omega
 rw [hd]
 apply zk0 rfl<;>intro h
 ·cases h
 by_cases hnm:f.name < -1∨1048576≤f.name
 ·rw [if_pos hnm] at hR
  have hall:∀X:Int,R=4→R=4:=fun _ h=>h
  cases hn1:decide (f.name < -1) with
  | true =>
   refine zg1 ?_
   simp -dsimp only [simprocAttr,↓vpre,zp,hn1]
   refine za0 ?_
   refine zw0 rfl ?_
   refine zh1 (za0 ?_)
   refine awp_ret ?_
   simp -dsimp only [simprocAttr,↓vpre,zp,zr,Try.results54]
   rw [hR]
  | false =>
   have hn1':=of_decide_eq_false hn1
   have hn2:decide (1048576≤f.name)=true:=decide_eq_true (by omega)
   refine zg1 ?_
   simp -dsimp only [simprocAttr,↓vpre,zp,hn1,hn2]
   refine za0 ?_
   refine zw0 rfl ?_
   refine zh1 (za0 ?_)
   refine awp_ret ?_
   simp -dsimp only [simprocAttr,↓vpre,zp,zr,Try.results54]
   rw [hR]
 rw [if_neg hnm] at hR
 have hn1:decide (f.name < -1)=false:=decide_eq_false (by omega)
 have hn2:decide (1048576≤f.name)=false:=decide_eq_false (by omega)
 refine zg1 ?_
 simp -dsimp only [simprocAttr,↓vpre,zp,hn1,hn2]
 refine za0 ?_
 apply zk0 rfl<;>intro h
 ·cases h
 refine zb1 ?_
 refine zh2 (za0 ?_)
 refine awp_block (awp_loop (ι:={k:Nat // k≤f.blocks.length∧R=mBlksE f k (f.blocks.drop k)}) (fun k=>⟨121,[(1,.ip none [aI f.name,eBlocks f.blocks]),(2,aI 0),(60,eBlocks f.blocks),(61,aI f.blocks.length),(62,aI k.1)],[.gone]⟩) (fun k=>f.blocks.length - k.1) ⟨0,by omega,hR⟩ ?_ ?_)
 ·refine zq rfl ?_ ?_
  simp -dsimp only [simprocAttr,↓vpre,zp,zc]
  all_goals rfl
 rintro⟨k,hk,hke⟩
 refine zh1 (za0 ?_)
 apply zk1 rfl<;>intro h
 ·refine zb0 ?_
  have hlt:k<f.blocks.length:=by simpa using h
  obtain⟨b,hb⟩:∃b,f.blocks[k]?=some b:=⟨f.blocks[k],by simp [hlt]⟩
  have hbm:=List.mem_of_getElem? hb
  have hbf:=hfit.2.2 b hbm
  have hes:=end_spec f b.term (by have:=hbf.2.2.2.2.2.2.2.2.1;omega) (by omega)
  have hva:=var_spec b.term.arg
  have hb47:b.params.length≤2 ^ 47:=hbf.2.1
  have hi47:b.ins.length≤2 ^ 47:=hbf.2.2.1
  rw [drop_at hb,mBlksE] at hke
  obtain⟨rest,hrest⟩:∃x,x=mBlksE f (k+1) (f.blocks.drop (k+1)):=⟨_,rfl⟩
  rw [←hrest] at hke
  unfold mBlkE at hke
  refine awp_seq (awp_block ?_)
  refine zg1 ?_
  simp -dsimp only [simprocAttr,↓vpre,zp,hb]
  refine za0 ?_
  refine awp_freeze1 7 1 (.ip none [eIs b.params,eInss b.ins,aI b.term.kind,aI b.term.arg,aI b.term.n,eIs b.term.cases,eEdges b.term.to]) rfl (by simp [AObj.isSpare]) trivial rfl ?_ ?_
  rotate_left
  simp -dsimp only [simprocAttr,↓vpre,zp]
  rotate_left
  ·exact FSub.mp rfl rfl
  refine awp_trunc' 1 [(1,.ip none [aI f.name,eBlocks f.blocks]),(2,aI 0),(60,eBlocks f.blocks),(61,aI f.blocks.length),(62,aI k),(6,aI k),(7,.ip none [eIs b.params,eInss b.ins,aI b.term.kind,aI b.term.arg,aI b.term.n,eIs b.term.cases,eEdges b.term.to])] (by simp) (by omega) [.gone] ?_ ?_ ?_ ?_ ?_
  ·rfl
  ·simp [AObj.upto]
  ·simp [Says,St.get,putS,dropS,Go.Av.look,Sub.refl]
  ·simp [AObj.upto,uptoL,AVal.upto,aI_upto,Block.map_upto,Ins.map_upto,Edge.map_upto]
  by_cases hkp:0<k∧0<b.params.length
  ·rw [if_pos hkp,orE_ne (by omega)] at hke
   have d1:decide ((0:Int)<k)=true:=decide_eq_true (by omega)
   have d2:decide ((0:Int)<b.params.length)=true:=decide_eq_true (by omega)
   refine zg2 ?_
   simp -dsimp only [simprocAttr,↓vpre,zp,d1,d2]
   refine za0 ?_
   refine zw0 rfl ?_
   refine zh1 (za0 ?_)
   refine awp_ret ?_
   simp -dsimp only [simprocAttr,↓vpre,zp,zr,Try.results54]
   rw [hke]
  rw [if_neg hkp,orE_assoc,orE_assoc,orE_assoc] at hke
  refine awp_mid (⟨121,[(1,.ip none [aI f.name,eBlocks f.blocks]),(2,aI 0),(60,eBlocks f.blocks),(61,aI f.blocks.length),(62,aI k),(6,aI k),(7,.ip none [eIs b.params,eInss b.ins,aI b.term.kind,aI b.term.arg,aI b.term.n,eIs b.term.cases,eEdges b.term.to])],[.gone]⟩) ?_ ?_
  ·by_cases hk0:0<k
   ·have d1:decide ((0:Int)<k)=true:=decide_eq_true (by omega)
    have d2:decide ((0:Int)<b.params.length)=false:=decide_eq_false (by omega)
    refine zg1 ?_
    simp -dsimp only [simprocAttr,↓vpre,zp,d1,d2]
    refine za0 ?_
    refine zu0 rfl ?_
    refine awp_skip ?_
    show Covers _ _
    refine zq rfl ?_ ?_
    simp -dsimp only [simprocAttr,↓vpre,zp,zc]
    rfl
   have d1:decide ((0:Int)<k)=false:=decide_eq_false (by omega)
   refine zg1 ?_
   simp -dsimp only [simprocAttr,↓vpre,zp,d1]
   refine za0 ?_
   refine zu0 rfl ?_
   refine awp_skip ?_
   show Covers _ _
   refine zq rfl ?_ ?_
   simp -dsimp only [simprocAttr,↓vpre,zp,zc]
   rfl
  obtain⟨T1,hT1⟩:∃T1,T1=orE (mInssE b.ins) (orE (endE f b.term) (orE (if varB b.term.arg=true then 0 else 4) rest)):=⟨_,rfl⟩
  rw [←hT1] at hke
  refine zh2 (za0 ?_)
  refine awp_block (awp_loop (ι:={n:Nat // n≤b.params.length∧R=orE (mParE (b.params.take n) (b.params.drop n)) T1}) (fun n=>⟨121,[(1,.ip none [aI f.name,eBlocks f.blocks]),(2,aI 0),(60,eBlocks f.blocks),(61,aI f.blocks.length),(62,aI k),(6,aI k),(7,.ip none [eIs b.params,eInss b.ins,aI b.term.kind,aI b.term.arg,aI b.term.n,eIs b.term.cases,eEdges b.term.to]),(76,eIs b.params),(77,aI b.params.length),(78,aI n.1)],[.gone]⟩) (fun n=>b.params.length - n.1) ⟨0,by omega,hke⟩ ?_ ?_)
  ·refine zq rfl ?_ ?_
   simp -dsimp only [simprocAttr,↓vpre,zp,zc]
   all_goals rfl
  rintro⟨n,hn,hne⟩
  refine zh1 (za0 ?_)
  apply zk1 rfl<;>intro h
  ·refine zb0 ?_
   have hln:n<b.params.length:=by simpa using h
   obtain⟨v,hv⟩:∃v,b.params[n]?=some v:=⟨b.params[n],List.getElem?_eq_getElem hln⟩
   have hvs:=var_spec v
   have hcs:=contains_spec (b.params.take n) v
   have htk:b.params.take (n+1)=b.params.take n++[v]:=by rw [List.take_add_one,hv];rfl
   rw [drop_at hv,mParE] at hne
   refine awp_seq (awp_block ?_)
   refine zg1 ?_
   simp -dsimp only [simprocAttr,↓vpre,zp,hv]
   repeat(refine⟨by omega,?_⟩)
   refine za0 ?_
   refine awp_block ?_
   cases hvb:varB v with
   | false =>
    rw [hvb] at hvs
    rw [if_pos hvb,orE_ne (by omega)] at hne
    refine zh1 ?_
    refine zi hvs ?_
    refine za0 ?_
    refine zw0 rfl ?_
    refine zh1 (za0 ?_)
    refine awp_ret ?_
    simp -dsimp only [simprocAttr,↓vpre,zp,zr,Try.results54]
    rw [hne]
   | true =>
    rw [hvb] at hvs
    rw [if_neg (by simp [hvb])] at hne
    refine zh1 ?_
    refine zi hvs ?_
    refine za0 ?_
    apply zk0 rfl<;>intro h
    ·cases h
    cases hcb:hasI (b.params.take n) v with
    | true =>
     rw [hcb] at hcs
     rw [if_pos hcb,orE_ne (by omega)] at hne
     refine zg1 ?_
     simp -dsimp only [simprocAttr,↓vpre,zp,←List.map_take]
     repeat(refine⟨by omega,?_⟩)
     refine zi hcs ?_
     refine za0 ?_
     refine zw0 rfl ?_
     refine zh1 (za0 ?_)
     refine awp_ret ?_
     simp -dsimp only [simprocAttr,↓vpre,zp,zr,Try.results54]
     rw [hne]
    | false =>
     rw [hcb] at hcs
     rw [if_neg (by simp [hcb]),←htk] at hne
     refine zg1 ?_
     simp -dsimp only [simprocAttr,↓vpre,zp,←List.map_take]
     repeat(refine⟨by omega,?_⟩)
     refine zi hcs ?_
     refine za0 ?_
     apply zk0 rfl<;>intro h
     ·cases h
     refine zb2 ?_
     refine zh0 ?_
     repeat(refine⟨by omega,?_⟩)
     refine zl0 ?_
     refine⟨⟨n+1,hln,hne⟩,by show b.params.length - (n+1)<b.params.length - n;omega,?_⟩
     refine zq rfl ?_ ?_
     simp -dsimp only [simprocAttr,↓vpre,zp,zc]
     ·exact Sub.int (by simp)
     rfl
  refine awp_exit ?_
  simp -dsimp only [vend,ne_eq,Nat.reduceEqDiff,reduceCtorEq]
  have hnl:n=b.params.length:=by
   have:=of_decide_eq_false h
   omega
  subst hnl
  rw [List.drop_length,mParE,orE_zero rfl,hT1] at hne
  obtain⟨T2,hT2⟩:∃T2,T2=orE (endE f b.term) (orE (if varB b.term.arg=true then 0 else 4) rest):=⟨_,rfl⟩
  rw [←hT2] at hne
  refine zh2 (za0 ?_)
  refine awp_block (awp_loop (ι:={j:Nat // j≤b.ins.length∧R=orE (mInssE (b.ins.drop j)) T2}) (fun j=>⟨121,[(1,.ip none [aI f.name,eBlocks f.blocks]),(2,aI 0),(60,eBlocks f.blocks),(61,aI f.blocks.length),(62,aI k),(6,aI k),(7,.ip none [eIs b.params,eInss b.ins,aI b.term.kind,aI b.term.arg,aI b.term.n,eIs b.term.cases,eEdges b.term.to]),(96,eInss b.ins),(97,aI b.ins.length),(98,aI j.1)],[.gone]⟩) (fun j=>b.ins.length - j.1) ⟨0,by omega,hne⟩ ?_ ?_)
  ·refine zq rfl ?_ ?_
   simp -dsimp only [simprocAttr,↓vpre,zp,zc]
   all_goals rfl
  rintro⟨j,hj,hje⟩
  refine zh1 (za0 ?_)
  apply zk1 rfl<;>intro h
  ·refine zb0 ?_
   have hlj:j<b.ins.length:=by simpa using h
   obtain⟨i,hi⟩:∃i,b.ins[j]?=some i:=⟨b.ins[j],List.getElem?_eq_getElem hlj⟩
   have his:=mins_spec i
   rw [drop_at hi,mInssE,orE_assoc] at hje
   obtain⟨e,hE⟩:∃e,e=mInsE i:=⟨_,rfl⟩
   rw [←hE] at his hje
   unfold Ins.enc at his
   refine awp_seq (awp_block ?_)
   refine zg1 ?_
   simp -dsimp only [simprocAttr,↓vpre,zp,hi]
   refine za0 ?_
   refine awp_freeze1 11 1 (.ip none [aI i.to,aI i.op,aI i.n,eIs i.args]) rfl (by simp [AObj.isSpare]) trivial rfl ?_ ?_
   rotate_left
   simp -dsimp only [simprocAttr,↓vpre,zp]
   rotate_left
   ·exact FSub.mp rfl rfl
   refine awp_trunc' 1 [(1,.ip none [aI f.name,eBlocks f.blocks]),(2,aI 0),(60,eBlocks f.blocks),(61,aI f.blocks.length),(62,aI k),(6,aI k),(7,.ip none [eIs b.params,eInss b.ins,aI b.term.kind,aI b.term.arg,aI b.term.n,eIs b.term.cases,eEdges b.term.to]),(96,eInss b.ins),(97,aI b.ins.length),(98,aI j),(11,.ip none [aI i.to,aI i.op,aI i.n,eIs i.args])] (by simp) (by omega) [.gone] ?_ ?_ ?_ ?_ ?_
   ·rfl
   ·simp [AObj.upto]
   ·simp [Says,St.get,putS,dropS,Go.Av.look,Sub.refl]
   ·simp [AObj.upto,uptoL,AVal.upto,aI_upto,Block.map_upto,Ins.map_upto,Edge.map_upto]
   by_cases he:e=0
   ·have hde:decide (e=0)=true:=decide_eq_true he
    rw [orE_zero he] at hje
    refine zh1 ?_
    refine zi his ?_
    refine za0 ?_
    refine zg1 ?_
    simp -dsimp only [simprocAttr,↓vpre,zp,hde]
    refine za0 ?_
    apply zk0 rfl<;>intro h
    ·cases h
    refine zb1 ?_
    refine zh0 ?_
    repeat(refine⟨by omega,?_⟩)
    refine zl0 ?_
    refine⟨⟨j+1,hlj,hje⟩,by show b.ins.length - (j+1)<b.ins.length - j;omega,?_⟩
    refine zq rfl ?_ ?_
    simp -dsimp only [simprocAttr,↓vpre,zp,zc]
    ·exact Sub.int (by simp)
    rfl
   have hde:decide (e=0)=false:=decide_eq_false he
   rw [orE_ne he] at hje
   refine zh1 ?_
   refine zi his ?_
   refine za0 ?_
   refine zg1 ?_
   simp -dsimp only [simprocAttr,↓vpre,zp,hde]
   refine za0 ?_
   refine zw0 rfl ?_
   refine zh1 (za0 ?_)
   refine awp_ret ?_
   simp -dsimp only [simprocAttr,↓vpre,zp,zr,Try.results54]
   rw [hje]
  refine awp_exit ?_
  simp -dsimp only [vend,ne_eq,Nat.reduceEqDiff,reduceCtorEq]
  have hjl:j=b.ins.length:=by
   have:=of_decide_eq_false h
   omega
  subst hjl
  rw [List.drop_length,mInssE,orE_zero rfl,hT2] at hje
  unfold Func.enc Term.enc at hes
  obtain⟨e,hE⟩:∃e,e=endE f b.term:=⟨_,rfl⟩
  rw [←hE] at hes hje
  by_cases he:e=0
  ·have hde:decide (e=0)=true:=decide_eq_true he
   rw [orE_zero he] at hje
   refine zh2 ?_
   refine zi hes ?_
   refine za0 ?_
   refine zg1 ?_
   simp -dsimp only [simprocAttr,↓vpre,zp,hde]
   refine za0 ?_
   apply zk0 rfl<;>intro h
   ·cases h
   refine zb0 ?_
   cases hvb:varB b.term.arg with
   | true =>
    rw [hvb] at hva
    rw [if_pos hvb,orE_zero rfl,hrest] at hje
    refine zh1 ?_
    refine zi hva ?_
    refine za0 ?_
    apply zk0 rfl<;>intro h
    ·cases h
    refine zb1 ?_
    refine zh0 ?_
    repeat(refine⟨by omega,?_⟩)
    refine zl0 ?_
    refine⟨⟨k+1,hlt,hje⟩,by show f.blocks.length - (k+1)<f.blocks.length - k;omega,?_⟩
    refine zq rfl ?_ ?_
    simp -dsimp only [simprocAttr,↓vpre,zp,zc]
    ·exact Sub.int (by simp)
    rfl
   | false =>
    rw [hvb] at hva
    rw [if_neg (by simp [hvb]),orE_ne (by omega)] at hje
    refine zh1 ?_
    refine zi hva ?_
    refine za0 ?_
    refine zw0 rfl ?_
    refine zh1 (za0 ?_)
    refine awp_ret ?_
    simp -dsimp only [simprocAttr,↓vpre,zp,zr,Try.results54]
    rw [hje]
  have hde:decide (e=0)=false:=decide_eq_false he
  rw [orE_ne he] at hje
  refine zh2 ?_
  refine zi hes ?_
  refine za0 ?_
  refine zg1 ?_
  simp -dsimp only [simprocAttr,↓vpre,zp,hde]
  refine za0 ?_
  refine zw0 rfl ?_
  refine zh1 (za0 ?_)
  refine awp_ret ?_
  simp -dsimp only [simprocAttr,↓vpre,zp,zr,Try.results54]
  rw [hje]
 refine awp_exit ?_
 simp -dsimp only [vend,ne_eq,Nat.reduceEqDiff,reduceCtorEq]
 have hkl:k=f.blocks.length:=by
  have:=of_decide_eq_false h
  omega
 subst hkl
 rw [List.drop_length,mBlksE] at hke
 refine zh1 (za0 ?_)
 refine awp_ret ?_
 simp -dsimp only [simprocAttr,↓vpre,zp,zr,Try.results54]
 rw [hke]
theorem mParE_ok:∀{l d:List Int},mParE d l=0→∀v∈l,varB v=true
 | [],_,_,v,h=>by cases h
 | a::r,d,h,v,hv=>by
  rw [mParE] at h
  split at h
  ·simp at h
  rename_i h1
  split at h
  ·simp at h
  rcases List.mem_cons.1 hv with q | q
  ·rw [q]
   simpa using h1
  exact mParE_ok h v q
theorem mInssE_ok:∀{l:List Ins},mInssE l=0→∀i∈l,mInsE i=0
 | [],_,i,h=>by cases h
 | a::r,h,i,hi=>by
  have:=orE_eq h
  rcases List.mem_cons.1 hi with q | q
  ·rw [q];exact this.1
  exact mInssE_ok this.2 i q
theorem mBlksE_ok{f:Func}:∀{l:List Block} {k:Nat},mBlksE f k l=0→∀(j:Nat) b,l[j]?=some b→mBlkE f (k+j) b=0
 | [],_,_,j,b,h=>by simp at h
 | a::r,k,h,j,b,hj=>by
  have:=orE_eq h
  cases j with
  | zero =>
   simp only [List.getElem?_cons_zero,Option.some.injEq] at hj
   subst hj
   exact this.1
  | succ j =>
   rw [show k+(j+1)=k+1+j by omega]
   exact mBlksE_ok this.2 j b (by simpa using hj)
structure MFnW(f:Func):Prop where
 ne:f.blocks≠[]
 few:f.blocks.length≤128
 name:-1≤f.name∧f.name≤1048575
 args:(blkOf f 0).params.length≤6
 ins:∀b∈f.blocks,b.ins.length≤4096
 bare:∀(k:Nat) b,f.blocks[k]?=some b→0<k→b.params=[]
 pars:∀b∈f.blocks,∀v∈b.params,varB v=true
 insE:∀b∈f.blocks,∀i∈b.ins,mInsE i=0
 fin:∀b∈f.blocks,endE f b.term=0
 arg:∀b∈f.blocks,varB b.term.arg=true
theorem MFnW.form{f:Func}(h:MFnW f)(b:Block)(hb:b∈f.blocks)(i:Ins)(hi:i∈b.ins)(h100:i.op≠100):FormW i:=by
 have:=h.insE b hb i hi
 unfold mInsE at this
 split at this
 ·simp at this
 skip
 exact form_ok this
theorem mFun_ok{f:Func}(hfit:f.fit)(h:mFunE f=0):MFnW f:=by
 unfold mFunE at h
 split at h
 ·simp at h
 rename_i h1
 split at h
 ·simp at h
 rename_i h2
 split at h
 ·simp at h
 rename_i h3
 have hw:=wsum_ge f.blocks 0 (by omega) (by omega) (fun b hb=>(hfit.2.2 b hb).2.2.1)
 have hB:∀(k:Nat) b,f.blocks[k]?=some b→mBlkE f k b=0:=fun k b hk=>by
  have:=mBlksE_ok h k b hk
  rwa [Nat.zero_add] at this
 have hM:∀b∈f.blocks,∃k:Nat,f.blocks[k]?=some b:=fun b hb=>List.mem_iff_getElem?.1 hb
 have hP:∀(k:Nat) b,f.blocks[k]?=some b→¬(0<k∧0<b.params.length)∧mParE [] b.params=0∧mInssE b.ins=0∧endE f b.term=0∧varB b.term.arg=true:=fun k b hk=>by
  have:=hB k b hk
  unfold mBlkE at this
  split at this
  ·simp at this
  rename_i hq
  have h5:=orE_eq this
  have h6:=orE_eq h5.2
  have h7:=orE_eq h6.2
  refine⟨hq,h5.1,h6.1,h7.1,?_⟩
  have h8:=h7.2
  split at h8
  ·assumption
  simp at h8
 refine⟨fun e=>h1 (by rw [e];rfl),by omega,by omega,by omega,fun b hb=>?_,fun k b hk h0=>?_,fun b hb=>?_,fun b hb=>?_,fun b hb=>?_,fun b hb=>?_⟩
 ·have:=hw.2 b hb
  omega
 ·have:=(hP k b hk).1
  exact List.length_eq_zero_iff.1 (by omega)
 ·obtain⟨k,hk⟩:=hM b hb
  exact mParE_ok (hP k b hk).2.1
 ·obtain⟨k,hk⟩:=hM b hb
  exact mInssE_ok (hP k b hk).2.2.1
 ·obtain⟨k,hk⟩:=hM b hb
  exact(hP k b hk).2.2.2.1
 obtain⟨k,hk⟩:=hM b hb
 exact(hP k b hk).2.2.2.2
def mFunsE:List Func→Int
 | []=>0
 | f::r=>orE (mFunE f) (mFunsE r)
theorem mFunsE_all:∀{l:List Func},mFunsE l=0→∀f∈l,mFunE f=0
 | [],_,f,h=>by simp at h
 | g::r,h,f,hf=>by
  have:=orE_eq h
  rcases List.mem_cons.1 hf with q | q
  ·subst q
   exact this.1
  exact mFunsE_all this.2 f q
def mCheckM(u:Unt):Int :=
 if u.fns.length=0 then 3
 else if 256<u.fns.length then 2
 else if u.main<0∨(u.fns.length:Int)≤u.main then 4
 else orE (mFunsE u.fns) (if 0<(blkOf (fnOf u u.main) 0).params.length then 3 else callsF u u.fns)
theorem mcheck_spec(u:Unt)(hfit:u.fit):PCall Try.prog 28 [u.enc] (aI (mCheckM u)):=by
 obtain⟨R,hR⟩:∃R,R=mCheckM u:=⟨_,rfl⟩
 rw [←hR]
 unfold mCheckM at hR
 have hfew:u.fns.length≤2 ^ 47:=hfit.2.1
 refine zf true 0 Try.func28 Try.ntmps28 ?_
 dsimp only [Tmp,TypeId,slotsOf]
 refine zh1 (za0 ?_)
 refine awp_freeze1 1 0 (.ip none [eFuncs u.fns,aI u.main]) rfl (by simp [AObj.isSpare]) trivial rfl ?_ ?_
 rotate_left
 simp -dsimp only [simprocAttr,↓vpre,zp]
 ·refine awp_seq (awp_block ?_)
  by_cases h0:u.fns.length=0
  ·rw [if_pos h0] at hR
   have hd:decide ((u.fns.length:Int)=0)=true:=decide_eq_true (by omega)
   refine zg1 ?_
   simp -dsimp only [simprocAttr,↓vpre,zp,hd]
   refine za0 ?_
   refine zw0 rfl ?_
   refine zh1 (za0 ?_)
   refine awp_ret ?_
   simp -dsimp only [simprocAttr,↓vpre,zp,zr,Try.results28]
   rw [hR]
  rw [if_neg h0] at hR
  have hd:decide ((u.fns.length:Int)=0)=false:=decide_eq_false (by omega)
  refine zg1 ?_
  simp -dsimp only [simprocAttr,↓vpre,zp,hd]
  refine za0 ?_
  apply zk0 rfl<;>intro h
  ·cases h
  by_cases h1:256<u.fns.length
  ·rw [if_pos h1] at hR
   have hd:decide ((256:Int)<u.fns.length)=true:=decide_eq_true (by omega)
   refine zg1 ?_
   simp -dsimp only [simprocAttr,↓vpre,zp,hd]
   refine za0 ?_
   refine zw0 rfl ?_
   refine zh1 (za0 ?_)
   refine awp_ret ?_
   simp -dsimp only [simprocAttr,↓vpre,zp,zr,Try.results28]
   rw [hR]
  rw [if_neg h1] at hR
  have hd:decide ((256:Int)<u.fns.length)=false:=decide_eq_false (by omega)
  refine zg1 ?_
  simp -dsimp only [simprocAttr,↓vpre,zp,hd]
  refine za0 ?_
  apply zk0 rfl<;>intro h
  ·cases h
  by_cases hwb:u.main<0∨(u.fns.length:Int)≤u.main
  ·rw [if_pos hwb] at hR
   cases hn1:decide (u.main<0) with
   | true =>
    refine zg1 ?_
    simp -dsimp only [simprocAttr,↓vpre,zp,hn1]
    refine za0 ?_
    refine zw0 rfl ?_
    refine zh1 (za0 ?_)
    refine awp_ret ?_
    simp -dsimp only [simprocAttr,↓vpre,zp,zr,Try.results28]
    rw [hR]
   | false =>
    have hn1':=of_decide_eq_false hn1
    have hn2:decide ((u.fns.length:Int)≤u.main)=true:=decide_eq_true (by omega)
    refine zg1 ?_
    simp -dsimp only [simprocAttr,↓vpre,zp,hn1,hn2]
    refine za0 ?_
    refine zw0 rfl ?_
    refine zh1 (za0 ?_)
    refine awp_ret ?_
    simp -dsimp only [simprocAttr,↓vpre,zp,zr,Try.results28]
    rw [hR]
  rw [if_neg hwb] at hR
  have hmain:0≤u.main∧u.main<u.fns.length:=by omega
  have hn1:decide (u.main<0)=false:=decide_eq_false (by omega)
  have hn2:decide ((u.fns.length:Int)≤u.main)=false:=decide_eq_false (by omega)
  refine zg1 ?_
  simp -dsimp only [simprocAttr,↓vpre,zp,hn1,hn2]
  refine za0 ?_
  apply zk0 rfl<;>intro h
  ·cases h
  refine zb1 ?_
  refine zh2 (za0 ?_)
  refine awp_block (awp_loop (ι:={k:Nat // k≤u.fns.length∧mFunsE u.fns=mFunsE (u.fns.drop k)}) (fun k=>⟨90,[(1,.ip none [eFuncs u.fns,aI u.main]),(2,aI 0),(36,eFuncs u.fns),(37,aI u.fns.length),(38,aI k.1)],[.gone]⟩) (fun k=>u.fns.length - k.1) ⟨0,by omega,rfl⟩ ?_ ?_)
  ·refine zq rfl ?_ ?_
   simp -dsimp only [simprocAttr,↓vpre,zp,zc]
   rfl
  rintro⟨k,hk,hke⟩
  refine zh1 (za0 ?_)
  apply zk1 rfl<;>intro h
  ·refine zb0 ?_
   have hlt:k<u.fns.length:=by simpa using h
   obtain⟨f,hf⟩:∃f,u.fns[k]?=some f:=⟨u.fns[k],by simp [hlt]⟩
   have hcf:=mfun_spec f (hfit.2.2 f (List.mem_of_getElem? hf))
   rw [drop_at hf] at hke
   simp only [mFunsE] at hke
   obtain⟨e,he0⟩:∃e,e=mFunE f:=⟨_,rfl⟩
   rw [←he0] at hke hcf
   refine awp_seq (awp_block ?_)
   refine zg1 ?_
   simp -dsimp only [simprocAttr,↓vpre,zp,hf]
   refine za0 ?_
   refine awp_freeze1 4 1 (.ip none [aI f.name,eBlocks f.blocks]) rfl (by simp [AObj.isSpare]) trivial rfl ?_ ?_
   rotate_left
   simp -dsimp only [simprocAttr,↓vpre,zp]
   ·refine awp_trunc' 1 [(1,.ip none [eFuncs u.fns,aI u.main]),(2,aI 0),(36,eFuncs u.fns),(37,aI u.fns.length),(38,aI k),(4,.ip none [aI f.name,eBlocks f.blocks])] (by simp) (by omega) [.gone] ?_ ?_ ?_ ?_ ?_
    ·rfl
    ·simp [AObj.upto,uptoL,AVal.upto,aI_upto,Func.map_upto,Block.map_upto,Edge.map_upto,Ins.map_upto]
    ·simp [Says,St.get,putS,dropS,Go.Av.look,Sub.refl]
    ·simp [AObj.upto,uptoL,AVal.upto,aI_upto,Func.map_upto,Block.map_upto,Edge.map_upto,Ins.map_upto]
    refine zh1 ?_
    refine zi hcf ?_
    refine za0 ?_
    by_cases he:e=0
    ·have hde:decide (e=0)=true:=decide_eq_true he
     rw [orE_zero he] at hke
     refine zg1 ?_
     simp -dsimp only [simprocAttr,↓vpre,zp,hde]
     refine za0 ?_
     refine zu0 rfl ?_
     refine zb1 ?_
     refine zh0 ?_
     repeat(refine⟨by omega,?_⟩)
     refine zl0 ?_
     refine⟨⟨k+1,hlt,hke⟩,by simp;omega,?_⟩
     refine zq rfl ?_ ?_
     simp -dsimp only [simprocAttr,↓vpre,zp,zc]
     ·exact Sub.int (by simp)
     rfl
    have hde:decide (e=0)=false:=decide_eq_false he
    rw [orE_ne he] at hke
    rw [hke,orE_ne he] at hR
    refine zg1 ?_
    simp -dsimp only [simprocAttr,↓vpre,zp,hde]
    refine za0 ?_
    refine zw0 rfl ?_
    refine zh1 (za0 ?_)
    refine awp_ret ?_
    simp -dsimp only [simprocAttr,↓vpre,zp,zr,Try.results28]
    rw [hR]
   exact FSub.mp rfl rfl
  refine awp_exit ?_
  simp -dsimp only [vend,ne_eq,Nat.reduceEqDiff,reduceCtorEq]
  have hkk:k=u.fns.length:=by simp at h;omega
  subst hkk
  rw [List.drop_length] at hke
  have hfe:mFunsE u.fns=0:=by rw [hke];rfl
  rw [orE_zero hfe] at hR
  have hall:∀f∈u.fns,MFnW f:=fun f hf=>mFun_ok (hfit.2.2 f hf) (mFunsE_all hfe f hf)
  have hM:=fnOf_at (u:=u) (k:=u.main) hmain.1 (by omega)
  have hMl:0<(fnOf u u.main).blocks.length:=by
   have:=(hall _ (List.mem_of_getElem? hM)).ne
   cases hb:(fnOf u u.main).blocks with
   | nil=>exact absurd hb this
   | cons=>simp
  have hB:(fnOf u u.main).blocks[0]?=some (blkOf (fnOf u u.main) 0):=blkOf_at (f:=fnOf u u.main) (k:=0) (by omega) (by omega)
  generalize blkOf (fnOf u u.main) 0=B at *
  generalize fnOf u u.main=F at *
  by_cases hp:0<B.params.length
  ·rw [if_pos hp] at hR
   have hdp:decide ((0:Int)<B.params.length)=true:=decide_eq_true (by omega)
   refine zg2 ?_
   simp -dsimp only [simprocAttr,↓vpre,zp,hM,hB,hdp]
   repeat(refine⟨by omega,?_⟩)
   refine za0 ?_
   refine zw0 rfl ?_
   refine zh1 (za0 ?_)
   refine awp_ret ?_
   simp -dsimp only [simprocAttr,↓vpre,zp,zr,Try.results28]
   rw [hR]
  rw [if_neg hp] at hR
  have hdp:decide ((0:Int)<B.params.length)=false:=decide_eq_false (by omega)
  refine zg2 ?_
  simp -dsimp only [simprocAttr,↓vpre,zp,hM,hB,hdp]
  repeat(refine⟨by omega,?_⟩)
  refine za0 ?_
  apply zk0 rfl<;>intro h
  ·cases h
  refine zb0 ?_
  refine zh2 (za0 ?_)
  refine awp_block (awp_loop (ι:={k:Nat // k≤u.fns.length∧R=callsF u (u.fns.drop k)}) (fun k=>⟨90,[(1,.ip none [eFuncs u.fns,aI u.main]),(2,aI 0),(61,eFuncs u.fns),(62,aI u.fns.length),(63,aI k.1)],[.gone]⟩) (fun k=>u.fns.length - k.1) ⟨0,by omega,hR⟩ ?_ ?_)
  ·refine zq rfl ?_ ?_
   simp -dsimp only [simprocAttr,↓vpre,zp,zc]
   rfl
  rintro⟨k,hk,hke⟩
  refine zh1 (za0 ?_)
  apply zk1 rfl<;>intro h
  ·refine zb0 ?_
   have hlt:k<u.fns.length:=by simpa using h
   obtain⟨f,hf⟩:∃f,u.fns[k]?=some f:=⟨u.fns[k],by simp [hlt]⟩
   have hfm:=List.mem_of_getElem? hf
   have hbl:=(hall f hfm).few
   rw [drop_at hf] at hke
   simp only [callsF] at hke
   refine awp_seq (awp_block ?_)
   refine zg1 ?_
   simp -dsimp only [simprocAttr,↓vpre,zp,hf]
   refine za0 ?_
   refine awp_freeze1 7 1 (.ip none [aI f.name,eBlocks f.blocks]) rfl (by simp [AObj.isSpare]) trivial rfl ?_ ?_
   rotate_left
   simp -dsimp only [simprocAttr,↓vpre,zp]
   ·refine awp_trunc' 1 [(1,.ip none [eFuncs u.fns,aI u.main]),(2,aI 0),(61,eFuncs u.fns),(62,aI u.fns.length),(63,aI k),(7,.ip none [aI f.name,eBlocks f.blocks])] (by simp) (by omega) [.gone] ?_ ?_ ?_ ?_ ?_
    ·rfl
    ·simp [AObj.upto,uptoL,AVal.upto,aI_upto,Func.map_upto,Block.map_upto,Edge.map_upto,Ins.map_upto]
    ·simp [Says,St.get,putS,dropS,Go.Av.look,Sub.refl]
    ·simp [AObj.upto,uptoL,AVal.upto,aI_upto,Func.map_upto,Block.map_upto,Edge.map_upto,Ins.map_upto]
    refine zh1 (za0 ?_)
    refine awp_block (awp_loop (ι:={j:Nat // j≤f.blocks.length∧R=orE (callsB u (f.blocks.drop j)) (callsF u (u.fns.drop (k+1)))}) (fun j=>⟨90,[(1,.ip none [eFuncs u.fns,aI u.main]),(2,aI 0),(61,eFuncs u.fns),(62,aI u.fns.length),(63,aI k),(68,eBlocks f.blocks),(69,aI f.blocks.length),(70,aI j.1)],[.gone]⟩) (fun j=>f.blocks.length - j.1) ⟨0,by omega,hke⟩ ?_ ?_)
    ·refine zq rfl ?_ ?_
     simp -dsimp only [simprocAttr,↓vpre,zp,zc]
     rfl
    rintro⟨j,hj,hje⟩
    refine zh1 (za0 ?_)
    apply zk1 rfl<;>intro h
    ·refine zb0 ?_
     have hlj:j<f.blocks.length:=by simpa using h
     obtain⟨b,hb⟩:∃b,f.blocks[j]?=some b:=⟨f.blocks[j],by simp [hlj]⟩
     have hbm:=List.mem_of_getElem? hb
     have hil:=(hall f hfm).ins b hbm
     rw [drop_at hb] at hje
     simp only [callsB] at hje
     rw [orE_assoc] at hje
     refine awp_seq (awp_block ?_)
     refine zg1 ?_
     simp -dsimp only [simprocAttr,↓vpre,zp,hb]
     refine za0 ?_
     refine awp_freeze1 9 1 (.ip none [eIs b.params,eInss b.ins,aI b.term.kind,aI b.term.arg,aI b.term.n,eIs b.term.cases,eEdges b.term.to]) rfl (by simp [AObj.isSpare]) trivial rfl ?_ ?_
     rotate_left
     simp -dsimp only [simprocAttr,↓vpre,zp]
     ·refine awp_trunc' 1 [(1,.ip none [eFuncs u.fns,aI u.main]),(2,aI 0),(61,eFuncs u.fns),(62,aI u.fns.length),(63,aI k),(68,eBlocks f.blocks),(69,aI f.blocks.length),(70,aI j),(9,.ip none [eIs b.params,eInss b.ins,aI b.term.kind,aI b.term.arg,aI b.term.n,eIs b.term.cases,eEdges b.term.to])] (by simp) (by omega) [.gone] ?_ ?_ ?_ ?_ ?_
      ·rfl
      ·simp [AObj.upto,uptoL,AVal.upto,aI_upto,Func.map_upto,Block.map_upto,Edge.map_upto,Ins.map_upto]
      ·simp [Says,St.get,putS,dropS,Go.Av.look,Sub.refl]
      ·simp [AObj.upto,uptoL,AVal.upto,aI_upto,Func.map_upto,Block.map_upto,Edge.map_upto,Ins.map_upto]
      refine zh1 (za0 ?_)
      refine awp_block (awp_loop (ι:={z:Nat // z≤b.ins.length∧R=orE (callsI u (b.ins.drop z)) (orE (callsB u (f.blocks.drop (j+1))) (callsF u (u.fns.drop (k+1))))}) (fun z=>⟨90,[(1,.ip none [eFuncs u.fns,aI u.main]),(2,aI 0),(61,eFuncs u.fns),(62,aI u.fns.length),(63,aI k),(68,eBlocks f.blocks),(69,aI f.blocks.length),(70,aI j),(75,eInss b.ins),(76,aI b.ins.length),(77,aI z.1)],[.gone]⟩) (fun z=>b.ins.length - z.1) ⟨0,by omega,hje⟩ ?_ ?_)
      ·refine zq rfl ?_ ?_
       simp -dsimp only [simprocAttr,↓vpre,zp,zc]
       rfl
      rintro⟨z,hz,hze⟩
      refine zh1 (za0 ?_)
      apply zk1 rfl<;>intro h
      ·refine zb0 ?_
       have hlz:z<b.ins.length:=by simpa using h
       obtain⟨i,hi⟩:∃i,b.ins[z]?=some i:=⟨b.ins[z],by simp [hlz]⟩
       rw [drop_at hi] at hze
       simp only [callsI] at hze
       rw [orE_assoc] at hze
       have hfw:=(hall f hfm).form b hbm i (List.mem_of_getElem? hi)
       have hcs:=calls_spec u i (fun q=>((hfw (by omega)).call (by omega)).1) (fun f hf=>(hall f hf).ne)
       obtain⟨e,he0⟩:∃e,e=callsE u i:=⟨_,rfl⟩
       rw [←he0] at hze hcs
       refine awp_seq (awp_block ?_)
       refine zg1 ?_
       simp -dsimp only [simprocAttr,↓vpre,zp,hi]
       refine za0 ?_
       refine awp_freeze1 11 1 (.ip none [aI i.to,aI i.op,aI i.n,eIs i.args]) rfl (by simp [AObj.isSpare]) trivial rfl ?_ ?_
       rotate_left
       simp -dsimp only [simprocAttr,↓vpre,zp]
       ·refine awp_trunc' 1 [(1,.ip none [eFuncs u.fns,aI u.main]),(2,aI 0),(61,eFuncs u.fns),(62,aI u.fns.length),(63,aI k),(68,eBlocks f.blocks),(69,aI f.blocks.length),(70,aI j),(75,eInss b.ins),(76,aI b.ins.length),(77,aI z),(11,.ip none [aI i.to,aI i.op,aI i.n,eIs i.args])] (by simp) (by omega) [.gone] ?_ ?_ ?_ ?_ ?_
        ·rfl
        ·simp [AObj.upto,uptoL,AVal.upto,aI_upto,Func.map_upto,Block.map_upto,Edge.map_upto,Ins.map_upto]
        ·simp [Says,St.get,putS,dropS,Go.Av.look,Sub.refl]
        ·simp [AObj.upto,uptoL,AVal.upto,aI_upto,Func.map_upto,Block.map_upto,Edge.map_upto,Ins.map_upto]
        refine zh1 ?_
        refine zi hcs ?_
        refine za0 ?_
        by_cases he:e=0
        ·have hde:decide (e=0)=true:=decide_eq_true he
         rw [orE_zero he] at hze
         refine zg1 ?_
         simp -dsimp only [simprocAttr,↓vpre,zp,hde]
         refine za0 ?_
         refine zu0 rfl ?_
         refine zb1 ?_
         refine zh0 ?_
         repeat(refine⟨by omega,?_⟩)
         refine zl0 ?_
         refine⟨⟨z+1,hlz,hze⟩,by simp;omega,?_⟩
         refine zq rfl ?_ ?_
         simp -dsimp only [simprocAttr,↓vpre,zp,zc]
         ·exact Sub.int (by simp)
         rfl
        have hde:decide (e=0)=false:=decide_eq_false he
        rw [orE_ne he] at hze
        refine zg1 ?_
        simp -dsimp only [simprocAttr,↓vpre,zp,hde]
        refine za0 ?_
        refine zw0 rfl ?_
        refine zh1 (za0 ?_)
        refine awp_ret ?_
        simp -dsimp only [simprocAttr,↓vpre,zp,zr,Try.results28]
        rw [hze]
       exact FSub.mp rfl rfl
      refine awp_exit ?_
      simp -dsimp only [vend,ne_eq,Nat.reduceEqDiff,reduceCtorEq]
      have hzz:z=b.ins.length:=by simp at h;omega
      subst hzz
      rw [List.drop_length] at hze
      rw [orE_zero (by rfl)] at hze
      refine zh0 ?_
      repeat(refine⟨by omega,?_⟩)
      refine zl0 ?_
      refine⟨⟨j+1,hlj,hze⟩,by simp;omega,?_⟩
      refine zq rfl ?_ ?_
      simp -dsimp only [simprocAttr,↓vpre,zp,zc]
      ·exact Sub.int (by simp)
      rfl
     exact FSub.mp rfl rfl
    refine awp_exit ?_
    simp -dsimp only [vend,ne_eq,Nat.reduceEqDiff,reduceCtorEq]
    have hjj:j=f.blocks.length:=by simp at h;omega
    subst hjj
    rw [List.drop_length] at hje
    rw [orE_zero (by rfl)] at hje
    refine zh0 ?_
    repeat(refine⟨by omega,?_⟩)
    refine zl0 ?_
    refine⟨⟨k+1,hlt,hje⟩,by simp;omega,?_⟩
    refine zq rfl ?_ ?_
    simp -dsimp only [simprocAttr,↓vpre,zp,zc]
    ·exact Sub.int (by simp)
    rfl
   exact FSub.mp rfl rfl
  refine awp_exit ?_
  simp -dsimp only [vend,ne_eq,Nat.reduceEqDiff,reduceCtorEq]
  have hkk:k=u.fns.length:=by simp at h;omega
  subst hkk
  rw [List.drop_length] at hke
  refine zh1 (za0 ?_)
  refine awp_ret ?_
  simp -dsimp only [simprocAttr,↓vpre,zp,zr,Try.results28]
  rw [hke]
  rfl
 exact FSub.mp rfl rfl
end Go.Proofs.Ytkhnjeblbiocaaa
namespace Go.Av
def ChP(P:Program)(all:List Oper)(k:Nat)(σ:St)(ks:List Kind)(R:St→List Kind→Prop):Prop :=
 ∃(ρ:St) (ks':List Kind),ks'.length+k=all.length∧Chain P all.toArray ((ks'.zipIdx k).map fun p=>(p.2,p.1)) σ ρ∧R ρ (ks++ks')
theorem ChP.fin{P:Program}{all:List Oper}{k:Nat}{σ:St}{ks:List Kind}{R:St→List Kind→Prop}(hk:k=all.length)(h:R σ ks):ChP P all k σ ks R :=
 ⟨σ,[],by simpa using hk,Same.refl σ,by simpa using h⟩
theorem ChP.op{P:Program}{all:List Oper}{k:Nat}{σ:St}{ks:List Kind}{R:St→List Kind→Prop}{o:Oper}{x:AVal}{m:Mode}(ho:all[k]?=some o)(hg:o.guard=none)(hc:Cert P o σ x m)
  (h:ChP P all (k+1) ⟨σ.n,putO o.dst x σ.slots,m.post σ.objs⟩ (ks++[m.kind]) R):ChP P all k σ ks R:=by
 obtain⟨ρ,ks',h1,h2,h3⟩:=h
 refine⟨ρ,m.kind::ks',by simp only [List.length_cons];omega,?_,by simpa using h3⟩
 rw [List.zipIdx_cons,List.map_cons]
 exact⟨_,⟨o,by simpa using ho,.inl ⟨by simp [wantedA,hg],x,m,hc,rfl,rfl⟩⟩,h2⟩
theorem chain_app{P:Program}{ops:Array Oper}:∀{l1 l2:List (Nat×Kind)} {σ τ ρ:St},Chain P ops l1 σ τ→Chain P ops l2 τ ρ→Chain P ops (l1++l2) σ ρ
 | [],_,_,_,_,h1,h2=>h2.same h1.symm
 | _::_,_,_,_,_,⟨σ',h,h1⟩,h2=>⟨σ',h,chain_app h1 h2⟩
theorem chain_off{P:Program}{ops all:Array Oper}{k:Nat}(hk:∀i o,ops[i]?=some o→all[k+i]?=some o)(hg:∀o∈all.toList,o.guard=none):∀{l:List (Nat×Kind)} {σ τ:St},Chain P ops l σ τ→Chain P all (l.map fun p=>(k+p.1,p.2)) σ τ
 | [],_,_,h=>h
 | (i,q)::r,_,_,h=>by
  obtain⟨σ',⟨o,ho,h1⟩,h2⟩:=h
  refine⟨σ',⟨o,hk i o ho,?_⟩,chain_off hk hg h2⟩
  have ho':=hk i o ho
  have hgo:o.guard=none:=hg o (by
   rw [←Array.getElem?_toList] at ho'
   exact List.mem_of_getElem? ho')
  have w1:∀(a:Array Oper) (σ:St),wantedA a o σ=some true:=fun a σ=>by simp [wantedA,hgo]
  rcases h1 with⟨_,h1⟩ | ⟨h1,_⟩
  ·exact .inl ⟨w1 _ _,h1⟩
  rw [w1] at h1
  cases h1
theorem ChP.seg{P:Program}{tab:Tab}(md:Md)(hT:TabOK P tab){all l1:List Oper}{k:Nat}{σ:St}{ks:List Kind}{R:St→List Kind→Prop}(n:Nat)(h1:(all.drop k).take n=l1)(hn:l1.length=n)(hg:∀o∈all,o.guard=none)
  (h:vcOps P tab md l1 0 [] σ [] fun τ ks1=>ChP P all (k+n) τ (ks++ks1.reverse) R):ChP P all k σ ks R:=by
 obtain⟨τ,ks1,c1,n1,ρ,ks2,h3,c2,hR⟩:=vcOps_sound (all:=l1.toArray) hT l1 0 [] σ [] (fun j=>by simp) (fun j t hj=>by simp [slotAt] at hj) h
 have hl:k+n≤all.length:=by
  have:l1.length≤all.length - k:=by rw [←h1,List.length_take,List.length_drop];omega
  by_cases hz:n=0
  ·omega
  omega
 have d1:=chain_off (all:=all.toArray) (k:=k) (fun i o hi=>by
  have hi':l1[i]?=some o:=by simpa using hi
  rw [←h1,List.getElem?_take] at hi'
  split at hi'
  ·rw [List.getElem?_drop] at hi'
   simpa using hi'
  cases hi') (by simpa using hg) c1
 refine⟨ρ,ks1++ks2,by rw [List.length_append];omega,?_,by simpa using hR⟩
 rw [List.zipIdx_append,List.map_append]
 have e1:(ks1.zipIdx k).map (fun p=>(p.2,p.1))=((ks1.zipIdx 0).map fun p=>(p.2,p.1)).map fun p=>(k+p.1,p.2):=by
  apply List.ext_getElem?
  intro i
  simp only [List.getElem?_map,List.getElem?_zipIdx]
  cases ks1[i]?<;>simp
 rw [e1]
 refine chain_app d1 ?_
 rw [show k+ks1.length=k+n by omega]
 exact c2
theorem awp_pieces{P:Program}{kb:Nat}(hm:P.follows .mixedOrders=true){id:Nat}{l:List Oper}{draw:Bool}{Q:AEx→St→Prop}{σ:St}
  (h:ChP P l 0 σ [] fun τ ks=>Draws draw (fun _=>OrderOK l.toArray ks)∧At τ (Q .norm)):AWP P kb (.region id l.toArray draw) Q σ:=by
 obtain⟨τ,ks,h1,h2,h3,h4⟩:=h
 intro base a g hb hr
 have hch:Chain P l.toArray ((List.range l.toArray.size).map fun i=>(i,ks.getD i .write)) σ τ:=by
  have e:(ks.zipIdx 0).map (fun p=>(p.2,p.1))=(List.range l.toArray.size).map fun i=>(i,ks.getD i .write):=by
   apply List.ext_getElem?
   intro i
   simp only [List.getElem?_map]
   have hlen:ks.length=l.toArray.size:=by simpa using h1
   by_cases hi:i<l.toArray.size
   ·have hi':i<ks.length:=by omega
    rw [List.getElem?_range hi]
    simp [hi']
   rw [List.getElem?_eq_none (by simp only [List.length_zipIdx];omega),List.getElem?_eq_none (by simp only [List.length_range];omega)]
   rfl
  rw [←e]
  exact h2
 cases draw with
 | false=>exact wp_region_lex hch hr fun a g hr'=>⟨g,τ,rfl,hr',h4⟩
 | true =>
  have hB:=h3 rfl
  simp only [List.nil_append] at hB
  exact wp_region_chain hm hB hch hr fun a g hr'=>⟨g,τ,rfl,hr',h4⟩
end Go.Av
namespace Go.Proofs.Ytkhnjeblbiocaaa
open Go.Av
theorem drop_mv{l:List Mv}{j:Nat}{x:Mv}(h:l[j]?=some x):l.drop j=x::l.drop (j+1):=by
 obtain⟨hk,e⟩:=List.getElem?_eq_some_iff.1 h
 rw [←e,←List.drop_eq_getElem_cons hk]
theorem q1_spec{O:List AObj}(hup:∀o∈O,o.upto O.length)(X:Nat)(a b:Int)(hX:O[X]?=some (.cells [aI a,aI b]))(y:Mv):ECall Try.prog 45 O [eM y,.mp X 0] fun r O'=>r=.v (.bool (decide (y.1=a)))∧O'=O:=by
 have hXl:=lt_of_getElem? hX
 have h1:∀Y,(O++Y)[X]?=some (.cells [aI a,aI b]):=fun Y=>at_left hX
 have h2:∀Y Z,(O++Y::Z)[O.length]?=some Y:=fun Y Z=>by simp
 have hkk:O.length≤O.length:=Nat.le_refl _
 refine ecall_of hT true (O.length) Try.func45 rfl (by kernel_rfl) (by simp [Try.ntmps45]) (by assumption) ?_
 show AWP Try.prog _ _ _ ⟨9,_,_⟩
 dsimp only [Tmp,TypeId,slotsOf]
 refine zh1 (za0 ?_)
 refine zg1 ?_
 simp -dsimp only [simprocAttr,↓vpre,zp,h1,h2]
 refine za0 ?_
 refine awp_ret ?_
 simp -dsimp only [simprocAttr,↓vpre,zp,zr,Try.results45,List.take_left]
 exact hup
theorem q2_spec(y:Mv):PCall Try.prog 48 [eM y] (.v (.bool (decide (y.1=y.2)))):=by
 refine zf true 0 Try.func48 Try.ntmps48 ?_
 dsimp only [Tmp,TypeId,slotsOf]
 refine zh1 (za0 ?_)
 refine zh1 (za0 ?_)
 refine awp_ret ?_
 simp -dsimp only [simprocAttr,↓vpre,zp,zr,Try.results48]
theorem q31_spec{O:List AObj}(hup:∀o∈O,o.upto O.length)(X:Nat)(a b:Int)(hX:O[X]?=some (.cells [aI a,aI b]))(y:Mv):ECall Try.prog 51 O [eM y,.mp X 0] fun r O'=>r=.v (.bool (decide (y.2=a)))∧O'=O:=by
 have hXl:=lt_of_getElem? hX
 have h1:∀Y,(O++Y)[X]?=some (.cells [aI a,aI b]):=fun Y=>at_left hX
 have h2:∀Y Z,(O++Y::Z)[O.length]?=some Y:=fun Y Z=>by simp
 have hkk:O.length≤O.length:=Nat.le_refl _
 refine ecall_of hT true (O.length) Try.func51 rfl (by kernel_rfl) (by simp [Try.ntmps51]) (by assumption) ?_
 show AWP Try.prog _ _ _ ⟨9,_,_⟩
 dsimp only [Tmp,TypeId,slotsOf]
 refine zh1 (za0 ?_)
 refine zg1 ?_
 simp -dsimp only [simprocAttr,↓vpre,zp,h1,h2]
 refine za0 ?_
 refine awp_ret ?_
 simp -dsimp only [simprocAttr,↓vpre,zp,zr,Try.results51,List.take_left]
 exact hup
theorem idxL_spec{O:List AObj}(f':Nat)(caps:List AVal)(q:Mv→Bool)(l:List Mv)(hq:∀x∈l,ECall Try.prog f' O (eM x::caps) fun r O'=>r=.v (.bool (q x))∧O'=O) :
  ECall Try.prog 49 O [.lst 2 (l.map eM) .sh,.fn (.func f') [] caps] fun r O'=>r=aI (idxM q l)∧O'=O:=by
 obtain⟨R,hR⟩:∃R,R=idxM q l:=⟨_,rfl⟩
 rw [←hR]
 refine ecall_all hT Try.func49 rfl (by kernel_rfl) (by simp [Try.ntmps49]) ?_
 show AWP Try.prog _ _ _ ⟨19,_,_⟩
 dsimp only [Tmp,TypeId,slotsOf]
 refine zh1 (za0 ?_)
 refine awp_len 0 rfl (fun hll=>?_)
 simp only [List.length_map] at hll
 refine zh2 (za0 ?_)
 refine awp_block (awp_loop (ι:={k:Nat // k≤l.length∧R=idxFrom q (l.drop k) k}) (fun k=>⟨19,[(0,.lst 2 (l.map eM) .sh),(1,.fn (.func f') [] caps),(7,aI l.length),(8,aI k.1)],O⟩) (fun k=>l.length - k.1) ⟨0,by omega,hR⟩ ?_ ?_)
 ·refine zq rfl ?_ ?_
  simp -dsimp only [simprocAttr,↓vpre,zp,zc]
  all_goals rfl
 rintro⟨k,hk,hke⟩
 refine zh1 (za0 ?_)
 apply zk1 rfl<;>intro h
 ·refine zb0 ?_
  have hlt:k<l.length:=by simpa using h
  obtain⟨x,hx⟩:∃x,l[k]?=some x:=⟨l[k],List.getElem?_eq_getElem hlt⟩
  have hqx:=hq x (List.mem_of_getElem? hx)
  rw [drop_mv hx,idxFrom] at hke
  refine awp_seq (awp_block ?_)
  refine zh1 (za0 ?_)
  refine zg1 ?_
  simp -dsimp only [simprocAttr,↓vpre,zp,hx]
  repeat(refine⟨by omega,?_⟩)
  refine .inr (.inr ⟨_,hqx,later_intro (zj ?_)⟩)
  refine za0 ?_
  apply zk0 rfl<;>intro h
  ·refine zh1 (za0 ?_)
   refine awp_ret ?_
   simp -dsimp only [simprocAttr,↓vpre,zp,RetAll,Try.results49,retVals,retVal,mkRet,seqPost_ret,blockPost_ret,loopPost_ret]
   rw [hke,if_pos h]
  refine zb1 ?_
  rw [if_neg (by simp [h])] at hke
  refine zh0 ?_
  repeat(refine⟨by omega,?_⟩)
  refine zl0 ?_
  refine⟨⟨k+1,hlt,hke⟩,by show l.length - (k+1)<l.length - k;omega,?_⟩
  refine zq rfl ?_ ?_
  simp -dsimp only [simprocAttr,↓vpre,zp,zc]
  all_goals first | rfl | exact Sub.int (by simp)
 refine awp_exit ?_
 simp -dsimp only [vend,ne_eq,Nat.reduceEqDiff,reduceCtorEq]
 have hkl:k=l.length:=by
  have:=of_decide_eq_false h
  omega
 subst hkl
 rw [List.drop_length] at hke
 refine zh1 (za0 ?_)
 refine awp_ret ?_
 simp -dsimp only [simprocAttr,↓vpre,zp,RetAll,Try.results49,retVals,retVal,mkRet,seqPost_ret,blockPost_ret,loopPost_ret]
 rw [hke]
 rfl
theorem idxO_spec{O:List AObj}(id c:Nat)(J:List AVal)(l:List Mv)(hO:O[id]?=some (.cells (mC l++J)))(hl40:l.length≤2 ^ 40)(f':Nat)(caps:List AVal)(q:Mv→Bool)
  (hq:∀x∈l,ECall Try.prog f' O (eM x::caps) fun r O'=>r=.v (.bool (q x))∧O'=O) :
  ECall Try.prog 49 O [.ms id 0 l.length c,.fn (.func f') [] caps] fun r O'=>r=aI (idxM q l)∧O'=O:=by
 obtain⟨R,hR⟩:∃R,R=idxM q l:=⟨_,rfl⟩
 rw [←hR]
 have hlen:(mC l++J).length=l.length * 2+J.length:=by rw [List.length_append,mC_len]
 refine ecall_all hT Try.func49 rfl (by kernel_rfl) (by simp [Try.ntmps49]) ?_
 show AWP Try.prog _ _ _ ⟨19,_,_⟩
 dsimp only [Tmp,TypeId,slotsOf]
 refine zh1 (za0 ?_)
 refine zh2 (za0 ?_)
 refine awp_block (awp_loop (ι:={k:Nat // k≤l.length∧R=idxFrom q (l.drop k) k}) (fun k=>⟨19,[(0,.ms id 0 l.length c),(1,.fn (.func f') [] caps),(7,aI l.length),(8,aI k.1)],O⟩) (fun k=>l.length - k.1) ⟨0,by omega,hR⟩ ?_ ?_)
 ·refine zq rfl ?_ ?_
  simp -dsimp only [simprocAttr,↓vpre,zp,zc]
  all_goals rfl
 rintro⟨k,hk,hke⟩
 refine zh1 (za0 ?_)
 apply zk1 rfl<;>intro h
 ·refine zb0 ?_
  have hlt:k<l.length:=by simpa using h
  obtain⟨x,hx⟩:∃x,l[k]?=some x:=⟨l[k],List.getElem?_eq_getElem hlt⟩
  have hqx:=hq x (List.mem_of_getElem? hx)
  obtain⟨hat,-,-⟩:=mC_at hx J
  rw [drop_mv hx,idxFrom] at hke
  refine awp_seq (awp_block ?_)
  refine zh1 (za0 ?_)
  generalize mC l++J=C at *
  refine zg1 ?_
  simp -dsimp only [simprocAttr,↓vpre,zp,hO,hat,hlen]
  repeat(refine⟨by omega,?_⟩)
  refine .inr (.inr ⟨_,hqx,later_intro (zj ?_)⟩)
  refine za0 ?_
  apply zk0 rfl<;>intro h
  ·refine zh1 (za0 ?_)
   refine awp_ret ?_
   simp -dsimp only [simprocAttr,↓vpre,zp,RetAll,Try.results49,retVals,retVal,mkRet,seqPost_ret,blockPost_ret,loopPost_ret]
   rw [hke,if_pos h]
  refine zb1 ?_
  rw [if_neg (by simp [h])] at hke
  refine zh0 ?_
  repeat(refine⟨by omega,?_⟩)
  refine zl0 ?_
  refine⟨⟨k+1,hlt,hke⟩,by show l.length - (k+1)<l.length - k;omega,?_⟩
  refine zq rfl ?_ ?_
  simp -dsimp only [simprocAttr,↓vpre,zp,zc]
  all_goals first | rfl | exact Sub.int (by simp)
 refine awp_exit ?_
 simp -dsimp only [vend,ne_eq,Nat.reduceEqDiff,reduceCtorEq]
 have hkl:k=l.length:=by
  have:=of_decide_eq_false h
  omega
 subst hkl
 rw [List.drop_length] at hke
 refine zh1 (za0 ?_)
 refine awp_ret ?_
 simp -dsimp only [simprocAttr,↓vpre,zp,RetAll,Try.results49,retVals,retVal,mkRet,seqPost_ret,blockPost_ret,loopPost_ret]
 rw [hke]
 rfl
theorem conL_spec{O:List AObj}(f':Nat)(caps:List AVal)(q:Mv→Bool)(l:List Mv)(hq:∀x∈l,ECall Try.prog f' O (eM x::caps) fun r O'=>r=.v (.bool (q x))∧O'=O) :
  ECall Try.prog 44 O [.lst 2 (l.map eM) .sh,.fn (.func f') [] caps] fun r O'=>r=.v (.bool (l.any q))∧O'=O:=by
 have hi:=idxL_spec f' caps q l hq
 have ha:=idxM_any q l
 refine ecall_all hT Try.func44 rfl (by kernel_rfl) (by simp [Try.ntmps44]) ?_
 show AWP Try.prog _ _ _ ⟨9,_,_⟩
 dsimp only [Tmp,TypeId,slotsOf]
 refine zh1 (za0 ?_)
 refine zh1 ?_
 refine .inr (.inr ⟨_,hi,later_intro (zj ?_)⟩)
 refine za0 ?_
 refine awp_ret ?_
 simp -dsimp only [simprocAttr,↓vpre,zp,RetAll,Try.results44,retVals,retVal,mkRet,seqPost_ret,blockPost_ret,loopPost_ret]
 rw [ha]
theorem conO_spec{O:List AObj}(id c:Nat)(J:List AVal)(l:List Mv)(hO:O[id]?=some (.cells (mC l++J)))(hl40:l.length≤2 ^ 40)(f':Nat)(caps:List AVal)(q:Mv→Bool)
  (hq:∀x∈l,ECall Try.prog f' O (eM x::caps) fun r O'=>r=.v (.bool (q x))∧O'=O) :
  ECall Try.prog 44 O [.ms id 0 l.length c,.fn (.func f') [] caps] fun r O'=>r=.v (.bool (l.any q))∧O'=O:=by
 have hi:=idxO_spec id c J l hO hl40 f' caps q hq
 have ha:=idxM_any q l
 refine ecall_all hT Try.func44 rfl (by kernel_rfl) (by simp [Try.ntmps44]) ?_
 show AWP Try.prog _ _ _ ⟨9,_,_⟩
 dsimp only [Tmp,TypeId,slotsOf]
 refine zh1 (za0 ?_)
 refine zh1 ?_
 refine .inr (.inr ⟨_,hi,later_intro (zj ?_)⟩)
 refine za0 ?_
 refine awp_ret ?_
 simp -dsimp only [simprocAttr,↓vpre,zp,RetAll,Try.results44,retVals,retVal,mkRet,seqPost_ret,blockPost_ret,loopPost_ret]
 rw [ha]
theorem q3_spec{O:List AObj}(hup:∀o∈O,o.upto O.length)(id L c:Nat)(J:List AVal)(l:List Mv)(x:Mv)(hL:O[L]?=some (.cells [.ms id 0 l.length c]))(hO:O[id]?=some (.cells (mC l++J)))(hl40:l.length≤2 ^ 40) :
  ECall Try.prog 50 O [eM x,.mp L 0] fun r O'=>r=.v (.bool (freeQ l x))∧O'=O:=by
 have hLl:=lt_of_getElem? hL
 have h1:∀Y,(O++Y)[L]?=some (.cells [.ms id 0 l.length c]):=fun Y=>at_left hL
 have hc0:=conO_spec (O:=O++[.cells [aI x.1,aI x.2]]) id c J l (at_left hO) hl40 51 [.mp O.length 0] (fun y=>decide (y.2=x.1)) fun y _=>q31_spec (fun o ho=>by
  rw [List.length_append]
  rcases List.mem_append.1 ho with q | q
  ·exact AObj.upto_mono (by simp) (hup o q)
  rw [List.mem_singleton.1 q]
  exact⟨trivial,trivial,trivial⟩) O.length x.1 x.2 (snoc_get _ _) y
 have hkk:O.length≤O.length:=Nat.le_refl _
 unfold freeQ
 refine ecall_of hT true (O.length) Try.func50 rfl (by kernel_rfl) (by simp [Try.ntmps50]) (by assumption) ?_
 show AWP Try.prog _ _ _ ⟨8,_,_⟩
 dsimp only [Tmp,TypeId,slotsOf]
 refine zh1 (za0 ?_)
 refine zg1 ?_
 simp -dsimp only [simprocAttr,↓vpre,zp,h1]
 refine .inr (.inr ⟨_,hc0,later_intro (zj ?_)⟩)
 refine za0 ?_
 refine awp_ret ?_
 simp -dsimp only [simprocAttr,↓vpre,zp,zr,Try.results50,List.take_left]
 exact hup
theorem cloneM_spec{O:List AObj}(l:List Mv)(hl:l≠[])(hll:l.length≤2 ^ 40) :
  ECall Try.prog 47 O [.lst 2 (l.map eM) .nn] fun r O'=>r=.ms O.length 0 l.length l.length∧O'=O++[.cells (mC l)]:=by
 have hl0:¬l.length=0:=fun e=>hl (List.length_eq_zero_iff.1 e)
 have hc:=mC_cells l
 have hs:(l.map eM).map AVal.share=l.map eM:=by
  rw [List.map_map]
  exact List.map_congr_left fun x _=>rfl
 refine ecall_all hT Try.func47 rfl (by kernel_rfl) (by simp [Try.ntmps47]) ?_
 show AWP Try.prog _ _ _ ⟨8,_,_⟩
 dsimp only [Tmp,TypeId,slotsOf]
 refine zh1 (za0 ?_)
 refine zh2 (za0 ?_)
 refine zu0 rfl ?_
 refine zb0 ?_
 refine zm1 ?_
 simp -dsimp only [simprocAttr,↓vpre,zp,hc,hs,List.length_map]
 repeat(refine⟨by omega,?_⟩)
 refine za0 ?_
 refine awp_ret ?_
 simp -dsimp only [simprocAttr,↓vpre,zp,RetAll,Try.results47,retVals,retVal,mkRet,seqPost_ret,blockPost_ret,loopPost_ret]
theorem take_set_eq{l:List Mv}{k:Nat}{x:Mv}(h:k<l.length):(l.set k x).take (k+1)=l.take k++[x]:=by
 rw [List.take_add_one,List.getElem?_set_self h]
 congr 1
 apply List.ext_getElem?
 intro i
 simp only [List.getElem?_take,List.getElem?_set]
 split
 ·rw [if_neg (by omega)]
 rfl
theorem dropQ_app(l m:List Mv):dropQ (l++m)=dropQ l++dropQ m:=List.filter_append ..
theorem dropQ_keep{l:List Mv}(h:∀x∈l,decide (x.1=x.2)=false):dropQ l=l:=by
 unfold dropQ
 rw [List.filter_eq_self]
 intro x hx
 rw [h x hx]
 rfl
theorem mC_zero(n:Nat):(List.replicate n [aI 0,aI 0]).flatten=List.replicate (n * 2) (aI 0):=by
 induction n with
 | zero=>rfl
 | succ n ih =>
  rw [List.replicate_succ,List.flatten_cons,ih,show(n+1) * 2=n * 2+1+1 by omega,List.replicate_succ,List.replicate_succ]
  rfl
theorem mC_cut(F:List Mv){k n:Nat}(hk:k≤n)(hF:F.length=n):splice (mC F) (k * 2) (List.replicate ((n - k) * 2) (aI 0))=mC (F.take k)++List.replicate ((n - k) * 2) (aI 0):=by
 have e:mC F=mC (F.take k)++mC (F.drop k):=by rw [←mC_app,List.take_append_drop]
 have hl:(mC (F.take k)).length=k * 2:=by rw [mC_len,List.length_take];omega
 have hd:(mC (F.drop k)).length=(n - k) * 2:=by rw [mC_len,List.length_drop];omega
 unfold splice
 rw [e,←hl,List.take_left,List.length_replicate,←hd,List.drop_length_add_append,List.drop_length,List.append_nil]
theorem delF_spec{O:List AObj}(hup:∀o∈O,o.upto O.length)(id:Nat)(l:List Mv)(hl:l≠[])(hO:O[id]?=some (.cells (mC l)))(hl40:l.length≤2 ^ 40) :
  ECall Try.prog 46 O [.ms id 0 l.length l.length,.fn (.func 48) [] []] fun r O'=>r=.ms id 0 (dropQ l).length l.length∧O'=O.set id (.cells (mC (dropQ l)++List.replicate ((l.length - (dropQ l).length) * 2) (aI 0))):=by
 have hid:=lt_of_getElem? hO
 obtain⟨n,hn⟩:∃n,n=l.length:=⟨_,rfl⟩
 have hn1:0<n:=by rw [hn];exact List.length_pos_iff.2 hl
 have hi:=idxO_spec (O:=O) id l.length [] l (by rw [List.append_nil];exact hO) hl40 48 [] (fun x=>decide (x.1=x.2)) fun x _=>(q2_spec x).use (by simp [uptoL,AVal.upto,aI_upto]) O
 rw [←hn] at hi ⊢
 rcases idxM_spec (fun x:Mv=>decide (x.1=x.2)) l with⟨e1,e2⟩ | ⟨j0,x0,e1,e2,e3,e4⟩
 ·rw [e1] at hi
  rw [dropQ_keep e2,←hn,Nat.sub_self,Nat.zero_mul,List.replicate_zero,List.append_nil,setM_same hO]
  refine ecall_all hT Try.func46 rfl (by kernel_rfl) (by simp [Try.ntmps46]) ?_
  show AWP Try.prog _ _ _ ⟨42,_,_⟩
  dsimp only [Tmp,TypeId,slotsOf]
  refine zh1 (za0 ?_)
  refine zh1 ?_
  refine .inr (.inr ⟨_,hi,later_intro (zj ?_)⟩)
  refine za0 ?_
  refine zh2 (za0 ?_)
  refine zw0 rfl ?_
  refine zh1 (za0 ?_)
  refine awp_ret ?_
  simp -dsimp only [simprocAttr,↓vpre,zp,RetAll,Try.results46,retVals,retVal,mkRet,seqPost_ret,blockPost_ret,loopPost_ret]
 rw [e1] at hi
 have hj0:=lt_of_getElem? e2
 obtain⟨D,hD⟩:∃D,D=dropQ l:=⟨_,rfl⟩
 rw [←hD]
 have hdl:∀m:List Mv,(dropQ m).length≤m.length:=fun m=>List.length_filter_le ..
 have hst:dropQ (l.take (j0+1))=l.take j0:=by
  rw [List.take_add_one,e2,dropQ_app,dropQ_keep e4]
  show l.take j0++dropQ [x0]=_
  have:dropQ [x0]=[]:=by
   unfold dropQ
   simp at e3
   simp [e3]
  rw [this,List.append_nil]
 have hdj:decide ((j0:Int)=-1)=false:=decide_eq_false (by omega)
 refine ecall_all hT Try.func46 rfl (by kernel_rfl) (by simp [Try.ntmps46]) ?_
 show AWP Try.prog _ _ _ ⟨42,_,_⟩
 dsimp only [Tmp,TypeId,slotsOf]
 refine zh1 (za0 ?_)
 refine zh1 ?_
 refine .inr (.inr ⟨_,hi,later_intro (zj ?_)⟩)
 refine za0 ?_
 refine zg2 ?_
 simp -dsimp only [simprocAttr,↓vpre,zp,hdj]
 refine za0 ?_
 apply zk0 rfl<;>intro h
 ·cases h
 refine zb0 ?_
 refine zh2 ?_
 repeat(refine⟨by omega,?_⟩)
 refine za0 ?_
 refine awp_block (awp_loop (ι:={X:Nat×Nat×List Mv // X.1≤n∧X.2.2.length=n∧X.2.2.drop X.1=l.drop X.1∧X.2.2.take X.2.1=dropQ (l.take X.1)∧X.2.1<X.1∧X.2.1=(dropQ (l.take X.1)).length}) (fun X=>⟨42,[(0,.ms id 0 n n),(1,.fn (.func 48) [] []),(5,aI X.1.2.1),(6,aI X.1.1)],O.set id (.cells (mC X.1.2.2))⟩) (fun X=>n - X.1.1) ⟨(j0+1,j0,l),by simp only;omega,hn.symm,rfl,hst.symm,by simp only;omega,by simp only [hst,List.length_take];omega⟩ ?_ ?_)
 ·refine zq rfl ?_ ?_
  simp -dsimp only [simprocAttr,↓vpre,zp,zc]
  ·exact Sub.int (by simp)
  exact(setM_same hO).symm
 rintro⟨⟨j,k,F⟩,hj,hF1,hF2,hF3,hF4,hk⟩
 simp only at hj hF1 hF2 hF3 hF4 hk
 have hOF:(O.set id (.cells (mC F)))[id]?=some (.cells (mC F++[])):=by rw [List.append_nil];exact List.getElem?_set_self hid
 have hFl:(mC F++[]).length=n * 2:=by rw [List.append_nil,mC_len,hF1]
 have hss:∀y,(O.set id (.cells (mC F))).set id y=O.set id y:=fun y=>List.set_set ..
 refine zh2 (za0 ?_)
 apply zk0 rfl<;>intro h
 ·refine zb0 ?_
  have hlt:j<n:=by simpa using h
  obtain⟨x,hx⟩:∃x,l[j]?=some x:=⟨l[j]'(by omega),List.getElem?_eq_getElem _⟩
  have hFx:F[j]?=some x:=by
   have:=congrArg (fun z=>z[0]?) hF2
   simp only [List.getElem?_drop,Nat.add_zero] at this
   rw [this,hx]
  obtain⟨hat,-,-⟩:=mC_at hFx []
  have htk:l.take (j+1)=l.take j++[x]:=by rw [List.take_add_one,hx];rfl
  have hq:=q2_spec x
  have hup2:∀o∈O.set id (.cells (mC F)),o.upto (O.set id (.cells (mC F))).length:=by
   rw [List.length_set]
   refine uptoO_set hup ?_
   rw [←mC_cells]
   show uptoL _ _
   rw [uptoL_iff]
   intro y hy
   unfold cellsAll at hy
   rw [List.mem_flatMap] at hy
   obtain⟨z,hz,hy⟩:=hy
   obtain⟨p,_,rfl⟩:=List.mem_map.1 hz
   simp [AVal.cells] at hy
   rcases hy with rfl | rfl<;>trivial
  have hFk:∃y,F[k]?=some y:=⟨F[k]'(by omega),List.getElem?_eq_getElem _⟩
  obtain⟨y,hFk⟩:=hFk
  have hms:=mC_set hFk x []
  have hms:splice (mC F++[]) (k * 2) [aI x.1,aI x.2]=mC (F.set k x):=by rw [hms,List.append_nil]
  have hFd:∀(m:Nat),j<m→(F.set k x).drop m=F.drop m:=fun m hm=>by
   apply List.ext_getElem?
   intro i
   simp only [List.getElem?_drop,List.getElem?_set]
   rw [if_neg (by omega)]
  have hFd1:F.drop (j+1)=l.drop (j+1):=by
   have:=congrArg (fun z=>z.drop 1) hF2
   simpa [List.drop_drop] using this
  have hk2:((k:Nat):Int)+1≤9223372036854775807:=by omega
  refine awp_seq (awp_block ?_)
  generalize mC F++[]=C at *
  refine zg1 ?_
  simp -dsimp only [simprocAttr,↓vpre,zp,hOF,hat,hFl]
  repeat(refine⟨by omega,?_⟩)
  refine za0 ?_
  refine awp_local 7 ([aI x.1,aI x.2]) [(0,.ms id 0 n n),(1,.fn (.func 48) [] []),(5,aI k),(6,aI j),(7,.ip none [aI x.1,aI x.2])] (by simp [putS,dropS,Go.Av.look]) (by rfl) (by simp) (by simp [putS,dropS,Go.Av.look]) ?_ ?_ ?_
  ·exact hup2
  ·simp [AVal.upto,uptoL,aI_upto]
   omega
  refine zh1 ?_
  refine zi hq ?_
  refine za0 ?_
  apply zk0 rfl<;>intro h
  ·have hxq:decide (x.1=x.2)=false:=by simpa using h
   have hdr:dropQ (l.take (j+1))=dropQ (l.take j)++[x]:=by
    rw [htk,dropQ_app,dropQ_keep (l:=[x]) (fun y hy=>by rw [List.mem_singleton.1 hy];exact hxq)]
   refine zg1 ?_
   simp -dsimp only [simprocAttr,↓vpre,zp,hOF,hFl]
   repeat(refine⟨by omega,?_⟩)
   refine za0 ?_
   rw [hms,hss]
   refine zh0 ?_
   repeat(refine⟨by omega,?_⟩)
   refine za0 ?_
   refine zh0 ?_
   repeat(refine⟨by omega,?_⟩)
   refine zl0 ?_
   refine⟨⟨(j+1,k+1,F.set k x),hlt,by simp only [List.length_set,hF1],by simp only;rw [hFd _ (by omega),hFd1],by simp only [hdr];rw [take_set_eq (by omega),hF3],by simp only;omega,by simp only [hdr,List.length_append,List.length_singleton];omega⟩,by show n - (j+1)<n - j;omega,?_⟩
   refine zq rfl ?_ ?_
   simp -dsimp only [simprocAttr,↓vpre,zp,zc]
   ·exact⟨Sub.int (by simp),Sub.int (by simp)⟩
   rfl
  refine zb1 ?_
  have hxq:decide (x.1=x.2)=true:=by simpa using h
  have hdr:dropQ (l.take (j+1))=dropQ (l.take j):=by
   have:dropQ [x]=[]:=by
    unfold dropQ
    simp at hxq
    simp [hxq]
   rw [htk,dropQ_app,this,List.append_nil]
  refine zh0 ?_
  repeat(refine⟨by omega,?_⟩)
  refine zl0 ?_
  refine⟨⟨(j+1,k,F),hlt,hF1,hFd1,by simp only [hdr];exact hF3,by simp only;omega,by simp only [hdr];exact hk⟩,by show n - (j+1)<n - j;omega,?_⟩
  refine zq rfl ?_ ?_
  simp -dsimp only [simprocAttr,↓vpre,zp,zc]
  ·exact Sub.int (by simp)
  rfl
 refine awp_exit ?_
 simp -dsimp only [vend,ne_eq,Nat.reduceEqDiff,reduceCtorEq]
 have hjn:j=n:=by
  have:=of_decide_eq_false h
  omega
 subst hjn
 rw [List.take_of_length_le (l:=l) (by omega),←hD] at hF3 hk
 subst hk
 have hcut:=mC_cut F (k:=D.length) (n:=j) (by omega) hF1
 rw [hF3] at hcut
 have hrep:(List.replicate (j - D.length) [aI 0,aI 0]).flatten=List.replicate ((j - D.length) * 2) (aI 0):=mC_zero _
 have hOF2:(O.set id (.cells (mC F)))[id]?=some (.cells (mC F)):=List.getElem?_set_self hid
 have hFl2:(mC F).length=j * 2:=by rw [mC_len,hF1]
 generalize mC F=C at *
 refine zg1 ?_
 simp -dsimp only [simprocAttr,↓vpre,zp,hOF2,hFl2,hrep]
 repeat(refine⟨by omega,?_⟩)
 refine za0 ?_
 rw [hcut,hss]
 refine zh1 ?_
 repeat(refine⟨by omega,?_⟩)
 refine za0 ?_
 refine awp_ret ?_
 simp -dsimp only [simprocAttr,↓vpre,zp,RetAll,Try.results46,retVals,retVal,mkRet,seqPost_ret,blockPost_ret,loopPost_ret]
 rw [Nat.sub_zero,Nat.sub_zero]
theorem del_cells{l:List Mv}{i:Nat}(hi:i<l.length)(J:List AVal) :
  splice (splice (mC l++J) (i * 2) (((mC l++J).drop ((i+1) * 2)).take ((l.length - (i+1)) * 2))) ((l.length - 1) * 2) [aI 0,aI 0]=mC (l.eraseIdx i)++(aI 0::aI 0::J):=by
 obtain⟨p,hp⟩:∃p,l[i]?=some p:=⟨l[i],List.getElem?_eq_getElem hi⟩
 have e1:=mC_split hp
 have e2:l.eraseIdx i=l.take i++l.drop (i+1):=List.eraseIdx_eq_take_drop_succ ..
 have hA:(mC (l.take i)).length=i * 2:=by rw [mC_len,List.length_take];omega
 have hB:(mC (l.drop (i+1))).length=(l.length - (i+1)) * 2:=by rw [mC_len,List.length_drop]
 obtain⟨n,hn⟩:∃n,n=l.length:=⟨_,rfl⟩
 rw [e2,mC_app,e1,←hn]
 rw [←hn] at hB hi
 generalize mC (l.take i)=A at *
 generalize mC (l.drop (i+1))=B at *
 have hd:((A++aI p.1::aI p.2::B)++J).drop ((i+1) * 2)=B++J:=by
  rw [List.append_assoc,show(i+1) * 2=A.length+2 by omega,List.drop_length_add_append]
  rfl
 rw [hd,←hB,List.take_left]
 have hX:splice ((A++aI p.1::aI p.2::B)++J) (i * 2) B=A++(B++((aI p.1::aI p.2::B)++J).drop B.length):=by
  unfold splice
  rw [List.append_assoc,←hA,List.take_left,List.drop_length_add_append]
 rw [hX]
 obtain⟨D,hD⟩:∃D,D=((aI p.1::aI p.2::B)++J).drop B.length:=⟨_,rfl⟩
 have hD2:D.drop 2=J:=by
  rw [hD,List.drop_drop,show B.length+2=(aI p.1::aI p.2::B).length by simp,List.drop_left]
 rw [←hD]
 unfold splice
 rw [show(n - 1) * 2=(A++B).length by rw [List.length_append];omega,←List.append_assoc A B D,List.take_left,List.drop_length_add_append]
 simp only [List.length_cons,List.length_nil]
 rw [show 0+1+1=2 from rfl,hD2]
 simp
theorem del_spec{O:List AObj}(id c:Nat)(J:List AVal)(l:List Mv)(i:Nat)(hi:i<l.length)(hc:l.length≤c)(hO:O[id]?=some (.cells (mC l++J)))(hl40:l.length≤2 ^ 40)(hc40:c≤2 ^ 40) :
  ECall Try.prog 52 O [.ms id 0 l.length c,aI i,aI (i+1)] fun r O'=>r=.ms id 0 (l.length - 1) c∧O'=O.set id (.cells (mC (l.eraseIdx i)++(aI 0::aI 0::J))):=by
 have hid:=lt_of_getElem? hO
 have hdc:=del_cells hi J
 have hCl:(mC l++J).length=l.length * 2+J.length:=by rw [List.length_append,mC_len]
 obtain⟨n,hn⟩:∃n,n=l.length:=⟨_,rfl⟩
 rw [←hn] at hi hc hl40 hdc hCl ⊢
 have hdi:decide ((i:Int)=i+1)=false:=decide_eq_false (by omega)
 generalize mC (l.eraseIdx i)++(aI 0::aI 0::J)=E at *
 generalize mC l++J=C at *
 have hss:∀y z,(O.set id y).set id z=O.set id z:=fun y z=>List.set_set ..
 refine ecall_all hT Try.func52 rfl (by kernel_rfl) (by simp [Try.ntmps52]) ?_
 show AWP Try.prog _ _ _ ⟨33,_,_⟩
 dsimp only [Tmp,TypeId,slotsOf]
 refine zh1 (za0 ?_)
 refine awp_seq (awp_mid_op ⟨false,false⟩ hT 5 rfl rfl rfl (by simp) ?_)
 simp -dsimp only [simprocAttr,↓vpre,zp]
 refine⟨_,_,cert_slice3 (l:=i) (h:=i+1) (m:=n) hT rfl (by simp) tab_63 rfl tab_64 rfl rfl rfl rfl (by omega) (by omega) (by omega) (by omega) (by omega),?_⟩
 simp -dsimp only [simprocAttr,↓vpre,zp]
 refine za0 ?_
 refine zg2 ?_
 simp -dsimp only [simprocAttr,↓vpre,zp,hdi]
 refine za0 ?_
 apply zk0 rfl<;>intro h
 ·cases h
 refine zb0 ?_
 refine zh1 (za0 ?_)
 have hOs:∀y,(O.set id y)[id]?=some y:=fun y=>List.getElem?_set_self hid
 by_cases hlast:i+1=n
 ·have htk:(C.drop ((i+1) * 2)).take ((n - (i+1)) * 2)=[]:=by rw [show n - (i+1)=0 by omega,Nat.zero_mul,List.take_zero]
  rw [htk] at hdc
  refine awp_seq (awp_pieces hm (ChP.seg ⟨false,false⟩ hT 5 rfl rfl (by simp) ?_))
  simp -dsimp only [simprocAttr,↓vpre,zp]
  repeat(refine⟨by omega,?_⟩)
  refine ChP.op rfl rfl (cert_slice_end (k:=.i64) hT rfl (by simp) tab_63 rfl tab_64 rfl (by rw [←hlast];rfl)) ?_
  simp -dsimp only [simprocAttr,↓vpre,zp]
  refine ChP.seg ⟨false,false⟩ hT 2 rfl rfl (by simp) ?_
  simp -dsimp only [simprocAttr,↓vpre,zp,hO]
  repeat(refine⟨by omega,?_⟩)
  refine ChP.fin rfl ⟨ob (by kernel_rfl),?_⟩
  refine za0 ?_
  obtain⟨E1,hE1⟩:∃E1,E1=splice C (i * 2) []:=⟨_,rfl⟩
  rw [←hE1] at hdc
  show AWP Try.prog _ _ _ ⟨_,(0,.ms id 0 i c)::_,O.set id (.cells (splice C (i * 2) []))⟩
  rw [←hE1]
  have hE1l:E1.length=C.length:=by
   rw [hE1,splice_length]
   simp;omega
  have hE1o:∀y,(O.set id y)[id]?=some y:=hOs
  have hnq:n - i=1:=by omega
  have hz:(List.replicate 1 [aI 0,aI 0]).flatten=[aI 0,aI 0]:=rfl
  refine zg1 ?_
  simp -dsimp only [simprocAttr,↓vpre,zp,hE1o,hE1l,hnq,hz]
  repeat(refine⟨by omega,?_⟩)
  refine za0 ?_
  rw [hss]
  refine zh1 (za0 ?_)
  refine awp_ret ?_
  simp -dsimp only [simprocAttr,↓vpre,zp,RetAll,Try.results52,retVals,retVal,mkRet,seqPost_ret,blockPost_ret,loopPost_ret]
  have hqn:i=n - 1:=by omega
  rw [hqn,←hdc]
  exact⟨rfl,rfl⟩
 have hln:(i+(n - (i+1))) * 2≤C.length:=by omega
 have hln2:(i+1) * 2+(n - (i+1)) * 2≤C.length:=by omega
 refine awp_seq (awp_pieces hm (ChP.seg ⟨false,false⟩ hT 6 rfl rfl (by simp) ?_))
 simp -dsimp only [simprocAttr,↓vpre,zp]
 repeat(refine⟨by omega,?_⟩)
 refine ChP.op rfl rfl ((cert_append_mm hT rfl (by simp) tab_63 rfl tab_64 rfl hO rfl (by omega) hln hln2 (by omega)).close keep_set) ?_
 simp -dsimp only [simprocAttr,↓vpre,zp]
 refine ChP.seg ⟨false,false⟩ hT 1 rfl rfl (by simp) ?_
 simp -dsimp only [simprocAttr,↓vpre,zp]
 refine ChP.fin rfl ⟨ob (by kernel_rfl),?_⟩
 refine za0 ?_
 obtain⟨E1,hE1⟩:∃E1,E1=splice C (i * 2) ((C.drop ((i+1) * 2)).take ((n - (i+1)) * 2)):=⟨_,rfl⟩
 rw [←hE1] at hdc
 show AWP Try.prog _ _ _ ⟨_,(0,.ms id 0 (i+(n - (i+1))) c)::_,O.set id (.cells (splice C (i * 2) ((C.drop ((i+1) * 2)).take ((n - (i+1)) * 2))))⟩
 rw [←hE1]
 generalize hq:i+(n - (i+1))=q at *
 have hE1l:E1.length=C.length:=by
  rw [hE1,splice_length]
  rw [List.length_take,List.length_drop];omega
 have hE1o:∀y,(O.set id y)[id]?=some y:=hOs
 have hnq:n - q=1:=by omega
 have hz:(List.replicate 1 [aI 0,aI 0]).flatten=[aI 0,aI 0]:=rfl
 refine zg1 ?_
 simp -dsimp only [simprocAttr,↓vpre,zp,hE1o,hE1l,hnq,hz]
 repeat(refine⟨by omega,?_⟩)
 refine za0 ?_
 rw [hss]
 refine zh1 (za0 ?_)
 refine awp_ret ?_
 simp -dsimp only [simprocAttr,↓vpre,zp,RetAll,Try.results52,retVals,retVal,mkRet,seqPost_ret,blockPost_ret,loopPost_ret]
 have hqn:q=n - 1:=by omega
 rw [hqn,←hdc]
 exact⟨rfl,rfl⟩
def mixQ(v s:Int)(l:List Mv)(j:Nat):List Mv:=(l.take j).map (breakQ v s)++l.drop j
theorem mixQ_zero(v s:Int)(l:List Mv):mixQ v s l 0=l:=by simp [mixQ]
theorem mixQ_all(v s:Int)(l:List Mv):mixQ v s l l.length=l.map (breakQ v s):=by simp [mixQ]
theorem mixQ_len(v s:Int)(l:List Mv)(j:Nat):(mixQ v s l j).length=l.length:=by
 unfold mixQ
 rw [List.length_append,List.length_map,List.length_take,List.length_drop]
 omega
theorem mixQ_at(v s:Int){l:List Mv}{j:Nat}{x:Mv}(h:l[j]?=some x):(mixQ v s l j)[j]?=some x:=by
 have hl:=lt_of_getElem? h
 unfold mixQ
 rw [List.getElem?_append_right (by rw [List.length_map,List.length_take];omega),List.length_map,List.length_take,show j - min j l.length=0 by omega,List.getElem?_drop,Nat.add_zero,h]
theorem mixQ_step(v s:Int){l:List Mv}{j:Nat}{x:Mv}(h:l[j]?=some x):(mixQ v s l j).set j (breakQ v s x)=mixQ v s l (j+1):=by
 have hl:=lt_of_getElem? h
 unfold mixQ
 rw [drop_mv h,List.set_append_right _ _ (by rw [List.length_map,List.length_take];omega),List.length_map,List.length_take,show j - min j l.length=0 by omega,List.set_cons_zero,List.take_add_one,h,List.map_append,List.append_assoc]
 rfl
theorem mC_upto(n:Nat)(l:List Mv):uptoL n (mC l):=by
 rw [uptoL_iff]
 intro y hy
 unfold mC at hy
 rw [List.mem_flatMap] at hy
 obtain⟨p,_,hy⟩:=hy
 simp at hy
 rcases hy with rfl | rfl<;>trivial
theorem eMs_upto(n:Nat):∀l:List Mv,uptoL n (l.map eM)
 | []=>trivial
 | x::r=>⟨⟨trivial,trivial,trivial⟩,eMs_upto n r⟩
theorem seqStep_at(spare:Int){left:List Mv}(hne:left≠[]):∃(L2 ex:List Mv) (k:Nat) (x:Mv),L2.length=left.length∧L2[k]?=some x∧seqStep spare left=(L2.eraseIdx k,ex++[x]) ∧
  (idxM (freeQ left) left<0→k=0∧∃x0,left[0]?=some x0∧L2=left.map (breakQ x0.1 spare)∧ex=[(spare,x0.1)])∧(0≤idxM (freeQ left) left→idxM (freeQ left) left=(k:Int)∧L2=left∧ex=[]):=by
 match left,hne with
 | x0::r,_ =>
  by_cases h:idxM (freeQ (x0::r)) (x0::r)<0
  ·refine⟨(x0::r).map (breakQ x0.1 spare),[(spare,x0.1)],0,breakQ x0.1 spare x0,List.length_map _,rfl,?_,fun _=>⟨rfl,x0,rfl,rfl,rfl⟩,fun q=>by omega⟩
   unfold seqStep
   simp only
   rw [if_pos h]
   rfl
  rcases idxM_spec (freeQ (x0::r)) (x0::r) with⟨e,_⟩ | ⟨j,x,e,hj,_,_⟩
  ·omega
  refine⟨x0::r,[],j,x,rfl,hj,?_,fun q=>by omega,fun _=>⟨e,rfl,rfl⟩⟩
  unfold seqStep
  simp only
  rw [if_neg h,e,Int.toNat_natCast,hj]
  rfl
theorem seq_spec(l:List Mv)(spare:Int)(hne:l≠[])(hl:l.length≤2 ^ 30)(hpos:∀x∈l,0≤x.1∧0≤x.2)(hdis:∀(i j:Nat)(x y:Mv),i<j→l[i]?=some x→l[j]?=some y→x.1≠y.1)(hsp:∀x∈l,x.1≠spare∧x.2≠spare) :
  PCall Try.prog 25 [.lst 2 (l.map eM) .sh,aI spare] (.tup [.lst 2 ((seqM l spare).map eM) .sh,aI 0]):=by
 obtain⟨n,hn⟩:∃n,n=l.length:=⟨_,rfl⟩
 obtain⟨R,hR⟩:∃R,R=seqM l spare:=⟨_,rfl⟩
 rw [←hR]
 refine zf true 0 Try.func25 Try.ntmps25 ?_
 dsimp only [Tmp,TypeId,slotsOf]
 refine awp_nilsplit 0 rfl (fun e=>absurd (List.map_eq_nil_iff.1 e) hne) ?_
 simp -dsimp only [simprocAttr,↓vpre,zp]
 refine zh1 (za0 ?_)
 refine awp_len 0 rfl (fun hll=>?_)
 simp only [List.length_map] at hll
 refine zg2 ?_
 simp -dsimp only [simprocAttr,↓vpre,zp,←hn]
 refine za0 ?_
 refine awp_block (awp_loop (ι:={k:Nat // k≤n}) (fun k=>⟨99,[(0,.lst 2 (l.map eM) .nn),(1,aI spare),(13,.lst 2 (l.map eM) .nn),(14,aI n),(15,aI k.1)],[]⟩) (fun k=>n - k.1) ⟨0,by omega⟩ ?_ ?_)
 ·refine zq rfl ?_ ?_
  simp -dsimp only [simprocAttr,↓vpre,zp,zc]
  all_goals rfl
 rintro⟨k,hk⟩
 refine zh1 (za0 ?_)
 apply zk1 rfl<;>intro h
 ·refine zb0 ?_
  have hlt:k<n:=by simpa using h
  obtain⟨x,hx⟩:∃x,l[k]?=some x:=⟨l[k]'(by omega),List.getElem?_eq_getElem _⟩
  have hxm:=List.mem_of_getElem? hx
  obtain⟨p1,p2⟩:=hpos x hxm
  obtain⟨s1,s2⟩:=hsp x hxm
  have d1:decide (x.1<0)=false:=decide_eq_false (by omega)
  have d2:decide (x.2<0)=false:=decide_eq_false (by omega)
  have d3:decide (x.1=spare)=false:=decide_eq_false s1
  have d4:decide (x.2=spare)=false:=decide_eq_false s2
  have hup:∀o∈[AObj.cells [aI x.1,aI x.2]],o.upto [AObj.cells [aI x.1,aI x.2]].length:=fun o ho=>by
   rw [List.mem_singleton.1 ho]
   exact⟨trivial,trivial,trivial⟩
  have hany:(l.take k).any (fun y=>decide (y.1=x.1))=false:=by
   rw [List.any_eq_false]
   intro y hy
   obtain⟨i,hi⟩:=List.mem_iff_getElem?.1 hy
   have hik:=lt_of_getElem? hi
   rw [List.length_take] at hik
   rw [List.getElem?_take,if_pos (by omega)] at hi
   simpa using hdis i k y x (by omega) hi hx
  have hcl:=conL_spec (O:=[AObj.cells [aI x.1,aI x.2]]) 45 [.mp 0 0] (fun y=>decide (y.1=x.1)) (l.take k) fun y _=>q1_spec hup 0 x.1 x.2 rfl y
  rw [hany,List.map_take] at hcl
  refine awp_seq (awp_block ?_)
  refine zg1 ?_
  simp -dsimp only [simprocAttr,↓vpre,zp,hx]
  repeat(refine⟨by omega,?_⟩)
  refine za0 ?_
  refine awp_block ?_
  refine zg1 ?_
  simp -dsimp only [simprocAttr,↓vpre,zp,d1,d2]
  refine za0 ?_
  apply zk0 rfl<;>intro h
  ·cases h
  refine zg1 ?_
  simp -dsimp only [simprocAttr,↓vpre,zp,hll]
  repeat(refine⟨by omega,?_⟩)
  refine .inr (.inr ⟨_,hcl,later_intro (zj ?_)⟩)
  refine za0 ?_
  apply zk0 rfl<;>intro h
  ·cases h
  refine zg1 ?_
  simp -dsimp only [simprocAttr,↓vpre,zp,d3,d4]
  refine za0 ?_
  apply zk0 rfl<;>intro h
  ·cases h
  refine zb2 ?_
  refine awp_trunc' 0 [(0,.lst 2 (l.map eM) .nn),(1,aI spare),(13,.lst 2 (l.map eM) .nn),(14,aI n),(15,aI k)] (by omega) (by omega) [] ?_ ?_ ?_ ?_ ?_
  ·rfl
  ·simp
  ·simp [Says,St.get,putS,dropS,Go.Av.look,Sub.refl]
  ·simp [uptoL,AVal.upto,aI_upto,eMs_upto]
  refine zh0 ?_
  repeat(refine⟨by omega,?_⟩)
  refine zl0 ?_
  refine⟨⟨k+1,hlt⟩,by show n - (k+1)<n - k;omega,?_⟩
  refine zq rfl ?_ ?_
  simp -dsimp only [simprocAttr,↓vpre,zp,zc]
  ·exact Sub.int (by simp)
  rfl
 refine awp_exit ?_
 simp -dsimp only [vend,ne_eq,Nat.reduceEqDiff,reduceCtorEq]
 clear hk
 have hcl:=cloneM_spec (O:=[]) l hne (by omega)
 have hdf:=delF_spec (O:=[AObj.cells (mC l)]) (fun o ho=>by rw [List.mem_singleton.1 ho];exact mC_upto _ _) 0 l hne rfl (by omega)
 rw [←hn] at hcl hdf
 have hset0:[AObj.cells (mC l)].set 0 (.cells (mC (dropQ l)++List.replicate ((n - (dropQ l).length) * 2) (aI 0)))=[.cells (mC (dropQ l)++List.replicate ((n - (dropQ l).length) * 2) (aI 0))]:=rfl
 rw [hset0] at hdf
 have hdl:(dropQ l).length≤n:=by rw [hn];exact List.length_filter_le ..
 have hRn:R=seqRun spare n (dropQ l):=by rw [hR,hn];rfl
 generalize dropQ l=D at *
 have hJ0:∀y∈List.replicate ((n - D.length) * 2) (aI 0),y=aI 0:=fun y hy=>(List.mem_replicate.1 hy).2
 generalize List.replicate ((n - D.length) * 2) (aI 0)=J0 at *
 refine zh1 ?_
 refine .inr (.inl ⟨_,_,hcl,.inl (later_intro (zj ?_))⟩)
 refine .inr (.inl ⟨_,_,hdf,.inl (later_intro (zj ?_))⟩)
 refine za0 ?_
 refine zh1 (za0 ?_)
 refine awp_own 9 rfl ?_
 simp -dsimp only [simprocAttr,↓vpre,zp]
 show AWP Try.prog _ _ _ ⟨_,_,[.cells (mC D++J0),.cells [.ms 0 0 D.length n],.spare 0]⟩
 refine awp_seq (awp_block (awp_loop (ι:={X:List Mv×List AVal×List Mv×Nat // X.1.length≤n∧X.1.length≤X.2.2.2∧R=X.2.2.1++seqRun spare X.2.2.2 X.1∧X.2.2.1.length≤2 * (n - X.1.length)∧∀y∈X.2.1,y=aI 0}) (fun X=>⟨99,[(1,aI spare),(8,.mp 1 0),(9,.lst 2 (X.1.2.2.1.map eM) (.tok 2))],[.cells (mC X.1.1++X.1.2.1),.cells [.ms 0 0 X.1.1.length n],.spare X.1.2.2.1.length]⟩) (fun X=>X.1.1.length) ⟨(D,J0,[],n),hdl,hdl,hRn,by simp,hJ0⟩ ?_ ?_))
 ·refine zq rfl ?_ ?_
  simp -dsimp only [simprocAttr,↓vpre,zp,zc]
  all_goals rfl
 rintro⟨⟨left,J,out,fuel⟩,hln,hlf,hRe,hol,hJ⟩
 simp only at hln hlf hRe hol hJ
 obtain⟨m,hm⟩:∃m,m=left.length:=⟨_,rfl⟩
 have hup:∀o∈[AObj.cells (mC left++J),.cells [.ms 0 0 left.length n],.spare out.length],o.upto [AObj.cells (mC left++J),.cells [.ms 0 0 left.length n],.spare out.length].length:=fun o ho=>by
  simp only [List.mem_cons,List.not_mem_nil,or_false] at ho
  rcases ho with rfl | rfl | rfl
  ·show uptoL _ _
   rw [uptoL_iff]
   intro y hy
   rcases List.mem_append.1 hy with q | q
   ·exact uptoL_iff.1 (mC_upto _ _) y q
   rw [hJ y q]
   trivial
  ·exact⟨show 0<3 by omega,trivial⟩
  trivial
 refine zh2 (za0 ?_)
 apply zk0 rfl<;>intro h
 ·refine zb0 ?_
  have hm0:left≠[]:=fun e=>by rw [e] at h;simp at h
  have hmp:0<left.length:=List.length_pos_iff.2 hm0
  obtain⟨L2,ex,k,x,g1,g2,g3,g4,g5⟩:=seqStep_at spare hm0
  have hk2:=lt_of_getElem? g2
  rw [g1] at hk2
  have hix:=idxO_spec (O:=[AObj.cells (mC left++J),.cells [.ms 0 0 left.length n],.spare out.length]) 0 n J left rfl (by omega) 50 [.mp 1 0] (freeQ left) fun y _=>q3_spec hup 0 1 n J left y rfl rfl (by omega)
  obtain⟨ix,hxe⟩:∃ix,ix=idxM (freeQ left) left:=⟨_,rfl⟩
  rw [←hxe] at hix g4 g5
  refine awp_block ?_
  refine zh1 ?_
  refine .inr (.inr ⟨_,hix,later_intro (zj ?_)⟩)
  refine za0 ?_
  refine awp_mid (⟨99,[(1,aI spare),(8,.mp 1 0),(9,.lst 2 ((out++ex).map eM) (.tok 2)),(10,aI k)],[.cells (mC L2++J),.cells [.ms 0 0 left.length n],.spare (out++ex).length]⟩) ?_ ?_
  ·by_cases hneg:ix<0
   ·obtain⟨rfl,x0,hx0,rfl,rfl⟩:=g4 hneg
    have hdn:decide (ix<0)=true:=decide_eq_true hneg
    obtain⟨-,hc0,-⟩:=mC_at hx0 J
    have hCl:(mC left++J).length=left.length * 2+J.length:=by rw [List.length_append,mC_len]
    rw [Nat.zero_mul] at hc0
    refine zg1 ?_
    simp -dsimp only [simprocAttr,↓vpre,zp,hdn]
    refine za0 ?_
    apply zk0 rfl<;>intro h
    ·generalize hCe:mC left++J=C at *
     refine zg1 ?_
     simp -dsimp only [simprocAttr,↓vpre,zp,hc0,hCl]
     repeat(refine⟨by omega,?_⟩)
     refine za0 ?_
     refine zh1 ?_
     repeat(refine⟨by omega,?_⟩)
     refine za0 ?_
     have hmap:out.map eM++[.agg [aI spare,aI x0.1]]=(out++[(spare,x0.1)]).map eM:=by simp
     rw [hmap]
     have hol2:(out++[(spare,x0.1)]).length=out.length+1:=by simp
     rw [hol2]
     generalize out++[(spare,x0.1)]=out2 at *
     obtain⟨v,hv⟩:∃v,v=x0.1:=⟨_,rfl⟩
     rw [←hv]
     refine zh2 (za0 ?_)
     have hz0:mC (mixQ v spare left 0)=mC left:=by rw [mixQ_zero]
     have hbr:left.map (breakQ v spare)=mixQ v spare left left.length:=(mixQ_all ..).symm
     have hobj:[AObj.cells C,AObj.cells [AVal.ms 0 0 left.length n],AObj.spare (out.length+1)]=[.cells (mC (mixQ v spare left 0)++J),.cells [.ms 0 0 left.length n],.spare (out.length+1)]:=by rw [hz0,hCe]
     refine awp_block (awp_loop (ι:={j:Nat // j≤left.length}) (fun j=>⟨99,[(1,aI spare),(8,.mp 1 0),(9,.lst 2 (out2.map eM) (.tok 2)),(11,aI v),(69,aI left.length),(70,aI j.1)],[.cells (mC (mixQ v spare left j.1)++J),.cells [.ms 0 0 left.length n],.spare (out.length+1)]⟩) (fun j=>left.length - j.1) ⟨0,by omega⟩ ?_ ?_)
     ·refine zq rfl ?_ ?_
      simp -dsimp only [simprocAttr,↓vpre,zp,zc]
      all_goals exact hobj
     rintro⟨j,hj⟩
     refine zh1 (za0 ?_)
     apply zk1 rfl<;>intro h
     ·refine zb0 ?_
      have hlj:j<left.length:=by simpa using h
      obtain⟨y,hy⟩:∃y,left[j]?=some y:=⟨left[j]'(by omega),List.getElem?_eq_getElem _⟩
      have hy':=mixQ_at v spare hy
      obtain⟨-,-,hc1⟩:=mC_at hy' J
      have hCl:(mC (mixQ v spare left j)++J).length=left.length * 2+J.length:=by rw [List.length_append,mC_len,mixQ_len]
      have hms:=mC_set2 hy' spare J
      have hst:=mixQ_step v spare hy
      generalize hCf:mC (mixQ v spare left j)++J=C2 at *
      refine awp_seq (awp_block ?_)
      refine zh1 (za0 ?_)
      refine zg1 ?_
      simp -dsimp only [simprocAttr,↓vpre,zp,hc1,hCl]
      repeat(refine⟨by omega,?_⟩)
      refine za0 ?_
      apply zk0 rfl<;>intro h
      ·have hyv:y.2=v:=by simpa using h
       unfold breakQ at hst
       rw [if_pos hyv] at hst
       rw [hst] at hms
       refine zg0 ?_
       simp -dsimp only [simprocAttr,↓vpre,zp,hCl]
       repeat(refine⟨by omega,?_⟩)
       refine za0 ?_
       rw [hms]
       refine zh0 ?_
       repeat(refine⟨by omega,?_⟩)
       refine zl0 ?_
       refine⟨⟨j+1,hlj⟩,by show left.length - (j+1)<left.length - j;omega,?_⟩
       refine zq rfl ?_ ?_
       simp -dsimp only [simprocAttr,↓vpre,zp,zc]
       ·exact Sub.int (by simp)
       rfl
      refine zb1 ?_
      have hyv:¬y.2=v:=by simpa using h
      unfold breakQ at hst
      rw [if_neg hyv,setM_same hy'] at hst
      refine zh0 ?_
      repeat(refine⟨by omega,?_⟩)
      refine zl0 ?_
      refine⟨⟨j+1,hlj⟩,by show left.length - (j+1)<left.length - j;omega,?_⟩
      refine zq rfl ?_ ?_
      simp -dsimp only [simprocAttr,↓vpre,zp,zc]
      ·exact Sub.int (by simp)
      rw [←hCf,hst]
     refine awp_exit ?_
     simp -dsimp only [vend,ne_eq,Nat.reduceEqDiff,reduceCtorEq]
     have hjl:j=left.length:=by
      have:=of_decide_eq_false h
      omega
     subst hjl
     rw [←hbr]
     refine zh0 ?_
     refine at_intro ?_
     show Covers _ _
     refine zq rfl ?_ ?_
     simp -dsimp only [simprocAttr,↓vpre,zp,zc]
     rw [←hol2]
    cases h
   have hdn:decide (ix<0)=false:=decide_eq_false hneg
   obtain⟨hik,rfl,rfl⟩:=g5 (by omega)
   rw [List.append_nil]
   refine zg1 ?_
   simp -dsimp only [simprocAttr,↓vpre,zp,hdn]
   refine za0 ?_
   refine zu0 rfl ?_
   refine awp_skip ?_
   show Covers _ _
   refine zq rfl ?_ ?_
   simp -dsimp only [simprocAttr,↓vpre,zp,zc]
   ·exact Sub.of_eq (by rw [hik])
   rfl
  obtain⟨hat,-,-⟩:=mC_at g2 J
  have hCl:(mC L2++J).length=left.length * 2+J.length:=by rw [List.length_append,mC_len,g1]
  have hex:ex.length≤1:=by
   by_cases hneg:ix<0
   ·obtain⟨_,_,_,_,rfl⟩:=g4 hneg
    simp
   obtain⟨_,_,rfl⟩:=g5 (by omega)
   simp
  have hoe:(out++ex).length≤out.length+1:=by rw [List.length_append];omega
  generalize ho2:out++ex=o2 at *
  have hdel:=del_spec (O:=[AObj.cells (mC L2++J),.cells [.ms 0 0 left.length n],.spare (o2.length+1)]) 0 n J L2 k (by omega) (by omega) rfl (by omega) (by omega)
  rw [g1] at hdel
  have hset:([AObj.cells (mC L2++J),.cells [.ms 0 0 left.length n],.spare (o2.length+1)]:List AObj).set 0 (.cells (mC (L2.eraseIdx k)++(aI 0::aI 0::J)))=[.cells (mC (L2.eraseIdx k)++(aI 0::aI 0::J)),.cells [.ms 0 0 left.length n],.spare (o2.length+1)]:=rfl
  rw [hset] at hdel
  obtain⟨C,hC⟩:∃C,C=mC L2++J:=⟨_,rfl⟩
  rw [←hC] at hat hCl hdel
  rw [←hC]
  have hmap:o2.map eM++[.agg [aI x.1,aI x.2]]=(o2++[x]).map eM:=by simp
  refine zg1 ?_
  simp -dsimp only [simprocAttr,↓vpre,zp,hat,hCl]
  repeat(refine⟨by omega,?_⟩)
  refine za0 ?_
  rw [hmap]
  refine zh0 ?_
  repeat(refine⟨by omega,?_⟩)
  refine .inr (.inl ⟨_,_,hdel,.inl (later_intro (zj ?_))⟩)
  refine zl1 ?_
  have hel:(L2.eraseIdx k).length=left.length - 1:=by rw [List.length_eraseIdx,if_pos (by omega),g1]
  have hxl:(o2++[x]).length=o2.length+1:=by rw [List.length_append];rfl
  have hobj2:[AObj.cells (mC (L2.eraseIdx k)++aI 0::aI 0::J),AObj.cells [AVal.ms 0 0 (left.length - 1) n],AObj.spare (o2.length+1)]=[AObj.cells (mC (L2.eraseIdx k)++aI 0::aI 0::J),AObj.cells [AVal.ms 0 0 (L2.eraseIdx k).length n],AObj.spare (o2++[x]).length]:=by rw [hxl,hel]
  have hnx:R=o2++[x]++seqRun spare (fuel - 1) (L2.eraseIdx k):=by
   rw [hRe,show fuel=fuel - 1+1 by omega,seqRun,if_neg hm0,g3,←ho2]
   simp
  refine⟨⟨(L2.eraseIdx k,aI 0::aI 0::J,o2++[x],fuel - 1),by simp only;omega,by simp only;omega,hnx,by simp only;omega,fun y hy=>?_⟩,by show(L2.eraseIdx k).length<left.length;omega,?_⟩
  ·simp only [List.mem_cons] at hy
   rcases hy with q | q | q
   ·exact q
   ·exact q
   exact hJ y q
  refine zq rfl ?_ ?_
  simp -dsimp only [simprocAttr,↓vpre,zp,zc]
  exact hobj2
 refine awp_exit ?_
 simp -dsimp only [vend,ne_eq,Nat.reduceEqDiff,reduceCtorEq]
 have hl0:left=[]:=by
  have:=of_decide_eq_false h
  exact List.length_eq_zero_iff.1 (by omega)
 have hRo:R=out:=by
  rw [hRe,hl0]
  cases fuel<;>simp [seqRun]
 refine zh1 (za0 ?_)
 refine awp_ret ?_
 simp -dsimp only [simprocAttr,↓vpre,zp,zr,Try.results25]
 exact⟨⟨⟨eMs_upto _ _,trivial⟩,trivial,trivial⟩,by rw [hRo]⟩
theorem seq_nil(spare:Int):PCall Try.prog 25 [.lst 2 [] .sh,aI spare] (.tup [.lst 2 [] .sh,aI 0]):=by
 have hidx:PCall Try.prog 49 [.lst 2 [] .sh,.fn (.func 48) [] []] (aI (-1)):=by
  have:=idxL_spec (O:=[]) 48 [] (fun x=>decide (x.1=x.2)) [] (fun x hx=>by cases hx)
  exact this
 have hdel:PCall Try.prog 46 [.lst 2 [] .sh,.fn (.func 48) [] []] (.lst 2 [] .sh):=by
  refine zf true 0 Try.func46 Try.ntmps46 ?_
  dsimp only [Tmp,TypeId,slotsOf]
  refine zh1 (za0 ?_)
  refine zh1 ?_
  refine .inl ⟨_,hidx,by simp only [uptoL,AVal.upto,zt,zu,aI_upto,eMs_upto],later_intro ?_⟩
  simp -dsimp only [simprocAttr,↓vpre,zp]
  refine za0 ?_
  refine zh2 (za0 ?_)
  refine zw0 rfl ?_
  refine zh1 (za0 ?_)
  refine awp_ret ?_
  simp -dsimp only [simprocAttr,↓vpre,zp,zr,Try.results46]
  trivial
 have hcl:PCall Try.prog 47 [.lst 2 [] .sh] (.lst 2 [] .sh):=by
  refine zf true 0 Try.func47 Try.ntmps47 ?_
  dsimp only [Tmp,TypeId,slotsOf]
  refine awp_nilsplit 0 rfl (fun _=>?_) ?_
  ·simp -dsimp only [simprocAttr,↓vpre,zp]
   refine zh1 (za0 ?_)
   refine zh2 (za0 ?_)
   refine zw0 rfl ?_
   refine zh1 (za0 ?_)
   refine awp_ret ?_
   simp -dsimp only [simprocAttr,↓vpre,zp,zr,Try.results47]
   trivial
  simp -dsimp only [simprocAttr,↓vpre,zp]
  refine zh1 (za0 ?_)
  refine zh2 (za0 ?_)
  refine zu0 rfl ?_
  refine zb0 ?_
  refine zh1 ?_
  repeat(refine⟨by omega,?_⟩)
  refine za0 ?_
  refine awp_ret ?_
  simp -dsimp only [simprocAttr,↓vpre,zp,zr,Try.results47]
  trivial
 refine zf true 0 Try.func25 Try.ntmps25 ?_
 dsimp only [Tmp,TypeId,slotsOf]
 refine zh1 (za0 ?_)
 refine zh2 (za0 ?_)
 refine awp_block (awp_loop (ι:=Unit) (fun x=>⟨99,[(0,.lst 2 [] .sh),(1,aI spare),(13,.lst 2 [] .sh),(14,aI 0),(15,aI 0)],[]⟩) (fun x=>0) () ?_ ?_)
 ·refine zq rfl ?_ ?_
  simp -dsimp only [simprocAttr,↓vpre,zp,zc]
  all_goals rfl
 rintro⟨⟩
 refine zh1 (za0 ?_)
 refine zu1 rfl ?_
 refine awp_exit ?_
 simp -dsimp only [vend,ne_eq,Nat.reduceEqDiff,reduceCtorEq]
 refine zh1 ?_
 refine .inl ⟨_,hcl,by simp only [uptoL,AVal.upto,zt,zu,aI_upto,eMs_upto],later_intro ?_⟩
 simp -dsimp only [simprocAttr,↓vpre,zp]
 refine .inl ⟨_,hdel,by simp only [uptoL,AVal.upto,zt,zu,aI_upto,eMs_upto],later_intro ?_⟩
 simp -dsimp only [simprocAttr,↓vpre,zp]
 refine za0 ?_
 refine zh1 (za0 ?_)
 refine awp_seq (awp_block (awp_loop (ι:=Unit) (fun x=>⟨99,[(8,.mp 0 0),(9,.lst 2 [] .ex)],[.cells [.lst 2 [] .sh]]⟩) (fun x=>0) () ?_ ?_))
 ·refine zq rfl ?_ ?_
  simp -dsimp only [simprocAttr,↓vpre,zp,zc]
  all_goals rfl
 rintro⟨⟩
 refine zh2 (za0 ?_)
 refine zu0 rfl ?_
 refine awp_exit ?_
 simp -dsimp only [vend,ne_eq,Nat.reduceEqDiff,reduceCtorEq]
 refine zh1 (za0 ?_)
 refine awp_ret ?_
 simp -dsimp only [simprocAttr,↓vpre,zp,zr,Try.results25]
 trivial
def cpI(x:Mv):Ins:=⟨x.1,100,0,[x.2]⟩
def edgeMv(g:Func)(e:Edge):List Mv:=(blkOf g e.block).params.zip e.args
def copiesM(g:Func)(e:Edge)(spare:Int):List Ins:=(seqM (edgeMv g e) spare).map cpI
structure MvW(g:Func)(e:Edge)(spare:Int):Prop where
 blk:0≤e.block∧e.block<g.blocks.length
 len:e.args.length=(blkOf g e.block).params.length
 few:(blkOf g e.block).params.length≤4096
 pos:∀x∈edgeMv g e,0≤x.1∧0≤x.2
 dis:∀(i j:Nat) (x y:Mv),i<j→(edgeMv g e)[i]?=some x→(edgeMv g e)[j]?=some y→x.1≠y.1
 sp:∀x∈edgeMv g e,x.1≠spare∧x.2≠spare
def modB(L:List Block)(k:Nat)(F:Block→Block):List Block:=match L[k]? with
 | some b=>L.set k (F b)
 | none=>L
theorem modB_at{L:List Block}{k:Nat}{b:Block}(h:L[k]?=some b)(F:Block→Block):modB L k F=L.set k (F b):=by
 unfold modB
 rw [h]
def lvJump(b:Block):Block:=⟨b.params,b.ins,⟨1,0,0,[],b.term.to⟩⟩
def addEnd(l:List Ins)(b:Block):Block:=⟨b.params,b.ins++l,b.term⟩
def addFront(l:List Ins)(b:Block):Block:=⟨b.params,l++b.ins,b.term⟩
def bareE(n:Nat)(b:Block):Block:=setTo b (b.term.to.set n ⟨(b.term.to[n]?.getD ⟨0,[]⟩).block,[]⟩)
def lvPut(one:Bool)(l:List Ins)(k:Nat)(x:Edge)(L:List Block):List Block:=if one then modB L k (addEnd l) else modB L x.block.toNat (addFront l)
def leaveStep(g:Func)(sp:Int)(k:Nat)(b:Block)(n:Nat)(x:Edge)(L:List Block):List Block:=modB (lvPut (decide (b.term.to.length=1)) (copiesM g x sp) k x L) k (bareE n)
def lvE(g:Func)(sp:Int)(k:Nat)(b:Block):Nat→List Edge→List Block→List Block
 | _,[],L=>L
 | n,x::r,L=>lvE g sp k b (n+1) r (leaveStep g sp k b n x L)
def lvT(k:Nat)(b:Block)(L:List Block):List Block:=if b.term.kind=3∧b.term.to.length=1 then modB L k lvJump else L
def lvK(g:Func)(sp:Int):Nat→List Block→List Block→List Block
 | _,[],L=>L
 | k,b::r,L=>lvK g sp (k+1) r (lvE g sp k b 0 b.term.to (lvT k b L))
def noPar(b:Block):Block:=⟨[],b.ins,b.term⟩
def lvBare(k:Nat):List Block→List Block
 | []=>[]
 | b::r=>(if k=0 then b else noPar b)::lvBare (k+1) r
def leaveM(g:Func)(sp:Int):Func:=⟨g.name,lvBare 0 (lvK g sp 0 g.blocks g.blocks)⟩
structure LvW(g:Func)(m:Nat)(L:List Block):Prop where
 len:L.length=g.blocks.length
 to:∀(j:Nat) (b c:Block),g.blocks[j]?=some b→L[j]?=some c→c.term.to.length=b.term.to.length
 few:∀c∈L,c.ins.length≤m
theorem LvW.set{g:Func}{m m':Nat}{L:List Block}(h:LvW g m L){k:Nat}{c c':Block}(hc:L[k]?=some c)(ht:c'.term.to.length=c.term.to.length)(hi:c'.ins.length≤m')(hm:m≤m'):LvW g m' (L.set k c') where
 len:=by rw [List.length_set,h.len]
 to:=fun j b d hb hd=>by
  rw [List.getElem?_set] at hd
  split at hd
  ·rename_i e
   subst e
   rw [if_pos (lt_of_getElem? hc)] at hd
   simp only [Option.some.injEq] at hd
   subst hd
   rw [ht]
   exact h.to k b c hb hc
  exact h.to j b d hb hd
 few:=fun d hd=>by
  rcases List.mem_or_eq_of_mem_set hd with q | q
  ·have:=h.few d q
   omega
  rw [q]
  exact hi
theorem LvW.start(g:Func){m:Nat}(h:∀b∈g.blocks,b.ins.length≤m):LvW g m g.blocks:=⟨rfl,fun j b c h1 h2=>by
 rw [h1] at h2
 rw [Option.some.inj h2],h⟩
@[irreducible] def lvBd (k n:Nat):Nat:=1024+k * 2500000+n * 8192
theorem lvBd_zero:lvBd 0 0=1024:=by unfold lvBd;omega
theorem lvBd_step(k n:Nat):lvBd k n+8192≤lvBd k (n+1):=by unfold lvBd;omega
theorem lvBd_next{k n:Nat}(h:n≤257):lvBd k n≤lvBd (k+1) 0:=by unfold lvBd;omega
theorem lvBd_le{k n:Nat}(h:k≤128)(hn:n≤257):lvBd k n≤400000000:=by unfold lvBd;omega
theorem LvW.mono{g:Func}{m m':Nat}{L:List Block}(h:LvW g m L)(hm:m≤m'):LvW g m' L:=⟨h.len,h.to,fun c hc=>by have:=h.few c hc;omega⟩

namespace Mach
def shift(m:Mach)(c:Int):Mach:={ m with left:=m.left+c }
end Mach
end Go.Proofs.Ytkhnjeblbiocaaa
namespace Go.Proofs.Ytkhnjeblbiocaaa
open Go.Av
def VR(D:Int→Prop)(s:Int→Int)(es es':List (Int×SV)):Prop:=∀k,D k→getS es' (s k)=getS es k
section
variable {D:Int→Prop} {s:Int→Int}
end
namespace Mach
def put(m:Mach)(fs:List Fr)(l:Int):Mach:={ m with frames:=fs,left:=l }
inductive Steps(u:Unt):Nat→Mach→Mach→Prop
 | refl (m:Mach):Steps u 0 m m
 | cons {n:Nat} {m m':Mach}:m.over=false→m.short=false→1≤m.left→Steps u n (step u { m with left:=m.left - 1 }) m'→Steps u (n+1) m m'
theorem Steps.trans{u:Unt}{a b:Nat}{m m' m'':Mach}(h:Steps u a m m')(k:Steps u b m' m''):Steps u (a+b) m m'':=by
 induction h with
 | refl m=>rw [Nat.zero_add];exact k
 | cons h1 h2 h3 _ ih =>
  rw [Nat.add_right_comm]
  exact .cons h1 h2 h3 (ih k)
end Mach
section
variable (u v:Unt) (s:Int→Int) (D L:Int→Int→Prop) (β:Int→Int→Int) (pre:Int→Int→List Ins)
structure FR(f f':Fr):Prop where
 ids:f'.fid=f.fid∧f'.mid=f.mid∧f'.fn=f.fn
 fn:0≤f.fn∧f.fn<u.fns.length
 live:L f.fn f.blk
 blk:f'.blk=β f.fn f.blk
 pos:f'.pos=(pre f.fn f.blk).length+f.pos
 vals:VR (D f.fn) s f.vals f'.vals
def ToR(f f':Fr):List Fr→Prop
 | []=>True
 | g::_=>f'.to=s f.to∧D g.fn f.to
def FsR:List Fr→List Fr→Prop
 | [],[]=>True
 | f::r,f'::r'=>FR u s D L β pre f f'∧ToR s D f f' r∧FsR r r'
 | _,_=>False
def Rel(c d:Int)(m m':Mach):Prop:=∃fs l,m'=m.put fs l∧FsR u s D L β pre m.frames fs∧c * m.left≤l∧l≤m.left+d
end
section
variable {u v:Unt} {s:Int→Int} {D L:Int→Int→Prop} {β:Int→Int→Int} {pre:Int→Int→List Ins} {c d:Int}
end
end Go.Proofs.Ytkhnjeblbiocaaa
namespace Go.Proofs.Ytkhnjeblbiocaaa
open Go.Av
theorem lookD_no{ds:Defs}{v:Int}(h:v ∉ ds.map (·.1)):lookD ds v=none:=by
 cases hl:lookD ds v with
 | none=>rfl
 | some p=>exact absurd (List.mem_map.2 ⟨_,lookD_some hl,rfl⟩) h
theorem defineM_zero{ds:Defs}{v:Int}{p:Int×Int}(hv:0≤v∧v≤4095)(h:v ∉ ds.map (·.1)):(defineM ds v p).1=0:=by
 unfold defineM
 rw [lookD_no h]
 simp [within,hv]
theorem paramsM_zero(k:Int):∀(l:List Int) (ds:Defs),(∀v∈l,0≤v∧v≤4095)→(ds.map (·.1)++l).Nodup→(paramsM k ds l).1=0
 | [],_,_,_=>rfl
 | p::r,ds,hv,hn=>by
  have hp:p ∉ ds.map (·.1):=fun q=>by
   rw [List.nodup_append] at hn
   exact hn.2.2 p q p List.mem_cons_self rfl
  have h0:=defineM_zero (p:=(k,0)) (hv p List.mem_cons_self) hp
  simp only [paramsM]
  rw [if_neg (by rw [h0];simp),defineM_eq h0]
  refine paramsM_zero k r _ (fun v h=>hv v (List.mem_cons_of_mem _ h)) ?_
  rw [List.map_append,List.append_assoc]
  exact hn
theorem insM_zero(k:Int):∀(l:List Ins) (n:Int) (ds:Defs),(∀i∈l,0≤i.to∧i.to≤4095∧formE i=0)→(ds.map (·.1)++l.map Ins.to).Nodup→(insM k n ds l).1=0
 | [],_,_,_,_=>rfl
 | i::r,n,ds,hv,hn=>by
  have hp:i.to ∉ ds.map (·.1):=fun q=>by
   rw [List.nodup_append] at hn
   exact hn.2.2 _ q _ List.mem_cons_self rfl
  have hi:=hv i List.mem_cons_self
  have h0:=defineM_zero (p:=(k,n+1)) ⟨hi.1,hi.2.1⟩ hp
  simp only [insM]
  rw [if_neg (by rw [h0];simp),if_neg (by rw [hi.2.2];simp),defineM_eq h0]
  refine insM_zero k r _ _ (fun j h=>hv j (List.mem_cons_of_mem _ h)) ?_
  rw [List.map_append,List.append_assoc]
  exact hn
theorem blockM_zero{f:Func}{ds:Defs}{k:Int}{b:Block}(hb:blkOf f k=b)(hp:∀v∈b.params,0≤v∧v≤4095)(hi:∀i∈b.ins,0≤i.to∧i.to≤4095∧formE i=0)(he:endE f b.term=0)(hn:(ds.map (·.1)++blkVals b).Nodup):(blockM f ds k).1=0:=by
 unfold blockM
 rw [hb]
 unfold blkVals at hn
 rw [←List.append_assoc] at hn
 have h1:=paramsM_zero k b.params ds hp (by
  rw [List.nodup_append] at hn
  exact hn.1)
 rw [if_neg (by rw [h1];simp),paramsM_eq k b.params ds h1]
 have h2:=insM_zero k b.ins 0 (ds++parDefs k b.params) hi (by
  rw [List.map_append]
  have:(parDefs k b.params).map (·.1)=b.params:=by
   unfold parDefs
   rw [List.map_map]
   exact List.map_id' _
  rw [this]
  exact hn)
 rw [if_neg (by rw [h2];simp)]
 exact he
theorem blkDefs_fst(k:Int)(b:Block):(blkDefs k b).map (·.1)=blkVals b:=by
 rw [blkDefs,List.map_append,insDefs_fst,blkVals,parDefs,List.map_map]
 congr 1
 exact List.map_id' _
theorem blocksM_zero{f:Func}(hp:∀b∈f.blocks,(∀v∈b.params,0≤v∧v≤4095)∧(∀i∈b.ins,0≤i.to∧i.to≤4095∧formE i=0)∧endE f b.term=0) :
  ∀(n k:Nat) (ds:Defs),k+n=f.blocks.length→(ds.map (·.1)++(f.blocks.drop k).flatMap blkVals).Nodup→(blocksM f n k ds).1=0
 | 0,_,_,_,_=>rfl
 | n+1,k,ds,hk,hn=>by
  have hb:f.blocks[k]?=some f.blocks[k]:=List.getElem?_eq_getElem (by omega)
  have hbo:blkOf f (k:Int)=f.blocks[k]:=by simp [blkOf,hb]
  rw [drop_at hb,List.flatMap_cons,←List.append_assoc] at hn
  obtain⟨p1,p2,p3⟩:=hp _ (List.mem_of_getElem? hb)
  have h0:=blockM_zero (ds:=ds) hbo p1 p2 p3 (by
   rw [List.nodup_append] at hn
   exact hn.1)
  simp only [blocksM]
  rw [if_neg (by rw [h0];simp),blockM_eq h0,hbo]
  have e:(k:Int)+1=((k+1:Nat):Int):=by omega
  rw [e]
  refine blocksM_zero hp n (k+1) _ (by omega) ?_
  rw [List.map_append,blkDefs_fst]
  exact hn
theorem insUses_intro{ds:Defs}{over:List Bs}{seen:Bs}{k:Nat}:∀(l:List Ins) (n:Nat),(∀(j:Nat) i,l[j]?=some i→∀a∈i.args,fineM ds over seen k ((n+j:Nat):Int) a=true)→insUses ds over seen k n l=true
 | [],_,_=>rfl
 | x::r,n,h=>by
  simp only [insUses,Bool.and_eq_true,List.all_eq_true]
  refine⟨fun a ha=>h 0 x rfl a ha,insUses_intro r (n+1) fun j i hj a ha=>?_⟩
  rw [show n+1+j=n+(j+1) by omega]
  exact h (j+1) i (by simpa using hj) a ha
theorem allUses_intro{ds:Defs}{over:List Bs}{seen:Bs}:∀(l:List Block) (k:Nat),(∀(j:Nat) b,l[j]?=some b→blkUses ds over seen (k+j) b=true)→allUses ds over seen k l=true
 | [],_,_=>rfl
 | x::r,k,h=>by
  simp only [allUses,Bool.and_eq_true]
  refine⟨h 0 x rfl,allUses_intro r (k+1) fun j b hj=>?_⟩
  rw [show k+1+j=k+(j+1) by omega]
  exact h (j+1) b (by simpa using hj)
theorem fine_intro{f:Func}(hn:(valsF f).Nodup){k:Nat}{n v:Int}(h:Fine f k n v):fineM (dsF f) (domM f).1 (domM f).2 k n v=true:=by
 obtain⟨p,h1,h2⟩:=h
 have hl:lookD (dsF f) v=some p:=(lookD_mem (by rw [dsF_fst];exact hn)).2 (mem_dsF.2 h1)
 unfold fineM
 rw [hl]
 simp only [Bool.or_eq_true,Bool.and_eq_true,decide_eq_true_eq,Bool.not_eq_true',decide_eq_false_iff_not]
 cases hs:seenF f k with
 | false=>exact .inr (.inr hs)
 | true =>
  rcases h2 hs with q | q
  ·exact .inl q
  exact .inr (.inl q)
theorem uses_intro{f:Func}(hn:(valsF f).Nodup)(h:UsesW f):usesM f (dsF f)=0:=by
 unfold usesM
 rw [if_pos]
 refine allUses_intro f.blocks 0 fun j b hj=>?_
 rw [Nat.zero_add]
 unfold blkUses usedM
 simp only [Bool.and_eq_true,Bool.or_eq_true,decide_eq_true_eq,List.all_eq_true]
 refine⟨insUses_intro b.ins 0 fun n i hi a ha=>?_,?_,fun e he a ha=>fine_intro hn (h.args j b hj e he a ha)⟩
 ·rw [Nat.zero_add]
  exact fine_intro hn (h.ins j b hj n i hi a ha)
 by_cases h1:b.term.kind=1
 ·exact .inl (.inl h1)
 by_cases h4:b.term.kind=4
 ·exact .inl (.inr h4)
 exact .inr (fine_intro hn (h.arg j b hj h1 h4))
def sumI(bs:List Block):Nat:=(bs.map fun b=>b.ins.length).sum
theorem wsum_eq:∀(bs:List Block) (m:Nat),(∀b∈bs,b.ins.length≤1024)→m+bs.length * 1024≤1000000→wsum m bs=((m+sumI bs:Nat):Int)
 | [],m,_,_=>by simp [wsum,sumI]
 | b::r,m,h,hm=>by
  have h1:=h b List.mem_cons_self
  rw [List.length_cons] at hm
  have hw:IntKind.i64.wrap ((m:Int)+(b.ins.length:Int))=((m+b.ins.length:Nat):Int):=by
   rw [wrap_in .i64 _ (by show(-9223372036854775808:Int)≤_;omega) (by show _≤(9223372036854775807:Int);omega)]
   omega
  simp only [wsum]
  rw [hw,wsum_eq r (m+b.ins.length) (fun x hx=>h x (List.mem_cons_of_mem _ hx)) (by omega)]
  unfold sumI
  rw [List.map_cons,List.sum_cons,Nat.add_assoc]
theorem check_intro{f:Func}(hne:f.blocks≠[])(hfew:f.blocks.length≤128)(hname:-1≤f.name∧f.name≤1048575)(hins:∀b∈f.blocks,b.ins.length≤1024)(hsum:sumI f.blocks≤1024)(hpar:(blkOf f 0).params.length≤6)
  (hv:∀v∈valsF f,0≤v∧v≤4095) (hn:(valsF f).Nodup) (hb:∀b∈f.blocks,(∀i∈b.ins,formE i=0)∧endE f b.term=0) (hu:UsesW f):checkFuncM f=0:=by
 have hbv:∀b∈f.blocks,(∀v∈b.params,0≤v∧v≤4095)∧(∀i∈b.ins,0≤i.to∧i.to≤4095∧formE i=0)∧endE f b.term=0:=fun b h=>by
  have hin:∀v∈blkVals b,0≤v∧v≤4095:=fun v q=>hv v (List.mem_flatMap.2 ⟨b,h,q⟩)
  refine⟨fun v q=>hin v (List.mem_append_left _ q),fun i q=>?_,(hb b h).2⟩
  have:=hin i.to (List.mem_append_right _ (List.mem_map.2 ⟨i,q,rfl⟩))
  exact⟨this.1,this.2,(hb b h).1 i q⟩
 have h0:=blocksM_zero hbv f.blocks.length 0 [] (by omega) (by
  rw [List.drop_zero]
  exact hn)
 have h1:=blocksM_eq f.blocks.length 0 [] (by omega) h0
 rw [List.drop_zero,List.nil_append] at h1
 have hw:=wsum_eq f.blocks 0 hins (by omega)
 rw [Nat.zero_add] at hw
 have hl:=List.length_pos_iff.2 hne
 unfold checkFuncM
 have hww:wsum 0 f.blocks=((sumI f.blocks:Nat):Int):=hw
 rw [if_neg (by omega),if_neg (by rw [hww];omega),if_neg (by simp [within,hname]),if_neg (by
  have h0':(blocksM f f.blocks.length 0 []).1=0:=h0
  rw [h0']
  simp)]
 have h1':(blocksM f f.blocks.length 0 []).2=dsF f:=h1
 rw [h1']
 exact uses_intro hn hu
theorem sum_few{f:Func}(hfit:f.fit)(h:checkFuncM f=0):sumI f.blocks≤1024:=by
 have hw:=checkFunc_ok hfit h
 have he:=wsum_eq f.blocks 0 hw.ins (by have:=hw.few;omega)
 unfold checkFuncM at h
 split at h
 ·simp at h
 split at h
 ·simp at h
 rename_i h2
 rw [Nat.zero_add] at he
 have he':wsum 0 f.blocks=((sumI f.blocks:Nat):Int):=he
 rw [he'] at h2
 omega
theorem dmax_E{n k:Nat}{D:Nat→Nat→Prop}{R:Nat→Prop}{S:Ds}(hn:n≤128)(hl:S.over.length=n)(h1:∀i j,j<n→D i j→i<n∧(S.at_ j).has i=true)(h2:∀j,j<128→S.seen.has j=true→R j)(hk:k<n){e:Edge}(he:0≤e.block∧e.block.toNat<n)(hR:R k→R e.block.toNat)
  (hD:R k→∀i,D i e.block.toNat→i=e.block.toNat∨D i k) (hs:R k):(∀i j,j<n→D i j→i<n∧((domE k S e).at_ j).has i=true)∧(∀j,j<128→(domE k S e).seen.has j=true→R j)∧(domE k S e).over.length=n:=by
 unfold domE
 simp only
 split
 ·refine⟨fun i j hj hij=>?_,fun j hj hsj=>?_,by simp only;rw [List.length_set,hl]⟩
  ·refine⟨(h1 i j hj hij).1,?_⟩
   have hi:=(h1 i j hj hij).1
   unfold Ds.at_
   simp only
   rw [List.getElem?_set]
   split
   ·rename_i q
    rw [if_pos (by rw [hl];exact he.2),Option.getD_some,Bs.has_add _ _ _ (by omega) (by omega),Bs.has_meet]
    simp only [Bool.or_eq_true,Bool.and_eq_true,decide_eq_true_eq]
    rw [←q] at hij
    rcases hD hs i hij with r | r
    ·exact .inr r
    exact .inl ⟨(h1 i _ he.2 hij).2,(h1 i k hk r).2⟩
   exact(h1 i j hj hij).2
  simp only at hsj
  rw [Bs.has_add _ _ _ (by omega) hj] at hsj
  simp only [Bool.or_eq_true,decide_eq_true_eq] at hsj
  rcases hsj with q | q
  ·exact h2 j hj q
  rw [q]
  exact hR hs
 exact⟨h1,h2,hl⟩
structure DmX(n:Nat)(D:Nat→Nat→Prop)(R:Nat→Prop)(S:Ds):Prop where
 len:S.over.length=n
 dom:∀i j,j<n→D i j→i<n∧(S.at_ j).has i=true
 seen:∀j,j<128→S.seen.has j=true→R j
structure DmC(f:Func)(D:Nat→Nat→Prop)(R:Nat→Prop):Prop where
 few:f.blocks.length≤128
 edges:∀b∈f.blocks,∀e∈b.term.to,0≤e.block∧e.block.toNat<f.blocks.length
 next:∀(k:Nat) b,f.blocks[k]?=some b→R k→∀e∈b.term.to,R e.block.toNat∧∀i,D i e.block.toNat→i=e.block.toNat∨D i k
theorem dmx_F{f:Func}{D:Nat→Nat→Prop}{R:Nat→Prop}(hc:DmC f D R){k:Nat}{b:Block}(hb:f.blocks[k]?=some b)(hR:R k):∀(l:List Edge) {S:Ds},(∀e∈l,e∈b.term.to)→DmX f.blocks.length D R S→DmX f.blocks.length D R (l.foldl (domE k) S)
 | [],_,_,h=>h
 | e::r,S,hl,h=>by
  have hn:=hc.next k b hb hR e (hl e List.mem_cons_self)
  obtain⟨a1,a2,a3⟩:=dmax_E hc.few h.len h.dom h.seen (lt_of_getElem? hb) (hc.edges b (List.mem_of_getElem? hb) e (hl e List.mem_cons_self)) (fun _=>hn.1) (fun _=>hn.2) hR
  rw [List.foldl_cons]
  exact dmx_F hc hb hR r (fun x hx=>hl x (List.mem_cons_of_mem _ hx)) ⟨a3,a1,a2⟩
theorem dmx_R{f:Func}{D:Nat→Nat→Prop}{R:Nat→Prop}(hc:DmC f D R):∀(l:List Block) (k:Nat) {S:Ds},l=f.blocks.drop k→DmX f.blocks.length D R S→DmX f.blocks.length D R (domR k S l)
 | [],_,_,_,h=>h
 | b::r,k,S,hl,h=>by
  have hb:f.blocks[k]?=some b:=by
   have:=congrArg (fun l=>l[0]?) hl
   simpa using this.symm
  have hr:r=f.blocks.drop (k+1):=by
   rw [drop_at hb] at hl
   simpa using hl
  rw [domR]
  refine dmx_R hc r (k+1) hr ?_
  unfold domB
  split
  ·exact h
  rename_i hs
  have hk:=lt_of_getElem? hb
  exact dmx_F hc hb (h.seen k (by have:=hc.few;omega) (by simpa using hs)) _ (fun e he=>he) h
theorem dmx_I{f:Func}{D:Nat→Nat→Prop}{R:Nat→Prop}(hc:DmC f D R):∀(n:Nat) {S:Ds},DmX f.blocks.length D R S→DmX f.blocks.length D R (domI f n S)
 | 0,_,h=>h
 | n+1,S,h=>by
  simp only [domI]
  split
  ·exact dmx_I hc n (dmx_R hc f.blocks 0 (S:=⟨S.over,S.seen,false⟩) (by rw [List.drop_zero]) ⟨h.len,h.dom,h.seen⟩)
  exact h
theorem allB_in:∀(n j:Nat),n≤128→j<n→(allB n).has j=true
 | 0,_,_,h=>absurd h (Nat.not_lt_zero _)
 | n+1,j,hn,hj=>by
  rw [allB,Bs.has_add _ _ _ (by omega) (by omega)]
  by_cases e:j=n
  ·simp [e]
  rw [allB_in n j (by omega) (by omega)]
  rfl
theorem dom_max{f:Func}{D:Nat→Nat→Prop}{R:Nat→Prop}(hne:f.blocks≠[])(hc:DmC f D R)(h0:R 0)(hz:∀i,D i 0→i=0)(hlt:∀i j,D i j→i<f.blocks.length){i j:Nat}(hj:j<f.blocks.length)(h:D i j):(overF f j).has i=true:=by
 have hl:=List.length_pos_iff.2 hne
 have hs:DmX f.blocks.length D R (domS f):=by
  refine⟨by simp [domS],fun i j hj hij=>⟨hlt i j hij,?_⟩,fun j hj hsj=>?_⟩
  ·unfold Ds.at_ domS
   simp only
   rw [List.getElem?_set]
   split
   ·rename_i e
    subst e
    rw [if_pos (by simpa using hl),Option.getD_some,hz i hij]
    decide
   rw [List.getElem?_replicate,if_pos hj,Option.getD_some]
   exact allB_in _ _ hc.few (hlt i j hij)
  have:(Bs.none.add 0).has j=true:=hsj
  rw [Bs.has_add _ _ _ (by omega) hj] at this
  have hn:Bs.none.has j=false:=by unfold Bs.has Bs.none;simp
  rw [hn] at this
  simp only [Bool.false_or,decide_eq_true_eq] at this
  rw [this]
  exact h0
 exact((dmx_I hc 20000 hs).dom i j hj h).2
end Go.Proofs.Ytkhnjeblbiocaaa
namespace Go.Proofs.Ytkhnjeblbiocaaa
open Go.Av
section
variable {f:Func}
theorem blk_at{k:Int}(h0:0≤k)(h1:k<f.blocks.length):f.blocks[k.toNat]?=some (blkOf f k):=by
 unfold blkOf
 rw [List.getElem?_eq_getElem (by omega)]
 rfl
end
theorem shape_same{t t':Term}(h1:t.kind=t'.kind)(h2:t.arg=t'.arg)(h3:t.n=t'.n)(h4:t.cases=t'.cases)(h5:t.to.length=t'.to.length):shapeM t=shapeM t':=by
 unfold shapeM edgesM argM
 rw [h1,h2,h3,h4,h5]
theorem DefAt.range{f:Func}{v:Int}{p:Int×Int}(h:DefAt f v p):0≤p.1∧p.1<f.blocks.length:=by
 obtain⟨k,b,h1,h2,_⟩:=h
 have:=lt_of_getElem? h1
 omega
theorem end_intro{f:Func}{t:Term}(h1:shapeM t=true)(h2:t.cases.length≤256)(h3:t.kind=4→1≤t.n∧t.n≤6)(h4:casesE t.cases t.cases.length=0)(h5:∀e∈t.to,(1≤e.block∧e.block≤(f.blocks.length:Int) - 1)∧e.args.length=(blkOf f e.block).params.length):endE f t=0:=by
 unfold endE
 rw [if_neg (by simp [h1]),if_neg (by omega),if_neg (fun q=>by
  have:=h3 q.1
  have q2:=q.2
  simp [within,this] at q2),if_neg (by rw [h4];simp)]
 generalize t.to=l at h5
 induction l with
 | nil=>rfl
 | cons e r ih =>
  have he:=h5 e List.mem_cons_self
  simp only [edgesE]
  rw [if_neg (by simp [within,he.1]),if_neg (by rw [he.2];simp)]
  exact ih fun x hx=>h5 x (List.mem_cons_of_mem _ hx)
theorem end_cases{f:Func}{t:Term}(h:endE f t=0):casesE t.cases t.cases.length=0:=by
 unfold endE at h
 split at h
 ·simp at h
 split at h
 ·simp at h
 split at h
 ·simp at h
 split at h
 ·rename_i q
  exact absurd h q
 rename_i q
 simpa using q
end Go.Proofs.Ytkhnjeblbiocaaa
namespace Go.Proofs.Ytkhnjeblbiocaaa
open Go.Av

end Go.Proofs.Ytkhnjeblbiocaaa
namespace Go.Proofs.Ytkhnjeblbiocaaa
open Go.Av
section
variable {f:Func}
end
end Go.Proofs.Ytkhnjeblbiocaaa
namespace Go.Proofs.Ytkhnjeblbiocaaa
open Go.Av
theorem check_parts{u:Unt}(h:checkM u=0):u.fns.length≠0∧u.fns.length≤256∧within u.main 0 ((u.fns.length:Int) - 1)=true∧(∀f∈u.fns,checkFuncM f=0)∧(blkOf (fnOf u u.main) 0).params.length=0∧callsF u u.fns=0:=by
 unfold checkM at h
 split at h
 ·simp at h
 rename_i h1
 split at h
 ·simp at h
 rename_i h2
 split at h
 ·simp at h
 rename_i h3
 obtain⟨h4,h5⟩:=orE_eq h
 split at h5
 ·simp at h5
 rename_i h6
 exact⟨h1,by omega,by simpa using h3,funcsE_all h4,by omega,h5⟩
section
variable {u:Unt} (hfit:u.fit) (hc:checkM u=0)
include hfit hc
end
end Go.Proofs.Ytkhnjeblbiocaaa
namespace Go.Proofs.Ytkhnjeblbiocaaa
open Go.Av
structure SpI(f:Func)(S:Sp):Prop where
 w:SpW f S
 old:∀(k:Nat) b l,f.blocks[k]?=some b→S.tos[k]?=some l→∀(n:Nat) x,b.term.to[n]?=some x→l[n]?=some x∨∃i:Nat,l[n]?=some ⟨((f.blocks.length+i:Nat):Int),[]⟩∧S.news[i]?=some (jumpB x)
 new:∀(i:Nat) c,S.news[i]?=some c→∃(k:Nat) (b:Block) (x:Edge),f.blocks[k]?=some b∧x∈b.term.to∧c=jumpB x
theorem spI_start(f:Func):SpI f (spS f):=⟨spS_w f,fun k b l h1 h2 n x h3=>by
 unfold spS at h2
 simp only [List.getElem?_map,h1,Option.map_some,Option.some.injEq] at h2
 rw [←h2]
 exact .inl h3,fun i c h=>by simp [spS] at h⟩
theorem spI_step{f:Func}{k n:Nat}{S:Sp}(h:SpI f S):SpI f (spStep f k n S):=by
 refine⟨spStep_w h.w,?_,?_⟩
 ·intro j b l h1 h2 m x h3
  unfold spStep at h2 ⊢
  cases hx:(toOf f (k:Int))[n]? with
  | none =>
   rw [hx] at h2
   exact h.old j b l h1 h2 m x h3
  | some y =>
   rw [hx] at h2
   simp only at h2 ⊢
   by_cases hc:critB f k y=true
   ·rw [if_pos hc] at h2 ⊢
    simp only at h2 ⊢
    have hext:∀i:Nat,S.news[i]?=some (jumpB x)→(S.news++[jumpB y])[i]?=some (jumpB x):=fun i q=>by
     rw [List.getElem?_append_left (lt_of_getElem? q)]
     exact q
    have hold:∀l',S.tos[j]?=some l'→l'[m]?=l[m]?→l[m]?=some x∨∃i:Nat,l[m]?=some ⟨((f.blocks.length+i:Nat):Int),[]⟩∧(S.news++[jumpB y])[i]?=some (jumpB x):=fun l' q1 q2=>by
     rw [←q2]
     rcases h.old j b l' h1 q1 m x h3 with r | ⟨i,r1,r2⟩
     ·exact .inl r
     exact .inr ⟨i,r1,hext i r2⟩
    rw [List.getElem?_set] at h2
    split at h2
    ·rename_i e
     subst e
     split at h2
     ·rename_i hk
      simp only [Option.some.injEq] at h2
      obtain⟨l',hl'⟩:∃l',S.tos[k]?=some l':=⟨_,List.getElem?_eq_getElem hk⟩
      rw [hl',Option.getD_some] at h2
      by_cases e2:n=m
      ·subst e2
       have hto:toOf f (k:Int)=b.term.to:=by
        unfold toOf blkOf
        rw [Int.toNat_natCast,h1]
        rfl
       rw [hto,h3] at hx
       simp only [Option.some.injEq] at hx
       subst hx
       refine .inr ⟨S.news.length,?_,by simp⟩
       rw [←h2,List.getElem?_set_self]
       rw [h.w.each k b l' h1 hl']
       exact lt_of_getElem? h3
      exact hold l' hl' (by rw [←h2,List.getElem?_set_ne e2])
     cases h2
    exact hold l h2 rfl
   rw [if_neg hc] at h2 ⊢
   exact h.old j b l h1 h2 m x h3
 intro i c hi
 unfold spStep at hi
 cases hx:(toOf f (k:Int))[n]? with
 | none =>
  rw [hx] at hi
  exact h.new i c hi
 | some y =>
  rw [hx] at hi
  simp only at hi
  split at hi
  ·simp only at hi
   by_cases hl:i<S.news.length
   ·rw [List.getElem?_append_left hl] at hi
    exact h.new i c hi
   have:=lt_of_getElem? hi
   rw [List.length_append,List.length_singleton] at this
   have e:i=S.news.length:=by omega
   subst e
   rw [List.getElem?_append_right (Nat.le_refl _),Nat.sub_self] at hi
   simp only [List.getElem?_cons_zero,Option.some.injEq] at hi
   have hk:k<f.blocks.length:=by
    refine Classical.byContradiction fun q=>?_
    unfold toOf blkOf at hx
    rw [Int.toNat_natCast,show f.blocks[k]?=none from List.getElem?_eq_none (by omega)] at hx
    cases hx
   have hb:f.blocks[k]?=some f.blocks[k]:=List.getElem?_eq_getElem hk
   have hto:toOf f (k:Int)=f.blocks[k].term.to:=by
    unfold toOf blkOf
    rw [Int.toNat_natCast,hb]
    rfl
   rw [hto] at hx
   exact⟨k,_,y,hb,List.mem_of_getElem? hx,hi.symm⟩
  exact h.new i c hi
theorem spI_E{f:Func}{k:Nat}:∀(m n:Nat) {S:Sp},SpI f S→SpI f (spE f k m n S)
 | 0,_,_,h=>h
 | m+1,n,_,h=>spI_E m (n+1) (spI_step h)
theorem spI_K{f:Func}:∀(m k:Nat) {S:Sp},SpI f S→SpI f (spK f m k S)
 | 0,_,_,h=>h
 | m+1,k,_,h=>spI_K m (k+1) (spI_E _ 0 h)
theorem split_i(f:Func):SpI f (spM f):=spI_K _ 0 (spI_start f)
section
variable {f:Func}
theorem split_len:(splitM f).blocks.length=f.blocks.length+(spM f).news.length:=by
 unfold splitM
 rw [List.length_append,List.length_zipWith,(split_i f).w.len]
 omega
theorem split_old{k:Nat}{c:Block}(hk:k<f.blocks.length):(splitM f).blocks[k]?=some c↔∃b l,f.blocks[k]?=some b∧(spM f).tos[k]?=some l∧c=setTo b l:=by
 have hw:=(split_i f).w.len
 have e:(splitM f).blocks[k]?=(List.zipWith setTo f.blocks (spM f).tos)[k]?:=List.getElem?_append_left (by rw [List.length_zipWith];omega)
 have h1:f.blocks[k]?=some f.blocks[k]:=List.getElem?_eq_getElem hk
 have h2:(spM f).tos[k]?=some ((spM f).tos[k]'(by omega)):=List.getElem?_eq_getElem _
 rw [e,List.getElem?_zipWith,h1,h2]
 constructor
 ·intro h
  simp only [Option.some.injEq] at h
  exact⟨_,_,rfl,rfl,h.symm⟩
 rintro⟨b,l,q1,q2,q3⟩
 simp only [Option.some.injEq] at q1 q2
 rw [q1,q2,q3]
theorem split_new(i:Nat):(splitM f).blocks[f.blocks.length+i]?=(spM f).news[i]?:=by
 have hw:=(split_i f).w.len
 have hl:(List.zipWith setTo f.blocks (spM f).tos).length=f.blocks.length:=by
  rw [List.length_zipWith]
  omega
 have e:(splitM f).blocks[f.blocks.length+i]?=(spM f).news[f.blocks.length+i - (List.zipWith setTo f.blocks (spM f).tos).length]?:=List.getElem?_append_right (by omega)
 rw [e,hl,Nat.add_sub_cancel_left]
theorem split_edge{k:Nat}{b:Block}{l:List Edge}(hb:f.blocks[k]?=some b)(hl:(spM f).tos[k]?=some l){e:Edge}(he:e∈l):e∈b.term.to∨∃(i:Nat) (x:Edge),e=⟨((f.blocks.length+i:Nat):Int),[]⟩∧(spM f).news[i]?=some (jumpB x)∧x∈b.term.to:=by
 obtain⟨n,hn⟩:=List.mem_iff_getElem?.1 he
 have hlen:=(split_i f).w.each k b l hb hl
 have hnl:=lt_of_getElem? hn
 have hx:b.term.to[n]?=some (b.term.to[n]'(by omega)):=List.getElem?_eq_getElem _
 rcases (split_i f).old k b l hb hl n _ hx with q | ⟨i,q1,q2⟩
 ·rw [hn] at q
  simp only [Option.some.injEq] at q
  rw [q]
  exact .inl (List.getElem_mem _)
 rw [hn] at q1
 simp only [Option.some.injEq] at q1
 exact .inr ⟨i,_,q1,q2,List.getElem_mem _⟩
end
theorem jumpB_inj{x y:Edge}(h:jumpB x=jumpB y):x=y:=by
 unfold jumpB at h
 simpa using h
theorem zip_vals:∀(bs:List Block) (tos:List (List Edge)),tos.length=bs.length→(List.zipWith setTo bs tos).flatMap blkVals=bs.flatMap blkVals
 | [],_,_=>by simp
 | b::bs,l::tos,h=>by
  rw [List.zipWith_cons_cons,List.flatMap_cons,List.flatMap_cons,zip_vals bs tos (by simpa using h)]
  rfl
 | b::bs,[],h=>by simp at h
theorem zip_sum:∀(bs:List Block) (tos:List (List Edge)),tos.length=bs.length→sumI (List.zipWith setTo bs tos)=sumI bs
 | [],_,_=>by simp [sumI]
 | b::bs,l::tos,h=>by
  have ih:=zip_sum bs tos (by simpa using h)
  unfold sumI at ih ⊢
  rw [List.zipWith_cons_cons,List.map_cons,List.map_cons,List.sum_cons,List.sum_cons,ih]
  rfl
 | b::bs,[],h=>by simp at h
theorem dom_seen{f:Func}{D:Nat→Nat→Prop}{R:Nat→Prop}(hne:f.blocks≠[])(hc:DmC f D R)(h0:R 0)(hz:∀i,D i 0→i=0)(hlt:∀i j,D i j→i<f.blocks.length){j:Nat}(hj:j<128)(h:seenF f j=true):R j:=by
 have hl:=List.length_pos_iff.2 hne
 have hs:DmX f.blocks.length D R (domS f):=by
  refine⟨by simp [domS],fun i j hj hij=>⟨hlt i j hij,?_⟩,fun j hj hsj=>?_⟩
  ·unfold Ds.at_ domS
   simp only
   rw [List.getElem?_set]
   split
   ·rename_i e
    subst e
    rw [if_pos (by simpa using hl),Option.getD_some,hz i hij]
    decide
   rw [List.getElem?_replicate,if_pos hj,Option.getD_some]
   exact allB_in _ _ hc.few (hlt i j hij)
  have:(Bs.none.add 0).has j=true:=hsj
  rw [Bs.has_add _ _ _ (by omega) hj] at this
  have hn:Bs.none.has j=false:=by unfold Bs.has Bs.none;simp
  rw [hn] at this
  simp only [Bool.false_or,decide_eq_true_eq] at this
  rw [this]
  exact h0
 exact(dmx_I hc 20000 hs).seen j hj h
end Go.Proofs.Ytkhnjeblbiocaaa
namespace Go.Proofs.Ytkhnjeblbiocaaa
open Go.Av
theorem fine_val{f:Func}{k:Nat}{n v:Int}(h:Fine f k n v):v∈valsF f:=by
 obtain⟨p,⟨k',b,h1,h2,h3⟩,_⟩:=h
 refine List.mem_flatMap.2 ⟨b,List.mem_of_getElem? h1,?_⟩
 rcases h3 with⟨_,q⟩ | ⟨j,i,q1,q2,q3⟩
 ·exact List.mem_append_left _ q
 exact List.mem_append_right _ (List.mem_map.2 ⟨i,List.mem_of_getElem? q1,q2⟩)
section
variable {f g:Func} {s:Int→Int} {β:Nat→Nat} {pre:Nat→List Ins}
end
end Go.Proofs.Ytkhnjeblbiocaaa
namespace Go.Proofs.Ytkhnjeblbiocaaa
open Go.Av
def EdgN(f:Func)(k j:Nat):Prop:=∃b l,f.blocks[k]?=some b∧(spM f).tos[k]?=some l∧∃e∈l,e.block=(j:Int)
theorem edgN_src{f:Func}(hg:GrW f){k i:Nat}{x:Edge}(h:EdgN f k (f.blocks.length+i))(hx:(spM f).news[i]?=some (jumpB x)):∃b,f.blocks[k]?=some b∧x∈b.term.to:=by
 obtain⟨b,l,h1,h2,e,h3,h4⟩:=h
 refine⟨b,h1,?_⟩
 rcases split_edge h1 h2 h3 with q | ⟨j,y,q1,q2,q3⟩
 ·have:=(hg.edges b (List.mem_of_getElem? h1) e q).2
  omega
 rw [q1] at h4
 have h4':((f.blocks.length+j:Nat):Int)=((f.blocks.length+i:Nat):Int):=h4
 have:j=i:=by omega
 subst this
 rw [q2] at hx
 simp only [Option.some.injEq] at hx
 rw [←jumpB_inj hx]
 exact q3
def SpD(f:Func)(i j:Nat):Prop:=(j<f.blocks.length∧i<f.blocks.length∧(overF f j).has i=true)∨(f.blocks.length≤j∧((i=j∧j<f.blocks.length+(spM f).news.length)∨(i<f.blocks.length∧∀k,seenF f k=true→EdgN f k j→(overF f k).has i=true)))
def SpR(f:Func)(j:Nat):Prop:=(j<f.blocks.length∧seenF f j=true)∨(f.blocks.length≤j∧∃k,seenF f k=true∧EdgN f k j)
theorem def_split{f:Func}{v:Int}{p:Int×Int}(h:DefAt f v p):DefAt (splitM f) v p:=by
 obtain⟨k,b,h1,h2,h3⟩:=h
 have hk:=lt_of_getElem? h1
 have hw:=(split_i f).w.len
 have hl:(spM f).tos[k]?=some ((spM f).tos[k]'(by omega)):=List.getElem?_eq_getElem _
 exact⟨k,setTo b _,(split_old hk).2 ⟨b,_,h1,hl,rfl⟩,h2,h3⟩
section
variable {f:Func}
theorem split_case{k:Nat}{c:Block}(h:(splitM f).blocks[k]?=some c):(∃b l,k<f.blocks.length∧f.blocks[k]?=some b∧(spM f).tos[k]?=some l∧c=setTo b l)∨∃(i:Nat) (x:Edge),k=f.blocks.length+i∧(spM f).news[i]?=some (jumpB x)∧c=jumpB x∧∃(k0:Nat) (b0:Block),f.blocks[k0]?=some b0∧x∈b0.term.to:=by
 by_cases hk:k<f.blocks.length
 ·obtain⟨b,l,h1,h2,h3⟩:=(split_old hk).1 h
  exact .inl ⟨b,l,hk,h1,h2,h3⟩
 obtain⟨i,hi⟩:∃i,k=f.blocks.length+i:=⟨k - f.blocks.length,by omega⟩
 rw [hi,split_new] at h
 obtain⟨k0,b0,x,q1,q2,q3⟩:=(split_i f).new i c h
 exact .inr ⟨i,x,hi,by rw [h,q3],q3,k0,b0,q1,q2⟩
theorem split_c(hg:GrW f)(hd:DomW f)(hm:f.blocks.length+(spM f).news.length≤128):DmC (splitM f) (SpD f) (SpR f) where
 few:=by rw [split_len];exact hm
 edges:=fun c hc e he=>by
  obtain⟨k,hk⟩:=List.mem_iff_getElem?.1 hc
  rw [split_len]
  rcases split_case hk with⟨b,l,h1,h2,h3,h4⟩ | ⟨i,x,h1,h2,h3,k0,b0,h4,h5⟩
  ·rw [h4] at he
   rcases split_edge h2 h3 he with q | ⟨i,x,q1,q2,q3⟩
   ·have:=hg.edges b (List.mem_of_getElem? h2) e q
    omega
   have:=lt_of_getElem? q2
   rw [q1]
   simp only
   omega
  rw [h3] at he
  have hex:e=x:=by simpa [jumpB] using he
  have:=hg.edges b0 (List.mem_of_getElem? h4) x h5
  rw [hex]
  omega
 next:=fun k c hk hR e he=>by
  have hn:=hg.few
  rcases split_case hk with⟨b,l,h1,h2,h3,h4⟩ | ⟨i,x,h1,h2,h3,_⟩
  ·rw [h4] at he
   have hs:seenF f k=true:=by
    rcases hR with q | q
    ·exact q.2
    omega
   rcases split_edge h2 h3 he with q | ⟨i,x,q1,q2,q3⟩
   ·have hr:=hg.edges b (List.mem_of_getElem? h2) e q
    obtain⟨s1,s2⟩:=hd.step k b h2 hs e q
    refine⟨.inl ⟨by omega,s1⟩,fun z hz=>?_⟩
    rcases hz with⟨z1,z2,z3⟩ | ⟨z1,_⟩
    ·rcases s2 z (by omega) z3 with r | r
     ·exact .inl r
     exact .inr (.inl ⟨h1,z2,r⟩)
    omega
   have hen:EdgN f k (f.blocks.length+i):=⟨b,l,h2,h3,e,he,by rw [q1]⟩
   have heb:e.block.toNat=f.blocks.length+i:=by
    rw [q1]
    simp only
    omega
   rw [heb]
   refine⟨.inr ⟨by omega,k,hs,hen⟩,fun z hz=>?_⟩
   rcases hz with⟨z1,_⟩ | ⟨_,⟨z2,_⟩ | ⟨z2,z3⟩⟩
   ·omega
   ·exact .inl z2
   exact .inr (.inl ⟨h1,z2,z3 k hs hen⟩)
  rw [h3] at he
  have hex:e=x:=by simpa [jumpB] using he
  rw [hex]
  have hsrc:∀k',seenF f k'=true→EdgN f k' k→seenF f x.block.toNat=true∧x.block.toNat<f.blocks.length∧∀j,j<128→((overF f x.block.toNat).has j=true→j=x.block.toNat∨(overF f k').has j=true):=fun k' hs' hen=>by
   rw [h1] at hen
   obtain⟨b',r1,r2⟩:=edgN_src hg hen h2
   obtain⟨s1,s2⟩:=hd.step k' b' r1 hs' x r2
   have hr:=hg.edges b' (List.mem_of_getElem? r1) x r2
   exact⟨s1,by omega,s2⟩
  have hex2:∃k',seenF f k'=true∧EdgN f k' k:=by
   rcases hR with q | q
   ·omega
   exact q.2
  obtain⟨k',e1,e2⟩:=hex2
  obtain⟨s1,s2,_⟩:=hsrc k' e1 e2
  refine⟨.inl ⟨s2,s1⟩,fun z hz=>?_⟩
  rcases hz with⟨z1,z2,z3⟩ | ⟨z1,_⟩
  ·by_cases q:z=x.block.toNat
   ·exact .inl q
   exact .inr (.inr ⟨by omega,.inr ⟨z2,fun k'' f1 f2=>((hsrc k'' f1 f2).2.2 z (by omega) z3).resolve_left q⟩⟩)
  omega
theorem spD_zero(hg:GrW f)(hd:DomW f):∀i,SpD f i 0→i=0:=fun i h=>by
 have hl:=List.length_pos_iff.2 hg.ne
 have hn:=hg.few
 rcases h with⟨_,h2,h3⟩ | ⟨h1,_⟩
 ·exact(hd.zero i (by omega)).1 h3
 omega
theorem spD_lt:∀i j,SpD f i j→i<(splitM f).blocks.length:=fun i j h=>by
 rw [split_len]
 rcases h with⟨_,h2,_⟩ | ⟨_,⟨h2,h3⟩ | ⟨h2,_⟩⟩<;>omega
theorem split_ne(hg:GrW f):(splitM f).blocks≠[]:=fun q=>by
 have hl:=List.length_pos_iff.2 hg.ne
 have:=congrArg List.length q
 rw [split_len] at this
 simp only [List.length_nil] at this
 omega
theorem sumI_nil:∀l:List Block,(∀c∈l,c.ins=[])→sumI l=0
 | [],_=>rfl
 | c::l,h=>by
  have ih:=sumI_nil l fun d hd=>h d (List.mem_cons_of_mem _ hd)
  unfold sumI at ih ⊢
  rw [List.map_cons,List.sum_cons,ih,h c (List.mem_cons_self ..)]
  rfl
theorem split_check(hfit:f.fit)(hc:checkFuncM f=0)(hm:f.blocks.length+(spM f).news.length≤128):checkFuncM (splitM f)=0:=by
 have hv:=checkFunc_v hfit hc
 have hf:=hv.fn
 have hg:=hf.gr
 have hd:=hv.dom
 have hl:=List.length_pos_iff.2 hg.ne
 have hC:=split_c hg hd hm
 have hR0:SpR f 0:=.inl ⟨hl,hd.seen⟩
 have hz:=spD_zero hg hd
 have hlt:=spD_lt (f:=f)
 have hwl:=(split_i f).w.len
 have hmax:∀{i j:Nat},j<(splitM f).blocks.length→SpD f i j→(overF (splitM f) j).has i=true:=fun hj h=>dom_max (split_ne hg) hC hR0 hz hlt hj h
 have hseen:∀{j:Nat},j<128→seenF (splitM f) j=true→SpR f j:=fun hj h=>dom_seen (split_ne hg) hC hR0 hz hlt hj h
 have hold:∀{k:Nat} {n v:Int},k<f.blocks.length→Fine f k n v→Fine (splitM f) k n v:=fun {k n v} hk h=>by
  obtain⟨p,h1,h2⟩:=h
  have hp:=h1.range
  refine⟨p,def_split h1,fun hs=>?_⟩
  have hsf:seenF f k=true:=by
   rcases hseen (by omega) hs with q | q
   ·exact q.2
   omega
  rcases h2 hsf with q | ⟨q1,q2⟩
  ·exact .inl q
  exact .inr ⟨q1,hmax (by rw [split_len];omega) (.inl ⟨hk,by omega,q2⟩)⟩
 have hvals:valsF (splitM f)=valsF f:=by
  unfold valsF splitM
  rw [List.flatMap_append,zip_vals _ _ hwl]
  have:(spM f).news.flatMap blkVals=[]:=by
   rw [List.flatMap_eq_nil_iff]
   intro c hcm
   obtain⟨i,hi⟩:=List.mem_iff_getElem?.1 hcm
   obtain⟨_,_,x,_,_,q⟩:=(split_i f).new i c hi
   rw [q]
   rfl
  rw [this,List.append_nil]
 have hsum:sumI (splitM f).blocks=sumI f.blocks:=by
  have h1:sumI (splitM f).blocks=sumI (List.zipWith setTo f.blocks (spM f).tos)+sumI (spM f).news:=by
   unfold sumI splitM
   rw [List.map_append,List.sum_append]
  have h2:sumI (spM f).news=0:=by
   refine sumI_nil _ fun c hcm=>?_
   obtain⟨i,hi⟩:=List.mem_iff_getElem?.1 hcm
   obtain⟨_,_,x,_,_,q⟩:=(split_i f).new i c hi
   rw [q]
   rfl
  rw [h1,h2,zip_sum _ _ hwl]
  rfl
 have hpar:∀{k:Int},0≤k→k<f.blocks.length→(blkOf (splitM f) k).params=(blkOf f k).params:=fun {k} h0 h1=>by
  have hb:=blk_at h0 h1
  have hlk:(spM f).tos[k.toNat]?=some ((spM f).tos[k.toNat]'(by omega)):=List.getElem?_eq_getElem _
  have:=(split_old (f:=f) (k:=k.toNat) (by omega)).2 ⟨_,_,hb,hlk,rfl⟩
  have e:blkOf (splitM f) k=setTo (blkOf f k) ((spM f).tos[k.toNat]'(by omega)):=by
   show(splitM f).blocks[k.toNat]?.getD default=_
   rw [this]
   rfl
  rw [e]
  rfl
 have hpn:∀(i:Nat),i<(spM f).news.length→(blkOf (splitM f) ((f.blocks.length+i:Nat):Int)).params=[]:=fun i hi=>by
  have hni:(spM f).news[i]?=some ((spM f).news[i]'hi):=List.getElem?_eq_getElem _
  obtain⟨_,_,x,_,_,q⟩:=(split_i f).new i _ hni
  have:(splitM f).blocks[f.blocks.length+i]?=some (jumpB x):=by rw [split_new,hni,q]
  have e:blkOf (splitM f) ((f.blocks.length+i:Nat):Int)=jumpB x:=by
   unfold blkOf
   rw [Int.toNat_natCast,this]
   rfl
  rw [e]
  rfl
 refine check_intro (split_ne hg) (by rw [split_len];exact hm) hf.name (fun c hcm=>?_) (by rw [hsum];exact sum_few hfit hc) (by rw [hpar (by omega) (by omega)];exact hf.args) (by rw [hvals];exact hv.vals) (by rw [hvals];exact hv.nodup) (fun c hcm=>?_) ?_
 ·obtain⟨k,hk⟩:=List.mem_iff_getElem?.1 hcm
  rcases split_case hk with⟨b,l,_,h2,_,h4⟩ | ⟨i,x,_,_,h3,_⟩
  ·rw [h4]
   exact hf.ins b (List.mem_of_getElem? h2)
  rw [h3]
  simp [jumpB]
 ·obtain⟨k,hk⟩:=List.mem_iff_getElem?.1 hcm
  rcases split_case hk with⟨b,l,h1,h2,h3,h4⟩ | ⟨i,x,h1,h2,h3,k0,b0,h4,h5⟩
  ·have hbw:=hf.blk b (List.mem_of_getElem? h2)
   have hbl:=(split_i f).w.each k b l h2 h3
   obtain⟨m1,m2,m3,m4⟩:=edges_of_end hbw.fin
   rw [h4]
   refine⟨hbw.forms,end_intro ?_ m2 m3 (end_cases (f:=f) (t:=b.term) hbw.fin) fun e he=>?_⟩
   ·rw [shape_same (t:=(setTo b l).term) (t':=b.term) rfl rfl rfl rfl hbl]
    exact m1
   rw [split_len]
   rcases split_edge h2 h3 he with q | ⟨i,x,q1,q2,q3⟩
   ·obtain⟨e1,e2⟩:=m4 e q
    exact⟨by omega,by rw [hpar (by omega) (by omega)];exact e2⟩
   have hi:=lt_of_getElem? q2
   rw [q1]
   refine⟨by simp only;omega,?_⟩
   simp only
   rw [hpn i hi]
  have hbw:=hf.blk b0 (List.mem_of_getElem? h4)
  obtain⟨m1,m2,m3,m4⟩:=edges_of_end hbw.fin
  obtain⟨e1,e2⟩:=m4 x h5
  rw [h3]
  refine⟨fun i hi=>(by cases hi),end_intro (by simp [jumpB,shapeM,edgesM,argM]) (by simp [jumpB]) (by simp [jumpB]) rfl fun e he=>?_⟩
  have hex:e=x:=by simpa [jumpB] using he
  rw [hex,split_len]
  exact⟨by omega,by rw [hpar (by omega) (by omega)];exact e2⟩
 refine⟨fun k c hk n i hi a ha=>?_,fun k c hk h1 h4=>?_,fun k c hk e he a ha=>?_⟩
 ·rcases split_case hk with⟨b,l,h1,h2,h3,h4⟩ | ⟨i0,x,_,_,h3,_⟩
  ·rw [h4] at hi
   exact hold h1 (hv.uses.ins k b h2 n i hi a ha)
  rw [h3] at hi
  simp [jumpB] at hi
 ·rcases split_case hk with⟨b,l,q1,q2,q3,q4⟩ | ⟨i0,x,_,_,q3,_⟩
  ·rw [q4] at h1 h4 ⊢
   exact hold q1 (hv.uses.arg k b q2 h1 h4)
  rw [q3] at h1
  exact absurd rfl h1
 rcases split_case hk with⟨b,l,q1,q2,q3,q4⟩ | ⟨i0,x,q1,q2,q3,k0,b0,q4,q5⟩
 ·rw [q4] at he ⊢
  rcases split_edge q2 q3 he with q | ⟨i,x,r1,_,_⟩
  ·exact hold q1 (hv.uses.args k b q2 e q a ha)
  rw [r1] at ha
  cases ha
 rw [q3] at he ⊢
 have hex:e=x:=by simpa [jumpB] using he
 rw [hex] at ha
 obtain⟨p,p1,_⟩:=hv.uses.args k0 b0 q4 x q5 a ha
 have hp:=p1.range
 refine⟨p,def_split p1,fun hs=>.inr ⟨by omega,?_⟩⟩
 have hil:=lt_of_getElem? q2
 refine hmax (by rw [split_len];omega) (.inr ⟨by omega,.inr ⟨by omega,fun k' s1 s2=>?_⟩⟩)
 rw [q1] at s2
 obtain⟨b',r1,r2⟩:=edgN_src hg s2 q2
 obtain⟨p',t1,t2⟩:=hv.uses.args k' b' r1 x r2 a ha
 have:=t1.uniq hv p1
 subst this
 rcases t2 s1 with⟨u1,_⟩ | ⟨_,u2⟩
 ·rw [show p'.1.toNat=k' by omega]
  exact hd.self k' (lt_of_getElem? r1)
 exact u2
end
end Go.Proofs.Ytkhnjeblbiocaaa
namespace Go.Proofs.Ytkhnjeblbiocaaa
open Go.Av
theorem fitIs_nil':fitIs []:=fun _ h=>by cases h
theorem split_fit{f:Func}(hfit:f.fit)(hm:f.blocks.length+(spM f).news.length≤128):(splitM f).fit:=by
 refine⟨hfit.1,by rw [split_len];omega,fun c hcm=>?_⟩
 obtain⟨k,hk⟩:=List.mem_iff_getElem?.1 hcm
 rcases split_case hk with⟨b,l,h1,h2,h3,h4⟩ | ⟨i,x,h1,h2,h3,k0,b0,h4,h5⟩
 ·obtain⟨b1,b2,b3,b4,t1,t2,t3,t4,t5,t6,t7⟩:=hfit.2.2 _ (List.mem_of_getElem? h2)
  have hlen:=(split_i f).w.each k b l h2 h3
  rw [h4]
  refine⟨b1,b2,b3,b4,t1,t2,t3,t4,t5,by show l.length≤_;rw [hlen];exact t6,fun e he=>?_⟩
  rcases split_edge h2 h3 he with q | ⟨i,x,q1,q2,q3⟩
  ·exact t7 e q
  have:=lt_of_getElem? q2
  rw [q1]
  refine⟨?_,fitIs_nil',by simp⟩
  unfold fitI
  simp only
  omega
 obtain⟨b1,b2,b3,b4,t1,t2,t3,t4,t5,t6,t7⟩:=hfit.2.2 _ (List.mem_of_getElem? h4)
 rw [h3]
 refine⟨fitIs_nil',by simp [jumpB],by simp [jumpB],fun v hv=>(by cases hv),by simp [jumpB,fitI],by simp [jumpB,fitI],by simp [jumpB,fitI],fitIs_nil',by simp [jumpB],by simp [jumpB],fun e he=>?_⟩
 have hex:e=x:=by simpa [jumpB] using he
 rw [hex]
 exact t7 x h5
section
variable {f:Func}
end
end Go.Proofs.Ytkhnjeblbiocaaa
namespace Go.Proofs.Ytkhnjeblbiocaaa
open Go.Av
theorem edge_mv{g:Func}(hv:FnV g){sp:Int}(hsp:∀v∈valsF g,v<sp){b:Block}(hb:b∈g.blocks){e:Edge}(he:e∈b.term.to):MvW g e sp:=by
 obtain⟨e1,e2⟩:=(end_ok (hv.fn.blk b hb).fin).edges e he
 have hbk:blkOf g e.block∈g.blocks:=blkOf_mem (by omega) (by omega)
 have hpl:(blkOf g e.block).params.length≤4096:=by
  have:=(hv.fn.blk _ hbk).few
  omega
 have hp:∀x∈(blkOf g e.block).params,0≤x∧x<sp:=fun x hx=>have q:=List.mem_flatMap.2 ⟨_,hbk,List.mem_append_left _ hx⟩;⟨(hv.below q).1,hsp x q⟩
 have ha:∀x∈e.args,0≤x∧x<sp:=fun x hx=>by
  obtain⟨k,hk⟩:=List.mem_iff_getElem?.1 hb
  have q:=fine_val (hv.uses.args k b hk e he x hx)
  exact⟨(hv.below q).1,hsp x q⟩
 have hz:∀x∈edgeMv g e,x.1∈(blkOf g e.block).params∧x.2∈e.args:=fun x hx=>List.of_mem_zip (a:=x.1) (b:=x.2) hx
 exact {
  blk:=by omega
  len:=e2
  few:=hpl
  pos:=fun x hx=>⟨(hp _ (hz x hx).1).1,(ha _ (hz x hx).2).1⟩
  dis:=fun i j x y hij h1 h2 q=>by
   have hn:(blkOf g e.block).params.Nodup:=by
    have h2:=hv.nodup
    unfold valsF List.flatMap at h2
    have h3:=(List.pairwise_flatten.1 h2).1 _ (List.mem_map.2 ⟨_,hbk,rfl⟩)
    exact(List.nodup_append.1 h3).1
   have g1:=(List.getElem?_zip_eq_some.1 h1).1
   have g2:=(List.getElem?_zip_eq_some.1 h2).1
   rw [q,←g2] at g1
   have:=(List.getElem?_inj (lt_of_getElem? (g1.trans g2)) hn).1 g1
   omega
  sp:=fun x hx=>by
   have:=hp _ (hz x hx).1
   have:=ha _ (hz x hx).2
   omega }
theorem copies_len{g:Func}{e:Edge}{sp:Int}(h:MvW g e sp):(copiesM g e sp).length≤8192:=by
 have h1:=seqM_len (edgeMv g e) sp
 have h2:=h.few
 have h3:(edgeMv g e).length≤(blkOf g e.block).params.length:=by
  unfold edgeMv
  rw [List.length_zip]
  omega
 unfold copiesM
 rw [List.length_map]
 omega
theorem blsC2_scalar:∀(ss ids:List Nat) (L:List Block),∀d∈blsC2 ss ids L,d.scalar
 | [],_,_,d,h=>by simp [blsC2] at h
 | _::_,[],_,d,h=>by simp [blsC2] at h
 | _::_,_::_,[],d,h=>by simp [blsC2] at h
 | s::ss,i::ids,b::L,d,h=>by
  rw [blsC2_cons,List.mem_append] at h
  rcases h with q | q
  ·simp only [blC2,List.mem_cons,List.not_mem_nil,or_false] at q
   rcases q with rfl | rfl | rfl | rfl | rfl | rfl | rfl<;>first | trivial | skip
   unfold outX
   split<;>trivial
  exact blsC2_scalar ss ids L d q
theorem LvO.row0{name:Int}{ids ss:List Nat}{X bid:Nat}{L:List Block}{O:List AObj}(h:LvO name ids ss X bid L O){k:Nat}{b c:Block}(hb:L[k]?=some b)(hc:c.term.to=b.term.to)(hi:c.ins=b.ins):LvO name ids ss X bid (L.set k c) (O.set bid (.cells (blsC2 ss ids (L.set k c)))):=by
 have hkl:=lt_of_getElem? hb
 obtain⟨s,hs⟩:∃s,ss[k]?=some s:=⟨ss[k]'(by rw [h.ls];exact hkl),List.getElem?_eq_getElem _⟩
 have:=h.row hs hb hc (.inl rfl)
 rw [setN_same hs,setM_same (l:=O) (j:=s) (by rw [hi];exact(h.sp k s b hs hb).2)] at this
 exact this
theorem lv_nil(O:List AObj):Sub O (.v (.slice none 0 0)) (eIs []):=fun g u _ k=>by
 have:=k.v_inv.1
 subst this
 exact .nil (fun id e=>by cases e) (by simp)
theorem splice_skip1{l:List AVal}{i:Nat}{a:AVal}{xs:List AVal}(h:l[i]?=some a):splice l i (a::xs)=splice l (i+1) xs:=by
 unfold splice
 rw [List.take_add_one,h]
 simp only [Option.toList,List.append_assoc,List.cons_append,List.nil_append,List.length_cons,List.singleton_append]
 rw [show i+(xs.length+1)=i+1+xs.length by omega]
theorem edC_bare{es:List Edge}{n:Nat}{y:Edge}(h:es[n]?=some y):splice (edC es) (n * 2+1) [eIs []]=edC (es.set n ⟨y.block,[]⟩):=by
 have h2:=edC_two h
 have h3:(edC es)[n * 2]?=some (aI y.block):=by
  have:(((edC es).drop (n * 2)).take 2)[0]?=some (aI y.block):=by rw [h2];rfl
  rw [List.getElem?_take,if_pos (by omega),List.getElem?_drop] at this
  exact this
 rw [←splice_skip1 h3]
 exact edC_put (lt_of_getElem? h) ⟨y.block,[]⟩
theorem lvBare_len:∀(k:Nat) (R:List Block),(lvBare k R).length=R.length
 | _,[]=>rfl
 | k,b::r=>by simp [lvBare,lvBare_len (k+1) r]
theorem lvBare_at:∀{k j:Nat} {R:List Block} {c:Block},R[j]?=some c→(lvBare k R)[j]?=some (if k+j=0 then c else noPar c)
 | _,_,[],_,h=>by simp at h
 | k,0,b::r,c,h=>by
  simp only [List.getElem?_cons_zero,Option.some.injEq] at h
  subst h
  simp [lvBare]
 | k,j+1,b::r,c,h=>by
  rw [lvBare,List.getElem?_cons_succ,lvBare_at (by simpa using h),show k+1+j=k+(j+1) by omega]
def lvBk(j:Nat)(R:List Block):List Block:=(lvBare 0 R).take j++R.drop j
theorem lvBk_zero(R:List Block):lvBk 0 R=R:=by simp [lvBk]
theorem lvBk_all{j:Nat}{R:List Block}(h:R.length≤j):lvBk j R=lvBare 0 R:=by
 unfold lvBk
 rw [List.take_of_length_le (by rw [lvBare_len];exact h),List.drop_eq_nil_of_le h,List.append_nil]
theorem lvBk_len(j:Nat)(R:List Block):(lvBk j R).length=R.length:=by
 unfold lvBk
 rw [List.length_append,List.length_take,List.length_drop,lvBare_len]
 omega
theorem lvBk_at{j:Nat}{R:List Block}{c:Block}(h:R[j]?=some c):(lvBk j R)[j]?=some c:=by
 have hl:=lt_of_getElem? h
 have:((lvBare 0 R).take j).length=j:=by rw [List.length_take,lvBare_len];omega
 unfold lvBk
 rw [List.getElem?_append_right (by omega),this,Nat.sub_self,List.getElem?_drop,Nat.add_zero,h]
theorem lvBk_step{j:Nat}{R:List Block}{c:Block}(h:R[j]?=some c):lvBk (j+1) R=(lvBk j R).set j (if j=0 then c else noPar c):=by
 have hl:=lt_of_getElem? h
 have hl2:((lvBare 0 R).take j).length=j:=by rw [List.length_take,lvBare_len];omega
 have hb:=lvBare_at (k:=0) h
 rw [Nat.zero_add] at hb
 unfold lvBk
 rw [List.set_append_right _ _ (by omega),hl2,Nat.sub_self,drop_at h,List.set_cons_zero,List.take_add_one,hb]
 simp
theorem blsC_scal:∀(ids:List Nat) (L:List Block),∀d∈blsC ids L,d.scalar
 | [],_,d,h=>by simp [blsC] at h
 | _::_,[],d,h=>by simp [blsC] at h
 | i::ids,b::L,d,h=>by
  have e:blsC (i::ids) (b::L)=blC i b++blsC ids L:=rfl
  rw [e,List.mem_append] at h
  rcases h with q | q
  ·simp only [blC,List.mem_cons,List.not_mem_nil,or_false] at q
   rcases q with rfl | rfl | rfl | rfl | rfl | rfl | rfl<;>first | trivial | skip
   unfold outE
   split<;>trivial
  exact blsC_scal ids L d q
theorem split_vals(f:Func):valsF (splitM f)=valsF f:=by
 have hwl:=(split_i f).w.len
 unfold valsF splitM
 rw [List.flatMap_append,zip_vals _ _ hwl]
 have:(spM f).news.flatMap blkVals=[]:=by
  rw [List.flatMap_eq_nil_iff]
  intro c hcm
  obtain⟨i,hi⟩:=List.mem_iff_getElem?.1 hcm
  obtain⟨_,_,x,_,_,q⟩:=(split_i f).new i c hi
  rw [q]
  rfl
 rw [this,List.append_nil]
end Go.Proofs.Ytkhnjeblbiocaaa
