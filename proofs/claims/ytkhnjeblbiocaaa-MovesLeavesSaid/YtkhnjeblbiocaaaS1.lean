/-
  Texts bound together by a program of mine: YtkhnjeblbiocaaaPum, YtkhnjeblbiocaaaPf, YtkhnjeblbiocaaaT48, YtkhnjeblbiocaaaPc, YtkhnjeblbiocaaaT41, YtkhnjeblbiocaaaPj, YtkhnjeblbiocaaaT43, YtkhnjeblbiocaaaPg, YtkhnjeblbiocaaaPk, YtkhnjeblbiocaaaPun, YtkhnjeblbiocaaaPuo, YtkhnjeblbiocaaaT44, YtkhnjeblbiocaaaT45, YtkhnjeblbiocaaaT46, YtkhnjeblbiocaaaT54, YtkhnjeblbiocaaaPl, YtkhnjeblbiocaaaPdb, YtkhnjeblbiocaaaPdc, YtkhnjeblbiocaaaPdd, YtkhnjeblbiocaaaPua, YtkhnjeblbiocaaaPub, YtkhnjeblbiocaaaPuq, YtkhnjeblbiocaaaPur, YtkhnjeblbiocaaaPux, YtkhnjeblbiocaaaPuy, YtkhnjeblbiocaaaPxa, YtkhnjeblbiocaaaPxb, YtkhnjeblbiocaaaPxg, YtkhnjeblbiocaaaPxh, YtkhnjeblbiocaaaT150, YtkhnjeblbiocaaaT151, YtkhnjeblbiocaaaT152, YtakdmelemfnmdaaAvv, YtkhnjeblbiocaaaT146, YtkhnjeblbiocaaaT147, YtkhnjeblbiocaaaT148, YtkhnjeblbiocaaaT153, YtkhnjeblbiocaaaT154, YtkhnjeblbiocaaaPxi, YtkhnjeblbiocaaaPy, YtkhnjeblbiocaaaPz, YtkhnjeblbiocaaaPwa.
-/
import Derived.Test.YtkhnjeblbiocaaaJ4
import Derived.Sort.Grow
set_option linter.all false
set_option maxRecDepth 100000
set_option maxHeartbeats 4000000

namespace Go.Av
def Uf(P:Program)(o:Oper)(mK:St)(R:ae->List ak->Prop):Prop :=
 ∀(base:G) (σ:St) (a:Act) (g:G),Rel base σ a g->σ.n=mK.n->(∀x∈o.op.operands,∀y,mK.ev x=some y->σ.ev x=some y)->σ.objs=mK.objs ->
  ∀(K:Act->World->Prop) (Q:Exit->Act->World->Prop),(∀r u g',R r g'.objs->Rel base ⟨σ.n,nc o.dst r σ.ba,g'.objs⟩ (a.put o.dst u) g'->K (a.put o.dst u) g'.w)->o.wp P a g.w K Q
theorem NG{P:Program}{o:Oper}{σ:St}{x:Operand}{args:Array Operand}{oq:Array TypeId}{f:FuncId}{fs cs dC:List ae}{R:ae->List ak->Prop}
  (ho:o.op=.call ⟨.value x,args,oq⟩) (hd:∀d,o.dst=some d->d<σ.n) (hx:σ.ev x=some (.fn (.func f) fs cs)) (ha:σ.uj args.toList=some dC)
  (dZ:bc P f σ.objs (fs++dC++cs) R):Uf P o σ R:=by
 intro base τ a g bM hn mO hm K Q hK;have vn:σ.ev x=some (.fn (.func f) fs cs):=hx;have h1:=bM.eval (mO x (by simp[ho,Op.operands,Call.operands]) _ hx);obtain⟨us,vs,e1,l1,l2,r1,r2⟩:=h1.zS;have h2:=nF (σ:=σ) (a:=a) (g:=g) (xs:=args.toList) (fun z hz y hy=>bM.eval (mO z (by
  rw[ho];simp only[Op.operands,Call.operands,Array.mem_append];exact .inr (Array.mem_toList_iff.1 hz)) y hy)) ha
 have HE:gZ g dC (args.map a.eval):=by
  have e:args.map a.eval=(args.toList.map a.eval).toArray:=Array.ext' (by rw[Array.toList_map]);rw[e];exact h2
 have cM:=(gZ.kS (gZ.kS ⟨l1,r1⟩ HE) ⟨l2,r2⟩)
 have bz:=sc (P:=P) (w:=g.w) ho e1 dZ.1;unfold Oper.wp;rw[bz,Oper.upon_enter];refine(dZ.2 g _ bM.good (bM.objs.trans hm) cM).mono ?_;rintro e w' ⟨g',v,r',q1,q2,q3,q4,q5,q6⟩;subst q1;subst q2;refine hK r' v g' q6 ?_;cases jo:o.dst with
 | none=>exact bM.step q3 q4
 | some d=>exact bM.put q3 q4 (d:=d) (by rw[hn];exact hd d jo) q5
theorem Lh{P:Program}{ops:Array Oper}{base:G}{ρ:St}{Q:Exit->Act->World->Prop}{rest:List Nat}(hQ:∀a g,Rel base ρ a g->wpOps P ops Q rest a g.w) :
  ∀(l:List (Nat×Kind)) (σ:St) (a:Act) (g:G),eR P ops l σ ρ->Rel base σ a g->wpOps P ops Q (l.map (·.1)++rest) a g.w
 | [],σ,a,g,mu,bM=>hQ a g (gz.rel mu bM)
 | (i,k)::r,σ,a,g,mu,bM=>by
  obtain⟨fE,⟨o,ho,bV⟩,cP⟩:=mu;simp only[List.map_cons,List.cons_append,wpOps,ho];rcases bV with⟨hw,r',m,ux,hk,An⟩|⟨hw,_,An⟩
  ·rw[if_pos (fK bM hw)];refine .inl (ux.2 base σ a g bM rfl (fun x _ y hy=>hy) (Mode.np (.inr rfl)) _ _ fun u g' mQ=>?_);subst An;exact Lh hQ r _ _ _ cP mQ
  rw[if_neg (by rw[fK bM hw];simp)];subst An;refine Lh hQ r _ _ g cP ?_;cases jo:o.dst with
  | none=>exact bM
  | some d=>exact bM.skip d
theorem RE(ks:List Kind)(s:Nat):(((ks.zipIdx 0).map fun p=>(p.2,p.1)).map fun p=>(s+p.1,p.2)).map (·.1)=(List.range ks.length).map (s + ·):=by
 apply List.ext_getElem?;intro i;simp only[List.getElem?_map,List.getElem?_zipIdx];by_cases h:i<ks.length
 ·simp[h]
 rw[List.getElem?_eq_none (by omega),List.getElem?_eq_none (by simp;omega)];rfl
theorem Ss{n k:Nat}(h:k<n):List.range n=(List.range k).map (0 + ·)++(k::(List.range (n-(k+1))).map (k+1 + ·)):=by
 apply List.ext_getElem?;intro i;by_cases h1:i<k
 ·rw[List.getElem?_append_left (by simpa using h1)];simp[h1,show i<n by omega]
 rw[List.getElem?_append_right (by simp;omega)];simp only[List.length_map,List.length_range];by_cases h2:i=k
 ·subst h2;simp[h]
 rw[show i-k=(i-k-1)+1 by omega,List.getElem?_cons_succ,List.getElem?_map];by_cases h3:i<n
 ·rw[List.getElem?_range h3,List.getElem?_range (by omega),Option.map_some];congr 1;omega
 rw[List.getElem?_eq_none (by simp;omega),List.getElem?_eq_none (by simp;omega)];rfl
theorem NF{P:Program}{kb:Nat}{aW:eo}(md:Md)(hT:cb P aW){id:Nat}{l l1 l2:List Oper}{o:Oper}{Q:dR->St->Prop}{σ:St}(k:Nat)(h1:l.take k=l1)(h2:l[k]?=some o)(h3:l.drop (k+1)=l2)(hg:∀o∈l,o.guard=none)
  (h:eV P aW md l1 0 [] σ [] fun τ _=>∃R,Uf P o τ R∧∀r O',R r O'->eV P aW md l2 0 [] ⟨τ.n,nc o.dst r τ.ba,O'⟩ [] fun ρ _=>At ρ (Q .norm)):cc P kb (.region id l.toArray false) Q σ:=by
 have aZ:=I h2;obtain⟨τ,sa,c1,n1,R,hc,h⟩:=ee (all:=l1.toArray) hT l1 0 [] σ [] (fun j=>by simp) (fun j t hj=>by simp[ib]at hj) h;intro base a g hb hr;have Bw:o.guard=none:=hg o (List.mem_of_getElem? h2);have Il:l1.length=k:=by rw[<-h1,List.length_take];omega
 have I':l2.length=l.length-(k+1):=by rw[<-h3,List.length_drop]
 have d1:=iP (all:=l.toArray) (k:=0) (fun i o' hi=>by
  have fL:l1[i]?=some o':=by simpa using hi
  have:=I fL;rw[<-h1,List.getElem?_take]at fL;split at fL
  ·simpa using fL
  cases fL) (by simpa using hg) c1
 refine wp_region ?_;rw[show l.toArray.size=l.length from List.size_toArray,Ss aZ];have e1:=RE sa 0;rw[n1,Il]at e1;rw[<-e1];refine Lh (ρ:=τ) (fun a g hr=>?_) _ _ _ _ d1 hr;have ho:l.toArray[k]?=some o:=by simpa using h2
 simp only[wpOps,ho];have hw:dg l.toArray o τ=some true:=by simp[dg,Bw]
 rw[if_pos (fK hr hw)];refine .inl (hc base τ a g hr rfl (fun x _ y hy=>hy) rfl _ _ fun r u g' hR mQ=>?_);obtain⟨ρ,D5,c2,n2,hQ⟩:=ee (all:=l2.toArray) hT l2 0 [] _ [] (fun j=>by simp) (fun j t hj=>by simp[ib]at hj) (h r g'.objs hR);have d2:=iP (all:=l.toArray) (k:=k+1) (fun i o' hi=>by
  have fL:l2[i]?=some o':=by simpa using hi
  rw[<-h3,List.getElem?_drop]at fL;simpa using fL) (by simpa using hg) c2
 have e2:=RE D5 (k+1);rw[n2,I']at e2;rw[<-e2];have:=Lh (rest:=[]) (Q:=Ec base Q) (P:=P) (ops:=l.toArray) (base:=base) (ρ:=ρ) (fun a g hr=>⟨g,ρ,rfl,hr,hQ⟩) _ _ _ _ d2 mQ;rw[List.append_nil]at this;exact this
def Li(aW:eo)(rv:List ResultVar)(R:ae->List ak->Prop):dR->St->Prop
 | .exit _,_=>False
 | _,σ=>on (cX aW σ rv) fun rs=>R (eC rs) σ.objs
theorem KZ{P:Program}{aW:eo}(hT:cb P aW){f:FuncId}{fn:Func}{c:Code}{O:List ak}{args:List ae}{R:ae->List ak->Prop}(hf:P.funcs[f]?=some fn)(hb:fn.body=some c)
  (qu : (fn.name == "runtime.NumGoroutine") = false) (hn : args.length <= fn.ntmps) (h : cc P O.length c (Li aW fn.results.toList R) ⟨fn.ntmps, ax 0 args, O⟩) : bc P f O args R := by
 refine⟨⟨fn,hf,qu,by simp[hb]⟩,fun g vs hg ho ha=>?_⟩;refine calls_of_wp hf hb ?_;have bM:Rel g ⟨fn.ntmps,ax 0 args,O⟩ { tmps:=vs++Array.replicate (fn.ntmps-vs.size) undef,defers:=[] } g:={
  le:=Le.refl g
  good:=hg
  objs:=ho
  size:=by
   have:=ha.1;simp only[Array.size_append,Array.size_replicate];omega
  defers:=rfl
  slot:=fun s x hx=>by
   obtain⟨_,h1⟩:=lf args 0 s x hx;simp only[Nat.sub_zero]at h1;have aZ:=I h1;have jH:s<vs.size:=by rw[ha.1];exact aZ
   refine⟨vs[s],?_,ha.2 s x _ h1 (by simp[jH])⟩;simp only;rw[Array.getElem?_append,if_pos jH];simp[jH] }
 refine wp_mono (h g _ g (by rw[ho];exact Nat.le_refl _) bM) fun e a w hp=>?_;have key:∀g' fE,g'.w=w->Rel g fE a g'->(on (cX aW fE fn.results.toList) fun rs=>R (Av.eC rs) fE.objs) ->
   a.defers=[]∧∃v,(results fn a.tmps).run P w=.ok v w∧∃g' v' r,Ending.returned v=.returned v'∧g'.w=w∧Le g g'∧Good g'∧RV g' r v'∧R r g'.objs:=by
  intro g' fE hw hr hq;subst hw;obtain⟨rs,pG,h4⟩:=aG hq;obtain⟨us,q1,q2⟩:=ln hT hr pG;have hO:g'.objs=fE.objs:=hr.objs;refine⟨hr.defers,(if h:us.toArray.size=1 then us.toArray[0]else .tuple us.toArray),?_,g',_,_,rfl,rfl,hr.le,hr.good,RV.eC q2,by rw[hO];exact h4⟩;have hm:fn.results.mapM (jM a)=Functor.map List.toArray (fn.results.toList.mapM (jM a)):=Array.mapM_eq_mapM_toList;have eg:results fn a.tmps=(do
   let vs <-fn.results.mapM (jM a)
   pure (if h:vs.size=1 then vs[0]else .tuple vs)):=rfl
  rw[eg,hm];simp only[Sem.run_bind,Sem.run_map,q1,Result.andThen_ok,Sem.run_pure]
 cases e with
 | normal =>
  obtain⟨g',fE,h1,h2,h3⟩:=hp;exact key g' fE h1 h2 h3
 | ret =>
  obtain⟨g',fE,h1,h2,h3⟩:=hp;exact key g' fE h1 h2 h3
 | exit id =>
  obtain⟨g',fE,h1,h2,h3⟩:=hp;exact h3.elim
 | goto l=>exact hp.elim
 | panic c=>exact hp.elim
 | outgrown=>exact hp.elim
theorem SK{P:Program}{kb:Nat}{c:Code}{Q:dR->St->Prop}{n:Nat}{ba:List (Nat×ae)}{O:List ak}(s:Nat){sz:Nat}{xs:List ae}{o:kP}(hs:look ba s=some (.aE sz xs o))
  (h1:xs=[]->cc P kb c Q ⟨n,bu s (.v (.slice none 0 0)) ba,O⟩) (h2:cc P kb c Q ⟨n,bu s (.aE sz xs .nn) ba,O⟩):cc P kb c Q ⟨n,ba,O⟩:=by
 intro base a g hb hr;obtain⟨u,e1,e2⟩:=hr.slot s _ hs;have key:∀y,RV g y u->Rel base ⟨n,bu s y ba,O⟩ a g:=fun y hy =>
  {le:=hr.le,good:=hr.good,objs:=hr.objs,size:=hr.size,defers:=hr.defers,slot:=fun k x hx=>by
    simp only[St.get,fq]at hx;split at hx
    ·rename_i e;subst e;simp only[Option.some.injEq]at hx;subst hx;exact⟨u,e1,hy⟩
    exact hr.slot k x hx }
 cases e2 with
 | nil ho hn=>exact h1 rfl base a g hb (key _ (.v trivial))
 | aE cU dz cQ cF hs f hm hr ho=>exact h2 base a g hb (key _ (.aE cU dz cQ cF hs f hm hr trivial))
theorem K8{P:Program}{kb:Nat}{c:Code}{Q:dR->St->Prop}{n:Nat}{ba:List (Nat×ae)}{O:List ak}(k:Nat){cs:List ae}(ds:List ae)(jJ:O[k]?=some (.cells cs))(hl:ds.length=cs.length)(dz:∀d∈ds,d.scalar)
  (hs:∀(j:Nat) (c d:ae),cs[j]?=some c->ds[j]?=some d->Sub O c d) (h:cc P kb c Q ⟨n,ba,O.set k (.cells ds)⟩):cc P kb c Q ⟨n,ba,O⟩ :=
 cc.weaken h fun base a g hb hr=>by
  have hO:g.objs=O:=hr.objs;have V2:g.objs[k]?=some (.cells cs):=by rw[hO];exact jJ
  obtain⟨l,arr,t,e1,e2,e3,e4,e5,e6⟩:=hr.good.cells k cs V2;have ht:ku g k (.cells cs) (some l) (.cells ds) g.w:={
   obj:=V2
   os:=rfl
   tape:=rfl
   output:=rfl
   size:=Nat.le_refl _
   block:=fun _ _ _=>rfl
   cell:=fun b off x hx _=>hx
   place:=fun l1 h1 _=>by
    simp only[Option.some.injEq]at h1;subst h1;exact .inr ⟨l,e1,trivial,rfl,Nat.le_refl _⟩
   spare:=fun m h=>by cases h
   plain:=fun _=>⟨by simp[ak.aF],e1⟩
   gone:=by simp }
  have hle:=Le.br hr.good ht;have c7:=Good.br hr.good ht ⟨l,arr,t,rfl,e2,e3,by omega,fun j d u hd hu=>by
   have aZ:=I hd;have hc:cs[j]?=some cs[j]:=List.getElem?_eq_getElem (by omega);exact(hs j _ d hc hd g u hO (e5 j _ u hc hu)).mono hle,dz,e6.2⟩ (fun l1 h1 _=>by
    simp only[Option.some.injEq]at h1;subst h1;exact a5 e3)
  refine⟨g.br k (some l) (.cells ds) g.w,rfl,{ le:=hr.le.trans hle,good:=c7,objs:=by simp[G.br,hO],size:=hr.size,defers:=hr.defers,slot:=fun s y hy=>?_ }⟩;have nU:(St.mk n ba O).get s=some y:=hy;obtain⟨u,h3,h4⟩:=hr.slot s y nU;exact⟨u,h3,h4.mono hle⟩
theorem Sub.RK{O:List ak}(sz:Nat):Sub O (.v (.slice none 0 0)) (.aE sz [] .ex):=fun g u _ h=>by
 obtain⟨e,_⟩:=h.cq;rw[e];exact .nil (fun id q=>by cases q) (by simp)
theorem QO{P:Program}{kb:Nat}{c:Code}{Q:dR->St->Prop}{n:Nat}{ba:List (Nat×ae)}{O:List ak}(k m:Nat)(hk:k<O.length)
  (h:cc P kb c Q ⟨n,ba,(O++List.replicate m (ak.spare 0)).set k (.cells ((List.range m).map fun j=>.aE 1 [] (.tok (O.length+j))))⟩):cc P kb c Q ⟨n,ba,O.set k (.cells (List.replicate m (.aE 1 [] .ex)))⟩:=by
 obtain⟨conv,r5⟩:∃conv:Nat->List ae,conv=fun q=>((List.range q).map fun j=>ae.aE 1 [] (.tok (O.length+j)))++List.replicate (m-q) (.aE 1 [] .ex):=⟨_,rfl⟩
 have key:∀q,q<=m->cc P kb c Q ⟨n,ba,(O++List.replicate q (ak.spare 0)).set k (.cells (conv q))⟩->cc P kb c Q ⟨n,ba,O.set k (.cells (List.replicate m (.aE 1 [] .ex)))⟩:=fun q=>by
  induction q with
  | zero =>
   intro _ h;simpa[r5]using h
  | succ q ih =>
   intro hq h;refine ih (by omega) (gS k q (sz:=1) (cs:=conv q) (xs:=[]) ?_ ?_ ?_)
   ·rw[List.getElem?_set_self (by simp;omega)]
   ·rw[r5];simp only;rw[List.getElem?_append_right (by simp)];simp only[List.length_map,List.length_range,Nat.sub_self];rw[show m-q=(m-(q+1))+1 by omega,List.replicate_succ];rfl
   have e1:(O++List.replicate q (ak.spare 0)).set k (.cells (conv q))++[ak.spare ([]:List ae).length]=(O++List.replicate (q+1) (ak.spare 0)).set k (.cells (conv q)):=by
    rw[List.set_append_left _ _ hk,List.set_append_left _ _ hk,List.append_assoc];congr 1;rw[List.replicate_succ'];rfl
   have e2:(conv q).set q (.aE 1 [] (.tok ((O++List.replicate q (ak.spare 0)).set k (.cells (conv q))).length))=conv (q+1):=by
    rw[r5];simp only[List.length_set,List.length_append,List.length_replicate];rw[List.set_append_right _ _ (by simp)];simp only[List.length_map,List.length_range,Nat.sub_self];rw[show m-q=(m-(q+1))+1 by omega,List.replicate_succ,List.set_cons_zero,List.range_succ,List.map_append,List.append_assoc];rfl
   rw[e1,e2,List.set_set];exact h
 refine key m (Nat.le_refl _) ?_;simpa[r5]using h
end Go.Av
namespace Go.Proofs.Ytkhnjeblbiocaaa
open Go.Av
def LS(b:Nat)(ls:List (List Int)):List ae:=ls.mapIdx fun j l=>.aE 1 (l.map aI) (.tok (b+j))
theorem Th{b:Nat}{ls:List (List Int)}{j:Nat}{l:List Int}(h:ls[j]?=some l):(LS b ls)[j]?=some (.aE 1 (l.map aI) (.tok (b+j))):=by
 simp[LS,h]
theorem Ti{b:Nat}{ls:List (List Int)}{j:Nat}(l:List Int):(LS b ls).set j (.aE 1 (l.map aI) (.tok (b+j)))=LS b (ls.set j l):=by
 apply List.ext_getElem?;intro i;simp only[LS,List.getElem?_set,List.getElem?_mapIdx,List.length_mapIdx];by_cases e:j=i
 ·subst e;by_cases hl:j<ls.length
  ·simp[hl]
  simp[hl]
 simp[e]
theorem Oo(b:Nat)(ls:List (List Int)):(LS b ls).length=ls.length:=by simp[LS]
theorem Qw(b n:Nat):LS b (List.replicate n [])=(List.range n).map fun j=>.aE 1 [] (.tok (b+j)):=by
 apply List.ext_getElem?;intro i;simp only[LS,List.getElem?_mapIdx,List.getElem?_map];by_cases h:i<n
 ·simp[h]
 simp[h]
theorem Ra(b:Nat)(ls:List (List Int)):(LS b ls).map ae.bk=ao (ls.map a6):=by
 have h1:ao (ls.map a6)=ls.map a6:=by
  induction ls with
  | nil=>rfl
  | cons l r ih =>
   simp only[List.map_cons,ao,List.flatMap_cons]at ih ⊢;rw[ih];rfl
 rw[h1];apply List.ext_getElem?;intro i;simp only[LS,List.getElem?_map,List.getElem?_mapIdx];cases ls[i]? with
 | none=>rfl
 | some l =>
  simp only[Option.map_some,Option.some.injEq];rw[cg]
theorem Pl{b n:Nat}{ls:List (List Int)}(h:b+ls.length<=n):aw n (LS b ls):=by
 rw[aY];intro x hx;obtain⟨j,hj⟩:=List.mem_iff_getElem?.1 hx;simp only[LS,List.getElem?_mapIdx]at hj;cases hl:ls[j]? with
 | none=>rw[hl]at hj;cases hj
 | some l =>
  rw[hl]at hj;simp only[Option.map_some,Option.some.injEq]at hj;subst hj;have:=I hl;exact⟨az _ _,show _<_ by omega⟩
theorem Ri{cs:List ae}{j:Nat}(x:ae)(h:j<cs.length):aS cs j [x]=cs.set j x:=by
 apply List.ext_getElem?;intro i;rw[iG (by simp;omega),List.getElem?_set];simp only[List.length_cons,List.length_nil,Nat.zero_add];by_cases e:j=i
 ·subst e;simp[h]
 rw[if_neg (by omega),if_neg e]
structure PO(ls:List (List Int))(O:List ak):Prop where
 len:O.length=ls.length+2
 arr:O[1]?=some (.cells (LS 2 ls))
 sp:∀j l,ls[j]?=some l->O[2+j]?=some (.spare l.length)
 up:∀o∈O,o.upto O.length
theorem PO.push{ls:List (List Int)}{O:List ak}(h:PO ls O){j:Nat}{l:List Int}(hj:ls[j]?=some l)(k:Int):PO (ls.set j (l++[k])) ((O.set (2+j) (.spare (l.length+1))).set 1 (.cells (LS 2 (ls.set j (l++[k]))))):=by
 have aZ:=I hj;have hl:=h.len;refine⟨by simp[hl],?_,fun i m hi=>?_,?_⟩
 ·rw[List.getElem?_set_self (by simp;omega)]
 ·rw[List.getElem?_set_ne (by omega)];by_cases e:j=i
  ·subst e;rw[List.getElem?_set_self aZ]at hi;simp only[Option.some.injEq]at hi;subst hi;rw[List.getElem?_set_self (by omega)];simp
  rw[List.getElem?_set_ne e]at hi;rw[List.getElem?_set_ne (by omega)];exact h.sp i m hi
 have h1:∀o∈O.set (2+j) (.spare (l.length+1)),o.upto O.length:=bF h.up trivial;have h2:=bF (k:=1) (x:=.cells (LS 2 (ls.set j (l++[k])))) h1 (by
  show aw _ _;exact Pl (by simp[hl];omega))
 simpa using h2
def MG(k:Nat)(ls:List (List Int))(e:Edge):List (List Int):=ls.set e.block.toNat ((ls[e.block.toNat]?.getD [])++[(k:Int)])
def MF(k:Nat)(ls:List (List Int))(es:List Edge):List (List Int):=es.foldl (MG k) ls
def Nk:Nat->List (List Int)->List Block->List (List Int)
 | _,ls,[]=>ls
 | k,ls,b::r=>Nk (k+1) (MF k ls b.term.to) r
def Ls(f:Func):List (List Int):=Nk 0 (List.replicate f.blocks.length []) f.blocks
theorem Pn(k:Nat)(ls:List (List Int))(e:Edge):(MG k ls e).length=ls.length:=by simp[MG]
theorem Nw(k:Nat):∀(es:List Edge) (ls:List (List Int)),(MF k ls es).length=ls.length
 | [],_=>rfl
 | e::r,ls=>by
  show(MF k (MG k ls e) r).length=_;rw[Nw k r,Pn]
theorem Nx:∀(l:List Block) (k:Nat) (ls:List (List Int)),(Nk k ls l).length=ls.length
 | [],_,_=>rfl
 | b::r,k,ls=>by
  simp only[Nk];rw[Nx r,Nw]
theorem Va{f:Func}{t:Term}(iR:FZ f t):t.to.length<=257:=by
 rcases(show(t.kind=0∨t.kind=4)∨t.kind=1∨t.kind=2∨t.kind=3 by have:=iR.kind;omega)with q|q|q|q
 ·rw[iR.to q];simp
 ·rw[iR.rE q];omega
 ·rw[iR.cond q];omega
 rw[iR.switch q];have:=iR.cases;omega
theorem Sr(f:Func):(Ls f).length=f.blocks.length:=by simp[Ls,Nx]
theorem Sn(n:Nat):(List.replicate n [ae.aE 1 [] .ex]).flatten=List.replicate n (.aE 1 [] .ex):=by
 induction n with
 | zero=>rfl
 | succ n ih=>rw[List.replicate_succ,List.flatten_cons,ih,List.replicate_succ];rfl
def La(x v:Int):Int:=max x (v+1)
def KM(b:Block):List Int:=b.params++b.ins.map bE.to
def K4(f:Func):List Int:=f.blocks.flatMap KM
def LF(f:Func):Int:=(K4 f).foldl La 0
theorem NJ{O:List ak}(bC:∀o∈O,o.upto O.length){A:Nat}{x:Int}(hA:O[A]?=some (.cells [aI x]))(v:Int)(hv:0<=v∧v<=2 ^ 60) :
  bc Try.prog 38 O [aI v,.mp A 0] (fun r O'=>r=.df []∧O'=O.set A (.cells [aI (La x v)])):=by
 have yS:=I hA;have iz:(O.set A (.cells [aI (La x v)])).take O.length=O.set A (.cells [aI (La x v)]):=cG;have oI:∀o∈O.set A (.cells [aI (La x v)]),o.upto O.length:=bF bC ⟨trivial,trivial⟩;unfold La at *;refine zf true O.length Try.func38 Try.ntmps38 ?_;dsimp only[Tmp,TypeId,ax];refine j1 ?_;simp -dsimp only[simprocAttr,↓aa,zp,hA]
 repeat(refine⟨by omega,?_⟩)
 refine bd ?_;simp -dsimp only[simprocAttr,↓aa,zp,zr,Try.results38,iz,List.length_set];exact⟨oI,trivial⟩
def SJ(f:Func):Prop:=∀v∈K4 f,0<=v∧v<=4095
theorem On{x v:Int}(hx:x<=4096)(hv:v<=4095):La x v<=4096:=by
 unfold La;omega
theorem NI:∀(l:List Int) (x:Int),x<=4096->(∀v∈l,v<=4095)->l.foldl La x<=4096
 | [],_,hx,_=>hx
 | v::r,x,hx,h=>NI r _ (On hx (h v (by simp))) (fun w hw=>h w (by simp[hw]))
theorem NH:∀(l:List Int) (x:Int),x<=l.foldl La x∧∀v∈l,v<l.foldl La x
 | [],_=>⟨Int.le_refl _,by simp⟩
 | v::r,x=>by
  have ih:=NH r (La x v);have:x<=La x v∧v<La x v:=by unfold La;omega
  simp only[List.foldl_cons];refine⟨by omega,fun w hw=>?_⟩;rcases List.mem_cons.1 hw with q|q
  ·subst q;omega
  exact ih.2 w q
theorem QK{O:List ak}(bC:∀o∈O,o.upto O.length){A:Nat}(f:Func)(hf:SJ f)(iI:f.blocks.length<=2 ^ 47)(Vj:∀b∈f.blocks,b.params.length<=2 ^ 47∧b.ins.length<=2 ^ 47)(hA:O[A]?=some (.cells [aI 0])) :
  bc Try.prog 37 O [f.enc,.fn (.func 38) [] [.mp A 0]] (fun r O'=>r=.df []∧O'=O.set A (.cells [aI (LF f)])):=by
 have yS:=I hA;obtain⟨R,hR⟩:∃R,R=LF f:=⟨_,rfl⟩
 rw[<-hR];unfold LF K4 at hR;have X1:∀x,(O.set A x)[A]?=some x:=fun x=>List.getElem?_set_self yS;have fY:∀x:Int,∀o∈O.set A (.cells [aI x]),o.upto (O.set A (.cells [aI x])).length:=fun x=>by
  rw[List.length_set];exact bF bC ⟨trivial,trivial⟩
 have hlen:∀x,(O.set A x).length=O.length:=fun x=>List.length_set;have fo:O.set A (.cells [aI 0])=O:=kG hA;have iz:∀x:Int,(O.set A (.cells [aI x])).take O.length=O.set A (.cells [aI x]):=fun x=>cG;have dD:∀x y,(O.set A x).set A y=O.set A y:=fun x y=>List.set_set ..;refine zf true O.length Try.func37 Try.ntmps37 ?_;dsimp only[Tmp,TypeId,ax];refine aA (ah ?_);refine aO 2 ([aI f.name,ay f.blocks]) [(1,.fn (.func 38) [] [.mp A 0]),(2,.ip none [aI f.name,ay f.blocks])] rfl (by rfl) (by omega) (by simp[bu,a7,Go.Av.look]) ?_ ?_ ?_
 ·exact bC
 ·simp[ae.upto,aw,az,Block.ai,yS]
 refine aA (ah ?_);refine aj (aU (ι:={x:Nat×Int // x.1<=f.blocks.length∧R=((f.blocks.drop x.1).flatMap KM).foldl La x.2∧x.2<=4096}) (fun x=>⟨41,[(1,.fn (.func 38) [] [.mp A 0]),(11,ay f.blocks),(12,aI f.blocks.length),(13,aI x.1.1)],O.set A (.cells [aI x.1.2])⟩) (fun x=>f.blocks.length-x.1.1) ⟨(0,0),by simp,hR,by simp⟩ ?_ ?_)
 ·refine zq rfl ?_ ?_;simp -dsimp only[simprocAttr,↓aa,zp,zc];exact fo.symm
 rintro⟨⟨k,x⟩,hk,cO,hx⟩;simp only at hk cO hx;refine aA (ah ?_);apply gW rfl<;>intro h
 ·refine cA ?_;have aZ:k<f.blocks.length:=by simpa using h
  obtain⟨b,hb⟩:∃b,f.blocks[k]?=some b:=⟨f.blocks[k],by simp[aZ]⟩
  have jc:=List.mem_of_getElem? hb;have Ww:∀v∈KM b,0<=v∧v<=4095:=fun v hv=>hf v (List.mem_flatMap.2 ⟨b,jc,hv⟩);rw[bS hb]at cO;rw[List.flatMap_cons,List.foldl_append,KM,List.foldl_append]at cO;have Vj:=Vj b jc;have UT:=hlen (.cells [aI x]);refine aK (aj ?_);refine aX ?_;simp -dsimp only[simprocAttr,↓aa,zp,hb];refine ah ?_;refine aO 5 ([a6 b.params,bD b.ins,aI b.term.kind,aI b.term.arg,aI b.term.n,a6 b.term.cases,aJ b.term.to]) [(1,.fn (.func 38) [] [.mp A 0]),(5,.ip none [a6 b.params,bD b.ins,aI b.term.kind,aI b.term.arg,aI b.term.n,a6 b.term.cases,aJ b.term.to]),(11,ay f.blocks),(12,aI f.blocks.length),(13,aI k)] rfl (by rfl) (by omega) (by simp[bu,a7,Go.Av.look]) ?_ ?_ ?_
  ·exact fY x
  ·simp[ae.upto,aw,az,Block.ai,Edge.ai,bE.ai,yS]
  refine b8 (ah ?_);refine aj (aU (ι:={y:Nat×Int // y.1<=b.params.length∧R=((f.blocks.drop (k+1)).flatMap KM).foldl La ((b.ins.map bE.to).foldl La ((b.params.drop y.1).foldl La y.2))∧y.2<=4096}) (fun y=>⟨41,[(1,.fn (.func 38) [] [.mp A 0]),(5,.ip none [a6 b.params,bD b.ins,aI b.term.kind,aI b.term.arg,aI b.term.n,a6 b.term.cases,aJ b.term.to]),(11,ay f.blocks),(12,aI f.blocks.length),(13,aI k),(18,a6 b.params),(19,aI b.params.length),(20,aI y.1.1)],O.set A (.cells [aI y.1.2])⟩) (fun y=>b.params.length-y.1.1) ⟨(0,x),by simp,cO,hx⟩ ?_ ?_)
  ·refine zq rfl ?_ ?_;simp -dsimp only[simprocAttr,↓aa,zp,zc];rfl
  rintro⟨⟨j,y⟩,hj,fB,hy⟩;simp only at hj fB hy;refine aA (ah ?_);apply gW rfl<;>intro h
  ·refine cA ?_;have VZ:j<b.params.length:=by simpa using h
   obtain⟨v,hv⟩:∃v,b.params[j]?=some v:=⟨b.params[j],by simp[VZ]⟩
   rw[bS hv,List.foldl_cons]at fB;have Wc:=Ww v (by simp[KM,List.mem_of_getElem? hv]);have dh:=NJ (fY y) (X1 _) v ⟨Wc.1,by omega⟩;rw[dD]at dh;refine aK (aj ?_);refine aX ?_;simp -dsimp only[simprocAttr,↓aa,zp,hv];refine ah ?_;refine dc ?_;refine .inr (.inl ⟨_,_,dh,.inl (au (zj ?_))⟩);refine ah ?_;refine dc ?_
   repeat(refine⟨by omega,?_⟩)
   refine fV ?_;refine⟨⟨(j+1,La y v),VZ,fB,On hy Wc.2⟩,by simp;omega,?_⟩;refine zq rfl ?_ ?_;simp -dsimp only[simprocAttr,↓aa,zp,zc]
   ·exact Sub.int (by simp)
   rfl
  refine aR ?_;simp -dsimp only[bX,ne_eq,Nat.reduceEqDiff,reduceCtorEq];have oH:j=b.params.length:=by simp at h;omega
  subst oH;rw[List.drop_length,List.foldl_nil]at fB;refine aA (ah ?_);refine aj (aU (ι:={z:Nat×Int // z.1<=b.ins.length∧R=((f.blocks.drop (k+1)).flatMap KM).foldl La (((b.ins.drop z.1).map bE.to).foldl La z.2)∧z.2<=4096}) (fun z=>⟨41,[(1,.fn (.func 38) [] [.mp A 0]),(11,ay f.blocks),(12,aI f.blocks.length),(13,aI k),(29,bD b.ins),(30,aI b.ins.length),(31,aI z.1.1)],O.set A (.cells [aI z.1.2])⟩) (fun z=>b.ins.length-z.1.1) ⟨(0,y),by simp,fB,hy⟩ ?_ ?_)
  ·refine zq rfl ?_ ?_;simp -dsimp only[simprocAttr,↓aa,zp,zc];rfl
  rintro⟨⟨q,z⟩,hq,V5,hz⟩;simp only at hq V5 hz;refine aA (ah ?_);apply gW rfl<;>intro h
  ·refine cA ?_;have V0:q<b.ins.length:=by simpa using h
   obtain⟨i,hi⟩:∃i,b.ins[q]?=some i:=⟨b.ins[q],by simp[V0]⟩
   rw[bS hi,List.map_cons,List.foldl_cons]at V5;have Wc:=Ww i.to (by simp only[KM,List.mem_append,List.mem_map];exact .inr ⟨i,List.mem_of_getElem? hi,rfl⟩);have dh:=NJ (fY z) (X1 _) i.to ⟨Wc.1,by omega⟩;rw[dD]at dh;have UT:=hlen (.cells [aI z]);refine aK (aj ?_);refine aX ?_;simp -dsimp only[simprocAttr,↓aa,zp,hi];refine ah ?_;refine aO 9 ([aI i.to,aI i.op,aI i.n,a6 i.args]) [(1,.fn (.func 38) [] [.mp A 0]),(9,.ip none [aI i.to,aI i.op,aI i.n,a6 i.args]),(11,ay f.blocks),(12,aI f.blocks.length),(13,aI k),(29,bD b.ins),(30,aI b.ins.length),(31,aI q)] rfl (by rfl) (by omega) (by simp[bu,a7,Go.Av.look]) ?_ ?_ ?_
   ·exact fY z
   ·simp[ae.upto,aw,az,Block.ai,Edge.ai,bE.ai,yS]
   refine dc ?_;refine .inr (.inl ⟨_,_,dh,.inl (au (zj ?_))⟩);refine ah ?_;refine dc ?_
   repeat(refine⟨by omega,?_⟩)
   refine fV ?_;refine⟨⟨(q+1,La z i.to),V0,V5,On hz Wc.2⟩,by simp;omega,?_⟩;refine zq rfl ?_ ?_;simp -dsimp only[simprocAttr,↓aa,zp,zc]
   ·exact Sub.int (by simp)
   rfl
  refine aR ?_;simp -dsimp only[bX,ne_eq,Nat.reduceEqDiff,reduceCtorEq];have YW:q=b.ins.length:=by simp at h;omega
  subst YW;rw[List.drop_length,List.map_nil,List.foldl_nil]at V5;refine dc ?_
  repeat(refine⟨by omega,?_⟩)
  refine fV ?_;refine⟨⟨(k+1,z),aZ,V5,hz⟩,by simp;omega,?_⟩;refine zq rfl ?_ ?_;simp -dsimp only[simprocAttr,↓aa,zp,zc]
  ·exact Sub.int (by simp)
  rfl
 refine aR ?_;simp -dsimp only[bX,ne_eq,Nat.reduceEqDiff,reduceCtorEq];have gT:k=f.blocks.length:=by simp at h;omega
 subst gT;rw[List.drop_length,List.flatMap_nil,List.foldl_nil]at cO;subst cO
 skip
 simp -dsimp only[simprocAttr,↓aa,zp,zr,Try.results37,iz,List.length_set];have:=fY R;rw[hlen]at this;exact⟨this,trivial⟩
theorem QY(f:Func)(hf:SJ f)(iI:f.blocks.length<=2 ^ 47)(Vj:∀b∈f.blocks,b.params.length<=2 ^ 47∧b.ins.length<=2 ^ 47):bw Try.prog 17 [f.enc] (aI (LF f)):=by
 have TT:=QK (O:=[.gone,.cells [aI 0]]) (A:=1) (by simp[ak.upto,aw,ae.upto]) f hf iI Vj rfl;refine zf true 0 Try.func17 Try.ntmps17 ?_;dsimp only[Tmp,TypeId,ax];refine aA (ah ?_);refine aH 1 0 (.ip none [aI f.name,ay f.blocks]) rfl (by simp[ak.aF]) trivial rfl ?_ ?_;rotate_left;simp -dsimp only[simprocAttr,↓aa,zp]
 ·refine aA (ah ?_);refine aA ?_;refine .inr (.inl ⟨_,_,TT,.inl (au (zj ?_))⟩);refine ah ?_;refine aA (ah ?_);refine aq ?_;simp -dsimp only[simprocAttr,↓aa,zp,zr,Try.results17]
 exact cw.mp rfl rfl
def Ln(k:Int)(l:List Int):Defs:=l.map fun p=>(p,(k,0))
def Ly(k:Int):Int->List bE->Defs
 | _,[]=>[]
 | n,i::r=>(i.to,(k,n+1))::Ly k (n+1) r
def LK(k:Int)(b:Block):Defs:=Ln k b.params++Ly k 0 b.ins
def Lu:Int->List Block->Defs
 | _,[]=>[]
 | k,b::r=>LK k b++Lu (k+1) r
theorem L9{ds:Defs}{v:Int}{p:Int×Int}(h:(dt ds v p).1=0):(dt ds v p).2=ds++[(v,p)]:=by
 unfold dt at h ⊢;split at h
 ·simp at h
 rename_i h1;rw[if_neg h1];split at h
 ·simp at h
 rename_i h2;rw[if_neg h2]
theorem MZ(k:Int):∀(l:List Int) (ds:Defs),(dF k ds l).1=0->(dF k ds l).2=ds++Ln k l
 | [],ds,_=>by simp[dF,Ln]
 | p::r,ds,h=>by
  simp only[dF]at h ⊢;split at h
  ·rename_i cj;exact absurd h cj
  rename_i he;rw[if_neg he,MZ k r _ h,L9 (by simpa using he)];simp[Ln]
theorem RF(k:Int):∀(l:List bE) (n:Int) (ds:Defs),(la k n ds l).1=0->(la k n ds l).2=ds++Ly k n l
 | [],n,ds,_=>by simp[la,Ly]
 | i::r,n,ds,h=>by
  simp only[la]at h ⊢;split at h
  ·rename_i cj;exact absurd h cj
  rename_i he;split at h
  ·rename_i hf;exact absurd h hf
  rename_i hf;rw[if_neg he,if_neg hf,RF k r _ _ h,L9 (by simpa using he)];simp[Ly]
theorem ON{f:Func}{ds:Defs}{k:Int}(h:(fG f ds k).1=0):(fG f ds k).2=ds++LK k (aD f k):=by
 unfold fG at h ⊢;split at h
 ·rename_i cj;exact absurd h cj
 rename_i hp;split at h
 ·rename_i cj;exact absurd h cj
 rename_i hi;rw[if_neg hp,if_neg hi];simp only;rw[RF k _ _ _ (by simpa using hi),MZ k _ _ (by simpa using hp),LK,List.append_assoc]
theorem MK{f:Func}:∀(n k:Nat) (ds:Defs),k+n=f.blocks.length->(de f n k ds).1=0->(de f n k ds).2=ds++Lu k (f.blocks.drop k)
 | 0,k,ds,hk,_=>by
  rw[List.drop_of_length_le (by omega)];simp[de,Lu]
 | n+1,k,ds,hk,h=>by
  simp only[de]at h ⊢;split at h
  ·rename_i cj;exact absurd h cj
  rename_i he;rw[if_neg he];have hb:f.blocks[k]?=some f.blocks[k]:=List.getElem?_eq_getElem (by omega);have ih:=MK n (k+1) (fG f ds k).2 (by omega) h;have e:((k+1:Nat):Int)=(k:Int)+1:=by omega
  rw[e]at ih;rw[ih,ON (by simpa using he),bS hb,Lu,List.append_assoc];congr 3;simp[aD,hb]
def QL(f:Func):Defs:=Lu 0 f.blocks
theorem DC.ds{f:Func}(bB:f.fit)(h:bo f=0):(de f f.blocks.length 0 []).2=QL f∧jv f.blocks.length (QL f):=by
 have he:(de f f.blocks.length 0 []).1=0:=by
  unfold bo at h;split at h
  ·simp at h
  split at h
  ·simp at h
  split at h
  ·simp at h
  split at h
  ·rename_i h4;exact absurd h h4
  rename_i h4;simpa using h4
 have e:=MK f.blocks.length 0 [] (by omega) he;rw[List.drop_zero,List.nil_append]at e;have hw:=(kV f.blocks.length 0 [] (.nil _) (by omega) (by simp) he).1;have e':(de f f.blocks.length 0 []).2=QL f:=e;rw[e']at hw;exact⟨e',hw⟩
theorem Nt{ds:Defs}(hn:(ds.map (·.1)).Nodup){v:Int}{p:Int×Int}:fC ds v=some p↔(v,p)∈ds:=by
 induction ds with
 | nil=>simp[fC]
 | cons e r ih =>
  obtain⟨a,q⟩:=e;simp only[List.map_cons,List.nodup_cons,List.mem_map,not_exists,not_and]at hn;have ih:=ih hn.2;simp only[fC,List.mem_cons,Prod.mk.injEq];by_cases h:a=v
  ·subst h;rw[if_pos rfl];constructor
   ·intro h;simp only[Option.some.injEq]at h;exact .inl ⟨rfl,h.symm⟩
   rintro(⟨_,h⟩|h)
   ·rw[h]
   exact absurd rfl (hn.1 _ h)
  rw[if_neg h,ih];constructor
  ·exact .inr
  rintro(⟨h1,_⟩|h1)
  ·exact absurd h1.symm h
  exact h1
theorem Mn{k:Int}{v:Int}{p:Int×Int}:∀(l:List bE) (n:Int),(v,p)∈Ly k n l↔∃(j:Nat) (i:bE),l[j]?=some i∧i.to=v∧p=(k,n+j+1)
 | [],n=>by simp[Ly]
 | i::r,n=>by
  simp only[Ly,List.mem_cons,Prod.mk.injEq];rw[Mn r (n+1)];constructor
  ·rintro(⟨h1,h2⟩|⟨j,x,h1,h2,h3⟩)
   ·exact⟨0,i,rfl,h1.symm,by simpa using h2⟩
   exact⟨j+1,x,h1,h2,by rw[h3];congr 1;omega⟩
  rintro⟨j,x,h1,h2,h3⟩;cases j with
  | zero =>
   simp only[List.getElem?_cons_zero,Option.some.injEq]at h1;subst h1;exact .inl ⟨h2.symm,by simpa using h3⟩
  | succ j=>exact .inr ⟨j,x,h1,h2,by rw[h3];congr 1;omega⟩
theorem NP{v:Int}{p:Int×Int}:∀(l:List Block) (k:Int),(v,p)∈Lu k l↔∃(j:Nat) (b:Block),l[j]?=some b∧(v,p)∈LK (k+j) b
 | [],k=>by simp[Lu]
 | b::r,k=>by
  rw[Lu,List.mem_append,NP r (k+1)];constructor
  ·rintro(h|⟨j,x,h1,h2⟩)
   ·exact⟨0,b,rfl,by simpa using h⟩
   exact⟨j+1,x,h1,by rw[show k+((j+1:Nat):Int)=k+1+j by omega];exact h2⟩
  rintro⟨j,x,h1,h2⟩;cases j with
  | zero =>
   simp only[List.getElem?_cons_zero,Option.some.injEq]at h1;subst h1;exact .inl (by simpa using h2)
  | succ j=>exact .inr ⟨j,x,h1,by rw[show k+((j+1:Nat):Int)=k+1+j by omega]at h2;exact h2⟩
def M5(f:Func)(v:Int)(p:Int×Int):Prop:=∃(k:Nat) (b:Block),f.blocks[k]?=some b∧p.1=k∧((p.2=0∧v∈b.params)∨∃(j:Nat) (i:bE),b.ins[j]?=some i∧i.to=v∧p.2=j+1)
theorem NZ{f:Func}{v:Int}{p:Int×Int}:(v,p)∈QL f↔M5 f v p:=by
 obtain⟨p1,p2⟩:=p;rw[QL,NP];constructor
 ·rintro⟨k,b,h1,h2⟩;rw[LK,List.mem_append]at h2;rcases h2 with h2|h2
  ·simp only[Ln,List.mem_map,Prod.mk.injEq]at h2;obtain⟨x,h3,h4,h5,h6⟩:=h2;subst h4;exact⟨k,b,h1,by simp only;omega,.inl ⟨h6.symm,h3⟩⟩
  obtain⟨j,i,h3,h4,h5⟩:=(Mn _ _).1 h2;simp only[Prod.mk.injEq]at h5;exact⟨k,b,h1,by simp only;omega,.inr ⟨j,i,h3,h4,by simp only;omega⟩⟩
 rintro⟨k,b,h1,h2,h3⟩;simp only at h2 h3;subst h2;refine⟨k,b,h1,?_⟩;rw[LK,List.mem_append];rcases h3 with⟨h3,h4⟩|⟨j,i,h3,h4,h5⟩
 ·subst h3;exact .inl (by simpa[Ln]using h4)
 exact .inr ((Mn _ _).2 ⟨j,i,h3,h4,by subst h5;simp⟩)
theorem Mj(k:Int):∀(l:List bE) (n:Int),(Ly k n l).map (·.1)=l.map bE.to
 | [],_=>rfl
 | i::r,n=>by rw[Ly,List.map_cons,Mj k r,List.map_cons]
theorem NB:∀(l:List Block) (k:Int),(Lu k l).map (·.1)=l.flatMap KM
 | [],_=>rfl
 | b::r,k=>by
  rw[Lu,List.map_append,NB r,List.flatMap_cons,LK,List.map_append,Mj,KM,Ln,List.map_map];congr 2;exact List.map_id' _
theorem NY(f:Func):(QL f).map (·.1)=K4 f:=NB _ _
theorem QV{k:Nat}{S:Ds}{e:Edge}(h:(gL k S e).again=false):gL k S e=S∧((S.at_ e.block.toNat).meet (S.at_ k)).add e.block.toNat=S.at_ e.block.toNat∧S.seen.has e.block.toNat=true:=by
 unfold gL at h ⊢;simp only at h ⊢;split at h
 ·cases h
 rename_i hc;rw[if_neg hc];simp only[ne_eq,not_or,Decidable.not_not,Bool.not_eq_false]at hc;exact⟨rfl,hc⟩
theorem N8{k:Nat}:∀(l:List Edge) {S:Ds},(l.foldl (gL k) S).again=false->l.foldl (gL k) S=S∧∀e∈l,((S.at_ e.block.toNat).meet (S.at_ k)).add e.block.toNat=S.at_ e.block.toNat∧S.seen.has e.block.toNat=true
 | [],S,_=>⟨rfl,by simp⟩
 | e::r,S,h=>by
  rw[List.foldl_cons]at h;have ih:=N8 r h;rw[ih.1]at h;have h1:=QV h;rw[List.foldl_cons,ih.1,h1.1];rw[h1.1]at ih;refine⟨rfl,fun x hx=>?_⟩;rcases List.mem_cons.1 hx with q|q
  ·subst q;exact h1.2
  exact ih.2 x q
theorem N9:∀(l:List Block) (k:Nat) {S:Ds},(kk k S l).again=false->kk k S l=S∧∀(j:Nat) b,l[j]?=some b->S.seen.has (k+j)=true->∀e∈b.term.to,((S.at_ e.block.toNat).meet (S.at_ (k+j))).add e.block.toNat=S.at_ e.block.toNat∧S.seen.has e.block.toNat=true
 | [],k,S,_=>⟨rfl,fun j b h=>by simp at h⟩
 | b::r,k,S,h=>by
  rw[kk]at h;have ih:=N9 r (k+1) h;rw[ih.1]at h;have h1:nC k S b=S∧(S.seen.has k=true->∀e∈b.term.to,((S.at_ e.block.toNat).meet (S.at_ k)).add e.block.toNat=S.at_ e.block.toNat∧S.seen.has e.block.toNat=true):=by
   unfold nC at h ⊢;split
   ·rename_i hs;exact⟨rfl,fun q=>by rw[hs]at q;cases q⟩
   rename_i hs;rw[if_neg hs]at h;have:=N8 _ h;exact⟨this.1,fun _=>this.2⟩
  rw[kk,ih.1,h1.1];rw[h1.1]at ih;refine⟨rfl,fun j x hj hs=>?_⟩;cases j with
  | zero =>
   simp only[List.getElem?_cons_zero,Option.some.injEq]at hj;subst hj;exact h1.2 hs
  | succ j =>
   rw[show k+(j+1)=k+1+j by omega]at hs ⊢;exact ih.2 j x hj hs
theorem OW{f:Func}(he:∀b∈f.blocks,∀e∈b.term.to,0<=e.block∧e.block.toNat<f.blocks.length):∀(n:Nat) {S:Ds},jS f.blocks.length S->(S.again=true->S.weight<n)->(ig f n S).again=false
 | 0,S,_,h=>by
  cases hs:S.again with
  | false=>exact hs
  | true=>exact absurd (h hs) (by omega)
 | n+1,S,hS,h=>by
  simp only[ig];split
  ·rename_i ha;have hw:=h ha;have hr:=nD f.blocks (k:=0) (S:=⟨S.over,S.seen,false⟩) ⟨hS.few,hS.len,hS.fit,hS.seen,hS.self⟩ he;have I7:(⟨S.over,S.seen,false⟩:Ds).weight=S.weight:=rfl;refine OW he n hr.1 fun q=>?_;rcases hr.2.2 q with q|q
   ·cases q
   omega
  rename_i ha;simpa using ha
structure Dz(S:Ds):Prop where
 zero:S.at_ 0=Bs.none.add 0
 seen:S.seen.has 0=true
theorem UC{n k:Nat}{S:Ds}(h:Dz S){e:Edge}(h1:1<=e.block)(h2:e.block.toNat<n)(h3:n<=128):Dz (gL k S e):=by
 unfold gL;simp only;split
 ·refine⟨?_,?_⟩
  ·have:=h.zero;unfold Ds.at_ at this ⊢;simp only;rw[List.getElem?_set_ne (by omega)];exact this
  simp only;rw[Bs.has_add _ _ _ (by omega) (by omega),h.seen];rfl
 exact h
theorem SR{n k:Nat}(h3:n<=128):∀(l:List Edge) {S:Ds},Dz S->(∀e∈l,1<=e.block∧e.block.toNat<n)->Dz (l.foldl (gL k) S)
 | [],_,h,_=>h
 | e::r,S,h,he=>SR h3 r (UC h (he e (by simp)).1 (he e (by simp)).2 h3) fun x hx=>he x (by simp[hx])
theorem SU{n:Nat}(h3:n<=128):∀(l:List Block) {k:Nat} {S:Ds},Dz S->(∀b∈l,∀e∈b.term.to,1<=e.block∧e.block.toNat<n)->Dz (kk k S l)
 | [],_,_,h,_=>h
 | b::r,k,S,h,he=>by
  refine SU h3 r (k:=k+1) ?_ fun x hx=>he x (by simp[hx]);unfold nC;split
  ·exact h
  exact SR h3 _ h (he b (by simp))
theorem SS{f:Func}(h3:f.blocks.length<=128)(he:∀b∈f.blocks,∀e∈b.term.to,1<=e.block∧e.block.toNat<f.blocks.length):∀(n:Nat) {S:Ds},Dz S->Dz (ig f n S)
 | 0,_,h=>h
 | n+1,S,h=>by
  simp only[ig];split
  ·exact SS h3 he n (SU h3 _ (S:=⟨S.over,S.seen,false⟩) ⟨h.zero,h.seen⟩ he)
  exact h
theorem OY{f:Func}:∀(n:Nat) {S:Ds},S.again=true->(ig f n S).again=false->∃T:Ds,ig f n S=kk 0 T f.blocks
 | 0,S,h1,h2=>by
  rw[ig,h1]at h2;cases h2
 | n+1,S,h1,h2=>by
  simp only[ig,h1,if_true]at h2 ⊢;cases hr:(kk 0 ⟨S.over,S.seen,false⟩ f.blocks).again with
  | false=>exact⟨_,rQ hr n⟩
  | true=>exact OY n hr h2
def Me(f:Func)(k:Nat):Bs:=(jV f).1[k]?.getD .none
def LJ(f:Func)(k:Nat):Bool:=(jV f).2.has k
structure TB(f:Func):Prop where
 seen:LJ f 0=true
 zero:∀j,j<128->((Me f 0).has j=true↔j=0)
 self:∀k,k<f.blocks.length->(Me f k).has k=true
 step:∀(k:Nat) b,f.blocks[k]?=some b->LJ f k=true->∀e∈b.term.to,LJ f e.block.toNat=true∧∀j,j<128->((Me f e.block.toNat).has j=true->j=e.block.toNat∨(Me f k).has j=true)
theorem UD{f:Func}(h0:f.blocks≠[])(h1:f.blocks.length<=128)(he:∀b∈f.blocks,∀e∈b.term.to,1<=e.block∧e.block<f.blocks.length):TB f:=by
 have m5:∀b∈f.blocks,∀e∈b.term.to,0<=e.block∧e.block.toNat<f.blocks.length:=fun b hb e hx=>by have:=he b hb e hx;omega
 have pE:∀b∈f.blocks,∀e∈b.term.to,1<=e.block∧e.block.toNat<f.blocks.length:=fun b hb e hx=>by have:=he b hb e hx;omega
 have hl:=List.length_pos_iff.2 h0;have hS:=sE h0 h1;have JO:=se hS;have XG:Dz (jW f):=⟨by unfold Ds.at_ jW;simp only;rw[List.getElem?_set_self (by simpa using hl)];rfl,by show(Bs.none.add 0).has 0=true;decide⟩
 have iR:=OW m5 20000 hS (fun _=>by omega);have hz:=SS h1 pE 20000 XG;obtain⟨T,hT⟩:=OY 20000 rfl iR;have jJ:jS f.blocks.length (ig f 20000 (jW f)):=by
  have key:∀(n:Nat) (S:Ds),jS f.blocks.length S->jS f.blocks.length (ig f n S):=fun n=>by
   induction n with
   | zero=>exact fun S h=>h
   | succ n ih =>
    intro S h;simp only[ig];split
    ·exact ih _ (nD f.blocks (k:=0) (S:=⟨S.over,S.seen,false⟩) ⟨h.few,h.len,h.fit,h.seen,h.self⟩ m5).1
    exact h
  exact key _ _ hS
 have XT:=N9 f.blocks 0 (S:=T) (by rw[<-hT];exact iR);have VQ:=XT.2;rw[show T=ig f 20000 (jW f) from XT.1.symm.trans hT.symm]at VQ;have lF:∀k,Me f k=(ig f 20000 (jW f)).at_ k:=fun k=>rfl;have Vr:∀k,LJ f k=(ig f 20000 (jW f)).seen.has k:=fun k=>rfl;generalize ig f 20000 (jW f)=S at *;refine⟨by rw[Vr,hz.seen],fun j hj=>?_,fun k hk=>by rw[lF];exact jJ.self k hk,fun k b hb hs e hx=>?_⟩
 ·rw[lF,hz.zero,Bs.has_add _ _ _ (by omega) hj];have:Bs.none.has j=false:=by unfold Bs.has Bs.none;simp
  simp[this]
 have Eu:=pE b (List.mem_of_getElem? hb) e hx;obtain⟨q1,q2⟩:=VQ k b hb (by rw[Nat.zero_add,<-Vr];exact hs) e hx;rw[Nat.zero_add]at q1;refine⟨by rw[Vr];exact q2,fun j hj q=>?_⟩;rw[lF,<-q1,Bs.has_add _ _ _ (by omega) hj,Bs.qi]at q;rw[lF];simp only[Bool.or_eq_true,Bool.and_eq_true,decide_eq_true_eq]at q;rcases q with q|q
 ·exact .inr q.2
 exact .inl q
theorem Oi{ds:Defs}{v:Int}{p:Int×Int}(h:fC ds v=some p):(v,p)∈ds:=by
 induction ds with
 | nil=>cases h
 | cons e r ih =>
  obtain⟨a,q⟩:=e;simp only[fC]at h;split at h
  ·rename_i e;simp only[Option.some.injEq]at h;rw[e,h];simp
  exact List.mem_cons.2 (.inr (ih h))
def PY(f:Func)(k:Nat)(n:Int)(v:Int):Prop:=∃p,M5 f v p∧(LJ f k=true->(p.1=k∧p.2<=n)∨(p.1≠k∧(Me f k).has p.1.toNat=true))
theorem PE{f:Func}{k:Nat}{n v:Int}(h:ik (QL f) (jV f).1 (jV f).2 k n v=true):PY f k n v:=by
 unfold ik at h;cases hl:fC (QL f) v with
 | none=>rw[hl]at h;cases h
 | some p =>
  rw[hl]at h;refine⟨p,NZ.1 (Oi hl),fun hs=>?_⟩;have DV:(jV f).2.has k=true:=hs;simp only[DV,Bool.not_true,Bool.or_false,Bool.or_eq_true,Bool.and_eq_true,decide_eq_true_eq,Bool.not_eq_true',decide_eq_false_iff_not]at h;exact h
structure Rs(f:Func):Prop where
 ins:∀(k:Nat) b,f.blocks[k]?=some b->∀(n:Nat) i,b.ins[n]?=some i->∀a∈i.args,PY f k n a
 arg:∀(k:Nat) b,f.blocks[k]?=some b->b.term.kind≠1->b.term.kind≠4->PY f k b.ins.length b.term.arg
 args:∀(k:Nat) b,f.blocks[k]?=some b->∀e∈b.term.to,∀a∈e.args,PY f k b.ins.length a
theorem NM{ds:Defs}{over:List Bs}{seen:Bs}{k:Nat}:∀(l:List bE) (n:Nat),iJ ds over seen k n l=true->∀(j:Nat) i,l[j]?=some i->∀a∈i.args,ik ds over seen k ((n+j:Nat):Int) a=true
 | [],_,_=>fun j i h=>by simp at h
 | x::r,n,h=>fun j i hj a ha=>by
  simp only[iJ,Bool.and_eq_true,List.all_eq_true]at h;cases j with
  | zero =>
   simp only[List.getElem?_cons_zero,Option.some.injEq]at hj;subst hj;exact h.1 a ha
  | succ j =>
   rw[show n+(j+1)=n+1+j by omega];exact NM r (n+1) h.2 j i hj a ha
theorem NC{ds:Defs}{over:List Bs}{seen:Bs}:∀(l:List Block) (k:Nat),gG ds over seen k l=true->∀(j:Nat) b,l[j]?=some b->j4 ds over seen (k+j) b=true
 | [],_,_=>fun j i h=>by simp at h
 | x::r,k,h=>fun j b hj=>by
  simp only[gG,Bool.and_eq_true]at h;cases j with
  | zero =>
   simp only[List.getElem?_cons_zero,Option.some.injEq]at hj;subst hj;exact h.1
  | succ j =>
   rw[show k+(j+1)=k+1+j by omega];exact NC r (k+1) h.2 j b hj
theorem Vc{f:Func}(h:oh f (QL f)=0):Rs f:=by
 have ha:gG (QL f) (jV f).1 (jV f).2 0 f.blocks=true:=by
  unfold oh at h;split at h
  ·assumption
  simp at h
 have hb:∀(k:Nat) b,f.blocks[k]?=some b->j4 (QL f) (jV f).1 (jV f).2 k b=true:=fun k b hk=>by
  have:=NC f.blocks 0 ha k b hk
  rwa [Nat.zero_add]at this
 have hu:∀(k:Nat) b,f.blocks[k]?=some b->ma b.term (ik (QL f) (jV f).1 (jV f).2 k b.ins.length)=true:=fun k b hk=>by
  have:=hb k b hk;simp only[j4,Bool.and_eq_true]at this;exact this.2
 refine⟨fun k b hk n i hn a ha=>?_,fun k b hk h1 h4=>?_,fun k b hk e he a ha=>?_⟩
 ·have:=hb k b hk;simp only[j4,Bool.and_eq_true]at this;have:=NM b.ins 0 this.1 n i hn a ha;rw[Nat.zero_add]at this;exact PE this
 ·have:=hu k b hk;simp only[ma,Bool.and_eq_true,Bool.or_eq_true,decide_eq_true_eq,h1,h4,false_or]at this;exact PE this.1
 have:=hu k b hk;simp only[ma,Bool.and_eq_true,List.all_eq_true]at this;exact PE (this.2 e he a ha)
structure Uw(f:Func):Prop where
 fn:DC f
 VA:TB f
 pC:Rs f
 vals:SJ f
 nodup:(K4 f).Nodup
 db:∀b∈f.blocks,∀e∈b.term.to,1<=e.block∧e.block<f.blocks.length
theorem KU{f:Func}(bB:f.fit)(h:bo f=0):Uw f:=by
 have hw:=dV bB h;obtain⟨hd,GA⟩:=DC.ds bB h;have he:∀b∈f.blocks,∀e∈b.term.to,1<=e.block∧e.block<f.blocks.length:=fun b hb e hx=>by
  have:=((jE (hw.blk b hb).fin).db e hx).1;omega
 refine⟨hw,UD hw.ne hw.few he,Vc (by rw[<-hd];exact hw.pC),fun v hv=>?_,?_,he⟩
 ·rw[<-NY]at hv;obtain⟨e,h1,rfl⟩:=List.mem_map.1 hv;exact GA.range e h1
 rw[<-NY];exact GA.nodup
theorem M5.uniq{f:Func}(hv:Uw f){v:Int}{p q:Int×Int}(h:M5 f v p)(h':M5 f v q):p=q:=by
 have hn:=hv.nodup;rw[<-NY]at hn;have e1:=(Nt hn).2 (NZ.2 h);have e2:=(Nt hn).2 (NZ.2 h');rw[e1]at e2;simpa using e2
theorem Uw.below{f:Func}(hv:Uw f){v:Int}(h:v∈K4 f):0<=v∧v<LF f∧LF f<=4096 :=
 ⟨(hv.vals v h).1,(NH (K4 f) 0).2 v h,NI _ _ (by omega) fun w hw=>(hv.vals w hw).2⟩
def Rb(f:Func):ae:=if bo f=0 then .df [.aE 1 ((Ls f).map a6) .sh,aI 0]else .df [.aE 1 [] .sh,aI (bo f)]
def Ue(c:Nat)(ls:List (List Int)):Prop:=∀l∈ls,l.length<=c
theorem Ue.push{c:Nat}{ls:List (List Int)}(h:Ue c ls){j:Nat}{l:List Int}(hj:ls[j]?=some l)(k:Int):Ue (c+1) (ls.set j (l++[k])):=fun m hm=>by
 rcases List.mem_or_eq_of_mem_set hm with q|q
 ·have:=h m q;omega
 subst q;have:=h l (List.mem_of_getElem? hj);simp;omega
theorem Ue.mono{c d:Nat}{ls:List (List Int)}(h:Ue c ls)(hd:c<=d):Ue d ls:=fun l hl=>Nat.le_trans (h l hl) hd
theorem Rc(f:Func)(bB:f.fit):bw Try.prog 22 [f.enc] (Rb f):=by
 have oF:=lP f bB;unfold Rb;by_cases hc:bo f=0
 ·rw[if_pos hc];rw[hc]at oF;have hw:=dV bB hc;have hn:f.blocks.length<=128:=hw.few;obtain⟨N,hN⟩:∃N,N=f.blocks.length:=⟨_,rfl⟩
  obtain⟨R,hR⟩:∃R,R=Ls f:=⟨_,rfl⟩
  have Zd:R.length=N:=by rw[hR,hN,Ls,Nx];simp
  rw[<-hR];unfold Ls at hR;refine zf true 0 Try.func22 Try.ntmps22 ?_;dsimp only[Tmp,TypeId,ax];refine aA (ah ?_);refine aH 1 0 (.ip none [aI f.name,ay f.blocks]) rfl (by simp[ak.aF]) trivial rfl ?_ ?_;rotate_left;simp -dsimp only[simprocAttr,↓aa,zp]
  ·refine b8 ?_;refine zi oF ?_;refine ah ?_;refine aA (ah ?_);apply aP rfl<;>intro h
   ·cases h
   refine cA ?_;refine aX ?_;simp -dsimp only[simprocAttr,↓aa,zp,Sn,<-hN];refine⟨by omega,by omega,?_⟩;refine ah ?_;have YT:PO (List.replicate N []) (([ak.gone,ak.cells []]++List.replicate N (ak.spare 0)).set 1 (.cells ((List.range N).map fun j=>.aE 1 [] (.tok ([ak.gone,ak.cells []].length+j))))):=by
    refine⟨by simp,?_,fun j l hj=>?_,?_⟩
    ·rw[List.getElem?_set_self (by simp),Qw];rfl
    ·have gY:=I hj;rw[List.length_replicate]at gY;rw[List.getElem?_set_ne (by omega),List.getElem?_append_right (by simp)];simp only[List.length_cons,List.length_nil,Nat.zero_add,Nat.add_sub_cancel_left];simp[gY]at hj ⊢;rw[hj];rfl
    rw[<-Qw];have:=bF (k:=1) (n:=N+2) (x:=.cells (LS 2 (List.replicate N []))) (O:=[ak.gone,ak.cells []]++List.replicate N (ak.spare 0)) (fun o ho=>by
     rcases List.mem_append.1 ho with q|q
     ·simp at q;rcases q with rfl|rfl<;>trivial
     rw[(List.mem_replicate.1 q).2];trivial) (Pl (by simp;omega))
    simpa using this
   show cc Try.prog _ _ _ ⟨_,_,List.set [ak.gone,ak.cells []] 1 (.cells (List.replicate N (ae.aE 1 [] .ex)))⟩;refine QO 1 N (by simp) ?_;generalize ([ak.gone,ak.cells []]++List.replicate N (ak.spare 0)).set 1 (.cells ((List.range N).map fun j=>.aE 1 [] (.tok ([ak.gone,ak.cells []].length+j))))=O0 at *;rw[<-hN]at hR;refine dd ?_;simp -dsimp only[simprocAttr,↓aa,zp,<-hN];refine ah ?_;refine aj (aU (ι:={p:Nat×List (List Int)×List ak // p.1<=N∧PO p.2.1 p.2.2∧p.2.1.length=N∧Ue (p.1*257) p.2.1∧R=Nk p.1 p.2.1 (f.blocks.drop p.1)}) (fun p=>⟨50,[(1,.ip none [aI f.name,ay f.blocks]),(5,.ms 1 0 N N),(20,ay f.blocks),(21,aI N),(22,aI p.1.1)],p.1.2.2⟩) (fun p=>N-p.1.1) ⟨(0,_,O0),by simp,YT,by simp,by intro l hl;simp[(List.mem_replicate.1 hl).2],hR⟩ ?_ ?_)
   ·refine zq rfl ?_ ?_;simp -dsimp only[simprocAttr,↓aa,zp,zc]
    all_goals rfl
   rintro⟨⟨k,ls,O⟩,hk,hp,SE,qn,cO⟩;simp only at hk hp SE qn cO;have WZ:=hp.len;have bC:=hp.up;refine aA (ah ?_);apply gW rfl<;>intro h
   ·refine cA ?_;have aZ:k<N:=by simpa using h
    obtain⟨b,hb⟩:∃b,f.blocks[k]?=some b:=⟨f.blocks[k]'(by omega),List.getElem?_eq_getElem _⟩
    have jc:=List.mem_of_getElem? hb;have iR:=jE (hw.blk b jc).fin;have m7:b.term.to.length<=257:=by
     rcases(show(b.term.kind=0∨b.term.kind=4)∨b.term.kind=1∨b.term.kind=2∨b.term.kind=3 by have:=iR.kind;omega)with q|q|q|q
     ·rw[iR.to q];simp
     ·rw[iR.rE q];omega
     ·rw[iR.cond q];omega
     rw[iR.switch q];have:=iR.cases;omega
    rw[bS hb]at cO;simp only[Nk]at cO;obtain⟨L1,Vg⟩:∃L1,L1=MF k ls b.term.to:=⟨_,rfl⟩
    rw[<-Vg]at cO;refine aK (aj ?_);refine aX ?_;simp -dsimp only[simprocAttr,↓aa,zp,hb];refine ah ?_;refine aO 7 ([a6 b.params,bD b.ins,aI b.term.kind,aI b.term.arg,aI b.term.n,a6 b.term.cases,aJ b.term.to]) [(1,.ip none [aI f.name,ay f.blocks]),(5,.ms 1 0 N N),(20,ay f.blocks),(21,aI N),(22,aI k),(6,aI k),(7,.ip none [a6 b.params,bD b.ins,aI b.term.kind,aI b.term.arg,aI b.term.n,a6 b.term.cases,aJ b.term.to])] (by simp[bu,a7,Go.Av.look]) (by rfl) (by omega) (by simp[bu,a7,Go.Av.look]) ?_ ?_ ?_
    ·exact bC
    ·simp[ae.upto,aw,az,Edge.ai,bE.ai,Block.ai,WZ]
    refine aA (ah ?_);refine aj (aU (ι:={p:Nat×List (List Int)×List ak // p.1<=b.term.to.length∧PO p.2.1 p.2.2∧p.2.1.length=N∧Ue (k*257+p.1) p.2.1∧L1=MF k p.2.1 (b.term.to.drop p.1)}) (fun p=>⟨50,[(1,.ip none [aI f.name,ay f.blocks]),(5,.ms 1 0 N N),(20,ay f.blocks),(21,aI N),(22,aI k),(6,aI k),(29,aJ b.term.to),(30,aI b.term.to.length),(31,aI p.1.1)],p.1.2.2⟩) (fun p=>b.term.to.length-p.1.1) ⟨(0,ls,O),by simp,hp,SE,qn,Vg⟩ ?_ ?_)
    ·refine zq rfl ?_ ?_;simp -dsimp only[simprocAttr,↓aa,zp,zc]
     all_goals rfl
    rintro⟨⟨z,ls,O⟩,hz,hp,SE,qn,gp⟩;simp only at hz hp SE qn gp;have WZ:=hp.len;have bC:=hp.up;refine aA (ah ?_);apply gW rfl<;>intro h
    ·refine cA ?_;have qt:z<b.term.to.length:=by simpa using h
     obtain⟨e,he⟩:∃e,b.term.to[z]?=some e:=⟨b.term.to[z],by simp[qt]⟩
     have r6:=(iR.db e (List.mem_of_getElem? he)).1;rw[bS he]at gp;simp only[MF,List.foldl_cons]at gp;obtain⟨j,hj⟩:∃j:Nat,e.block=(j:Int):=⟨e.block.toNat,by omega⟩
     have Zf:j<N:=by omega
     obtain⟨l,hl⟩:∃l,ls[j]?=some l:=⟨ls[j]'(by omega),List.getElem?_eq_getElem _⟩
     have H3:MG k ls e=ls.set j (l++[(k:Int)]):=by simp[MG,hj,hl]
     rw[H3]at gp;have fS:=Th (b:=2) hl;have fQ:=hp.sp j l hl;have Ai:=hp.push hl k;have fX:=Ti (b:=2) (ls:=ls) (j:=j) (l++[(k:Int)]);rw[List.map_append]at fX;have Zi:=qn l (List.mem_of_getElem? hl);have eY:=hp.arr;have VK:=bx (k:=1) (j:=2+j) (y:=.spare (l.length+1)) eY (by omega);refine aK (aj ?_);refine aX ?_;simp -dsimp only[simprocAttr,↓aa,zp,he];refine ah ?_;refine aO 9 ([aI e.block,a6 e.args]) [(1,.ip none [aI f.name,ay f.blocks]),(5,.ms 1 0 N N),(20,ay f.blocks),(21,aI N),(22,aI k),(6,aI k),(29,aJ b.term.to),(30,aI b.term.to.length),(31,aI z),(9,.ip none [aI e.block,a6 e.args])] (by simp[bu,a7,Go.Av.look]) (by rfl) (by omega) (by simp[bu,a7,Go.Av.look]) ?_ ?_ ?_
     ·exact bC
     ·simp[ae.upto,aw,az,Edge.ai,bE.ai,Block.ai,WZ]
     refine j1 ?_;simp -dsimp only[simprocAttr,↓aa,zp,hj,eY,fS,fQ,VK,fX,Int.toNat_natCast,Nat.mul_one,List.length_map,List.length_set];refine⟨by omega,by omega,by omega,by omega,by rw[Oo];omega,?_⟩;refine⟨cm [1,2+j] O.length [.pure,.pure,.pure,.pure,.pure,.pure,.pure,.rd 0,.pure,.pure,.wr 2 [1],.pure,.wr 2 [0]] (by simp;omega) (by simp;omega) rfl rfl (by kernel_rfl),bd ?_⟩;simp -dsimp only[bX,ne_eq,Nat.reduceEqDiff,reduceCtorEq];have RD:(LS 2 ls).set j (.aE 1 (l.map aI++[.v (.int .i64 k)]) (.tok (2+j)))=LS 2 (ls.set j (l++[(k:Int)])):=fX;rw[Ri _ (by rw[Oo];omega),RD];refine dc ?_
     repeat(refine⟨by omega,?_⟩)
     refine fV ?_;refine⟨⟨(z+1,_,_),by simp only;omega,Ai,by simp[SE],qn.push hl k,gp⟩,by simp;omega,?_⟩;refine zq rfl ?_ ?_;simp -dsimp only[simprocAttr,↓aa,zp,zc]
     ·exact Sub.int (by simp)
     rfl
    refine aR ?_;simp -dsimp only[bX,ne_eq,Nat.reduceEqDiff,reduceCtorEq];have Cw:z=b.term.to.length:=by simp at h;omega
    subst Cw;rw[List.drop_length]at gp;simp only[MF,List.foldl_nil]at gp;subst gp;refine dc ?_
    repeat(refine⟨by omega,?_⟩)
    refine fV ?_;refine⟨⟨(k+1,_,O),by simp only;omega,hp,SE,qn.mono (by omega),cO⟩,by simp;omega,?_⟩;refine zq rfl ?_ ?_;simp -dsimp only[simprocAttr,↓aa,zp,zc]
    ·exact Sub.int (by simp)
    rfl
   refine aR ?_;simp -dsimp only[bX,ne_eq,Nat.reduceEqDiff,reduceCtorEq];have gT:k=N:=by simp at h;omega
   subst gT;rw[hN,List.drop_length]at cO;simp only[Nk]at cO;subst cO;have U0:=Ra 2 R;have eJ:(LS 2 R).length=k:=by rw[Oo,SE]
   refine aH 5 1 (o:=.cells (LS 2 R)) (.aE 1 (R.map a6) .sh) hp.arr (by simp[ak.aF]) trivial rfl (cw.ms (cs:=LS 2 R) hp.arr (by intro x hx;obtain⟨l,_,rfl⟩:=List.mem_map.1 hx;rfl) (by rw[List.length_map,SE]) (by rw[List.drop_zero,Nat.mul_one,<-eJ,List.take_length,U0])) ?_;simp -dsimp only[simprocAttr,↓aa,zp];refine aA (ah ?_);refine aq ?_;simp -dsimp only[simprocAttr,↓aa,zp,zr,Try.results22];simp only[aw,ae.upto,and_true];rw[aY];intro x hx;obtain⟨l,_,rfl⟩:=List.mem_map.1 hx;exact⟨az _ _,trivial⟩
  exact cw.mp rfl rfl
 rw[if_neg hc];obtain⟨e,he⟩:∃e,e=bo f:=⟨_,rfl⟩
 rw[<-he]at hc oF ⊢;have jn:decide (e=0)=false:=decide_eq_false hc;refine zf true 0 Try.func22 Try.ntmps22 ?_;dsimp only[Tmp,TypeId,ax];refine aA (ah ?_);refine aH 1 0 (.ip none [aI f.name,ay f.blocks]) rfl (by simp[ak.aF]) trivial rfl ?_ ?_;rotate_left;simp -dsimp only[simprocAttr,↓aa,zp]
 ·refine b8 ?_;refine zi oF ?_;refine ah ?_;refine aX ?_;simp -dsimp only[simprocAttr,↓aa,zp,jn];refine ah ?_;refine cS rfl ?_;refine aA (ah ?_);refine aq ?_;simp -dsimp only[simprocAttr,↓aa,zp,zr,Try.results22];simp[aw,ae.upto]
 exact cw.mp rfl rfl
end Go.Proofs.Ytkhnjeblbiocaaa
namespace Go.Av
theorem cw.os{O:List ak}{id len sz:Nat}{cs xs:List ae}(fA:O[id]?=some (.cells cs))(cU:∀x∈xs,x.cells.length=sz)(hlen:xs.length=len)(hd:((cs.drop 0).take (len*sz)).map ae.bk=ao xs):cw O id (.os id len sz) (.aE sz xs .sh):=fun g u l' hg hO he hle h=>by
 obtain⟨l,o1,ez,h1,h2,_,xy,_,cF,eu⟩:=h.oN;subst eu;rw[he]at h1;simp only[Option.some.injEq]at h1;subst h1;have ij:g.objs[id]?=some (.cells cs):=by rw[hO];exact fA
 obtain⟨arr,t',gQ,dp,km,eZ,jY,_⟩:=hg.row ij he;subst hlen;have key:∀(j:Nat) (c:ae),(ao xs)[j]?=some c->∃c',cs[0+j]?=some c'∧c'.bk=c:=fun j c hj=>by
  rw[<-hd,List.getElem?_map,Option.map_eq_some_iff]at hj;obtain⟨c',hj,e⟩:=hj;have:=kJ hj;rw[List.getElem?_drop]at this;exact⟨c',this,e⟩
 refine .aE cU (fun x hx c hc=>?_) xy cF (fun _=>rfl) (fun j=>arr.getD (0+j) undef) (fun j c hj=>?_) (fun j c hj=>?_) trivial
 ·have jZ:c∈ao xs:=by
   simp only[ao,List.mem_flatMap];exact⟨x,hx,hc⟩
  obtain⟨j,hj⟩:=List.getElem?_of_mem jZ;obtain⟨c',gY,e⟩:=key j c hj;subst e;exact ae.en (jY c' (List.mem_of_getElem? gY))
 ·obtain⟨c',gY,e⟩:=key j c hj;have aZ:=I gY;refine⟨?_,k6 hg he ij trivial _⟩;show g.w.cell? _=_;simp only;rw[cell_of_row dp];simp[Array.getD_eq_getD_getElem?,show j<arr.size by omega]
 obtain⟨c',gY,e⟩:=key j c hj;have aZ:=I gY;subst e;exact((eZ _ c' _ gY (by simp[Array.getD_eq_getD_getElem?,show j<arr.size by omega])).mono hle).bk
end Go.Av
namespace Go.Proofs.Ytkhnjeblbiocaaa
open Go.Av
theorem KJ(x:Value):ao [ae.v x]=[ae.v x]:=rfl
theorem KN(id len sz:Nat):(ae.os id len sz).cells=[ae.os id len sz]:=rfl
end Go.Proofs.Ytkhnjeblbiocaaa
namespace Go.Av

end Go.Av
namespace Go.Proofs.Ytkhnjeblbiocaaa
open Go.Av

def L5(f:Func)(b:Int):List Edge:=(aD f b).term.to
structure Ro(f:Func):Prop where
 ne:f.blocks≠[]
 few:f.blocks.length<=128
 to:∀b∈f.blocks,b.term.to.length<=257
 db:∀b∈f.blocks,∀e∈b.term.to,1<=e.block∧e.block<f.blocks.length
theorem DC.gr{f:Func}(h:DC f):Ro f :=
 ⟨h.ne,h.few,fun b hb=>Va (jE (h.blk b hb).fin),fun b hb e he=>by
  have:=((jE (h.blk b hb).fin).db e he).1;omega⟩
structure WM(f:Func):Prop where
 few:f.blocks.length<=128
 params:∀b∈f.blocks,b.params.length<=4096
 ins:∀b∈f.blocks,b.ins.length<=1024
 S9:∀b∈f.blocks,∀i∈b.ins,i.args.length<=16
 cases:∀b∈f.blocks,b.term.cases.length<=256
 to:∀b∈f.blocks,b.term.to.length<=257
 SX:∀b∈f.blocks,∀e∈b.term.to,e.args.length<=4096
def K3(es:List Edge):List ae:=es.flatMap fun e=>[aI e.block,a6 e.args]
def LY(id:Nat)(es:List Edge):ae:=if es=[]then .aE 2 [] .ex else .os id es.length 2
def Mp(id:Nat)(es:List Edge):ae:=if es=[]then .aE 2 [] .sh else .os id es.length 2
def No(id:Nat)(b:Block):List ae:=[a6 b.params,bD b.ins,aI b.term.kind,aI b.term.arg,aI b.term.n,a6 b.term.cases,Mp id b.term.to]
def KL(ids:List Nat)(bs:List Block):List ae:=(List.zipWith No ids bs).flatten
def LV(id:Nat)(bs:List Block):ae:=if bs=[]then .aE 7 [] .ex else .os id bs.length 7
theorem Ot(id:Nat)(es:List Edge):(LY id es).bk=Mp id es:=by
 unfold LY Mp;split<;>rfl
theorem Oq(id:Nat)(es:List Edge):(Mp id es).bk=Mp id es:=by
 unfold Mp;split<;>rfl
theorem Qa(es:List Edge)(e:Edge):K3 (es++[e])=K3 es++[aI e.block,a6 e.args]:=by simp[K3]
theorem Lv(es:List Edge):(K3 es).length=es.length*2:=by
 induction es with
 | nil=>rfl
 | cons e r ih =>
  have:K3 (e::r)=[aI e.block,a6 e.args]++K3 r:=rfl;rw[this,List.length_append,ih];simp only[List.length_cons,List.length_nil];omega
theorem Qb(n:Nat)(es:List Edge):aw n (K3 es):=by
 rw[aY];intro c hc;simp only[K3,List.mem_flatMap]at hc;obtain⟨e,_,hc⟩:=hc;simp only[List.mem_cons,List.not_mem_nil,or_false]at hc;rcases hc with rfl|rfl
 ·trivial
 exact⟨az _ _,trivial⟩
theorem R2(es:List Edge):(K3 es).map ae.bk=ao (es.map Edge.enc):=by
 induction es with
 | nil=>rfl
 | cons e r ih =>
  have h1:K3 (e::r)=[aI e.block,a6 e.args]++K3 r:=rfl;have h2:ao ((e::r).map Edge.enc)=[aI e.block,a6 e.args]++ao (r.map Edge.enc):=rfl;rw[h1,h2,List.map_append,ih];rfl
theorem OR{ids:List Nat}{bs:List Block}(h:ids.length=bs.length)(id:Nat)(b:Block):KL (ids++[id]) (bs++[b])=KL ids bs++No id b:=by
 unfold KL;rw[List.zipWith_append h];simp
theorem LZ:∀{ids:List Nat} {bs:List Block},ids.length=bs.length->(KL ids bs).length=bs.length*7
 | [],[],_=>rfl
 | i::ids,b::bs,h=>by
  have e:KL (i::ids) (b::bs)=No i b++KL ids bs:=rfl;rw[e,List.length_append,LZ (by simpa using h)];simp only[No,List.length_cons,List.length_nil];omega
 | [],b::bs,h=>by simp at h
 | i::ids,[],h=>by simp at h
theorem SM{n id:Nat}(b:Block)(h:b.term.to≠[]->id<n):aw n (No id b):=by
 refine⟨⟨az _ _,trivial⟩,⟨bE.ai _ _,trivial⟩,trivial,trivial,trivial,⟨az _ _,trivial⟩,?_,trivial⟩;unfold Mp;split
 ·exact⟨trivial,trivial⟩
 rename_i q;exact h q
structure Vd(b0:Nat)(ids:List Nat)(bs:List Block)(O:List ak):Prop where
 li:ids.length=bs.length
 own:∀(j id:Nat) (b:Block),ids[j]?=some id->bs[j]?=some b->b.term.to≠[]->b0<=id∧O[id]?=some (.cells (K3 b.term.to))
 inj:∀(i j id:Nat) (b c:Block),ids[i]?=some id->ids[j]?=some id->bs[i]?=some b->bs[j]?=some c->b.term.to≠[]->c.term.to≠[]->i=j
structure TA(f:Func)(done:List Block)(bW:Nat)(ids:List Nat)(O:List ak):Prop where
 up:∀o∈O,o.upto O.length
 r0:O[0]?=some .gone
 r1:O[1]?=some (.cells [aI 0,.aE 7 [] .ex])
 r3:O[3]?=some (.cells [aI 0,.aE 7 [] .ex])
 out:O[4]?=some (.cells [aI f.name,LV bW done])
 blk:done≠[]->5<=bW∧O[bW]?=some (.cells (KL ids done))
 cp:Vd 5 ids done O
 ne:∀(j id:Nat) (b:Block),ids[j]?=some id->done[j]?=some b->b.term.to≠[]->id≠bW
theorem RU{n:Nat}:∀{ids:List Nat} {bs:List Block},(∀(j id:Nat) (b:Block),ids[j]?=some id->bs[j]?=some b->b.term.to≠[]->id<n)->aw n (KL ids bs):=by
 intro ids bs h;rw[aY];intro c hc;unfold KL at hc;obtain⟨l,hl,hc⟩:=List.mem_flatten.1 hc;obtain⟨j,hj⟩:=List.mem_iff_getElem?.1 hl;rw[List.getElem?_zipWith]at hj;cases h1:ids[j]? with
 | none=>rw[h1]at hj;cases hj
 | some id =>
  cases h2:bs[j]? with
  | none=>rw[h1,h2]at hj;cases hj
  | some b =>
   rw[h1,h2]at hj;simp only[Option.some.injEq]at hj;subst hj;exact aY.1 (SM b (h j id b h1 h2)) c hc
theorem TA.snoc{f:Func}{done:List Block}{bW:Nat}{ids:List Nat}{O O1:List ak}(h:TA f done bW ids O){b:Block}{tid:Nat}(hlen:O.length<=O1.length)(bC:∀o∈O1,o.upto O1.length)
  (fo:∀k,k<O.length->(done≠[]->k≠bW)->O1[k]?=O[k]?) (ht:b.term.to≠[]->O.length<=tid∧O1[tid]?=some (.cells (K3 b.term.to))) {cs ar:List ae} (eZ:cs=KL (ids++[tid]) (done++[b])) (VI:ar=[aI f.name,.os O1.length (done.length+1) 7]) :
  TA f (done++[b]) O1.length (ids++[tid]) ((O1++[ak.cells cs]).set 4 (.cells ar)):=by
 have h4:=I h.out;have VY:=h.cp.li;have lA:∀k,k<O.length->k≠4->(done≠[]->k≠bW)->((O1++[ak.cells cs]).set 4 (.cells ar))[k]?=O[k]?:=fun k hk Xl uD=>by
  rw[List.getElem?_set_ne (Ne.symm Xl),List.getElem?_append_left (by omega),fo k hk uD]
 have RA:done≠[]->5<=bW:=fun q=>(h.blk q).1;have PH:∀(j id:Nat) (c:Block),(ids++[tid])[j]?=some id->(done++[b])[j]?=some c->(ids[j]?=some id∧done[j]?=some c)∨(j=ids.length∧id=tid∧c=b):=fun j id c h1 h2=>by
  by_cases hj:j<ids.length
  ·rw[List.getElem?_append_left hj]at h1;rw[List.getElem?_append_left (by omega)]at h2;exact .inl ⟨h1,h2⟩
  have UQ:=I h1;rw[List.length_append,List.length_singleton]at UQ;have fB:j=ids.length:=by omega
  subst fB;rw[List.getElem?_append_right (Nat.le_refl _),Nat.sub_self]at h1;rw[List.getElem?_append_right (by omega),<-VY,Nat.sub_self]at h2;simp only[List.getElem?_cons_zero,Option.some.injEq]at h1 h2;exact .inr ⟨rfl,h1.symm,h2.symm⟩
 have mP:∀(j id:Nat) (c:Block),ids[j]?=some id->done[j]?=some c->c.term.to≠[]->5<=id∧id<O.length∧O1[id]?=some (.cells (K3 c.term.to)):=fun j id c h1 h2 h3=>by
  obtain⟨o1,o2⟩:=h.cp.own j id c h1 h2 h3;have hl:=I o2;refine⟨o1,hl,?_⟩;rw[fo id hl (fun _=>h.ne j id c h1 h2 h3)];exact o2
 have iw:∀(j id:Nat) (c:Block),(ids++[tid])[j]?=some id->(done++[b])[j]?=some c->c.term.to≠[]->5<=id∧id<O1.length∧O1[id]?=some (.cells (K3 c.term.to)):=fun j id c h1 h2 h3=>by
  rcases PH j id c h1 h2 with⟨q1,q2⟩|⟨_,q2,q3⟩
  ·obtain⟨p1,p2,p3⟩:=mP j id c q1 q2 h3;exact⟨p1,by omega,p3⟩
  rw[q3]at h3 ⊢;rw[q2];obtain⟨t1,t2⟩:=ht h3;exact⟨by omega,I t2,t2⟩
 subst eZ;subst VI;exact {
  up:=by
   intro o ho;rw[List.length_set,List.length_append,List.length_singleton];rcases List.mem_or_eq_of_mem_set ho with q|q
   ·rcases List.mem_append.1 q with q|q
    ·exact ak.cu (by omega) (bC o q)
    rw[List.mem_singleton]at q;subst q;exact RU fun j id c h1 h2 h3=>by
     have:=(iw j id c h1 h2 h3).2.1;omega
   subst q;exact⟨trivial,show _<_ by omega,trivial⟩
  r0:=by rw[lA 0 (I h.r0) (by omega) (fun q=>by have:=RA q;omega)];exact h.r0
  r1:=by rw[lA 1 (I h.r1) (by omega) (fun q=>by have:=RA q;omega)];exact h.r1
  r3:=by rw[lA 3 (I h.r3) (by omega) (fun q=>by have:=RA q;omega)];exact h.r3
  out:=by
   rw[List.getElem?_set_self (by rw[List.length_append];omega)];have:LV O1.length (done++[b])=.os O1.length (done.length+1) 7:=by
    unfold LV;rw[if_neg (by simp),List.length_append];rfl
   rw[this]
  blk:=fun _=>by
   refine⟨by omega,?_⟩;rw[List.getElem?_set_ne (by omega),List.getElem?_append_right (Nat.le_refl _),Nat.sub_self];rfl
  cp:={
   li:=by rw[List.length_append,List.length_append,VY];rfl
   own:=fun j id c h1 h2 h3=>by
    obtain⟨p1,p2,p3⟩:=iw j id c h1 h2 h3;refine⟨p1,?_⟩;rw[List.getElem?_set_ne (by omega),List.getElem?_append_left p2];exact p3
   inj:=fun i j id c d h1 h2 h3 h4 h5 h6=>by
    rcases PH i id c h1 h3 with⟨p1,p2⟩|⟨p1,p2,p3⟩
    ·rcases PH j id d h2 h4 with⟨q1,q2⟩|⟨q1,q2,q3⟩
     ·exact h.cp.inj i j id c d p1 q1 p2 q2 h5 h6
     have:=(mP i id c p1 p2 h5).2.1;rw[q3]at h6;have:=(ht h6).1;omega
    rcases PH j id d h2 h4 with⟨q1,q2⟩|⟨q1,q2,q3⟩
    ·have:=(mP j id d q1 q2 h6).2.1;rw[p3]at h5;have:=(ht h5).1;omega
    omega }
  ne:=fun j id c h1 h2 h3=>by
   have:=(iw j id c h1 h2 h3).2.1;omega }
structure QM(O:List ak)(cs:List ae)(n:Nat)(O2:List ak):Prop where
 len:O2.length=O.length+2
 up:∀o∈O2,o.upto O2.length
 je:∀k,k<O.length->O2[k]?=O[k]?
 cell:O2[O.length]?=some (.cells cs)
 sp:O2[O.length+1]?=some (.spare n)
theorem QM.start{O:List ak}(bC:∀o∈O,o.upto O.length){cs:List ae}(eZ:aw (O.length+2) cs):QM O cs 0 (O++[.cells cs,.spare 0]) where
 len:=by simp
 up:=fun o ho=>by
  rw[List.length_append];rcases List.mem_append.1 ho with q|q
  ·exact ak.cu (by omega) (bC o q)
  simp only[List.mem_cons,List.not_mem_nil,or_false]at q;rcases q with rfl|rfl
  ·exact eZ
  trivial
 je:=fun k hk=>by rw[List.getElem?_append_left hk]
 cell:=by
  rw[List.getElem?_append_right (Nat.le_refl _),Nat.sub_self];rfl
 sp:=by
  rw[List.getElem?_append_right (by omega),show O.length+1-O.length=1 by omega];rfl
theorem QM.one{O:List ak}{cs:List ae}{n:Nat}{O2:List ak}(h:QM O cs n O2){cs':List ae}(eZ:aw (O.length+2) cs'):QM O cs' n (O2.set O.length (.cells cs')) where
 len:=by rw[List.length_set,h.len]
 up:=by
  rw[List.length_set];exact bF h.up (by rw[h.len];exact eZ)
 je:=fun k hk=>by rw[List.getElem?_set_ne (by omega),h.je k hk]
 cell:=by rw[List.getElem?_set_self (by rw[h.len];omega)]
 sp:=by rw[List.getElem?_set_ne (by omega),h.sp]
theorem QM.room{O:List ak}{cs:List ae}{n:Nat}{O2:List ak}(h:QM O cs n O2)(m:Nat):QM O cs m (O2.set (O.length+1) (.spare m)) where
 len:=by rw[List.length_set,h.len]
 up:=by
  rw[List.length_set];exact bF h.up trivial
 je:=fun k hk=>by rw[List.getElem?_set_ne (by omega),h.je k hk]
 cell:=by rw[List.getElem?_set_ne (by omega),h.cell]
 sp:=by rw[List.getElem?_set_self (by rw[h.len];omega)]
structure RP(O:List ak)(cs:ae->List ae)(tid:Nat)(es:List Edge)(O3:List ak):Prop where
 len:O.length+2<=O3.length
 up:∀o∈O3,o.upto O3.length
 je:∀k,k<O.length->O3[k]?=O[k]?
 cell:O3[O.length]?=some (.cells (cs (LY tid es)))
 own:es≠[]->O.length+2<=tid∧O3[tid]?=some (.cells (K3 es))
theorem RP.start{O:List ak}{cs:ae->List ae}{n:Nat}{O2:List ak}(h:QM O (cs (.aE 2 [] .ex)) n O2):RP O cs 0 [] O2 where
 len:=by rw[h.len];omega
 up:=h.up
 je:=h.je
 cell:=h.cell
 own:=fun q=>absurd rfl q
theorem RP.push{O:List ak}{cs:ae->List ae}{tid:Nat}{es:List Edge}{O3 O4:List ak}(h:RP O cs tid es O3)(e:Edge)(eZ:∀v n,v.upto n->O.length+2<=n->aw n (cs v))(hlen:O4.length=O3.length)(bC:∀o∈O4,o.upto O3.length)
  (fo:∀k,(es≠[]->k≠tid)->O4[k]?=O3[k]?) {c a:List ae} (hc:c=K3 (es++[e])) (ha:a=cs (.os O3.length (es.length+1) 2)):RP O cs O3.length (es++[e]) ((O4++[ak.cells c]).set O.length (.cells a)):=by
 have hl:=h.len;have hx:LY O3.length (es++[e])=.os O3.length (es.length+1) 2:=by
  unfold LY;rw[if_neg (by simp),List.length_append];rfl
 subst hc;subst ha;exact {
  len:=by rw[List.length_set,List.length_append,hlen];omega
  up:=by
   intro o ho;rw[List.length_set,List.length_append,List.length_singleton,hlen];rcases List.mem_or_eq_of_mem_set ho with q|q
   ·rcases List.mem_append.1 q with q|q
    ·exact ak.cu (by omega) (bC o q)
    rw[List.mem_singleton]at q;subst q;exact Qb _ _
   subst q;exact eZ _ _ (show O3.length<O3.length+1 by omega) (by omega)
  je:=fun k hk=>by
   rw[List.getElem?_set_ne (by omega),List.getElem?_append_left (by omega),fo k (fun q=>by have:=(h.own q).1;omega),h.je k hk]
  cell:=by
   rw[List.getElem?_set_self (by rw[List.length_append];omega),hx]
  own:=fun _=>by
   refine⟨by omega,?_⟩;rw[List.getElem?_set_ne (by omega),List.getElem?_append_right (by omega),hlen,Nat.sub_self];rfl }
def WK(f:Func)(r:ae)(O:List ak):Prop:=∃(ids:List Nat) (bW:Nat),r=.agg [aI f.name,.os bW f.blocks.length 7]∧(∀o∈O,o.upto O.length)∧O[0]?=some .gone∧O[1]?=some (.cells [aI 0,.aE 7 [] .ex]) ∧
 (5<=bW∧O[bW]?=some (.cells (KL ids f.blocks)))∧Vd 5 ids f.blocks O∧∀(j id:Nat) (b:Block),ids[j]?=some id->f.blocks[j]?=some b->b.term.to≠[]->id≠bW
theorem MO(f:Func):TA f [] 0 [] [.gone,.cells [aI 0,.aE 7 [] .ex],.gone,.cells [aI 0,.aE 7 [] .ex],.cells [aI f.name,.aE 7 [] .ex]] where
 up:=fun o ho=>by
  simp only[List.mem_cons,List.not_mem_nil,or_false]at ho;rcases ho with rfl|rfl|rfl|rfl|rfl
  ·trivial
  ·exact⟨trivial,⟨trivial,trivial⟩,trivial⟩
  ·trivial
  ·exact⟨trivial,⟨trivial,trivial⟩,trivial⟩
  exact⟨trivial,⟨trivial,trivial⟩,trivial⟩
 r0:=rfl
 r1:=rfl
 r3:=rfl
 out:=rfl
 blk:=fun q=>absurd rfl q
 cp:=⟨rfl,fun j id b h=>by simp at h,fun i j id b c h=>by simp at h⟩
 ne:=fun j id b h=>by simp at h
theorem TA.done{f:Func}{bW:Nat}{ids:List Nat}{O:List ak}(h:TA f f.blocks bW ids O)(cj:f.blocks≠[]){cs:List ae}(eZ:aw O.length cs):WK f (.agg [aI f.name,.os bW f.blocks.length 7]) (O.set 3 (.cells cs)):=by
 obtain⟨b1,b2⟩:=h.blk cj;refine⟨ids,bW,rfl,?_,?_,?_,⟨b1,?_⟩,⟨h.cp.li,fun j id b q1 q2 q3=>?_,h.cp.inj⟩,h.ne⟩
 ·rw[List.length_set];exact bF h.up eZ
 ·rw[List.getElem?_set_ne (by omega)];exact h.r0
 ·rw[List.getElem?_set_ne (by omega)];exact h.r1
 ·rw[List.getElem?_set_ne (by omega)];exact b2
 obtain⟨o1,o2⟩:=h.cp.own j id b q1 q2 q3;exact⟨o1,by rw[List.getElem?_set_ne (by omega)];exact o2⟩






def L'(f:Func)(k:Int):List Int:=(Ls f)[k.toNat]?.getD []

end Go.Proofs.Ytkhnjeblbiocaaa
namespace Go.Proofs.Ytkhnjeblbiocaaa
open Go.Av Go.Sort

end Go.Proofs.Ytkhnjeblbiocaaa
namespace Go.Proofs.Ytkhnjeblbiocaaa
open Go.Av

end Go.Proofs.Ytkhnjeblbiocaaa
namespace Go.Av
theorem N2{P:Program}{kb:Nat}{c:Code}{Q:dR->St->Prop}{n:Nat}{ba:List (Nat×ae)}{A:Nat}{C:Nat->List ae}{N M:Nat}(pos:Nat->Nat)
  (dz:∀i,∀d∈C i,d.scalar) (hl:∀i,(C i).length=M) (F:Nat->List ak->Prop)
  (hF:∀i O,i<N->O[A]?=some (.cells (C i))->F i O->(C (i+1)=C i∧F (i+1) O) ∨
   ∃id o x y,id≠A∧O[id]?=some o∧¬o.aF∧o.live∧(C i)[pos i]?=some x∧(C (i+1))=(C i).set (pos i) y∧cw O id x y∧F (i+1) ((O.set id .gone).set A (.cells (C (i+1))))) :
  ∀(m i:Nat) (O:List ak),i+m=N->O[A]?=some (.cells (C i))->F i O->(∀O',O'.length=O.length->O'[A]?=some (.cells (C N))->F N O'->cc P kb c Q ⟨n,ba,O'⟩)->cc P kb c Q ⟨n,ba,O⟩
 | 0,i,O,hi,hA,hf,h=>by
  have:i=N:=by omega
  subst this;exact h O rfl hA hf
 | m+1,i,O,hi,hA,hf,h=>by
  rcases hF i O (by omega) hA hf with⟨e,fg⟩|⟨id,o,x,y,h1,h2,h3,h4,h5,h6,h7,fg⟩
  ·exact N2 pos dz hl F hF m (i+1) O (by omega) (by rw[e];exact hA) fg h
  have yS:=I hA;refine kh id h2 h3 h4 ba (fun s z hz=>⟨z,hz,.refl z⟩) A (Ne.symm h1) (C i) (C (i+1)) hA (by rw[hl,hl]) (dz (i+1)) (fun j a b ha hb=>?_) (N2 pos dz hl F hF m (i+1) _ (by omega) (by rw[List.getElem?_set_self (by rw[List.length_set];exact yS)]) fg fun O' Ep=>h O' (by rw[Ep,List.length_set,List.length_set]));rw[h6,List.getElem?_set]at hb;split at hb
  ·rename_i e;rw[<-e,h5]at ha;rw[if_pos (I h5)]at hb;simp only[Option.some.injEq]at ha hb;subst ha;subst hb;exact h7
  rw[ha]at hb;simp only[Option.some.injEq]at hb;subst hb;exact .refl _
end Go.Av
namespace Go.Proofs.Ytkhnjeblbiocaaa
open Go.Av
theorem MQ(a b:List Edge):K3 (a++b)=K3 a++K3 b:=by simp[K3]
theorem UE{es:List Edge}{n:Nat}{e:Edge}(h:es[n]?=some e):(K3 es)[n*2]?=some (aI e.block)∧(K3 es)[n*2+1]?=some (a6 e.args):=by
 have hl:=I h;have e1:es=es.take n++e::es.drop (n+1):=by
  rw[<-bS h,List.take_append_drop]
 have hlen:(K3 (es.take n)).length=n*2:=by rw[Lv,List.length_take];omega
 have e2:K3 es=K3 (es.take n)++(aI e.block::a6 e.args::K3 (es.drop (n+1))):=by
  conv=>lhs;rw[e1]
  rw[MQ];rfl
 rw[e2];refine⟨?_,?_⟩
 ·rw[List.getElem?_append_right (by omega),hlen,Nat.sub_self];rfl
 rw[List.getElem?_append_right (by omega),hlen,show n*2+1-n*2=1 by omega];rfl
theorem Rt:∀{ids:List Nat} {bs:List Block} {k id:Nat} {b:Block},ids[k]?=some id->bs[k]?=some b->((KL ids bs).drop (k*7)).take 7=No id b
 | i::ids,c::bs,0,id,b,h1,h2=>by
  simp only[List.getElem?_cons_zero,Option.some.injEq]at h1 h2;subst h1;subst h2;rfl
 | i::ids,c::bs,k+1,id,b,h1,h2=>by
  have ih:=Rt (ids:=ids) (bs:=bs) (k:=k) (by simpa using h1) (by simpa using h2);have e:KL (i::ids) (c::bs)=No i c++KL ids bs:=rfl;have hl:(No i c).length=7:=rfl;rw[e,List.drop_append,List.drop_of_length_le (by rw[hl];omega),hl,List.nil_append,show(k+1)*7-7=k*7 by omega];exact ih
 | [],_,k,id,b,h1,_=>by simp at h1
 | i::ids,[],k,id,b,_,h2=>by simp at h2
def LX:Nat->List Nat->List Block->List ae
 | 0,ids,bs=>KL ids bs
 | i+1,_::ids,b::bs=>b.enc.cells++LX i ids bs
 | _+1,_,_=>[]
theorem Qt:∀(i:Nat) {ids:List Nat} {bs:List Block},ids.length=bs.length->(LX i ids bs).length=bs.length*7
 | 0,ids,bs,h=>LZ h
 | i+1,_::ids,b::bs,h=>by
  have hb:b.enc.cells.length=7:=rfl;rw[LX,List.length_append,Qt i (by simpa using h),hb,List.length_cons];omega
 | i+1,[],[],_=>rfl
 | i+1,[],b::bs,h=>by simp at h
 | i+1,x::ids,[],h=>by simp at h
theorem QP(id:Nat)(b:Block):∀d∈No id b,d.scalar:=fun d hd=>by
 simp only[No,List.mem_cons,List.not_mem_nil,or_false]at hd;rcases hd with rfl|rfl|rfl|rfl|rfl|rfl|rfl
 ·trivial
 ·trivial
 ·trivial
 ·trivial
 ·trivial
 ·trivial
 unfold Mp;split<;>trivial
theorem NQ:∀(i:Nat) (ids:List Nat) (bs:List Block),∀d∈LX i ids bs,d.scalar
 | 0,ids,bs=>fun d hd=>by
  unfold LX KL at hd;obtain⟨l,hl,hd⟩:=List.mem_flatten.1 hd;obtain⟨j,hj⟩:=List.mem_iff_getElem?.1 hl;rw[List.getElem?_zipWith]at hj;cases h1:ids[j]? with
  | none=>rw[h1]at hj;cases hj
  | some id =>
   cases h2:bs[j]? with
   | none=>rw[h1,h2]at hj;cases hj
   | some b =>
    rw[h1,h2]at hj;simp only[Option.some.injEq]at hj;subst hj;exact QP id b d hd
 | i+1,x::ids,b::bs=>fun d hd=>by
  rw[LX]at hd;rcases List.mem_append.1 hd with q|q
  ·simp only[Block.enc,ae.cells,List.mem_cons,List.not_mem_nil,or_false]at q;rcases q with rfl|rfl|rfl|rfl|rfl|rfl|rfl<;>trivial
  exact NQ i ids bs d q
 | i+1,[],[]=>fun d hd=>by cases hd
 | i+1,[],b::bs=>fun d hd=>by cases hd
 | i+1,x::ids,[]=>fun d hd=>by cases hd
theorem RJ:∀(i:Nat) {ids:List Nat} {bs:List Block} {id:Nat} {b:Block},ids[i]?=some id->bs[i]?=some b ->
  (LX i ids bs)[i*7+6]?=some (Mp id b.term.to)∧LX (i+1) ids bs=(LX i ids bs).set (i*7+6) (aJ b.term.to)
 | 0,x::ids,c::bs,id,b,h1,h2=>by
  simp only[List.getElem?_cons_zero,Option.some.injEq]at h1 h2;subst h1;subst h2;exact⟨rfl,rfl⟩
 | i+1,x::ids,c::bs,id,b,h1,h2=>by
  obtain⟨i1,i2⟩:=RJ i (ids:=ids) (bs:=bs) (id:=id) (b:=b) (by simpa using h1) (by simpa using h2);have hb:c.enc.cells.length=7:=rfl;have e:LX (i+1) (x::ids) (c::bs)=c.enc.cells++LX i ids bs:=rfl;have e2:LX (i+1+1) (x::ids) (c::bs)=c.enc.cells++LX (i+1) ids bs:=rfl;rw[e,e2,i2];refine⟨?_,?_⟩
  ·rw[List.getElem?_append_right (by omega),hb,show(i+1)*7+6-7=i*7+6 by omega];exact i1
  rw[List.set_append_right _ _ (by omega),hb,show(i+1)*7+6-7=i*7+6 by omega]
 | 0,[],_,id,b,h1,_=>by simp at h1
 | 0,_::_,[],id,b,_,h2=>by simp at h2
 | i+1,[],_,id,b,h1,_=>by simp at h1
 | i+1,_::_,[],id,b,_,h2=>by simp at h2
theorem Qs:∀{ids:List Nat} {bs:List Block},ids.length=bs.length->LX bs.length ids bs=ao (bs.map Block.enc)
 | [],[],_=>rfl
 | x::ids,b::bs,h=>by
  have e:ao ((b::bs).map Block.enc)=b.enc.cells++ao (bs.map Block.enc):=rfl;rw[e,<-Qs (ids:=ids) (by simpa using h)];rfl
 | [],b::bs,h=>by simp at h
 | x::ids,[],h=>by simp at h
theorem Pz(bs:List Block):(ao (bs.map Block.enc)).map ae.bk=ao (bs.map Block.enc):=by
 induction bs with
 | nil=>rfl
 | cons b r ih =>
  have e:ao ((b::r).map Block.enc)=b.enc.cells++ao (r.map Block.enc):=rfl;rw[e,List.map_append,ih];rfl
def KF(x:Edge):Block:=⟨[],[],⟨1,0,0,[],[x]⟩⟩
def KI(b:Block)(es:List Edge):Block:=⟨b.params,b.ins,⟨b.term.kind,b.term.arg,b.term.n,b.term.cases,es⟩⟩
structure Sp where
 tos:List (List Edge)
 news:List Block
def LO(f:Func)(k:Nat)(x:Edge):Bool:=decide (2<=(aD f (k:Int)).term.to.length)&&decide (2<=(L' f x.block).length)
def LG(f:Func)(k n:Nat)(S:Sp):Sp :=
 match (L5 f (k:Int))[n]? with
 | none=>S
 | some x=>if LO f k x then⟨S.tos.set k ((S.tos[k]?.getD []).set n ⟨((f.blocks.length+S.news.length:Nat):Int),[]⟩),S.news++[KF x]⟩else S
def Up(f:Func)(k:Nat):Nat->Nat->Sp->Sp
 | 0,_,S=>S
 | m+1,n,S=>Up f k m (n+1) (LG f k n S)
def U'(f:Func):Nat->Nat->Sp->Sp
 | 0,_,S=>S
 | m+1,k,S=>U' f m (k+1) (Up f k (L5 f (k:Int)).length 0 S)
def PW(f:Func):Sp:=⟨f.blocks.map fun b=>b.term.to,[]⟩
def LC(f:Func):Sp:=U' f f.blocks.length 0 (PW f)
def KD(f:Func):Func:=⟨f.name,List.zipWith KI f.blocks (LC f).tos++(LC f).news⟩
structure Vx(f:Func)(S:Sp):Prop where
 len:S.tos.length=f.blocks.length
 each:∀(k:Nat) b l,f.blocks[k]?=some b->S.tos[k]?=some l->l.length=b.term.to.length
theorem Us(f:Func):Vx f (PW f):=⟨by simp[PW],fun k b l h1 h2=>by
 unfold PW at h2;simp only[List.getElem?_map,h1,Option.map_some,Option.some.injEq]at h2;rw[<-h2]⟩
theorem Tq{f:Func}{k n:Nat}{S:Sp}(h:Vx f S):Vx f (LG f k n S):=by
 unfold LG;split
 ·exact h
 split
 ·refine⟨by rw[List.length_set];exact h.len,fun j b l h1 h2=>?_⟩;simp only at h2;rw[List.getElem?_set]at h2;split at h2
  ·rename_i e;subst e;split at h2
   ·simp only[Option.some.injEq]at h2;rename_i hk;obtain⟨m,hm⟩:∃m,S.tos[k]?=some m:=⟨_,List.getElem?_eq_getElem hk⟩
    rw[<-h2,List.length_set,hm,Option.getD_some];exact h.each k b m h1 hm
   cases h2
  exact h.each j b l h1 h2
 exact h
structure SC(f:Func)(ids:List Nat)(X:Nat)(S:Sp)(bW:Nat)(O:List ak):Prop where
 up:∀o∈O,o.upto O.length
 r1:O[1]?=some (.cells [aI 0,.aE 7 [] .ex])
 x5:5<=X
 xb:bW≠X
 out:O[X]?=some (.cells [aI f.name,.os bW (f.blocks.length+S.news.length) 7])
 bl:5<=bW∧O[bW]?=some (.cells (KL ids f.blocks++ao (S.news.map Block.enc)))
 li:ids.length=f.blocks.length
 w:Vx f S
 own:∀(j id:Nat) (b:Block) (l:List Edge),ids[j]?=some id->f.blocks[j]?=some b->S.tos[j]?=some l->b.term.to≠[]->5<=id∧id≠bW∧id≠X∧O[id]?=some (.cells (K3 l))
 inj:∀(i j id:Nat) (b c:Block),ids[i]?=some id->ids[j]?=some id->f.blocks[i]?=some b->f.blocks[j]?=some c->b.term.to≠[]->c.term.to≠[]->i=j
theorem SC.start{f:Func}{ids:List Nat}{bW:Nat}{O:List ak}(bC:∀o∈O,o.upto O.length)(h1:O[1]?=some (.cells [aI 0,.aE 7 [] .ex]))(hb:5<=bW∧O[bW]?=some (.cells (KL ids f.blocks)))(hc:Vd 5 ids f.blocks O)
  (cj:∀(j id:Nat) (b:Block),ids[j]?=some id->f.blocks[j]?=some b->b.term.to≠[]->id≠bW):SC f ids O.length (PW f) bW (O++[ak.cells [aI f.name,.os bW f.blocks.length 7]]) where
 up:=fun o ho=>by
  have iI:=I hb.2;rw[List.length_append,List.length_singleton];rcases List.mem_append.1 ho with q|q
  ·exact ak.cu (by omega) (bC o q)
  rw[List.mem_singleton]at q;subst q;exact⟨trivial,show _<_ by omega,trivial⟩
 r1:=bJ h1
 x5:=by
  have:=I hb.2;omega
 xb:=by
  have:=I hb.2;omega
 out:=gF _ _
 bl:=⟨hb.1,by
  have h2:=bJ (X:=[ak.cells [aI f.name,.os bW f.blocks.length 7]]) hb.2;have e:KL ids f.blocks++ao ((PW f).news.map Block.enc)=KL ids f.blocks:=List.append_nil _;rw[e];exact h2⟩
 li:=hc.li
 w:=Us f
 own:=fun j id b l q1 q2 q3 q4=>by
  obtain⟨o1,o2⟩:=hc.own j id b q1 q2 q4;have:=I o2;unfold PW at q3;simp only[List.getElem?_map,q2,Option.map_some,Option.some.injEq]at q3;rw[<-q3];exact⟨o1,cj j id b q1 q2 q4,by omega,bJ o2⟩
 inj:=hc.inj
theorem SC.QW{f:Func}{ids:List Nat}{X:Nat}{S:Sp}{bW:Nat}{O:List ak}(h:SC f ids X S bW O){k id:Nat}{b:Block}{l m:List Edge}(fA:ids[k]?=some id)(hb:f.blocks[k]?=some b)(hl:S.tos[k]?=some l)(cj:b.term.to≠[])(hm:m.length=l.length) :
  SC f ids X ⟨S.tos.set k m,S.news⟩ bW (O.set id (.cells (K3 m))):=by
 obtain⟨o1,o2,o3,o4⟩:=h.own k id b l fA hb hl cj;have sP:=I o4;have uL:=h.x5;have RA:=h.bl.1;exact {
  up:=by
   rw[List.length_set];exact bF h.up (show ak.upto O.length (.cells (K3 m)) from Qb _ _)
  r1:=by rw[List.getElem?_set_ne (by omega)];exact h.r1
  x5:=h.x5
  xb:=h.xb
  out:=by rw[List.getElem?_set_ne o3];exact h.out
  bl:=⟨h.bl.1,by rw[List.getElem?_set_ne o2];exact h.bl.2⟩
  li:=h.li
  w:=⟨by rw[List.length_set];exact h.w.len,fun j c x h1 h2=>by
   simp only at h2;rw[List.getElem?_set]at h2;split at h2
   ·rename_i e;subst e;split at h2
    ·simp only[Option.some.injEq]at h2;rw[hb]at h1;simp only[Option.some.injEq]at h1;rw[<-h2,<-h1,hm];exact h.w.each k b l hb hl
    cases h2
   exact h.w.each j c x h1 h2⟩
  own:=fun j z c x h1 h2 h3 h4=>by
   simp only at h3;rw[List.getElem?_set]at h3;by_cases e:k=j
   ·subst e;rw[fA]at h1;simp only[Option.some.injEq]at h1;subst h1;rw[if_pos rfl]at h3;split at h3
    ·simp only[Option.some.injEq]at h3;subst h3;exact⟨o1,o2,o3,List.getElem?_set_self sP⟩
    cases h3
   rw[if_neg e]at h3;obtain⟨p1,p2,p3,p4⟩:=h.own j z c x h1 h2 h3 h4;refine⟨p1,p2,p3,?_⟩;rw[List.getElem?_set_ne (fun q=>?_)]
   ·exact p4
   subst q;exact e (h.inj k j id b c fA h1 hb h2 cj h4)
  inj:=h.inj }
theorem SC.block{f:Func}{ids:List Nat}{X:Nat}{S:Sp}{bW:Nat}{O:List ak}(h:SC f ids X S bW O)(c:Block){cs ar:List ae}(eZ:cs=(KL ids f.blocks++ao (S.news.map Block.enc))++c.enc.cells)(VI:ar=[aI f.name,.os O.length (f.blocks.length+S.news.length+1) 7]) :
  SC f ids X ⟨S.tos,S.news++[c]⟩ O.length ((O.set bW .gone++[ak.cells cs]).set X (.cells ar)):=by
 have Ul:=I h.out;have iI:=I h.bl.2;have uL:=h.x5;have RA:=h.bl.1;have X':=h.xb;have lA:∀j,j<O.length->j≠X->j≠bW->((O.set bW .gone++[ak.cells cs]).set X (.cells ar))[j]?=O[j]?:=fun j hj h1 h2=>by
  rw[List.getElem?_set_ne (Ne.symm h1),List.getElem?_append_left (by rw[List.length_set];omega),List.getElem?_set_ne (Ne.symm h2)]
 have rZ:ao ((S.news++[c]).map Block.enc)=ao (S.news.map Block.enc)++c.enc.cells:=by
  rw[List.map_append];simp[ao]
 subst VI;exact {
  up:=by
   intro o ho;rw[List.length_set,List.length_append,List.length_set,List.length_singleton];rcases List.mem_or_eq_of_mem_set ho with q|q
   ·rcases List.mem_append.1 q with q|q
    ·rcases List.mem_or_eq_of_mem_set q with q|q
     ·exact ak.cu (by omega) (h.up o q)
     subst q;trivial
    rw[List.mem_singleton]at q;subst q;subst eZ;show aw _ _;have h1:=h.up _ (List.mem_of_getElem? h.bl.2);have h2:aw O.length (KL ids f.blocks++ao (S.news.map Block.enc)):=h1;rw[aY]at h2 ⊢;intro x hx;rcases List.mem_append.1 hx with q|q
    ·exact ae.cu (by omega) x (h2 x q)
    have h3:=Block.aN (O.length+1) c;have h4:aw (O.length+1) c.enc.cells:=h3;exact aY.1 h4 x q
   subst q;exact⟨trivial,show _<_ by omega,trivial⟩
  r1:=by rw[lA 1 (I h.r1) (by omega) (by omega)];exact h.r1
  x5:=h.x5
  xb:=by omega
  out:=by
   rw[List.getElem?_set_self (by rw[List.length_append,List.length_set];omega),List.length_append];rfl
  bl:=⟨by omega,by
   rw[List.getElem?_set_ne (by omega),List.getElem?_append_right (by rw[List.length_set];omega),List.length_set,Nat.sub_self,rZ,<-List.append_assoc,<-eZ];rfl⟩
  li:=h.li
  w:=⟨h.w.len,h.w.each⟩
  own:=fun j z b l h1 h2 h3 h4=>by
   obtain⟨p1,p2,p3,p4⟩:=h.own j z b l h1 h2 h3 h4;have:=I p4;exact⟨p1,by omega,p3,by rw[lA z this p3 p2];exact p4⟩
  inj:=h.inj }
theorem L7(bs:List Block):(ao (bs.map Block.enc)).length=bs.length*7:=by
 induction bs with
 | nil=>rfl
 | cons b r ih =>
  have e:ao ((b::r).map Block.enc)=b.enc.cells++ao (r.map Block.enc):=rfl;have hb:b.enc.cells.length=7:=rfl;rw[e,List.length_append,ih,hb,List.length_cons];omega
theorem OI(bs:List Block):∀d∈ao (bs.map Block.enc),d.scalar:=by
 induction bs with
 | nil=>intro d hd;cases hd
 | cons b r ih =>
  intro d hd;have e:ao ((b::r).map Block.enc)=b.enc.cells++ao (r.map Block.enc):=rfl;rw[e]at hd;rcases List.mem_append.1 hd with q|q
  ·simp only[Block.enc,ae.cells,List.mem_cons,List.not_mem_nil,or_false]at q;rcases q with rfl|rfl|rfl|rfl|rfl|rfl|rfl<;>trivial
  exact ih d q
theorem ND{P:Program}{kb:Nat}{c:Code}{Q:dR->St->Prop}{n:Nat}{ba:List (Nat×ae)}{O:List ak}{ids:List Nat}{bs T:List Block}{X oid:Nat}{name:Int}
  (hl:ids.length=bs.length) (hX:oid≠X) (Ld:O[X]?=some (.cells [aI name,.os oid (bs.length+T.length) 7])) (Xp:O[oid]?=some (.cells (KL ids bs++ao (T.map Block.enc))))
  (iw:∀(j id:Nat) (b:Block),ids[j]?=some id->bs[j]?=some b->b.term.to≠[]->id≠oid∧id≠X∧O[id]?=some (.cells (K3 b.term.to)))
  (S5:∀(i j id:Nat) (b d:Block),ids[i]?=some id->ids[j]?=some id->bs[i]?=some b->bs[j]?=some d->b.term.to≠[]->d.term.to≠[]->i=j)
  (h:∀O',O'.length=O.length->O'[X]?=some (.cells [aI name,ay (bs++T)])->cc P kb c Q ⟨n,ba,O'⟩):cc P kb c Q ⟨n,ba,O⟩:=by
 have hT:=L7 T;refine N2 (A:=oid) (C:=fun i=>LX i ids bs++ao (T.map Block.enc)) (N:=bs.length) (M:=bs.length*7+T.length*7) (fun i=>i*7+6) (fun i d hd=>by
   rcases List.mem_append.1 hd with q|q
   ·exact NQ i ids bs d q
   exact OI T d q) (fun i=>by rw[List.length_append,Qt i hl,hT])
  (fun i O=>O[X]?=some (.cells [aI name,.os oid (bs.length+T.length) 7])∧∀(j id:Nat) (b:Block),i<=j->ids[j]?=some id->bs[j]?=some b->b.term.to≠[]->id≠oid∧id≠X∧O[id]?=some (.cells (K3 b.term.to)))
  (fun i O hi hA hf=>?_) bs.length 0 O (by omega) Xp ⟨Ld,fun j id b _=>iw j id b⟩ (fun O1 dW hA hf=>?_)
 ·have fA:ids[i]?=some (ids[i]'(by omega)):=List.getElem?_eq_getElem _;have hb:bs[i]?=some (bs[i]'hi):=List.getElem?_eq_getElem _;generalize ids[i]'(by omega)=id at fA;generalize bs[i]'hi=b at hb;obtain⟨m1,m2⟩:=RJ i fA hb;have uF:=I m1;by_cases ht:b.term.to=[]
  ·refine .inl ⟨?_,hf.1,fun j id b nP=>hf.2 j id b (by omega)⟩;have he:aJ b.term.to=Mp id b.term.to:=by
    rw[ht];rfl
   show LX (i+1) ids bs++_=LX i ids bs++_;rw[m2,he];congr 1;apply List.ext_getElem?;intro j;rw[List.getElem?_set];split
   ·rename_i e
    first|rw[<-e,m1]|rw[<-e,if_pos (I m1),m1]
   rfl
  obtain⟨o1,o2,o3⟩:=hf.2 i id b (Nat.le_refl _) fA hb ht;refine .inr ⟨id,.cells (K3 b.term.to),.os id b.term.to.length 2,aJ b.term.to,o1,o3,by simp[ak.aF],trivial,?_,?_,cw.os (cs:=K3 b.term.to) o3 (fun x hx=>by obtain⟨e,_,rfl⟩:=List.mem_map.1 hx;rfl) (by simp) (by rw[List.drop_zero,List.take_of_length_le (by rw[Lv];omega)];exact R2 _),?_,fun j kD b' nP h1 h2 h3=>?_⟩
  ·show(LX i ids bs++_)[i*7+6]?=_;rw[List.getElem?_append_left uF,m1];exact congrArg some (if_neg ht)
  ·show LX (i+1) ids bs++_=(LX i ids bs++_).set (i*7+6) _;rw[m2,List.set_append_left _ _ uF]
  ·rw[List.getElem?_set_ne (fun e=>hX e),List.getElem?_set_ne (fun e=>o2 e)];exact hf.1
  obtain⟨p1,p2,p3⟩:=hf.2 j kD b' (by omega) h1 h2 h3;refine⟨p1,p2,?_⟩;rw[List.getElem?_set_ne (fun e=>p1 e.symm),List.getElem?_set_ne (fun e=>?_)]
  ·exact p3
  subst e;have:=S5 i j id b b' fA h1 hb h2 ht h3;omega
 have cM:LX bs.length ids bs++ao (T.map Block.enc)=ao ((bs++T).map Block.enc):=by
  rw[Qs hl,List.map_append];simp[ao]
 rw[cM]at hA;refine kh oid hA (by simp[ak.aF]) trivial ba (fun s z hz=>⟨z,hz,.refl z⟩) X (Ne.symm hX) [aI name,.os oid (bs.length+T.length) 7] [aI name,ay (bs++T)] hf.1 rfl (fun d hd=>?_) (fun j a d ha hd=>?_) (h _ (by rw[List.length_set,List.length_set,dW]) ?_)
 ·simp only[List.mem_cons,List.not_mem_nil,or_false]at hd;rcases hd with rfl|rfl<;>trivial
 ·match j,ha,hd with
  | 0,ha,hd =>
   simp only[List.getElem?_cons_zero,Option.some.injEq]at ha hd;subst ha;subst hd;exact .refl _
  | 1,ha,hd =>
   simp only[List.getElem?_cons_succ,List.getElem?_cons_zero,Option.some.injEq]at ha hd;subst ha;subst hd;refine cw.os hA (fun x hx=>?_) (by simp) ?_
   ·obtain⟨b,_,rfl⟩:=List.mem_map.1 hx;rfl
   have uF:=L7 (bs++T);rw[List.length_append]at uF;rw[List.drop_zero,List.take_of_length_le (by omega)];exact Pz (bs++T)
  | j+2,ha,hd=>simp at ha
 rw[List.getElem?_set_self (by rw[List.length_set];exact I hf.1)]
theorem TG{ids:List Nat}{bs:List Block}{T:List ae}{k id:Nat}{b:Block}(h1:ids[k]?=some id)(h2:bs[k]?=some b):(KL ids bs++T)[k*7+6]?=some (Mp id b.term.to):=by
 have h3:=Rt h1 h2;have h4:(((KL ids bs).drop (k*7)).take 7)[6]?=some (Mp id b.term.to):=by
  rw[h3];rfl
 rw[List.getElem?_take,if_pos (by omega),List.getElem?_drop]at h4;rw[List.getElem?_append_left (I h4)];exact h4
theorem TE(id:Nat)(b:Block)(l:List Edge)(h:l.length=b.term.to.length):No id (KI b l)=No id b:=by
 unfold No KI Mp;simp only;by_cases q:b.term.to=[]
 ·rw[if_pos q,if_pos (by rw[q]at h;exact List.length_eq_zero_iff.1 h)]
 rw[if_neg q,if_neg (fun r=>q (by rw[r]at h;exact List.length_eq_zero_iff.1 h.symm)),h]
theorem P3:∀{ids:List Nat} {bs:List Block} {tos:List (List Edge)},tos.length=bs.length->(∀(k:Nat) b l,bs[k]?=some b->tos[k]?=some l->l.length=b.term.to.length)->KL ids (List.zipWith KI bs tos)=KL ids bs
 | [],_,_,_,_=>by simp[KL]
 | _::_,[],[],_,_=>rfl
 | i::ids,b::bs,l::tos,h,hl=>by
  have e1:KL (i::ids) (List.zipWith KI (b::bs) (l::tos))=No i (KI b l)++KL ids (List.zipWith KI bs tos):=rfl;have e2:KL (i::ids) (b::bs)=No i b++KL ids bs:=rfl;rw[e1,e2,TE i b l (hl 0 b l rfl rfl),P3 (by simpa using h) fun k b l h1 h2=>hl (k+1) b l (by simpa using h1) (by simpa using h2)]
 | _::_,[],_::_,h,_=>by simp at h
 | _::_,_::_,[],h,_=>by simp at h
theorem Rz{es:List Edge}{n:Nat}{e:Edge}(h:es[n]?=some e):((K3 es).drop (n*2)).take 2=[aI e.block,a6 e.args]:=by
 obtain⟨h1,h2⟩:=UE h;have hl:=I h2;apply List.ext_getElem?;intro i;rw[List.getElem?_take];by_cases h0:i=0
 ·subst h0;rw[if_pos (by omega),List.getElem?_drop,Nat.add_zero,h1];rfl
 by_cases h3:i=1
 ·subst h3;rw[if_pos (by omega),List.getElem?_drop,h2];rfl
 rw[if_neg (by omega),List.getElem?_eq_none (by simp;omega)]
theorem Ry{es:List Edge}{n:Nat}(h:n<es.length)(e:Edge):aS (K3 es) (n*2) [aI e.block,a6 e.args]=K3 (es.set n e):=by
 have hl:=Lv es;have hx:es[n]?=some es[n]:=List.getElem?_eq_getElem h;have hlen:(K3 (es.take n)).length=n*2:=by rw[Lv,List.length_take];omega
 have e1:es=es.take n++es[n]::es.drop (n+1):=by rw[<-bS hx,List.take_append_drop]
 have e2:K3 es=K3 (es.take n)++(aI es[n].block::a6 es[n].args::K3 (es.drop (n+1))):=by
  conv=>lhs;rw[e1]
  rw[MQ];rfl
 have e3:K3 (es.set n e)=K3 (es.take n)++(aI e.block::a6 e.args::K3 (es.drop (n+1))):=by
  have:es.set n e=es.take n++e::es.drop (n+1):=by
   conv=>lhs;rw[e1]
   rw[List.set_append_right _ _ (by rw[List.length_take];omega),List.length_take,show n-min n es.length=0 by omega];rfl
  rw[this,MQ];rfl
 rw[e3];apply List.ext_getElem?;intro i;rw[iG (by rw[hl];simp;omega),e2];simp only[List.length_cons,List.length_nil];by_cases h1:i<n*2
 ·rw[if_neg (by omega),List.getElem?_append_left (by omega),List.getElem?_append_left (by omega)]
 by_cases h2:i<n*2+2
 ·rw[if_pos (by omega),List.getElem?_append_right (by omega),hlen];rcases(show i=n*2∨i=n*2+1 by omega)with q|q
  ·subst q;rw[Nat.sub_self];rfl
  subst q;rw[show n*2+1-n*2=1 by omega];rfl
 rw[if_neg (by omega),List.getElem?_append_right (by omega),List.getElem?_append_right (by omega),hlen];obtain⟨j,hj⟩:∃j,i-n*2=j+2:=⟨i-n*2-2,by omega⟩
 rw[hj];rfl
theorem N'(es:List Edge):∀d∈K3 es,d.scalar:=fun d hd=>by
 simp only[K3,List.mem_flatMap]at hd;obtain⟨e,_,hd⟩:=hd;simp only[List.mem_cons,List.not_mem_nil,or_false]at hd;rcases hd with rfl|rfl<;>trivial
theorem Mb{O:List ak}{cs xs ys:List ae}{i:Nat}(hl:xs.length=ys.length)(hi:i+xs.length<=cs.length)(h:∀(j:Nat) c d,xs[j]?=some c->ys[j]?=some d->Sub O c d)(j:Nat)(c d:ae)(h1:(aS cs i xs)[j]?=some c)(h2:(aS cs i ys)[j]?=some d):Sub O c d:=by
 rw[iG hi]at h1;rw[iG (by omega)]at h2;rw[<-hl]at h2;split at h1
 ·rename_i q;rw[if_pos q]at h2;exact h _ c d h1 h2
 rename_i q;rw[if_neg q,h1]at h2;simp only[Option.some.injEq]at h2;rw[h2];exact .refl _
end Go.Proofs.Ytkhnjeblbiocaaa
namespace Go.Av
theorem N5{P:Program}{aW:eo}(hT:cb P aW){o:Oper}{σ:St}{t e:TypeId}{x y:Operand}{ti te:cr}{id h c off n d:Nat}{cs:List ae}
  (ho:o.op=.call ⟨.builtin .append,#[x,y],#[t,t]⟩) (hd:∀d,o.dst=some d->d<σ.n) (ht:aW t=some ti) (aT:ti.desc=.slice e) (he:aW e=some te) (hx:σ.ev x=some (.ms id 0 h c)) (lU:σ.objs[id]?=some (.cells cs)) (hy:σ.ev y=some (.ms id off n d))
  (iU:h+n<=c) (uC:(h+n)*te.size<=cs.length) (Cp:off+n*te.size<=cs.length) (B6:h+n<=2 ^ 62) :
  Cert P o σ (.ms id 0 (h+n) c) (.write (σ.objs.set id (.cells (aS cs (h*te.size) ((cs.drop off).take (n*te.size)))))) :=
 Cert.gu hd fun base fE a g bM hh ic=>by
  have hO:g.objs=σ.objs:=ic.resolve_left (by simp);have hg:=bM.good;have hu:=bI hT ht aT;have fJ:=hh x (by simp[ho,Op.operands,Call.operands]) _ hx;have nU:=hh y (by simp[ho,Op.operands,Call.operands]) _ hy;obtain⟨l,o1,q1,q2,q3,xy,cF,ez,cQ,eu⟩:=fJ.jL;obtain⟨l2,o2,p1,p2,p3,YO,X4,jU,XY,ey⟩:=nU.jL;rw[q1]at p1;simp only[Option.some.injEq]at p1;subst p1;obtain⟨⟨i,z,h1,h2,h3,h4,h5,h6,h7,h8,h9⟩,_⟩:=hT e te he;have gD:g.objs[id]?=some (.cells cs):=by rw[hO];exact lU
  obtain⟨arr,t',gQ,dp,hlen,eZ,jY,wq⟩:=hg.row gD q1;have cv:=cz (P:=P) ho a g.w;simp only[builtin,List.map_toArray,List.map_cons,List.map_nil]at cv;obtain⟨m,hm⟩:∃m,m=n*te.size:=⟨_,rfl⟩
  obtain⟨ys,D4⟩:∃ys,ys=(cs.drop off).take m:=⟨_,rfl⟩
  obtain⟨news,lB⟩:∃news,news=(arr.toList.drop off).take m:=⟨_,rfl⟩
  have hmul:(h+n)*te.size=h*te.size+m:=by rw[Nat.add_mul,hm]
  rw[hmul]at uC;rw[<-hm]at Cp ⊢;rw[<-D4];have yX:news.length=m:=by
   rw[lB,List.length_take,List.length_drop,Array.length_toList];omega
  have Ht:ys.length=m:=by
   rw[D4,List.length_take,List.length_drop];omega
  have Ya:gZ g ys news.toArray:=by
   refine⟨by simp[yX,Ht],fun j b u hj hu=>?_⟩;have aZ:=I hj;rw[D4,List.getElem?_take,if_pos (by omega),List.getElem?_drop]at hj;refine eZ (off+j) b u hj ?_;simp only[List.getElem?_toArray,lB]at hu;rw[List.getElem?_take,if_pos (by omega),List.getElem?_drop]at hu;simpa using hu
  have Wd:∀b∈ys,b.scalar:=fun b hb=>by
   rw[D4]at hb;exact jY b (List.mem_of_mem_drop (List.mem_of_mem_take hb))
  have Aa:(Builtin.firstCells i.size n (a.eval y)).run P g.w=.ok news.toArray g.w:=by
   rw[ey,h2];simp only[Builtin.firstCells];rw[<-hm];have:=run_loadCells (P:=P) g.w ⟨l.block,off,none⟩ m (fun j=>arr.getD (off+j) undef) (fun j hj=>by
    rw[addr_add];have:g.w.cell? ⟨l.block,off+j,none⟩=arr[off+j]?:=cell_of_row (w:=g.w) dp (off+j);rw[this];simp[Array.getD_eq_getD_getElem?,show off+j<arr.size by omega])
   rw[kn news m _ yX (fun j hj=>by
    rw[lB,List.getElem?_take,if_pos hj,List.getElem?_drop];simp[Array.getD_eq_getD_getElem?,show off+j<arr.size by omega])]at this
   exact this
  obtain⟨bZ,fb⟩:∃bZ,bZ=(arr.toList.take (h*te.size)++news++arr.toList.drop (h*te.size+news.length)).toArray:=⟨_,rfl⟩
  have dD:=run_storeCells_at P l.block (h*te.size) t' news 0 arr g.w dp (by rw[yX];omega) (fun u hu=>by
   obtain⟨j,hj⟩:=List.getElem?_of_mem hu;have aZ:=I hj;rw[yX,<-Ht]at aZ;have hc:=List.getElem?_eq_getElem aZ;exact((Ya.2 j _ u hc (by simpa using hj)).fD (Wd _ (List.mem_of_getElem? hc))).1)
  simp only[Nat.add_zero]at dD;rw[<-fb]at dD;have bz:=e9 (P:=P) g.w (g.w.setRow l.block bZ) t o.type e i hu h1 ⟨l.block,0,none⟩ h ez n (a.eval y) news (fun w=>by rw[ey];simp[Builtin.lenOf]) Aa (by omega) (by rw[addr_add,h2,Nat.zero_add];exact dD);rw[<-eu]at bz;have ec:=gV (cs':=aS cs (h*te.size) ys) gD q1 gQ bZ;have hle:=Le.br hg ec;have fQ:=gZ.aS ⟨hlen,eZ⟩ Ya (off:=h*te.size) (by rw[Ht];omega);rw[<-fb]at fQ;have aZ:=I gD;have Ab:=gN hg gD;refine⟨.slice (some ⟨l.block,0,none⟩) (h+n) ez,g.br id (some l) (.cells (aS cs (h*te.size) ys)) (g.w.setRow l.block bZ),?_,hle,Good.br hg ec ?_ ?_,?_,?_⟩
  ·refine .inl ?_;rw[cv];simp[bz,G.br]
  ·refine⟨l,bZ,t',rfl,gQ,?_,fQ.1,fun j c u a b=>(fQ.2 j c u a b).mono hle,fun c hc=>?_,?_⟩
   ·exact setRow_heap g.w l.block arr bZ t' (0,0) dp
   ·simp only[aS,List.mem_append]at hc;rcases hc with hc|hc|hc
    ·exact jY c (List.mem_of_mem_take hc)
    ·exact Wd c hc
    exact jY c (List.mem_of_mem_drop hc)
   rw[fb];simp only[List.size_toArray,List.length_append,List.length_take,List.length_drop,Array.length_toList];omega
  ·intro l1 h1 _;simp only[Option.some.injEq]at h1;subst h1;rw[setRow_size];exact a5 dp
  ·simp only[G.br,Mode.post,hO]
  refine .ms (l:=l) (o:=.cells (aS cs (h*te.size) ys)) ?_ ?_ (by simp[ak.aF]) iU cQ B6
  ·simp only[G.br];rw[List.getElem?_set_self Ab]
  simp only[G.br];rw[List.getElem?_set_self aZ]
theorem N6{P:Program}{aW:eo}(hT:cb P aW){o:Oper}{σ:St}{t e:TypeId}{x q:Operand}{ti te:cr}{id off len cap:Nat}{k:IntKind}
  (ho:o.op=.slice t x (some q) none none) (hd:∀d,o.dst=some d->d<σ.n) (ht:aW t=some ti) (aT:ti.desc=.slice e) (he:aW e=some te) (hx:σ.ev x=some (.ms id off len cap))
  (hq:σ.ev q=some (.v (.int k (len:Int)))):Cert P o σ (.aE te.size [] .sh) .pure :=
 Cert.bQ .pure (.inl rfl) hd fun a g _ hh _=>by
  have hu:=bI hT ht aT;have fJ:=hh x (by simp[ho,Op.operands]) _ hx;have hl:=(hh q (by simp[ho,Op.operands]) _ hq).cq.1;have cv:execOp a.eval o=(do pure (.value (<-Instr.sliceAt t (a.eval x) (some (a.eval q)) none none))):=by
   simp[execOp,ho]
  obtain⟨lc,o1,q1,q2,q3,xy,cF,ez,cQ,eu⟩:=fJ.jL;have bounds:(Instr.sliceBounds true len ez (some (a.eval q)) none none).run P g.w=.ok (len,len,ez) g.w:=by
   have e2:=bp (P:=P) k len len .sliceB g.w (by omega) (by omega);simp[Instr.sliceBounds,hl,e2]
  have il:=(hT e te he).sizeOf g.w;refine⟨.slice (some (if ez=len then⟨lc.block,off,none⟩else((⟨lc.block,off,none⟩:Addr).add (len*te.size)))) 0 (ez-len),?_,?_⟩
  ·rw[cv];by_cases hc:ez=len
   ·subst hc;simp[Instr.sliceAt,run_underlying hu,Instr.slice,eu,bounds,il]
   simp[Instr.sliceAt,run_underlying hu,Instr.slice,eu,bounds,il,hc]
  have:RV g (.aE te.size [] .sh) (.slice (some (if ez=len then⟨lc.block,off,none⟩else((⟨lc.block,off,none⟩:Addr).add (len*te.size)))) ([]:List ae).length (ez-len)) :=
   .aE (fun x hx=>by cases hx) (fun x hx=>by cases hx) (by simp) (by simp) (fun h=>absurd rfl h) (fun _=>undef) (fun j c hc=>by simp[ao]at hc) (fun j c hc=>by simp[ao]at hc) trivial
  exact this
theorem P4{P:Program}{aW:eo}(hT:cb P aW){o:Oper}{σ:St}{t e:TypeId}{x ql qh qm:Operand}{ti te:cr}{id off len cap l h m:Nat}{k k' WJ:IntKind}
  (ho:o.op=.slice t x (some ql) (some qh) (some qm)) (hd:∀d,o.dst=some d->d<σ.n) (ht:aW t=some ti) (aT:ti.desc=.slice e) (he:aW e=some te) (hx:σ.ev x=some (.ms id off len cap))
  (H5:σ.ev ql=some (.v (.int k (l:Int)))) (YU:σ.ev qh=some (.v (.int k' (h:Int)))) (YV:σ.ev qm=some (.v (.int WJ (m:Int)))) (h1:l<=h) (h2:h<=m) (h3:m<=cap) (h4:l<m) (B6:m<=2 ^ 62):Cert P o σ (.ms id (off+l*te.size) (h-l) (m-l)) .pure :=
 Cert.bQ .pure (.inl rfl) hd fun a g _ hh _=>by
  have hu:=bI hT ht aT;have fJ:=hh x (by simp[ho,Op.operands]) _ hx;have el:=(hh ql (by simp[ho,Op.operands]) _ H5).cq.1;have eh:=(hh qh (by simp[ho,Op.operands]) _ YU).cq.1;have em:=(hh qm (by simp[ho,Op.operands]) _ YV).cq.1;have cv:execOp a.eval o=(do pure (.value (<-Instr.sliceAt t (a.eval x) (some (a.eval ql)) (some (a.eval qh)) (some (a.eval qm))))):=by
   simp[execOp,ho]
  obtain⟨lc,o1,q1,q2,q3,xy,cF,ez,cQ,eu⟩:=fJ.jL;have bounds:(Instr.sliceBounds true len ez (some (a.eval ql)) (some (a.eval qh)) (some (a.eval qm))).run P g.w=.ok (l,h,m) g.w:=by
   have e1:=bp (P:=P) WJ m ez .slice3Acap g.w (by omega) (by omega);have e2:=bp (P:=P) k' h m .slice3B g.w (by omega) (by omega);have e3:=bp (P:=P) k l h .slice3C g.w (by omega) (by omega);simp[Instr.sliceBounds,el,eh,em,e1,e2,e3]
  have il:=(hT e te he).sizeOf g.w;refine⟨.slice (some ((⟨lc.block,off,none⟩:Addr).add (l*te.size))) (h-l) (m-l),?_,?_⟩
  ·rw[cv];simp[Instr.sliceAt,run_underlying hu,Instr.slice,eu,bounds,il,show m≠l by omega]
  rw[addr_add];exact .ms q1 q2 q3 (by omega) (by omega) (by omega)
end Go.Av
namespace Go.Proofs.Ytkhnjeblbiocaaa
open Go.Av
abbrev Mv:=Int×Int
abbrev eM(p:Mv):ae:=.agg [aI p.1,aI p.2]
def mC(l:List Mv):List ae:=l.flatMap fun p=>[aI p.1,aI p.2]
theorem Lm(l:List Mv):(mC l).length=l.length*2:=by
 unfold mC;induction l with
 | nil=>rfl
 | cons p r ih =>
  rw[List.flatMap_cons,List.length_append,ih];show 2+r.length*2=(r.length+1)*2;omega
theorem Q9(l m:List Mv):mC (l++m)=mC l++mC m:=List.flatMap_append ..
theorem T0(p:Mv)(m:List Mv):mC (p::m)=aI p.1::aI p.2::mC m:=rfl
theorem Qp(l:List Mv):ao (l.map eM)=mC l:=by
 unfold mC ao;rw[List.flatMap_map];rfl
theorem Mk{l:List Mv}{k:Nat}{p:Mv}(h:l[k]?=some p):mC l=mC (l.take k)++(aI p.1::aI p.2::mC (l.drop (k+1))):=by
 obtain⟨hk,e⟩:=List.getElem?_eq_some_iff.1 h;have:l=l.take k++(p::l.drop (k+1)):=by rw[<-e,<-List.drop_eq_getElem_cons hk,List.take_append_drop]
 rw[<-T0,<-Q9,<-this]
theorem Pj{l:List Mv}{k:Nat}{p:Mv}(h:l[k]?=some p)(J:List ae):((mC l++J).drop (k*2)).take 2=[aI p.1,aI p.2]∧(mC l++J)[k*2]?=some (aI p.1)∧(mC l++J)[k*2+1]?=some (aI p.2):=by
 have hk:=(List.getElem?_eq_some_iff.1 h).1;have hl:(mC (l.take k)).length=k*2:=by rw[Lm,List.length_take];omega
 rw[Mk h,List.append_assoc];have e:((mC (l.take k)++(aI p.1::aI p.2::mC (l.drop (k+1))++J)).drop (k*2))=aI p.1::aI p.2::mC (l.drop (k+1))++J:=by rw[<-hl,List.drop_left]
 have g:∀i,(mC (l.take k)++(aI p.1::aI p.2::mC (l.drop (k+1))++J))[k*2+i]?=(aI p.1::aI p.2::mC (l.drop (k+1))++J)[i]?:=fun i=>(List.getElem?_drop ..).symm.trans (by rw[e]);exact⟨by rw[e];rfl,g 0,g 1⟩
theorem Te{l:List Mv}{k:Nat}{p:Mv}(h:l[k]?=some p)(q:Mv)(J:List ae):aS (mC l++J) (k*2) [aI q.1,aI q.2]=mC (l.set k q)++J:=by
 have hk:=(List.getElem?_eq_some_iff.1 h).1;have hl:(mC (l.take k)).length=k*2:=by rw[Lm,List.length_take];omega
 have hs:(l.set k q)[k]?=some q:=List.getElem?_set_self hk;have h1:(l.set k q).take k=l.take k:=by
  apply List.ext_getElem?;intro i;simp only[List.getElem?_take,List.getElem?_set];split
  ·rw[if_neg (by omega)]
  rfl
 have h2:(l.set k q).drop (k+1)=l.drop (k+1):=by
  apply List.ext_getElem?;intro i;simp only[List.getElem?_drop,List.getElem?_set];rw[if_neg (by omega)]
 rw[Mk h,Mk hs,h1,h2];unfold aS;rw[List.append_assoc,<-hl,List.take_left];simp only[List.length_cons,List.length_nil];rw[List.drop_length_add_append];simp
theorem T3{l:List Mv}{k:Nat}{p:Mv}(h:l[k]?=some p)(v:Int)(J:List ae):aS (mC l++J) (k*2+1) [aI v]=mC (l.set k (p.1,v))++J:=by
 rw[<-Te h (p.1,v) J];obtain⟨h1,h2,h3⟩:=Pj h J;have hk:=(List.getElem?_eq_some_iff.1 h).1;have hl:(mC (l.take k)).length=k*2:=by rw[Lm,List.length_take];omega
 rw[Mk h,List.append_assoc];unfold aS;simp only[List.length_cons,List.length_nil];rw[<-hl,List.take_left,List.take_length_add_append,List.drop_length_add_append,show(mC (l.take k)).length+1+(0+1)=(mC (l.take k)).length+2 by omega,List.drop_length_add_append];simp
theorem K6{α:Type}{l:List α}{j:Nat}{v:α}(h:l[j]?=some v):l.set j v=l:=by
 apply List.ext_getElem?;intro i;rw[List.getElem?_set];split
 ·rename_i e;rw[<-e,if_pos (I h),h]
 rfl
def Lw(q:Mv->Bool):List Mv->Nat->Int
 | [],_=>-1
 | x::r,k=>if q x then(k:Int)else Lw q r (k+1)
def MT(q:Mv->Bool)(l:List Mv):Int:=Lw q l 0
theorem Nb(q:Mv->Bool):∀(l:List Mv) (k:Nat),(Lw q l k=-1∧∀x∈l,q x=false)∨∃(j:Nat) (x:Mv),Lw q l k=((k+j:Nat):Int)∧l[j]?=some x∧q x=true∧∀y∈l.take j,q y=false
 | [],k=>.inl ⟨rfl,fun x hx=>by cases hx⟩
 | a::r,k=>by
  cases hq:q a with
  | true =>
   refine .inr ⟨0,a,?_,rfl,hq,fun y hy=>by cases hy⟩;rw[Lw,if_pos hq];rfl
  | false =>
   rw[Lw,if_neg (by simp[hq])];rcases Nb q r (k+1)with⟨h1,h2⟩|⟨j,x,h1,h2,h3,h4⟩
   ·refine .inl ⟨h1,fun x hx=>?_⟩;rcases List.mem_cons.1 hx with e|e
    ·rw[e];exact hq
    exact h2 x e
   refine .inr ⟨j+1,x,by rw[h1];congr 1;omega,h2,h3,fun y hy=>?_⟩;rw[List.take_succ_cons]at hy;rcases List.mem_cons.1 hy with e|e
   ·rw[e];exact hq
   exact h4 y e
theorem Lr(q:Mv->Bool)(l:List Mv):(MT q l=-1∧∀x∈l,q x=false)∨∃(j:Nat) (x:Mv),MT q l=(j:Int)∧l[j]?=some x∧q x=true∧∀y∈l.take j,q y=false:=by
 rcases Nb q l 0 with h|⟨j,x,h1,h2⟩
 ·exact .inl h
 exact .inr ⟨j,x,by rw[Nat.zero_add]at h1;exact h1,h2⟩
theorem Qk(q:Mv->Bool)(l:List Mv):decide (0<=MT q l)=l.any q:=by
 rcases Lr q l with⟨h1,h2⟩|⟨j,x,h1,h2,h3,_⟩
 ·rw[h1,List.any_eq_false.2 fun x hx=>by simp[h2 x hx]];rfl
 rw[h1,List.any_eq_true.2 ⟨x,List.mem_of_getElem? h2,h3⟩];exact decide_eq_true (by omega)
def KH(l:List Mv):List Mv:=l.filter fun x=>!decide (x.1=x.2)
def Lo(left:List Mv)(x:Mv):Bool:=!left.any fun y=>decide (y.2=x.1)
def KQ(v spare:Int)(y:Mv):Mv:=if y.2=v then(y.1,spare)else y
def KY(spare:Int)(left:List Mv):List Mv×List Mv :=
 match left with
 | []=>([],[])
 | x0::r =>
  if MT (Lo left) left<0 then(((x0::r).map (KQ x0.1 spare)).tail,[(spare,x0.1),KQ x0.1 spare x0])
  else((x0::r).eraseIdx (MT (Lo left) left).toNat,[((x0::r)[(MT (Lo left) left).toNat]?).getD (0,0)])
def Lg(spare:Int):Nat->List Mv->List Mv
 | 0,_=>[]
 | n+1,left=>if left=[]then []else(KY spare left).2++Lg spare n (KY spare left).1
def NX(l:List Mv)(spare:Int):List Mv:=Lg spare l.length (KH l)
def Ll(sid tid:Nat)(b:Block):List ae:=[a6 b.params,.aE 4 (b.ins.map bE.enc) (.tok sid),aI b.term.kind,aI b.term.arg,aI b.term.n,a6 b.term.cases,LY tid b.term.to]
def KE:List Nat->List Nat->List Block->List ae
 | s::ss,t::ids,b::bs=>Ll s t b++KE ss ids bs
 | _,_,_=>[]
theorem RT{n sid tid:Nat}(b:Block)(hs:sid<n)(h:b.term.to≠[]->tid<n):aw n (Ll sid tid b):=by
 refine⟨⟨az _ _,trivial⟩,⟨bE.ai _ _,hs⟩,trivial,trivial,trivial,⟨az _ _,trivial⟩,?_,trivial⟩;unfold LY;split
 ·exact⟨trivial,trivial⟩
 rename_i q;exact h q
theorem ML{n:Nat}:∀{ss ids:List Nat} {bs:List Block},(∀(j id:Nat) (b:Block),ids[j]?=some id->bs[j]?=some b->b.term.to≠[]->id<n)->(∀s∈ss,s<n)->aw n (KE ss ids bs)
 | [],_,_,_,_=>trivial
 | _::_,[],_,_,_=>trivial
 | _::_,_::_,[],_,_=>trivial
 | s::ss,t::ids,b::bs,h,hs=>by
  rw[KE,aY];intro x hx;rcases List.mem_append.1 hx with q|q
  ·exact aY.1 (RT b (hs s List.mem_cons_self) (h 0 t b rfl rfl)) x q
  exact aY.1 (ML (fun j id b h1 h2=>h (j+1) id b h1 h2) (fun s DV=>hs s (List.mem_cons_of_mem _ DV))) x q
theorem N4{ss ids:List Nat}{bs:List Block}(h1:ss.length=bs.length)(h2:ids.length=bs.length)(s t:Nat)(b:Block):KE (ss++[s]) (ids++[t]) (bs++[b])=KE ss ids bs++Ll s t b:=by
 induction bs generalizing ss ids with
 | nil =>
  rw[List.length_eq_zero_iff.1 h1,List.length_eq_zero_iff.1 h2];simp[KE]
 | cons d bs ih =>
  cases ss with
  | nil=>simp at h1
  | cons a ss =>
   cases ids with
   | nil=>simp at h2
   | cons c ids=>rw[List.cons_append,List.cons_append,List.cons_append,KE,KE,ih (by simpa using h1) (by simpa using h2),List.append_assoc]
theorem Lp{ss ids:List Nat}{bs:List Block}(h1:ss.length=bs.length)(h2:ids.length=bs.length):(KE ss ids bs).length=bs.length*7:=by
 induction bs generalizing ss ids with
 | nil =>
  rw[List.length_eq_zero_iff.1 h1];rfl
 | cons d bs ih =>
  cases ss with
  | nil=>simp at h1
  | cons a ss =>
   cases ids with
   | nil=>simp at h2
   | cons c ids =>
    rw[KE,List.length_append,ih (by simpa using h1) (by simpa using h2),List.length_cons];show 7+_=_;omega
structure Pv(f:Func)(done:List Block)(bW:Nat)(ids ss:List Nat)(O:List ak):Prop where
 up:∀o∈O,o.upto O.length
 r0:O[0]?=some .gone
 r1:O[1]?=some (.cells [aI 0,.aE 7 [] .ex])
 r3:O[3]?=some (.cells [aI 0,.aE 7 [] .ex])
 out:O[4]?=some (.cells [aI f.name,LV bW done])
 blk:done≠[]->5<=bW∧O[bW]?=some (.cells (KE ss ids done))
 cp:Vd 5 ids done O
 ne:∀(j id:Nat) (b:Block),ids[j]?=some id->done[j]?=some b->b.term.to≠[]->id≠bW
 ls:ss.length=done.length
 sp:∀(j s:Nat) (c:Block),ss[j]?=some s->done[j]?=some c->5<=s∧O[s]?=some (.spare c.ins.length)
 Ns:∀(i j s:Nat),ss[i]?=some s->ss[j]?=some s->i=j
theorem Pv.snoc{f:Func}{done:List Block}{bW:Nat}{ids ss:List Nat}{O O1:List ak}(h:Pv f done bW ids ss O){b:Block}{tid sid:Nat}(Xx:O.length<=sid∧O1[sid]?=some (.spare b.ins.length))(hlen:O.length<=O1.length)(bC:∀o∈O1,o.upto O1.length)
  (fo:∀k,k<O.length->(done≠[]->k≠bW)->O1[k]?=O[k]?) (ht:b.term.to≠[]->O.length<=tid∧O1[tid]?=some (.cells (K3 b.term.to))) {cs ar:List ae} (eZ:cs=KE (ss++[sid]) (ids++[tid]) (done++[b])) (VI:ar=[aI f.name,.os O1.length (done.length+1) 7]) :
  Pv f (done++[b]) O1.length (ids++[tid]) (ss++[sid]) ((O1++[ak.cells cs]).set 4 (.cells ar)):=by
 have h4:=I h.out;have VY:=h.cp.li;have lA:∀k,k<O.length->k≠4->(done≠[]->k≠bW)->((O1++[ak.cells cs]).set 4 (.cells ar))[k]?=O[k]?:=fun k hk Xl uD=>by
  rw[List.getElem?_set_ne (Ne.symm Xl),List.getElem?_append_left (by omega),fo k hk uD]
 have RA:done≠[]->5<=bW:=fun q=>(h.blk q).1;have PH:∀(j id:Nat) (c:Block),(ids++[tid])[j]?=some id->(done++[b])[j]?=some c->(ids[j]?=some id∧done[j]?=some c)∨(j=ids.length∧id=tid∧c=b):=fun j id c h1 h2=>by
  by_cases hj:j<ids.length
  ·rw[List.getElem?_append_left hj]at h1;rw[List.getElem?_append_left (by omega)]at h2;exact .inl ⟨h1,h2⟩
  have UQ:=I h1;rw[List.length_append,List.length_singleton]at UQ;have fB:j=ids.length:=by omega
  subst fB;rw[List.getElem?_append_right (Nat.le_refl _),Nat.sub_self]at h1;rw[List.getElem?_append_right (by omega),<-VY,Nat.sub_self]at h2;simp only[List.getElem?_cons_zero,Option.some.injEq]at h1 h2;exact .inr ⟨rfl,h1.symm,h2.symm⟩
 have mP:∀(j id:Nat) (c:Block),ids[j]?=some id->done[j]?=some c->c.term.to≠[]->5<=id∧id<O.length∧O1[id]?=some (.cells (K3 c.term.to)):=fun j id c h1 h2 h3=>by
  obtain⟨o1,o2⟩:=h.cp.own j id c h1 h2 h3;have hl:=I o2;refine⟨o1,hl,?_⟩;rw[fo id hl (fun _=>h.ne j id c h1 h2 h3)];exact o2
 have iw:∀(j id:Nat) (c:Block),(ids++[tid])[j]?=some id->(done++[b])[j]?=some c->c.term.to≠[]->5<=id∧id<O1.length∧O1[id]?=some (.cells (K3 c.term.to)):=fun j id c h1 h2 h3=>by
  rcases PH j id c h1 h2 with⟨q1,q2⟩|⟨_,q2,q3⟩
  ·obtain⟨p1,p2,p3⟩:=mP j id c q1 q2 h3;exact⟨p1,by omega,p3⟩
  rw[q3]at h3 ⊢;rw[q2];obtain⟨t1,t2⟩:=ht h3;exact⟨by omega,I t2,t2⟩
 have Xo:=h.ls;have NL:∀(j s:Nat) (c:Block),(ss++[sid])[j]?=some s->(done++[b])[j]?=some c->(ss[j]?=some s∧done[j]?=some c)∨(j=ss.length∧s=sid∧c=b):=fun j id c h1 h2=>by
  by_cases hj:j<ss.length
  ·rw[List.getElem?_append_left hj]at h1;rw[List.getElem?_append_left (by omega)]at h2;exact .inl ⟨h1,h2⟩
  have UQ:=I h1;rw[List.length_append,List.length_singleton]at UQ;have fB:j=ss.length:=by omega
  subst fB;rw[List.getElem?_append_right (Nat.le_refl _),Nat.sub_self]at h1;rw[List.getElem?_append_right (by omega),<-Xo,Nat.sub_self]at h2;simp only[List.getElem?_cons_zero,Option.some.injEq]at h1 h2;exact .inr ⟨rfl,h1.symm,h2.symm⟩
 have Xy:∀(j s:Nat) (c:Block),ss[j]?=some s->done[j]?=some c->5<=s∧s<O.length∧O1[s]?=some (.spare c.ins.length):=fun j s c h1 h2=>by
  obtain⟨o1,o2⟩:=h.sp j s c h1 h2;have hl:=I o2;refine⟨o1,hl,?_⟩;rw[fo s hl (fun q e=>by
   have:=(h.blk q).2;rw[<-e,o2]at this;simp at this)]
  exact o2
 have o5:∀s∈ss++[sid],s<O1.length:=fun s hs=>by
  rcases List.mem_append.1 hs with q|q
  ·obtain⟨j,hj⟩:=List.mem_iff_getElem?.1 q;have NK:=I hj;have hd:done[j]?=some (done[j]'(by omega)):=List.getElem?_eq_getElem _;have:=(Xy j s _ hj hd).2.1;omega
  rw[List.mem_singleton.1 q];exact I Xx.2
 subst eZ;subst VI;exact {
  up:=by
   intro o ho;rw[List.length_set,List.length_append,List.length_singleton];rcases List.mem_or_eq_of_mem_set ho with q|q
   ·rcases List.mem_append.1 q with q|q
    ·exact ak.cu (by omega) (bC o q)
    rw[List.mem_singleton]at q;subst q;exact ML (fun j id c h1 h2 h3=>by
     have:=(iw j id c h1 h2 h3).2.1;omega) (fun s hs=>by
     have:=o5 s hs;omega)
   subst q;exact⟨trivial,show _<_ by omega,trivial⟩
  r0:=by rw[lA 0 (I h.r0) (by omega) (fun q=>by have:=RA q;omega)];exact h.r0
  r1:=by rw[lA 1 (I h.r1) (by omega) (fun q=>by have:=RA q;omega)];exact h.r1
  r3:=by rw[lA 3 (I h.r3) (by omega) (fun q=>by have:=RA q;omega)];exact h.r3
  out:=by
   rw[List.getElem?_set_self (by rw[List.length_append];omega)];have:LV O1.length (done++[b])=.os O1.length (done.length+1) 7:=by
    unfold LV;rw[if_neg (by simp),List.length_append];rfl
   rw[this]
  blk:=fun _=>by
   refine⟨by omega,?_⟩;rw[List.getElem?_set_ne (by omega),List.getElem?_append_right (Nat.le_refl _),Nat.sub_self];rfl
  cp:={
   li:=by rw[List.length_append,List.length_append,VY];rfl
   own:=fun j id c h1 h2 h3=>by
    obtain⟨p1,p2,p3⟩:=iw j id c h1 h2 h3;refine⟨p1,?_⟩;rw[List.getElem?_set_ne (by omega),List.getElem?_append_left p2];exact p3
   inj:=fun i j id c d h1 h2 h3 h4 h5 h6=>by
    rcases PH i id c h1 h3 with⟨p1,p2⟩|⟨p1,p2,p3⟩
    ·rcases PH j id d h2 h4 with⟨q1,q2⟩|⟨q1,q2,q3⟩
     ·exact h.cp.inj i j id c d p1 q1 p2 q2 h5 h6
     have:=(mP i id c p1 p2 h5).2.1;rw[q3]at h6;have:=(ht h6).1;omega
    rcases PH j id d h2 h4 with⟨q1,q2⟩|⟨q1,q2,q3⟩
    ·have:=(mP j id d q1 q2 h6).2.1;rw[p3]at h5;have:=(ht h5).1;omega
    omega }
  ne:=fun j id c h1 h2 h3=>by
   have:=(iw j id c h1 h2 h3).2.1;omega
  ls:=by rw[List.length_append,List.length_append,h.ls];rfl
  sp:=fun j s c h1 h2=>by
   rcases NL j s c h1 h2 with⟨q1,q2⟩|⟨_,q2,q3⟩
   ·obtain⟨p1,p2,p3⟩:=Xy j s c q1 q2;refine⟨p1,?_⟩;rw[List.getElem?_set_ne (by omega),List.getElem?_append_left (by omega)];exact p3
   have:=I Xx.2;rw[q2,q3];refine⟨by omega,?_⟩;rw[List.getElem?_set_ne (by omega),List.getElem?_append_left this];exact Xx.2
  Ns:=fun i j s h1 h2=>by
   have aux:∀(i:Nat),(ss++[sid])[i]?=some s->(ss[i]?=some s∧s<O.length)∨(i=ss.length∧s=sid):=fun i hi=>by
    by_cases hj:i<ss.length
    ·rw[List.getElem?_append_left hj]at hi;have hd:done[i]?=some (done[i]'(by have:=h.ls;omega)):=List.getElem?_eq_getElem _;exact .inl ⟨hi,(Xy i s _ hi hd).2.1⟩
    have UQ:=I hi;rw[List.length_append,List.length_singleton]at UQ;have fB:i=ss.length:=by omega
    rw[List.getElem?_append_right (by omega),fB,Nat.sub_self]at hi;simp only[List.getElem?_cons_zero,Option.some.injEq]at hi;exact .inr ⟨fB,hi.symm⟩
   rcases aux i h1 with⟨p1,p2⟩|⟨p1,p2⟩<;>rcases aux j h2 with⟨q1,q2⟩|⟨q1,q2⟩
   ·exact h.Ns i j s p1 q1
   ·omega
   ·omega
   omega }
theorem P'(f:Func):Pv f [] 0 [] [] [.gone,.cells [aI 0,.aE 7 [] .ex],.gone,.cells [aI 0,.aE 7 [] .ex],.cells [aI f.name,.aE 7 [] .ex]] where
 up:=(MO f).up
 r0:=rfl
 r1:=rfl
 r3:=rfl
 out:=rfl
 blk:=fun q=>absurd rfl q
 cp:=(MO f).cp
 ne:=fun j id b h=>by simp at h
 ls:=rfl
 sp:=fun j s c h=>by simp at h
 Ns:=fun i j s h=>by simp at h
def Uv(f:Func)(r:ae)(O:List ak):Prop:=∃(ids ss:List Nat) (bW:Nat),r=.agg [aI f.name,.os bW f.blocks.length 7]∧(∀o∈O,o.upto O.length)∧O[0]?=some .gone∧O[1]?=some (.cells [aI 0,.aE 7 [] .ex]) ∧
 (5<=bW∧O[bW]?=some (.cells (KE ss ids f.blocks)))∧Vd 5 ids f.blocks O∧(∀(j id:Nat) (b:Block),ids[j]?=some id->f.blocks[j]?=some b->b.term.to≠[]->id≠bW) ∧
 ss.length=f.blocks.length∧(∀(j s:Nat) (c:Block),ss[j]?=some s->f.blocks[j]?=some c->5<=s∧O[s]?=some (.spare c.ins.length))∧∀(i j s:Nat),ss[i]?=some s->ss[j]?=some s->i=j
theorem Pv.fin{f:Func}{bW:Nat}{ids ss:List Nat}{O:List ak}(h:Pv f f.blocks bW ids ss O)(cj:f.blocks≠[]){cs:List ae}(eZ:aw O.length cs):Uv f (.agg [aI f.name,.os bW f.blocks.length 7]) (O.set 3 (.cells cs)):=by
 obtain⟨b1,b2⟩:=h.blk cj;refine⟨ids,ss,bW,rfl,?_,?_,?_,⟨b1,?_⟩,⟨h.cp.li,fun j id b q1 q2 q3=>?_,h.cp.inj⟩,h.ne,h.ls,fun j s c q1 q2=>?_,h.Ns⟩
 ·rw[List.length_set];exact bF h.up eZ
 ·rw[List.getElem?_set_ne (by omega)];exact h.r0
 ·rw[List.getElem?_set_ne (by omega)];exact h.r1
 ·rw[List.getElem?_set_ne (by omega)];exact b2
 ·obtain⟨o1,o2⟩:=h.cp.own j id b q1 q2 q3;exact⟨o1,by rw[List.getElem?_set_ne (by omega)];exact o2⟩
 obtain⟨o1,o2⟩:=h.sp j s c q1 q2;exact⟨o1,by rw[List.getElem?_set_ne (by omega)];exact o2⟩
end Go.Proofs.Ytkhnjeblbiocaaa
namespace Go.Proofs.Ytkhnjeblbiocaaa
open Go.Av
theorem QG{A B xs:List ae}{off:Nat}(h:off+xs.length<=A.length):aS (A++B) off xs=aS A off xs++B:=by
 unfold aS;rw[List.take_append_of_le_length (by omega),List.drop_append_of_le_length (by omega)];simp
theorem PT{A B xs:List ae}{p:Nat}:aS (A++B) (A.length+p) xs=A++aS B p xs:=by
 unfold aS;rw[List.take_length_add_append,show A.length+p+xs.length=A.length+(p+xs.length) by omega,List.drop_length_add_append];simp
theorem K9(s i:Nat)(ss ids:List Nat)(b:Block)(bs:List Block):KE (s::ss) (i::ids) (b::bs)=Ll s i b++KE ss ids bs:=by rw[KE]
theorem LM:∀{ss ids:List Nat} {L:List Block} {k s id s':Nat} {b c:Block} {off:Nat} {xs:List ae},ss[k]?=some s->ids[k]?=some id->L[k]?=some b->Ll s' id c=aS (Ll s id b) off xs->off+xs.length<=7->aS (KE ss ids L) (k*7+off) xs=KE (ss.set k s') ids (L.set k c)
 | [],_,_,_,_,_,_,_,_,_,_,h,_,_,_,_=>by simp at h
 | _::_,[],_,_,_,_,_,_,_,_,_,_,h,_,_,_=>by simp at h
 | _::_,_::_,[],_,_,_,_,_,_,_,_,_,_,h,_,_=>by simp at h
 | a::ss,i::ids,x::L,0,s,id,s',b,c,off,xs,h0,h1,h2,h3,h4=>by
  simp only[List.getElem?_cons_zero,Option.some.injEq]at h0 h1 h2;subst h0 h1 h2;rw[List.set_cons_zero,List.set_cons_zero,K9,K9,h3,Nat.zero_mul,Nat.zero_add,QG h4]
 | a::ss,i::ids,x::L,k+1,s,id,s',b,c,off,xs,h0,h1,h2,h3,h4=>by
  rw[List.set_cons_succ,List.set_cons_succ,K9,K9,show(k+1)*7+off=(Ll a i x).length+(k*7+off) by show _=7+_;omega,PT,LM (by simpa using h0) (by simpa using h1) (by simpa using h2) h3 h4]
theorem OO:∀{ss ids:List Nat} {L:List Block} {k s id:Nat} {b:Block},ss[k]?=some s->ids[k]?=some id->L[k]?=some b->((KE ss ids L).drop (k*7)).take 7=Ll s id b
 | [],_,_,_,_,_,_,h,_,_=>by simp at h
 | _::_,[],_,_,_,_,_,_,h,_=>by simp at h
 | _::_,_::_,[],_,_,_,_,_,_,h=>by simp at h
 | a::ss,i::ids,x::L,0,s,id,b,h0,h1,h2=>by
  simp only[List.getElem?_cons_zero,Option.some.injEq]at h0 h1 h2;subst h0 h1 h2;rw[K9];rfl
 | a::ss,i::ids,x::L,k+1,s,id,b,h0,h1,h2=>by
  rw[K9,show(k+1)*7=(Ll a i x).length+k*7 by show _=7+_;omega,List.drop_length_add_append];exact OO (by simpa using h0) (by simpa using h1) (by simpa using h2)
theorem Mq{ss ids:List Nat}{L:List Block}{k s id:Nat}{b:Block}(h0:ss[k]?=some s)(h1:ids[k]?=some id)(h2:L[k]?=some b)(i:Nat)(hi:i<7):(KE ss ids L)[k*7+i]?=(Ll s id b)[i]?:=by
 rw[<-OO h0 h1 h2,List.getElem?_take,if_pos hi,List.getElem?_drop]
theorem Mx{l:List Nat}{j v:Nat}(h:l[j]?=some v):l.set j v=l:=K6 h
theorem QR{ss ids:List Nat}{L:List Block}{k s id:Nat}{b c:Block}(h0:ss[k]?=some s)(h1:ids[k]?=some id)(h2:L[k]?=some b)(h3:Ll s id c=Ll s id b):KE ss ids (L.set k c)=KE ss ids L:=by
 have:=LM (s':=s) (off:=0) (xs:=[]) h0 h1 h2 (by rw[h3];simp[aS]) (by simp);rw[Mx h0]at this;rw[<-this];simp[aS]
theorem SL(O:List ak)(s id:Nat)(b:Block)(j:Nat)(c d:ae)(h1:(Ll s id b)[j]?=some c)(h2:(No id b)[j]?=some d):Sub O c d:=by
 match j,h1,h2 with
 | 0,h1,h2=>exact Sub.of_eq (Option.some.inj (h1.symm.trans h2))
 | 1,h1,h2 =>
  simp only[Ll,No,List.getElem?_cons_succ,List.getElem?_cons_zero,Option.some.injEq]at h1 h2;subst h1 h2;exact fun _ _ _ h=>h.js
 | 2,h1,h2=>exact Sub.of_eq (Option.some.inj (h1.symm.trans h2))
 | 3,h1,h2=>exact Sub.of_eq (Option.some.inj (h1.symm.trans h2))
 | 4,h1,h2=>exact Sub.of_eq (Option.some.inj (h1.symm.trans h2))
 | 5,h1,h2=>exact Sub.of_eq (Option.some.inj (h1.symm.trans h2))
 | 6,h1,h2 =>
  simp only[Ll,No,List.getElem?_cons_succ,List.getElem?_cons_zero,Option.some.injEq]at h1 h2;subst h1 h2;unfold LY Mp;split
  ·exact fun _ _ _ h=>h.js
  exact Sub.refl _
 | j+7,h1,_=>simp[Ll]at h1
theorem OP(O:List ak):∀{ss ids:List Nat} {L:List Block},ss.length=L.length->ids.length=L.length->∀(j:Nat) (c d:ae),(KE ss ids L)[j]?=some c->(KL ids L)[j]?=some d->Sub O c d
 | [],_,_,_,_,j,c,d,h,_=>by simp[KE]at h
 | _::_,[],_,_,_,j,c,d,h,_=>by simp[KE]at h
 | _::_,_::_,[],_,_,j,c,d,h,_=>by simp[KE]at h
 | a::ss,i::ids,x::L,h1,h2,j,c,d,h3,h4=>by
  have e:KL (i::ids) (x::L)=No i x++KL ids L:=rfl;rw[K9]at h3;rw[e]at h4;by_cases hj:j<7
  ·rw[List.getElem?_append_left (by show j<7;omega)]at h3 h4;exact SL O a i x j c d h3 h4
  rw[List.getElem?_append_right (by show 7<=j;omega)]at h3 h4;exact OP O (by simpa using h1) (by simpa using h2) (j-7) c d h3 h4
structure OH(name:Int)(ids ss:List Nat)(X bW:Nat)(L:List Block)(O:List ak):Prop where
 up:∀o∈O,o.upto O.length
 r1:O[1]?=some (.cells [aI 0,.aE 7 [] .ex])
 x5:5<=X
 xb:bW≠X
 b5:5<=bW
 out:O[X]?=some (.cells [aI name,.os bW L.length 7])
 bl:O[bW]?=some (.cells (KE ss ids L))
 li:ids.length=L.length
 ls:ss.length=L.length
 own:∀(j id:Nat) (c:Block),ids[j]?=some id->L[j]?=some c->c.term.to≠[]->5<=id∧id≠bW∧id≠X∧O[id]?=some (.cells (K3 c.term.to))
 inj:∀(i j id:Nat) (b c:Block),ids[i]?=some id->ids[j]?=some id->L[i]?=some b->L[j]?=some c->b.term.to≠[]->c.term.to≠[]->i=j
 sp:∀(j s:Nat) (c:Block),ss[j]?=some s->L[j]?=some c->5<=s∧O[s]?=some (.spare c.ins.length)
 Ns:∀(i j s:Nat),ss[i]?=some s->ss[j]?=some s->i=j
theorem OH.start{g:Func}{ids ss:List Nat}{bW:Nat}{O:List ak}(bC:∀o∈O,o.upto O.length)(h1:O[1]?=some (.cells [aI 0,.aE 7 [] .ex]))(hb:5<=bW∧O[bW]?=some (.cells (KE ss ids g.blocks)))(hc:Vd 5 ids g.blocks O)
  (cj:∀(j id:Nat) (b:Block),ids[j]?=some id->g.blocks[j]?=some b->b.term.to≠[]->id≠bW) (SE:ss.length=g.blocks.length) (fQ:∀(j s:Nat) (c:Block),ss[j]?=some s->g.blocks[j]?=some c->5<=s∧O[s]?=some (.spare c.ins.length)) (S5:∀(i j s:Nat),ss[i]?=some s->ss[j]?=some s->i=j) :
  OH g.name ids ss O.length bW g.blocks (O++[ak.cells [aI g.name,.os bW g.blocks.length 7]]) where
 up:=fun o ho=>by
  have iI:=I hb.2;rw[List.length_append,List.length_singleton];rcases List.mem_append.1 ho with q|q
  ·exact ak.cu (by omega) (bC o q)
  rw[List.mem_singleton]at q;subst q;exact⟨trivial,show _<_ by omega,trivial⟩
 r1:=bJ h1
 x5:=by
  have:=I hb.2;omega
 xb:=by
  have:=I hb.2;omega
 b5:=hb.1
 out:=gF _ _
 bl:=bJ hb.2
 li:=hc.li
 ls:=SE
 own:=fun j id b q1 q2 q4=>by
  obtain⟨o1,o2⟩:=hc.own j id b q1 q2 q4;have:=I o2;exact⟨o1,cj j id b q1 q2 q4,by omega,bJ o2⟩
 inj:=hc.inj
 sp:=fun j s c h1 h2=>⟨(fQ j s c h1 h2).1,bJ (fQ j s c h1 h2).2⟩
 Ns:=S5
section
variable {name:Int} {ids ss:List Nat} {X bW:Nat} {L:List Block} {O:List ak}
theorem OH.ext(h:OH name ids ss X bW L O){Y:List ak}(hY:∀o∈Y,o.upto (O.length+Y.length)):OH name ids ss X bW L (O++Y) where
 up:=fun o ho=>by
  rw[List.length_append];rcases List.mem_append.1 ho with q|q
  ·exact ak.cu (by omega) (h.up o q)
  exact hY o q
 r1:=bJ h.r1
 x5:=h.x5
 xb:=h.xb
 b5:=h.b5
 out:=bJ h.out
 bl:=bJ h.bl
 li:=h.li
 ls:=h.ls
 own:=fun j id c h1 h2 h3=>by
  obtain⟨o1,o2,o3,o4⟩:=h.own j id c h1 h2 h3;exact⟨o1,o2,o3,bJ o4⟩
 inj:=h.inj
 sp:=fun j s c h1 h2=>⟨(h.sp j s c h1 h2).1,bJ (h.sp j s c h1 h2).2⟩
 Ns:=h.Ns
theorem OH.row(h:OH name ids ss X bW L O){k s t:Nat}{b c:Block}(hs:ss[k]?=some s)(hb:L[k]?=some b)(hc:c.term.to=b.term.to)(ht:t=s∨(5<=t∧t ∉ ss∧∃m,O[t]?=some (.spare m))) :
  OH name ids (ss.set k t) X bW (L.set k c) ((O.set t (.spare c.ins.length)).set bW (.cells (KE (ss.set k t) ids (L.set k c)))):=by
 have m6:=I hb;have iI:=I h.bl;obtain⟨Y9,Y'⟩:=h.sp k s b hs hb;obtain⟨Y2,m,WD⟩:5<=t∧∃m,O[t]?=some (.spare m):=by
  rcases ht with q|⟨q1,_,q3⟩
  ·rw[q];exact⟨Y9,_,Y'⟩
  exact⟨q1,q3⟩
 have iq:=I WD;have EZ:t≠bW:=fun q=>by
  have:=h.bl;rw[<-q,WD]at this;simp at this
 have Y3:t≠X:=fun q=>by
  have:=h.out;rw[<-q,WD]at this;simp at this
 have ru:∀(j:Nat) (d:Block),(L.set k c)[j]?=some d->(j=k∧d=c)∨(j≠k∧L[j]?=some d):=fun j d hd=>by
  rw[List.getElem?_set]at hd;split at hd
  ·rename_i e
   first
   | exact .inl ⟨e.symm,(Option.some.inj hd).symm⟩
   | (rw[if_pos (by omega)]at hd;exact .inl ⟨e.symm,(Option.some.inj hd).symm⟩)
  rename_i e;exact .inr ⟨fun q=>e q.symm,hd⟩
 have m7:∀(j:Nat) (d:Block),(L.set k c)[j]?=some d->∃d0,L[j]?=some d0∧d.term.to=d0.term.to:=fun j d hd=>by
  rcases ru j d hd with⟨e1,e2⟩|⟨_,e2⟩
  ·rw[e1,e2];exact⟨b,hb,hc⟩
  exact⟨d,e2,rfl⟩
 have NL:∀(j s':Nat),(ss.set k t)[j]?=some s'->(j=k∧s'=t)∨(j≠k∧ss[j]?=some s'):=fun j d hd=>by
  rw[List.getElem?_set]at hd;split at hd
  ·rename_i e;have:=I hs
   first
   | exact .inl ⟨e.symm,(Option.some.inj hd).symm⟩
   | (rw[if_pos (by omega)]at hd;exact .inl ⟨e.symm,(Option.some.inj hd).symm⟩)
  rename_i e;exact .inr ⟨fun q=>e q.symm,hd⟩
 have Ct:∀(j s':Nat),j≠k->ss[j]?=some s'->s'≠t:=fun j s' hj h1 q=>by
  rcases ht with e|⟨_,e,_⟩
  ·rw[q,e]at h1;exact hj (h.Ns j k s h1 hs)
  exact e (by rw[<-q];exact List.mem_of_getElem? h1)
 have hX:=h.xb;have RA:=h.b5;have uL:=h.x5;exact {
  up:=by
   rw[List.length_set,List.length_set];refine bF (bF h.up trivial) (ML (fun j id d h1 h2 h3=>?_) fun s' DV=>?_)
   ·obtain⟨d0,e1,e2⟩:=m7 j d h2;exact I (h.own j id d0 h1 e1 (by rw[<-e2];exact h3)).2.2.2
   obtain⟨j,hj⟩:=List.mem_iff_getElem?.1 DV;rcases NL j s' hj with⟨_,e⟩|⟨_,e⟩
   ·omega
   have hd:L[j]?=some (L[j]'(by have:=I e;rw[<-h.ls];exact this)):=List.getElem?_eq_getElem _;exact I (h.sp j s' _ e hd).2
  r1:=by rw[List.getElem?_set_ne (by omega),List.getElem?_set_ne (by omega)];exact h.r1
  x5:=h.x5
  xb:=hX
  b5:=RA
  out:=by rw[List.getElem?_set_ne hX,List.getElem?_set_ne Y3,List.length_set];exact h.out
  bl:=List.getElem?_set_self (by rw[List.length_set];exact iI)
  li:=by rw[List.length_set];exact h.li
  ls:=by rw[List.length_set,List.length_set];exact h.ls
  own:=fun j id d h1 h2 h3=>by
   obtain⟨d0,e1,e2⟩:=m7 j d h2;obtain⟨o1,o2,o3,o4⟩:=h.own j id d0 h1 e1 (by rw[<-e2];exact h3);have Bz:t≠id:=fun q=>by
    rw[<-q,WD]at o4;simp at o4
   exact⟨o1,o2,o3,by rw[List.getElem?_set_ne (Ne.symm o2),List.getElem?_set_ne Bz,e2];exact o4⟩
  inj:=fun i j id d e h1 h2 h3 h4 h5 h6=>by
   obtain⟨d0,e1,e2⟩:=m7 i d h3;obtain⟨f0,f1,f2⟩:=m7 j e h4;exact h.inj i j id d0 f0 h1 h2 e1 f1 (by rw[<-e2];exact h5) (by rw[<-f2];exact h6)
  sp:=fun j s' d h1 h2=>by
   rcases NL j s' h1 with⟨e1,e2⟩|⟨e1,e2⟩
   ·rcases ru j d h2 with⟨_,f2⟩|⟨f1,_⟩
    ·rw[e2,f2];exact⟨Y2,by rw[List.getElem?_set_ne (Ne.symm EZ),List.getElem?_set_self iq]⟩
    exact absurd e1 f1
   rcases ru j d h2 with⟨f1,_⟩|⟨_,f2⟩
   ·exact absurd f1 e1
   obtain⟨p1,p2⟩:=h.sp j s' d e2 f2;refine⟨p1,?_⟩;rw[List.getElem?_set_ne (fun q=>by have:=h.bl;rw[q,p2]at this;simp at this),List.getElem?_set_ne (Ne.symm (Ct j s' e1 e2))];exact p2
  Ns:=fun i j s' h1 h2=>by
   rcases NL i s' h1 with⟨e1,e2⟩|⟨e1,e2⟩<;>rcases NL j s' h2 with⟨f1,f2⟩|⟨f1,f2⟩
   ·omega
   ·exact absurd e2 (Ct j s' f1 f2)
   ·exact absurd f2 (Ct i s' e1 e2)
   exact h.Ns i j s' e2 f2 }
theorem OH.QW(h:OH name ids ss X bW L O){k id:Nat}{b:Block}{l:List Edge}(fA:ids[k]?=some id)(hb:L[k]?=some b)(cj:b.term.to≠[])(hl:l.length=b.term.to.length):OH name ids ss X bW (L.set k (KI b l)) (O.set id (.cells (K3 l))):=by
 have m6:=I hb;obtain⟨o1,o2,o3,o4⟩:=h.own k id b fA hb cj;have sP:=I o4;have ru:∀(j:Nat) (d:Block),(L.set k (KI b l))[j]?=some d->(j=k∧d=KI b l)∨(j≠k∧L[j]?=some d):=fun j d hd=>by
  rw[List.getElem?_set]at hd;split at hd
  ·rename_i e
   first
   | exact .inl ⟨e.symm,(Option.some.inj hd).symm⟩
   | (rw[if_pos (by omega)]at hd;exact .inl ⟨e.symm,(Option.some.inj hd).symm⟩)
  rename_i e;exact .inr ⟨fun q=>e q.symm,hd⟩
 obtain⟨s,hs⟩:∃s,ss[k]?=some s:=⟨ss[k]'(by rw[h.ls];exact m6),List.getElem?_eq_getElem _⟩
 have dp:Ll s id (KI b l)=Ll s id b:=by
  unfold Ll KI LY;simp only;by_cases q:b.term.to=[]
  ·exact absurd q cj
  rw[if_neg q,if_neg (fun z=>q (List.length_eq_zero_iff.1 (by rw[<-hl,z];rfl))),hl]
 exact {
  up:=by
   rw[List.length_set];refine bF h.up ?_;show aw _ _;rw[aY];intro d hd;unfold K3 at hd;rw[List.mem_flatMap]at hd;obtain⟨e,_,hd⟩:=hd;simp only[List.mem_cons,List.not_mem_nil,or_false]at hd;rcases hd with rfl|rfl
   ·trivial
   exact⟨az _ _,trivial⟩
  r1:=by rw[List.getElem?_set_ne (by omega)];exact h.r1
  x5:=h.x5
  xb:=h.xb
  b5:=h.b5
  out:=by rw[List.getElem?_set_ne o3,List.length_set];exact h.out
  bl:=by
   rw[List.getElem?_set_ne o2,QR hs fA hb dp];exact h.bl
  li:=by rw[List.length_set];exact h.li
  ls:=by rw[List.length_set];exact h.ls
  own:=fun j kD d h1 h2 h3=>by
   rcases ru j d h2 with⟨e1,e2⟩|⟨e1,e2⟩
   ·subst e1 e2;rw[fA]at h1;simp only[Option.some.injEq]at h1;subst h1;exact⟨o1,o2,o3,List.getElem?_set_self sP⟩
   obtain⟨p1,p2,p3,p4⟩:=h.own j kD d h1 e2 h3;refine⟨p1,p2,p3,?_⟩;rw[List.getElem?_set_ne]
   ·exact p4
   intro q;rw[<-q]at h1;exact e1 (h.inj j k id d b h1 fA e2 hb h3 cj)
  inj:=fun i j kD d e h1 h2 h3 h4 h5 h6=>by
   have aux:∀(j:Nat) (d:Block),(L.set k (KI b l))[j]?=some d->d.term.to≠[]->∃d0,L[j]?=some d0∧d0.term.to≠[]:=fun j d hd hn=>by
    rcases ru j d hd with⟨e1,e2⟩|⟨e1,e2⟩
    ·subst e1;exact⟨b,hb,cj⟩
    exact⟨d,e2,hn⟩
   obtain⟨d0,p1,p2⟩:=aux i d h3 h5;obtain⟨e0,r1,r2⟩:=aux j e h4 h6;exact h.inj i j kD d0 e0 h1 h2 p1 r1 p2 r2
  sp:=fun j s' d h1 h2=>by
   have aux:∃d0,L[j]?=some d0∧d.ins=d0.ins:=by
    rcases ru j d h2 with⟨e1,e2⟩|⟨e1,e2⟩
    ·rw[e1,e2];exact⟨b,hb,rfl⟩
    exact⟨d,e2,rfl⟩
   obtain⟨d0,e1,e2⟩:=aux;obtain⟨p1,p2⟩:=h.sp j s' d0 h1 e1;refine⟨p1,?_⟩;rw[List.getElem?_set_ne (fun q=>by rw[q,p2]at o4;simp at o4),e2];exact p2
  Ns:=h.Ns }
end
theorem NT(spare:Int){left:List Mv}(cj:left≠[]):(KY spare left).1.length+1=left.length∧(KY spare left).2.length<=2:=by
 match left,cj with
 | x0::r,_ =>
  unfold KY;simp only;split
  ·simp
  rename_i h;rcases Lr (Lo (x0::r)) (x0::r)with⟨e,_⟩|⟨j,x,e,hj,_,_⟩
  ·omega
  have NK:=I hj;rw[e,Int.toNat_natCast];refine⟨?_,by simp⟩;rw[List.length_eraseIdx,if_pos NK];simp only[List.length_cons]at NK ⊢;omega
theorem Ox(spare:Int):∀(n:Nat) (left:List Mv),(Lg spare n left).length<=2*left.length
 | 0,left=>by simp[Lg]
 | n+1,left=>by
  unfold Lg;split
  ·simp
  rename_i h;obtain⟨h1,h2⟩:=NT spare h;have:=Ox spare n (KY spare left).1;rw[List.length_append];omega
theorem Tm(l:List Mv)(spare:Int):(NX l spare).length<=2*l.length:=by
 have:=Ox spare l.length (KH l);have h2:(KH l).length<=l.length:=List.length_filter_le ..;unfold NX;omega
end Go.Proofs.Ytkhnjeblbiocaaa
namespace Go.Proofs.Ytkhnjeblbiocaaa
open Go.Av
def LH(v:Int):Bool:=decide (0<=v)&&decide (v<4096)
theorem Nm(v:Int):bw Try.prog 66 [aI v] (.v (.bool (LH v))):=by
 unfold LH;by_cases h:0<=v
 ·have d:decide (0<=v)=true:=decide_eq_true h;rw[d,Bool.true_and];refine zf true 0 Try.func66 Try.ntmps66 ?_;dsimp only[Tmp,TypeId,ax];refine aA (ah ?_);refine aX ?_;simp -dsimp only[simprocAttr,↓aa,zp,d];refine ah ?_;refine aq ?_;simp -dsimp only[simprocAttr,↓aa,zp,zr,Try.results66]
 have d:decide (0<=v)=false:=decide_eq_false h;rw[d,Bool.false_and];refine zf true 0 Try.func66 Try.ntmps66 ?_;dsimp only[Tmp,TypeId,ax];refine aA (ah ?_);refine aX ?_;simp -dsimp only[simprocAttr,↓aa,zp,d];refine ah ?_;refine aq ?_;simp -dsimp only[simprocAttr,↓aa,zp,zr,Try.results66]
theorem So(v:Int):bw Try.prog 84 [aI v] (.v (.bool (!LH v))):=by
 have hv:=Nm v;refine zf true 0 Try.func84 Try.ntmps84 ?_;dsimp only[Tmp,TypeId,ax];refine aA (ah ?_);refine aA ?_;refine zi hv ?_;refine ah ?_;refine aq ?_;simp -dsimp only[simprocAttr,↓aa,zp,zr,Try.results84]
def Og(q:Int->Bool):List Int->Nat->Int
 | [],_=>-1
 | x::r,k=>if q x then(k:Int)else Og q r (k+1)
theorem Pc(q:Int->Bool):∀(l:List Int) (k:Nat),decide (0<=Og q l k)=l.any q
 | [],k=>rfl
 | a::r,k=>by
  rw[Og,List.any_cons];cases hq:q a with
  | true =>
   rw[if_pos rfl,Bool.true_or];exact decide_eq_true (by omega)
  | false =>
   rw[if_neg (by simp),Bool.false_or];exact Pc q r (k+1)
theorem R9(l:List Int):bw Try.prog 105 [a6 l,.fn (.func 84) [] []] (aI (Og (fun a=>!LH a) l 0)):=by
 obtain⟨R,hR⟩:∃R,R=Og (fun a=>!LH a) l 0:=⟨_,rfl⟩
 rw[<-hR];refine zf true 0 Try.func105 Try.ntmps105 ?_;dsimp only[Tmp,TypeId,ax];refine aA (ah ?_);refine ff 0 rfl (fun wo=>?_);simp only[List.length_map]at wo;refine b8 (ah ?_);refine aj (aU (ι:={k:Nat // k<=l.length∧R=Og (fun a=>!LH a) (l.drop k) k}) (fun k=>⟨19,[(0,a6 l),(1,.fn (.func 84) [] []),(7,aI l.length),(8,aI k.1)],[]⟩) (fun k=>l.length-k.1) ⟨0,by omega,hR⟩ ?_ ?_)
 ·refine zq rfl ?_ ?_;simp -dsimp only[simprocAttr,↓aa,zp,zc]
  all_goals rfl
 rintro⟨k,hk,cO⟩;refine aA (ah ?_);apply gW rfl<;>intro h
 ·refine cA ?_;have aZ:k<l.length:=by simpa using h
  obtain⟨x,hx⟩:∃x,l[k]?=some x:=⟨l[k],List.getElem?_eq_getElem aZ⟩
  have hv:=So x;rw[bS hx,Og]at cO;refine aK (aj ?_);refine aA (ah ?_);refine aX ?_;simp -dsimp only[simprocAttr,↓aa,zp,hx]
  repeat(refine⟨by omega,?_⟩)
  refine zi hv ?_;refine ah ?_;cases hq:LH x with
  | false =>
   rw[hq]at cO;simp only[Bool.not_false,if_true]at cO;refine cS rfl ?_;refine aA (ah ?_);refine aq ?_;simp -dsimp only[simprocAttr,↓aa,zp,zr,Try.results105];rw[cO]
  | true =>
   rw[hq]at cO;simp only[Bool.not_true,Bool.false_eq_true,if_false]at cO;apply aP rfl<;>intro h
   ·cases h
   refine jR ?_;refine dc ?_
   repeat(refine⟨by omega,?_⟩)
   refine fV ?_;refine⟨⟨k+1,aZ,cO⟩,by show l.length-(k+1)<l.length-k;omega,?_⟩;refine zq rfl ?_ ?_;simp -dsimp only[simprocAttr,↓aa,zp,zc]
   ·exact Sub.int (by simp)
   rfl
 refine aR ?_;simp -dsimp only[bX,ne_eq,Nat.reduceEqDiff,reduceCtorEq];have m6:k=l.length:=by
  have:=of_decide_eq_false h;omega
 subst m6;rw[List.drop_length]at cO;refine aA (ah ?_);refine aq ?_;simp -dsimp only[simprocAttr,↓aa,zp,zr,Try.results105];rw[cO];rfl
theorem RY(l:List Int):bw Try.prog 83 [a6 l,.fn (.func 84) [] []] (.v (.bool (l.any fun a=>!LH a))):=by
 have hi:=R9 l;have ha:=Pc (fun a=>!LH a) l 0;refine zf true 0 Try.func83 Try.ntmps83 ?_;dsimp only[Tmp,TypeId,ax];refine aA (ah ?_);refine aA ?_;refine zi hi ?_;refine ah ?_;refine aq ?_;simp -dsimp only[simprocAttr,↓aa,zp,zr,Try.results83];rw[ha]
def Nf(i:bE):Int :=
 if(!LH i.to ||i.args.any fun a=>!LH a)=true then 4
 else if i.op≠100 then jg i
 else if i.args.length≠1 then 3
 else if i.n≠0 then 4 else 0
theorem Sj(i:bE):bw Try.prog 68 [i.enc] (aI (Nf i)):=by
 have hv:=Nm i.to;have hc:=RY i.args;have hf:=rT i;obtain⟨R,hR⟩:∃R,R=Nf i:=⟨_,rfl⟩
 rw[<-hR];unfold Nf at hR;obtain⟨B,hB⟩:∃B,B=(!LH i.to ||i.args.any fun a=>!LH a):=⟨_,rfl⟩
 rw[<-hB]at hR;generalize jg i=fe at *;refine zf true 0 Try.func68 Try.ntmps68 ?_;dsimp only[Tmp,TypeId,ax];refine aA (ah ?_);refine aH 1 0 (.ip none [aI i.to,aI i.op,aI i.n,a6 i.args]) rfl (by simp[ak.aF]) trivial rfl ?_ ?_;rotate_left;simp -dsimp only[simprocAttr,↓aa,zp];rotate_left
 ·exact cw.mp rfl rfl
 cases SF:LH i.to with
 | false =>
  rw[SF]at hv hB;rw[show B=true from hB]at hR;rw[if_pos rfl]at hR;refine b8 ?_;refine zi hv ?_;refine ah ?_;refine cS rfl ?_;refine aA (ah ?_);refine aq ?_;simp -dsimp only[simprocAttr,↓aa,zp,zr,Try.results68];rw[hR]
 | true =>
  rw[SF]at hv hB;have XL:B=i.args.any fun a=>!LH a:=hB;rw[<-XL]at hc;clear hB XL;cases B with
  | true =>
   rw[if_pos rfl]at hR;refine b8 ?_;refine zi hv ?_;refine zi hc ?_;refine ah ?_;refine cS rfl ?_;refine aA (ah ?_);refine aq ?_;simp -dsimp only[simprocAttr,↓aa,zp,zr,Try.results68];rw[hR]
  | false =>
   rw[if_neg (by simp)]at hR;refine b8 ?_;refine zi hv ?_;refine zi hc ?_;refine ah ?_;apply aP rfl<;>intro h
   ·cases h
   refine cA ?_;by_cases gB:i.op=100
   ·rw[if_neg (by simp[gB])]at hR;have d1:decide (i.op=100)=true:=decide_eq_true gB;refine dd ?_;simp -dsimp only[simprocAttr,↓aa,zp,d1];refine ah ?_;apply aP rfl<;>intro h
    ·cases h
    refine cA ?_;refine aK (aj ?_);by_cases hl:i.args.length=1
    ·rw[if_neg (by simp[hl])]at hR;have d2:decide ((i.args.length:Int)=1)=true:=decide_eq_true (by omega);refine aX ?_;simp -dsimp only[simprocAttr,↓aa,zp,d2];refine ah ?_;apply aP rfl<;>intro h
     ·cases h
     by_cases hn:i.n=0
     ·rw[if_neg (by simp[hn])]at hR;have d3:decide (i.n=0)=true:=decide_eq_true hn;refine aX ?_;simp -dsimp only[simprocAttr,↓aa,zp,d3];refine ah ?_;apply aP rfl<;>intro h
      ·cases h
      refine jR ?_;refine aA (ah ?_);refine aq ?_;simp -dsimp only[simprocAttr,↓aa,zp,zr,Try.results68];rw[hR]
     rw[if_pos hn]at hR;have d3:decide (i.n=0)=false:=decide_eq_false hn;refine aX ?_;simp -dsimp only[simprocAttr,↓aa,zp,d3];refine ah ?_;refine cS rfl ?_;refine aA (ah ?_);refine aq ?_;simp -dsimp only[simprocAttr,↓aa,zp,zr,Try.results68];rw[hR]
    rw[if_pos hl]at hR;have d2:decide ((i.args.length:Int)=1)=false:=decide_eq_false (by omega);refine aX ?_;simp -dsimp only[simprocAttr,↓aa,zp,d2];refine ah ?_;refine cS rfl ?_;refine aA (ah ?_);refine aq ?_;simp -dsimp only[simprocAttr,↓aa,zp,zr,Try.results68];rw[hR]
   rw[if_pos gB]at hR;have d1:decide (i.op=100)=false:=decide_eq_false gB;unfold bE.enc at hf;refine dd ?_;simp -dsimp only[simprocAttr,↓aa,zp,d1];refine ah ?_;refine cS rfl ?_;refine aA ?_;refine zi hf ?_;refine ah ?_;refine aq ?_;simp -dsimp only[simprocAttr,↓aa,zp,zr,Try.results68];rw[hR]
def NO:List Int->List Int->Int
 | _,[]=>0
 | d,v::r=>if LH v=false then 4 else if uv d v=true then 7 else NO (d++[v]) r
def Ml:List bE->Int
 | []=>0
 | i::r=>l4 (Nf i) (Ml r)
def Qo(f:Func)(k:Nat)(b:Block):Int :=
 if 0<k∧0<b.params.length then 3
 else l4 (NO [] b.params) (l4 (Ml b.ins) (l4 (jX f b.term) (if LH b.term.arg=true then 0 else 4)))
def MU(f:Func):Nat->List Block->Int
 | _,[]=>0
 | k,b::r=>l4 (Qo f k b) (MU f (k+1) r)
def NN(f:Func):Int :=
 if f.blocks.length=0 then 3
 else if 128<f.blocks.length∨4096<kM 0 f.blocks∨6<(aD f 0).params.length then 2
 else if f.name < -1∨1048576<=f.name then 4
 else MU f 0 f.blocks
theorem Si(f:Func)(bB:f.fit):bw Try.prog 54 [f.enc] (aI (NN f)):=by
 have wj:f.blocks.length<=2 ^ 47:=bB.2.1;obtain⟨R,hR⟩:∃R,R=NN f:=⟨_,rfl⟩
 rw[<-hR];unfold NN at hR;refine zf true 0 Try.func54 Try.ntmps54 ?_;dsimp only[Tmp,TypeId,ax];refine aA (ah ?_);refine aH 1 0 (.ip none [aI f.name,ay f.blocks]) rfl (by simp[ak.aF]) trivial rfl ?_ ?_;rotate_left;simp -dsimp only[simprocAttr,↓aa,zp];rotate_left
 ·exact cw.mp rfl rfl
 refine aA (ah ?_);refine b8 (ah ?_);refine aj (aU (ι:={x:Nat×Int // x.1<=f.blocks.length∧kM 0 f.blocks=kM x.2 (f.blocks.drop x.1)}) (fun x=>⟨121,[(1,.ip none [aI f.name,ay f.blocks]),(2,aI 0),(3,aI x.1.2),(15,ay f.blocks),(16,aI f.blocks.length),(17,aI x.1.1)],[.gone]⟩) (fun x=>f.blocks.length-x.1.1) ⟨(0,0),by simp,rfl⟩ ?_ ?_)
 ·refine zq rfl ?_ ?_;simp -dsimp only[simprocAttr,↓aa,zp,zc];rfl
 rintro⟨⟨k,m⟩,hk,cO⟩;simp only at hk cO;refine aA (ah ?_);apply gW rfl<;>intro h
 ·refine cA ?_;have aZ:k<f.blocks.length:=by simpa using h
  obtain⟨b,hb⟩:∃b,f.blocks[k]?=some b:=⟨f.blocks[k],by simp[aZ]⟩
  rw[bS hb]at cO;simp only[kM]at cO;refine aK (aj ?_);refine aX ?_;simp -dsimp only[simprocAttr,↓aa,zp,hb];refine ah ?_;refine aH 5 1 (.ip none [a6 b.params,bD b.ins,aI b.term.kind,aI b.term.arg,aI b.term.n,a6 b.term.cases,aJ b.term.to]) rfl (by simp[ak.aF]) trivial rfl ?_ ?_;rotate_left;simp -dsimp only[simprocAttr,↓aa,zp];rotate_left
  ·exact cw.mp rfl rfl
  refine kT ⟨false,false⟩ hT 4 rfl rfl rfl (by simp) ?_;simp -dsimp only[simprocAttr,↓aa,zp];refine oK rfl rfl (by simp) rfl rfl ?_;simp -dsimp only[simprocAttr,↓aa,zp];refine ah ?_;refine bT 1 [(1,.ip none [aI f.name,ay f.blocks]),(2,aI 0),(3,aI (IntKind.i64.wrap (m+b.ins.length))),(15,ay f.blocks),(16,aI f.blocks.length),(17,aI k)] (by simp) (by omega) [.gone] ?_ ?_ ?_ ?_ ?_
  ·rfl
  ·simp[ak.upto,aw,ae.upto,az,Block.ai]
  ·simp[gj,St.get,bu,a7,Go.Av.look,Sub.refl]
  ·simp[ak.upto,aw,ae.upto,az,Block.ai]
  refine dc ?_
  repeat(refine⟨by omega,?_⟩)
  refine fV ?_;refine⟨⟨(k+1,IntKind.i64.wrap (m+b.ins.length)),by simp only;omega,cO⟩,by simp;omega,?_⟩;refine zq rfl ?_ ?_;simp -dsimp only[simprocAttr,↓aa,zp,zc]
  ·exact Sub.int (by simp)
  rfl
 refine aR ?_;simp -dsimp only[bX,ne_eq,Nat.reduceEqDiff,reduceCtorEq];have gT:k=f.blocks.length:=by simp at h;omega
 subst gT;rw[List.drop_length]at cO;simp only[kM]at cO;rw[cO]at hR;clear hk cO;refine aK (aj ?_);by_cases hl:f.blocks.length=0
 ·rw[if_pos hl]at hR;have d0:decide ((f.blocks.length:Int)=0)=true:=decide_eq_true (by omega);refine aX ?_;simp -dsimp only[simprocAttr,↓aa,zp,d0];refine ah ?_;refine cS rfl ?_;refine aA (ah ?_);refine aq ?_;simp -dsimp only[simprocAttr,↓aa,zp,zr,Try.results54];rw[hR]
 rw[if_neg hl]at hR;have d0:decide ((f.blocks.length:Int)=0)=false:=decide_eq_false (by omega);have hB:f.blocks[0]?=some (aD f 0):=dy (f:=f) (k:=0) (by omega) (by omega);generalize aD f 0=B at *;refine aX ?_;simp -dsimp only[simprocAttr,↓aa,zp,d0];refine ah ?_;apply aP rfl<;>intro h
 ·cases h
 refine gI (⟨121,[(1,.ip none [aI f.name,ay f.blocks]),(2,aI 0),(32,.v (.bool (decide ((128:Int)<f.blocks.length) ||decide ((4096:Int)<m) ||decide ((6:Int)<B.params.length))))],[.gone]⟩) ?_ ?_
 ·cases hA:decide ((128:Int)<f.blocks.length)<;>cases FK:decide ((4096:Int)<m)<;>cases hC:decide ((6:Int)<B.params.length)
  all_goals
   refine jz hT hm ?_;simp -dsimp only[simprocAttr,↓aa,zp,hA,FK,hC,hB];refine bd ?_;show bg _ _;refine zq rfl ?_ ?_;simp -dsimp only[simprocAttr,↓aa,zp,zc]
   ·exact Sub.refl _
   rfl
 by_cases sL:128<f.blocks.length∨4096<m∨6<B.params.length
 ·rw[if_pos sL]at hR;have hd:(decide ((128:Int)<f.blocks.length) ||decide ((4096:Int)<m) ||decide ((6:Int)<B.params.length))=true:=by
   simp only[Bool.or_eq_true,decide_eq_true_eq];omega
  rw[hd];refine cS rfl ?_;refine aA (ah ?_);refine aq ?_;simp -dsimp only[simprocAttr,↓aa,zp,zr,Try.results54];rw[hR]
 rw[if_neg sL]at hR;have hd:(decide ((128:Int)<f.blocks.length) ||decide ((4096:Int)<m) ||decide ((6:Int)<B.params.length))=false:=by
  simp only[Bool.or_eq_false_iff,decide_eq_false_iff_not];omega
 rw[hd];apply aP rfl<;>intro h
 ·cases h
 by_cases X7:f.name < -1∨1048576<=f.name
 ·rw[if_pos X7]at hR;have cM:∀X:Int,R=4->R=4:=fun _ h=>h;cases nR:decide (f.name < -1)with
  | true =>
   refine aX ?_;simp -dsimp only[simprocAttr,↓aa,zp,nR];refine ah ?_;refine cS rfl ?_;refine aA (ah ?_);refine aq ?_;simp -dsimp only[simprocAttr,↓aa,zp,zr,Try.results54];rw[hR]
  | false =>
   have V1:=of_decide_eq_false nR;have r9:decide (1048576<=f.name)=true:=decide_eq_true (by omega);refine aX ?_;simp -dsimp only[simprocAttr,↓aa,zp,nR,r9];refine ah ?_;refine cS rfl ?_;refine aA (ah ?_);refine aq ?_;simp -dsimp only[simprocAttr,↓aa,zp,zr,Try.results54];rw[hR]
 rw[if_neg X7]at hR;have nR:decide (f.name < -1)=false:=decide_eq_false (by omega);have r9:decide (1048576<=f.name)=false:=decide_eq_false (by omega);refine aX ?_;simp -dsimp only[simprocAttr,↓aa,zp,nR,r9];refine ah ?_;apply aP rfl<;>intro h
 ·cases h
 refine jR ?_;refine b8 (ah ?_);refine aj (aU (ι:={k:Nat // k<=f.blocks.length∧R=MU f k (f.blocks.drop k)}) (fun k=>⟨121,[(1,.ip none [aI f.name,ay f.blocks]),(2,aI 0),(60,ay f.blocks),(61,aI f.blocks.length),(62,aI k.1)],[.gone]⟩) (fun k=>f.blocks.length-k.1) ⟨0,by omega,hR⟩ ?_ ?_)
 ·refine zq rfl ?_ ?_;simp -dsimp only[simprocAttr,↓aa,zp,zc]
  all_goals rfl
 rintro⟨k,hk,cO⟩;refine aA (ah ?_);apply gW rfl<;>intro h
 ·refine cA ?_;have aZ:k<f.blocks.length:=by simpa using h
  obtain⟨b,hb⟩:∃b,f.blocks[k]?=some b:=⟨f.blocks[k],by simp[aZ]⟩
  have jc:=List.mem_of_getElem? hb;have VL:=bB.2.2 b jc;have yW:=ug f b.term (by have:=VL.2.2.2.2.2.2.2.2.1;omega) (by omega);have WE:=Nm b.term.arg;have YB:b.params.length<=2 ^ 47:=VL.2.1;have YL:b.ins.length<=2 ^ 47:=VL.2.2.1;rw[bS hb,MU]at cO;obtain⟨rest,cP⟩:∃x,x=MU f (k+1) (f.blocks.drop (k+1)):=⟨_,rfl⟩
  rw[<-cP]at cO;unfold Qo at cO;refine aK (aj ?_);refine aX ?_;simp -dsimp only[simprocAttr,↓aa,zp,hb];refine ah ?_;refine aH 7 1 (.ip none [a6 b.params,bD b.ins,aI b.term.kind,aI b.term.arg,aI b.term.n,a6 b.term.cases,aJ b.term.to]) rfl (by simp[ak.aF]) trivial rfl ?_ ?_;rotate_left;simp -dsimp only[simprocAttr,↓aa,zp];rotate_left
  ·exact cw.mp rfl rfl
  refine bT 1 [(1,.ip none [aI f.name,ay f.blocks]),(2,aI 0),(60,ay f.blocks),(61,aI f.blocks.length),(62,aI k),(6,aI k),(7,.ip none [a6 b.params,bD b.ins,aI b.term.kind,aI b.term.arg,aI b.term.n,a6 b.term.cases,aJ b.term.to])] (by simp) (by omega) [.gone] ?_ ?_ ?_ ?_ ?_
  ·rfl
  ·simp[ak.upto]
  ·simp[gj,St.get,bu,a7,Go.Av.look,Sub.refl]
  ·simp[ak.upto,aw,ae.upto,az,Block.ai,bE.ai,Edge.ai]
  by_cases X3:0<k∧0<b.params.length
  ·rw[if_pos X3,fT (by omega)]at cO;have d1:decide ((0:Int)<k)=true:=decide_eq_true (by omega);have d2:decide ((0:Int)<b.params.length)=true:=decide_eq_true (by omega);refine dd ?_;simp -dsimp only[simprocAttr,↓aa,zp,d1,d2];refine ah ?_;refine cS rfl ?_;refine aA (ah ?_);refine aq ?_;simp -dsimp only[simprocAttr,↓aa,zp,zr,Try.results54];rw[cO]
  rw[if_neg X3,gU,gU,gU]at cO;refine gI (⟨121,[(1,.ip none [aI f.name,ay f.blocks]),(2,aI 0),(60,ay f.blocks),(61,aI f.blocks.length),(62,aI k),(6,aI k),(7,.ip none [a6 b.params,bD b.ins,aI b.term.kind,aI b.term.arg,aI b.term.n,a6 b.term.cases,aJ b.term.to])],[.gone]⟩) ?_ ?_
  ·by_cases DK:0<k
   ·have d1:decide ((0:Int)<k)=true:=decide_eq_true (by omega);have d2:decide ((0:Int)<b.params.length)=false:=decide_eq_false (by omega);refine aX ?_;simp -dsimp only[simprocAttr,↓aa,zp,d1,d2];refine ah ?_;refine cE rfl ?_;refine a8 ?_;show bg _ _;refine zq rfl ?_ ?_;simp -dsimp only[simprocAttr,↓aa,zp,zc];rfl
   have d1:decide ((0:Int)<k)=false:=decide_eq_false (by omega);refine aX ?_;simp -dsimp only[simprocAttr,↓aa,zp,d1];refine ah ?_;refine cE rfl ?_;refine a8 ?_;show bg _ _;refine zq rfl ?_ ?_;simp -dsimp only[simprocAttr,↓aa,zp,zc];rfl
  obtain⟨T1,Gj⟩:∃T1,T1=l4 (Ml b.ins) (l4 (jX f b.term) (l4 (if LH b.term.arg=true then 0 else 4) rest)):=⟨_,rfl⟩
  rw[<-Gj]at cO;refine b8 (ah ?_);refine aj (aU (ι:={n:Nat // n<=b.params.length∧R=l4 (NO (b.params.take n) (b.params.drop n)) T1}) (fun n=>⟨121,[(1,.ip none [aI f.name,ay f.blocks]),(2,aI 0),(60,ay f.blocks),(61,aI f.blocks.length),(62,aI k),(6,aI k),(7,.ip none [a6 b.params,bD b.ins,aI b.term.kind,aI b.term.arg,aI b.term.n,a6 b.term.cases,aJ b.term.to]),(76,a6 b.params),(77,aI b.params.length),(78,aI n.1)],[.gone]⟩) (fun n=>b.params.length-n.1) ⟨0,by omega,cO⟩ ?_ ?_)
  ·refine zq rfl ?_ ?_;simp -dsimp only[simprocAttr,↓aa,zp,zc]
   all_goals rfl
  rintro⟨n,hn,cj⟩;refine aA (ah ?_);apply gW rfl<;>intro h
  ·refine cA ?_;have Vm:n<b.params.length:=by simpa using h
   obtain⟨v,hv⟩:∃v,b.params[n]?=some v:=⟨b.params[n],List.getElem?_eq_getElem Vm⟩
   have TT:=Nm v;have eZ:=mN (b.params.take n) v;have iz:b.params.take (n+1)=b.params.take n++[v]:=by rw[List.take_add_one,hv];rfl
   rw[bS hv,NO]at cj;refine aK (aj ?_);refine aX ?_;simp -dsimp only[simprocAttr,↓aa,zp,hv]
   repeat(refine⟨by omega,?_⟩)
   refine ah ?_;refine aj ?_;cases SF:LH v with
   | false =>
    rw[SF]at TT;rw[if_pos SF,fT (by omega)]at cj;refine aA ?_;refine zi TT ?_;refine ah ?_;refine cS rfl ?_;refine aA (ah ?_);refine aq ?_;simp -dsimp only[simprocAttr,↓aa,zp,zr,Try.results54];rw[cj]
   | true =>
    rw[SF]at TT;rw[if_neg (by simp[SF])]at cj;refine aA ?_;refine zi TT ?_;refine ah ?_;apply aP rfl<;>intro h
    ·cases h
    cases Br:uv (b.params.take n) v with
    | true =>
     rw[Br]at eZ;rw[if_pos Br,fT (by omega)]at cj;refine aX ?_;simp -dsimp only[simprocAttr,↓aa,zp,<-List.map_take]
     repeat(refine⟨by omega,?_⟩)
     refine zi eZ ?_;refine ah ?_;refine cS rfl ?_;refine aA (ah ?_);refine aq ?_;simp -dsimp only[simprocAttr,↓aa,zp,zr,Try.results54];rw[cj]
    | false =>
     rw[Br]at eZ;rw[if_neg (by simp[Br]),<-iz]at cj;refine aX ?_;simp -dsimp only[simprocAttr,↓aa,zp,<-List.map_take]
     repeat(refine⟨by omega,?_⟩)
     refine zi eZ ?_;refine ah ?_;apply aP rfl<;>intro h
     ·cases h
     refine Hw ?_;refine dc ?_
     repeat(refine⟨by omega,?_⟩)
     refine fV ?_;refine⟨⟨n+1,Vm,cj⟩,by show b.params.length-(n+1)<b.params.length-n;omega,?_⟩;refine zq rfl ?_ ?_;simp -dsimp only[simprocAttr,↓aa,zp,zc]
     ·exact Sub.int (by simp)
     rfl
  refine aR ?_;simp -dsimp only[bX,ne_eq,Nat.reduceEqDiff,reduceCtorEq];have yX:n=b.params.length:=by
   have:=of_decide_eq_false h;omega
  subst yX;rw[List.drop_length,NO,cJ rfl,Gj]at cj;obtain⟨T2,SD⟩:∃T2,T2=l4 (jX f b.term) (l4 (if LH b.term.arg=true then 0 else 4) rest):=⟨_,rfl⟩
  rw[<-SD]at cj;refine b8 (ah ?_);refine aj (aU (ι:={j:Nat // j<=b.ins.length∧R=l4 (Ml (b.ins.drop j)) T2}) (fun j=>⟨121,[(1,.ip none [aI f.name,ay f.blocks]),(2,aI 0),(60,ay f.blocks),(61,aI f.blocks.length),(62,aI k),(6,aI k),(7,.ip none [a6 b.params,bD b.ins,aI b.term.kind,aI b.term.arg,aI b.term.n,a6 b.term.cases,aJ b.term.to]),(96,bD b.ins),(97,aI b.ins.length),(98,aI j.1)],[.gone]⟩) (fun j=>b.ins.length-j.1) ⟨0,by omega,cj⟩ ?_ ?_)
  ·refine zq rfl ?_ ?_;simp -dsimp only[simprocAttr,↓aa,zp,zc]
   all_goals rfl
  rintro⟨j,hj,fB⟩;refine aA (ah ?_);apply gW rfl<;>intro h
  ·refine cA ?_;have nQ:j<b.ins.length:=by simpa using h
   obtain⟨i,hi⟩:∃i,b.ins[j]?=some i:=⟨b.ins[j],List.getElem?_eq_getElem nQ⟩
   have Wz:=Sj i;rw[bS hi,Ml,gU]at fB;obtain⟨e,hE⟩:∃e,e=Nf i:=⟨_,rfl⟩
   rw[<-hE]at Wz fB;unfold bE.enc at Wz;refine aK (aj ?_);refine aX ?_;simp -dsimp only[simprocAttr,↓aa,zp,hi];refine ah ?_;refine aH 11 1 (.ip none [aI i.to,aI i.op,aI i.n,a6 i.args]) rfl (by simp[ak.aF]) trivial rfl ?_ ?_;rotate_left;simp -dsimp only[simprocAttr,↓aa,zp];rotate_left
   ·exact cw.mp rfl rfl
   refine bT 1 [(1,.ip none [aI f.name,ay f.blocks]),(2,aI 0),(60,ay f.blocks),(61,aI f.blocks.length),(62,aI k),(6,aI k),(7,.ip none [a6 b.params,bD b.ins,aI b.term.kind,aI b.term.arg,aI b.term.n,a6 b.term.cases,aJ b.term.to]),(96,bD b.ins),(97,aI b.ins.length),(98,aI j),(11,.ip none [aI i.to,aI i.op,aI i.n,a6 i.args])] (by simp) (by omega) [.gone] ?_ ?_ ?_ ?_ ?_
   ·rfl
   ·simp[ak.upto]
   ·simp[gj,St.get,bu,a7,Go.Av.look,Sub.refl]
   ·simp[ak.upto,aw,ae.upto,az,Block.ai,bE.ai,Edge.ai]
   by_cases he:e=0
   ·have jn:decide (e=0)=true:=decide_eq_true he;rw[cJ he]at fB;refine aA ?_;refine zi Wz ?_;refine ah ?_;refine aX ?_;simp -dsimp only[simprocAttr,↓aa,zp,jn];refine ah ?_;apply aP rfl<;>intro h
    ·cases h
    refine jR ?_;refine dc ?_
    repeat(refine⟨by omega,?_⟩)
    refine fV ?_;refine⟨⟨j+1,nQ,fB⟩,by show b.ins.length-(j+1)<b.ins.length-j;omega,?_⟩;refine zq rfl ?_ ?_;simp -dsimp only[simprocAttr,↓aa,zp,zc]
    ·exact Sub.int (by simp)
    rfl
   have jn:decide (e=0)=false:=decide_eq_false he;rw[fT he]at fB;refine aA ?_;refine zi Wz ?_;refine ah ?_;refine aX ?_;simp -dsimp only[simprocAttr,↓aa,zp,jn];refine ah ?_;refine cS rfl ?_;refine aA (ah ?_);refine aq ?_;simp -dsimp only[simprocAttr,↓aa,zp,zr,Try.results54];rw[fB]
  refine aR ?_;simp -dsimp only[bX,ne_eq,Nat.reduceEqDiff,reduceCtorEq];have NK:j=b.ins.length:=by
   have:=of_decide_eq_false h;omega
  subst NK;rw[List.drop_length,Ml,cJ rfl,SD]at fB;unfold Func.enc Term.enc at yW;obtain⟨e,hE⟩:∃e,e=jX f b.term:=⟨_,rfl⟩
  rw[<-hE]at yW fB;by_cases he:e=0
  ·have jn:decide (e=0)=true:=decide_eq_true he;rw[cJ he]at fB;refine b8 ?_;refine zi yW ?_;refine ah ?_;refine aX ?_;simp -dsimp only[simprocAttr,↓aa,zp,jn];refine ah ?_;apply aP rfl<;>intro h
   ·cases h
   refine cA ?_;cases SF:LH b.term.arg with
   | true =>
    rw[SF]at WE;rw[if_pos SF,cJ rfl,cP]at fB;refine aA ?_;refine zi WE ?_;refine ah ?_;apply aP rfl<;>intro h
    ·cases h
    refine jR ?_;refine dc ?_
    repeat(refine⟨by omega,?_⟩)
    refine fV ?_;refine⟨⟨k+1,aZ,fB⟩,by show f.blocks.length-(k+1)<f.blocks.length-k;omega,?_⟩;refine zq rfl ?_ ?_;simp -dsimp only[simprocAttr,↓aa,zp,zc]
    ·exact Sub.int (by simp)
    rfl
   | false =>
    rw[SF]at WE;rw[if_neg (by simp[SF]),fT (by omega)]at fB;refine aA ?_;refine zi WE ?_;refine ah ?_;refine cS rfl ?_;refine aA (ah ?_);refine aq ?_;simp -dsimp only[simprocAttr,↓aa,zp,zr,Try.results54];rw[fB]
  have jn:decide (e=0)=false:=decide_eq_false he;rw[fT he]at fB;refine b8 ?_;refine zi yW ?_;refine ah ?_;refine aX ?_;simp -dsimp only[simprocAttr,↓aa,zp,jn];refine ah ?_;refine cS rfl ?_;refine aA (ah ?_);refine aq ?_;simp -dsimp only[simprocAttr,↓aa,zp,zr,Try.results54];rw[fB]
 refine aR ?_;simp -dsimp only[bX,ne_eq,Nat.reduceEqDiff,reduceCtorEq];have m6:k=f.blocks.length:=by
  have:=of_decide_eq_false h;omega
 subst m6;rw[List.drop_length,MU]at cO;refine aA (ah ?_);refine aq ?_;simp -dsimp only[simprocAttr,↓aa,zp,zr,Try.results54];rw[cO]
theorem Qq:∀{l d:List Int},NO d l=0->∀v∈l,LH v=true
 | [],_,_,v,h=>by cases h
 | a::r,d,h,v,hv=>by
  rw[NO]at h;split at h
  ·simp at h
  rename_i h1;split at h
  ·simp at h
  rcases List.mem_cons.1 hv with q|q
  ·rw[q];simpa using h1
  exact Qq h v q
theorem Pk:∀{l:List bE},Ml l=0->∀i∈l,Nf i=0
 | [],_,i,h=>by cases h
 | a::r,h,i,hi=>by
  have:=hZ h;rcases List.mem_cons.1 hi with q|q
  ·rw[q];exact this.1
  exact Pk this.2 i q
theorem Ph{f:Func}:∀{l:List Block} {k:Nat},MU f k l=0->∀(j:Nat) b,l[j]?=some b->Qo f (k+j) b=0
 | [],_,_,j,b,h=>by simp at h
 | a::r,k,h,j,b,hj=>by
  have:=hZ h;cases j with
  | zero =>
   simp only[List.getElem?_cons_zero,Option.some.injEq]at hj;subst hj;exact this.1
  | succ j =>
   rw[show k+(j+1)=k+1+j by omega];exact Ph this.2 j b (by simpa using hj)
structure QN(f:Func):Prop where
 ne:f.blocks≠[]
 few:f.blocks.length<=128
 name:-1<=f.name∧f.name<=1048575
 args:(aD f 0).params.length<=6
 ins:∀b∈f.blocks,b.ins.length<=4096
 bare:∀(k:Nat) b,f.blocks[k]?=some b->0<k->b.params=[]
 Y8:∀b∈f.blocks,∀v∈b.params,LH v=true
 We:∀b∈f.blocks,∀i∈b.ins,Nf i=0
 fin:∀b∈f.blocks,jX f b.term=0
 arg:∀b∈f.blocks,LH b.term.arg=true
theorem QN.form{f:Func}(h:QN f)(b:Block)(hb:b∈f.blocks)(i:bE)(hi:i∈b.ins)(gB:i.op≠100):DD i:=by
 have:=h.We b hb i hi;unfold Nf at this;split at this
 ·simp at this
 skip
 exact nK this
theorem RI{f:Func}(bB:f.fit)(h:NN f=0):QN f:=by
 unfold NN at h;split at h
 ·simp at h
 rename_i h1;split at h
 ·simp at h
 rename_i h2;split at h
 ·simp at h
 rename_i h3;have hw:=tE f.blocks 0 (by omega) (by omega) (fun b hb=>(bB.2.2 b hb).2.2.1);have hB:∀(k:Nat) b,f.blocks[k]?=some b->Qo f k b=0:=fun k b hk=>by
  have:=Ph h k b hk
  rwa [Nat.zero_add]at this
 have hM:∀b∈f.blocks,∃k:Nat,f.blocks[k]?=some b:=fun b hb=>List.mem_iff_getElem?.1 hb;have hP:∀(k:Nat) b,f.blocks[k]?=some b->¬(0<k∧0<b.params.length)∧NO [] b.params=0∧Ml b.ins=0∧jX f b.term=0∧LH b.term.arg=true:=fun k b hk=>by
  have:=hB k b hk;unfold Qo at this;split at this
  ·simp at this
  rename_i hq;have h5:=hZ this;have h6:=hZ h5.2;have h7:=hZ h6.2;refine⟨hq,h5.1,h6.1,h7.1,?_⟩;have h8:=h7.2;split at h8
  ·assumption
  simp at h8
 refine⟨fun e=>h1 (by rw[e];rfl),by omega,by omega,by omega,fun b hb=>?_,fun k b hk h0=>?_,fun b hb=>?_,fun b hb=>?_,fun b hb=>?_,fun b hb=>?_⟩
 ·have:=hw.2 b hb;omega
 ·have:=(hP k b hk).1;exact List.length_eq_zero_iff.1 (by omega)
 ·obtain⟨k,hk⟩:=hM b hb;exact Qq (hP k b hk).2.1
 ·obtain⟨k,hk⟩:=hM b hb;exact Pk (hP k b hk).2.2.1
 ·obtain⟨k,hk⟩:=hM b hb;exact(hP k b hk).2.2.2.1
 obtain⟨k,hk⟩:=hM b hb;exact(hP k b hk).2.2.2.2
def MV:List Func->Int
 | []=>0
 | f::r=>l4 (NN f) (MV r)
theorem MW:∀{l:List Func},MV l=0->∀f∈l,NN f=0
 | [],_,f,h=>by simp at h
 | g::r,h,f,hf=>by
  have:=hZ h;rcases List.mem_cons.1 hf with q|q
  ·subst q;exact this.1
  exact MW this.2 f q
def KX(u:bR):Int :=
 if u.fns.length=0 then 3
 else if 256<u.fns.length then 2
 else if u.main<0∨(u.fns.length:Int)<=u.main then 4
 else l4 (MV u.fns) (if 0<(aD (aL u u.main) 0).params.length then 3 else gv u u.fns)
theorem Mm(u:bR)(bB:u.fit):bw Try.prog 28 [u.enc] (aI (KX u)):=by
 obtain⟨R,hR⟩:∃R,R=KX u:=⟨_,rfl⟩
 rw[<-hR];unfold KX at hR;have wj:u.fns.length<=2 ^ 47:=bB.2.1;refine zf true 0 Try.func28 Try.ntmps28 ?_;dsimp only[Tmp,TypeId,ax];refine aA (ah ?_);refine aH 1 0 (.ip none [a9 u.fns,aI u.main]) rfl (by simp[ak.aF]) trivial rfl ?_ ?_;rotate_left;simp -dsimp only[simprocAttr,↓aa,zp]
 ·refine aK (aj ?_);by_cases h0:u.fns.length=0
  ·rw[if_pos h0]at hR;have hd:decide ((u.fns.length:Int)=0)=true:=decide_eq_true (by omega);refine aX ?_;simp -dsimp only[simprocAttr,↓aa,zp,hd];refine ah ?_;refine cS rfl ?_;refine aA (ah ?_);refine aq ?_;simp -dsimp only[simprocAttr,↓aa,zp,zr,Try.results28];rw[hR]
  rw[if_neg h0]at hR;have hd:decide ((u.fns.length:Int)=0)=false:=decide_eq_false (by omega);refine aX ?_;simp -dsimp only[simprocAttr,↓aa,zp,hd];refine ah ?_;apply aP rfl<;>intro h
  ·cases h
  by_cases h1:256<u.fns.length
  ·rw[if_pos h1]at hR;have hd:decide ((256:Int)<u.fns.length)=true:=decide_eq_true (by omega);refine aX ?_;simp -dsimp only[simprocAttr,↓aa,zp,hd];refine ah ?_;refine cS rfl ?_;refine aA (ah ?_);refine aq ?_;simp -dsimp only[simprocAttr,↓aa,zp,zr,Try.results28];rw[hR]
  rw[if_neg h1]at hR;have hd:decide ((256:Int)<u.fns.length)=false:=decide_eq_false (by omega);refine aX ?_;simp -dsimp only[simprocAttr,↓aa,zp,hd];refine ah ?_;apply aP rfl<;>intro h
  ·cases h
  by_cases wD:u.main<0∨(u.fns.length:Int)<=u.main
  ·rw[if_pos wD]at hR;cases nR:decide (u.main<0)with
   | true =>
    refine aX ?_;simp -dsimp only[simprocAttr,↓aa,zp,nR];refine ah ?_;refine cS rfl ?_;refine aA (ah ?_);refine aq ?_;simp -dsimp only[simprocAttr,↓aa,zp,zr,Try.results28];rw[hR]
   | false =>
    have V1:=of_decide_eq_false nR;have r9:decide ((u.fns.length:Int)<=u.main)=true:=decide_eq_true (by omega);refine aX ?_;simp -dsimp only[simprocAttr,↓aa,zp,nR,r9];refine ah ?_;refine cS rfl ?_;refine aA (ah ?_);refine aq ?_;simp -dsimp only[simprocAttr,↓aa,zp,zr,Try.results28];rw[hR]
  rw[if_neg wD]at hR;have r8:0<=u.main∧u.main<u.fns.length:=by omega
  have nR:decide (u.main<0)=false:=decide_eq_false (by omega);have r9:decide ((u.fns.length:Int)<=u.main)=false:=decide_eq_false (by omega);refine aX ?_;simp -dsimp only[simprocAttr,↓aa,zp,nR,r9];refine ah ?_;apply aP rfl<;>intro h
  ·cases h
  refine jR ?_;refine b8 (ah ?_);refine aj (aU (ι:={k:Nat // k<=u.fns.length∧MV u.fns=MV (u.fns.drop k)}) (fun k=>⟨90,[(1,.ip none [a9 u.fns,aI u.main]),(2,aI 0),(36,a9 u.fns),(37,aI u.fns.length),(38,aI k.1)],[.gone]⟩) (fun k=>u.fns.length-k.1) ⟨0,by omega,rfl⟩ ?_ ?_)
  ·refine zq rfl ?_ ?_;simp -dsimp only[simprocAttr,↓aa,zp,zc];rfl
  rintro⟨k,hk,cO⟩;refine aA (ah ?_);apply gW rfl<;>intro h
  ·refine cA ?_;have aZ:k<u.fns.length:=by simpa using h
   obtain⟨f,hf⟩:∃f,u.fns[k]?=some f:=⟨u.fns[k],by simp[aZ]⟩
   have tI:=Si f (bB.2.2 f (List.mem_of_getElem? hf));rw[bS hf]at cO;simp only[MV]at cO;obtain⟨e,Bu⟩:∃e,e=NN f:=⟨_,rfl⟩
   rw[<-Bu]at cO tI;refine aK (aj ?_);refine aX ?_;simp -dsimp only[simprocAttr,↓aa,zp,hf];refine ah ?_;refine aH 4 1 (.ip none [aI f.name,ay f.blocks]) rfl (by simp[ak.aF]) trivial rfl ?_ ?_;rotate_left;simp -dsimp only[simprocAttr,↓aa,zp]
   ·refine bT 1 [(1,.ip none [a9 u.fns,aI u.main]),(2,aI 0),(36,a9 u.fns),(37,aI u.fns.length),(38,aI k),(4,.ip none [aI f.name,ay f.blocks])] (by simp) (by omega) [.gone] ?_ ?_ ?_ ?_ ?_
    ·rfl
    ·simp[ak.upto,aw,ae.upto,az,Func.ai,Block.ai,Edge.ai,bE.ai]
    ·simp[gj,St.get,bu,a7,Go.Av.look,Sub.refl]
    ·simp[ak.upto,aw,ae.upto,az,Func.ai,Block.ai,Edge.ai,bE.ai]
    refine aA ?_;refine zi tI ?_;refine ah ?_;by_cases he:e=0
    ·have jn:decide (e=0)=true:=decide_eq_true he;rw[cJ he]at cO;refine aX ?_;simp -dsimp only[simprocAttr,↓aa,zp,jn];refine ah ?_;refine cE rfl ?_;refine jR ?_;refine dc ?_
     repeat(refine⟨by omega,?_⟩)
     refine fV ?_;refine⟨⟨k+1,aZ,cO⟩,by simp;omega,?_⟩;refine zq rfl ?_ ?_;simp -dsimp only[simprocAttr,↓aa,zp,zc]
     ·exact Sub.int (by simp)
     rfl
    have jn:decide (e=0)=false:=decide_eq_false he;rw[fT he]at cO;rw[cO,fT he]at hR;refine aX ?_;simp -dsimp only[simprocAttr,↓aa,zp,jn];refine ah ?_;refine cS rfl ?_;refine aA (ah ?_);refine aq ?_;simp -dsimp only[simprocAttr,↓aa,zp,zr,Try.results28];rw[hR]
   exact cw.mp rfl rfl
  refine aR ?_;simp -dsimp only[bX,ne_eq,Nat.reduceEqDiff,reduceCtorEq];have gT:k=u.fns.length:=by simp at h;omega
  subst gT;rw[List.drop_length]at cO;have Cf:MV u.fns=0:=by rw[cO];rfl
  rw[cJ Cf]at hR;have cM:∀f∈u.fns,QN f:=fun f hf=>RI (bB.2.2 f hf) (MW Cf f hf);have hM:=jm (u:=u) (k:=u.main) r8.1 (by omega);have Jn:0<(aL u u.main).blocks.length:=by
   have:=(cM _ (List.mem_of_getElem? hM)).ne;cases hb:(aL u u.main).blocks with
   | nil=>exact absurd hb this
   | cons=>simp
  have hB:(aL u u.main).blocks[0]?=some (aD (aL u u.main) 0):=dy (f:=aL u u.main) (k:=0) (by omega) (by omega);generalize aD (aL u u.main) 0=B at *;generalize aL u u.main=F at *;by_cases hp:0<B.params.length
  ·rw[if_pos hp]at hR;have EC:decide ((0:Int)<B.params.length)=true:=decide_eq_true (by omega);refine dd ?_;simp -dsimp only[simprocAttr,↓aa,zp,hM,hB,EC]
   repeat(refine⟨by omega,?_⟩)
   refine ah ?_;refine cS rfl ?_;refine aA (ah ?_);refine aq ?_;simp -dsimp only[simprocAttr,↓aa,zp,zr,Try.results28];rw[hR]
  rw[if_neg hp]at hR;have EC:decide ((0:Int)<B.params.length)=false:=decide_eq_false (by omega);refine dd ?_;simp -dsimp only[simprocAttr,↓aa,zp,hM,hB,EC]
  repeat(refine⟨by omega,?_⟩)
  refine ah ?_;apply aP rfl<;>intro h
  ·cases h
  refine cA ?_;refine b8 (ah ?_);refine aj (aU (ι:={k:Nat // k<=u.fns.length∧R=gv u (u.fns.drop k)}) (fun k=>⟨90,[(1,.ip none [a9 u.fns,aI u.main]),(2,aI 0),(61,a9 u.fns),(62,aI u.fns.length),(63,aI k.1)],[.gone]⟩) (fun k=>u.fns.length-k.1) ⟨0,by omega,hR⟩ ?_ ?_)
  ·refine zq rfl ?_ ?_;simp -dsimp only[simprocAttr,↓aa,zp,zc];rfl
  rintro⟨k,hk,cO⟩;refine aA (ah ?_);apply gW rfl<;>intro h
  ·refine cA ?_;have aZ:k<u.fns.length:=by simpa using h
   obtain⟨f,hf⟩:∃f,u.fns[k]?=some f:=⟨u.fns[k],by simp[aZ]⟩
   have Bv:=List.mem_of_getElem? hf;have iI:=(cM f Bv).few;rw[bS hf]at cO;simp only[gv]at cO;refine aK (aj ?_);refine aX ?_;simp -dsimp only[simprocAttr,↓aa,zp,hf];refine ah ?_;refine aH 7 1 (.ip none [aI f.name,ay f.blocks]) rfl (by simp[ak.aF]) trivial rfl ?_ ?_;rotate_left;simp -dsimp only[simprocAttr,↓aa,zp]
   ·refine bT 1 [(1,.ip none [a9 u.fns,aI u.main]),(2,aI 0),(61,a9 u.fns),(62,aI u.fns.length),(63,aI k),(7,.ip none [aI f.name,ay f.blocks])] (by simp) (by omega) [.gone] ?_ ?_ ?_ ?_ ?_
    ·rfl
    ·simp[ak.upto,aw,ae.upto,az,Func.ai,Block.ai,Edge.ai,bE.ai]
    ·simp[gj,St.get,bu,a7,Go.Av.look,Sub.refl]
    ·simp[ak.upto,aw,ae.upto,az,Func.ai,Block.ai,Edge.ai,bE.ai]
    refine aA (ah ?_);refine aj (aU (ι:={j:Nat // j<=f.blocks.length∧R=l4 (jA u (f.blocks.drop j)) (gv u (u.fns.drop (k+1)))}) (fun j=>⟨90,[(1,.ip none [a9 u.fns,aI u.main]),(2,aI 0),(61,a9 u.fns),(62,aI u.fns.length),(63,aI k),(68,ay f.blocks),(69,aI f.blocks.length),(70,aI j.1)],[.gone]⟩) (fun j=>f.blocks.length-j.1) ⟨0,by omega,cO⟩ ?_ ?_)
    ·refine zq rfl ?_ ?_;simp -dsimp only[simprocAttr,↓aa,zp,zc];rfl
    rintro⟨j,hj,fB⟩;refine aA (ah ?_);apply gW rfl<;>intro h
    ·refine cA ?_;have nQ:j<f.blocks.length:=by simpa using h
     obtain⟨b,hb⟩:∃b,f.blocks[j]?=some b:=⟨f.blocks[j],by simp[nQ]⟩
     have jc:=List.mem_of_getElem? hb;have sP:=(cM f Bv).ins b jc;rw[bS hb]at fB;simp only[jA]at fB;rw[gU]at fB;refine aK (aj ?_);refine aX ?_;simp -dsimp only[simprocAttr,↓aa,zp,hb];refine ah ?_;refine aH 9 1 (.ip none [a6 b.params,bD b.ins,aI b.term.kind,aI b.term.arg,aI b.term.n,a6 b.term.cases,aJ b.term.to]) rfl (by simp[ak.aF]) trivial rfl ?_ ?_;rotate_left;simp -dsimp only[simprocAttr,↓aa,zp]
     ·refine bT 1 [(1,.ip none [a9 u.fns,aI u.main]),(2,aI 0),(61,a9 u.fns),(62,aI u.fns.length),(63,aI k),(68,ay f.blocks),(69,aI f.blocks.length),(70,aI j),(9,.ip none [a6 b.params,bD b.ins,aI b.term.kind,aI b.term.arg,aI b.term.n,a6 b.term.cases,aJ b.term.to])] (by simp) (by omega) [.gone] ?_ ?_ ?_ ?_ ?_
      ·rfl
      ·simp[ak.upto,aw,ae.upto,az,Func.ai,Block.ai,Edge.ai,bE.ai]
      ·simp[gj,St.get,bu,a7,Go.Av.look,Sub.refl]
      ·simp[ak.upto,aw,ae.upto,az,Func.ai,Block.ai,Edge.ai,bE.ai]
      refine aA (ah ?_);refine aj (aU (ι:={z:Nat // z<=b.ins.length∧R=l4 (kX u (b.ins.drop z)) (l4 (jA u (f.blocks.drop (j+1))) (gv u (u.fns.drop (k+1))))}) (fun z=>⟨90,[(1,.ip none [a9 u.fns,aI u.main]),(2,aI 0),(61,a9 u.fns),(62,aI u.fns.length),(63,aI k),(68,ay f.blocks),(69,aI f.blocks.length),(70,aI j),(75,bD b.ins),(76,aI b.ins.length),(77,aI z.1)],[.gone]⟩) (fun z=>b.ins.length-z.1) ⟨0,by omega,fB⟩ ?_ ?_)
      ·refine zq rfl ?_ ?_;simp -dsimp only[simprocAttr,↓aa,zp,zc];rfl
      rintro⟨z,hz,gp⟩;refine aA (ah ?_);apply gW rfl<;>intro h
      ·refine cA ?_;have qt:z<b.ins.length:=by simpa using h
       obtain⟨i,hi⟩:∃i,b.ins[z]?=some i:=⟨b.ins[z],by simp[qt]⟩
       rw[bS hi]at gp;simp only[kX]at gp;rw[gU]at gp;have HR:=(cM f Bv).form b jc i (List.mem_of_getElem? hi);have eZ:=pU u i (fun q=>((HR (by omega)).call (by omega)).1) (fun f hf=>(cM f hf).ne);obtain⟨e,Bu⟩:∃e,e=fH u i:=⟨_,rfl⟩
       rw[<-Bu]at gp eZ;refine aK (aj ?_);refine aX ?_;simp -dsimp only[simprocAttr,↓aa,zp,hi];refine ah ?_;refine aH 11 1 (.ip none [aI i.to,aI i.op,aI i.n,a6 i.args]) rfl (by simp[ak.aF]) trivial rfl ?_ ?_;rotate_left;simp -dsimp only[simprocAttr,↓aa,zp]
       ·refine bT 1 [(1,.ip none [a9 u.fns,aI u.main]),(2,aI 0),(61,a9 u.fns),(62,aI u.fns.length),(63,aI k),(68,ay f.blocks),(69,aI f.blocks.length),(70,aI j),(75,bD b.ins),(76,aI b.ins.length),(77,aI z),(11,.ip none [aI i.to,aI i.op,aI i.n,a6 i.args])] (by simp) (by omega) [.gone] ?_ ?_ ?_ ?_ ?_
        ·rfl
        ·simp[ak.upto,aw,ae.upto,az,Func.ai,Block.ai,Edge.ai,bE.ai]
        ·simp[gj,St.get,bu,a7,Go.Av.look,Sub.refl]
        ·simp[ak.upto,aw,ae.upto,az,Func.ai,Block.ai,Edge.ai,bE.ai]
        refine aA ?_;refine zi eZ ?_;refine ah ?_;by_cases he:e=0
        ·have jn:decide (e=0)=true:=decide_eq_true he;rw[cJ he]at gp;refine aX ?_;simp -dsimp only[simprocAttr,↓aa,zp,jn];refine ah ?_;refine cE rfl ?_;refine jR ?_;refine dc ?_
         repeat(refine⟨by omega,?_⟩)
         refine fV ?_;refine⟨⟨z+1,qt,gp⟩,by simp;omega,?_⟩;refine zq rfl ?_ ?_;simp -dsimp only[simprocAttr,↓aa,zp,zc]
         ·exact Sub.int (by simp)
         rfl
        have jn:decide (e=0)=false:=decide_eq_false he;rw[fT he]at gp;refine aX ?_;simp -dsimp only[simprocAttr,↓aa,zp,jn];refine ah ?_;refine cS rfl ?_;refine aA (ah ?_);refine aq ?_;simp -dsimp only[simprocAttr,↓aa,zp,zr,Try.results28];rw[gp]
       exact cw.mp rfl rfl
      refine aR ?_;simp -dsimp only[bX,ne_eq,Nat.reduceEqDiff,reduceCtorEq];have Cw:z=b.ins.length:=by simp at h;omega
      subst Cw;rw[List.drop_length]at gp;rw[cJ (by rfl)]at gp;refine dc ?_
      repeat(refine⟨by omega,?_⟩)
      refine fV ?_;refine⟨⟨j+1,nQ,gp⟩,by simp;omega,?_⟩;refine zq rfl ?_ ?_;simp -dsimp only[simprocAttr,↓aa,zp,zc]
      ·exact Sub.int (by simp)
      rfl
     exact cw.mp rfl rfl
    refine aR ?_;simp -dsimp only[bX,ne_eq,Nat.reduceEqDiff,reduceCtorEq];have oH:j=f.blocks.length:=by simp at h;omega
    subst oH;rw[List.drop_length]at fB;rw[cJ (by rfl)]at fB;refine dc ?_
    repeat(refine⟨by omega,?_⟩)
    refine fV ?_;refine⟨⟨k+1,aZ,fB⟩,by simp;omega,?_⟩;refine zq rfl ?_ ?_;simp -dsimp only[simprocAttr,↓aa,zp,zc]
    ·exact Sub.int (by simp)
    rfl
   exact cw.mp rfl rfl
  refine aR ?_;simp -dsimp only[bX,ne_eq,Nat.reduceEqDiff,reduceCtorEq];have gT:k=u.fns.length:=by simp at h;omega
  subst gT;rw[List.drop_length]at cO;refine aA (ah ?_);refine aq ?_;simp -dsimp only[simprocAttr,↓aa,zp,zr,Try.results28];rw[cO];rfl
 exact cw.mp rfl rfl
end Go.Proofs.Ytkhnjeblbiocaaa
namespace Go.Av
def Nn(P:Program)(all:List Oper)(k:Nat)(σ:St)(ks:List Kind)(R:St->List Kind->Prop):Prop :=
 ∃(ρ:St) (o7:List Kind),o7.length+k=all.length∧eR P all.toArray ((o7.zipIdx k).map fun p=>(p.2,p.1)) σ ρ∧R ρ (ks++o7)
theorem Nn.fin{P:Program}{all:List Oper}{k:Nat}{σ:St}{ks:List Kind}{R:St->List Kind->Prop}(hk:k=all.length)(h:R σ ks):Nn P all k σ ks R :=
 ⟨σ,[],by simpa using hk,gz.refl σ,by simpa using h⟩
theorem Nn.op{P:Program}{all:List Oper}{k:Nat}{σ:St}{ks:List Kind}{R:St->List Kind->Prop}{o:Oper}{x:ae}{m:Mode}(ho:all[k]?=some o)(hg:o.guard=none)(hc:Cert P o σ x m)
  (h:Nn P all (k+1) ⟨σ.n,nc o.dst x σ.ba,m.post σ.objs⟩ (ks++[m.kind]) R):Nn P all k σ ks R:=by
 obtain⟨ρ,o7,h1,h2,h3⟩:=h;refine⟨ρ,m.kind::o7,by simp only[List.length_cons];omega,?_,by simpa using h3⟩;rw[List.zipIdx_cons,List.map_cons];exact⟨_,⟨o,by simpa using ho,.inl ⟨by simp[dg,hg],x,m,hc,rfl,rfl⟩⟩,h2⟩
theorem OS{P:Program}{ops:Array Oper}:∀{l1 l2:List (Nat×Kind)} {σ τ ρ:St},eR P ops l1 σ τ->eR P ops l2 τ ρ->eR P ops (l1++l2) σ ρ
 | [],_,_,_,_,h1,h2=>h2.same h1.symm
 | _::_,_,_,_,_,⟨fE,h,h1⟩,h2=>⟨fE,h,OS h1 h2⟩
theorem OT{P:Program}{ops all:Array Oper}{k:Nat}(hk:∀i o,ops[i]?=some o->all[k+i]?=some o)(hg:∀o∈all.toList,o.guard=none):∀{l:List (Nat×Kind)} {σ τ:St},eR P ops l σ τ->eR P all (l.map fun p=>(k+p.1,p.2)) σ τ
 | [],_,_,h=>h
 | (i,q)::r,_,_,h=>by
  obtain⟨fE,⟨o,ho,h1⟩,h2⟩:=h;refine⟨fE,⟨o,hk i o ho,?_⟩,OT hk hg h2⟩;have ic:=hk i o ho;have Bw:o.guard=none:=hg o (by
   rw[<-Array.getElem?_toList]at ic;exact List.mem_of_getElem? ic)
  have w1:∀(a:Array Oper) (σ:St),dg a o σ=some true:=fun a σ=>by simp[dg,Bw]
  rcases h1 with⟨_,h1⟩|⟨h1,_⟩
  ·exact .inl ⟨w1 _ _,h1⟩
  rw[w1]at h1;cases h1
theorem Nn.Uo{P:Program}{aW:eo}(md:Md)(hT:cb P aW){all l1:List Oper}{k:Nat}{σ:St}{ks:List Kind}{R:St->List Kind->Prop}(n:Nat)(h1:(all.drop k).take n=l1)(hn:l1.length=n)(hg:∀o∈all,o.guard=none)
  (h:eV P aW md l1 0 [] σ [] fun τ sa=>Nn P all (k+n) τ (ks++sa.reverse) R):Nn P all k σ ks R:=by
 obtain⟨τ,sa,c1,n1,ρ,D5,h3,c2,hR⟩:=ee (all:=l1.toArray) hT l1 0 [] σ [] (fun j=>by simp) (fun j t hj=>by simp[ib]at hj) h;have hl:k+n<=all.length:=by
  have:l1.length<=all.length-k:=by rw[<-h1,List.length_take,List.length_drop];omega
  by_cases hz:n=0
  ·omega
  omega
 have d1:=OT (all:=all.toArray) (k:=k) (fun i o hi=>by
  have fL:l1[i]?=some o:=by simpa using hi
  rw[<-h1,List.getElem?_take]at fL;split at fL
  ·rw[List.getElem?_drop]at fL;simpa using fL
  cases fL) (by simpa using hg) c1
 refine⟨ρ,sa++D5,by rw[List.length_append];omega,?_,by simpa using hR⟩;rw[List.zipIdx_append,List.map_append];have e1:(sa.zipIdx k).map (fun p=>(p.2,p.1))=((sa.zipIdx 0).map fun p=>(p.2,p.1)).map fun p=>(k+p.1,p.2):=by
  apply List.ext_getElem?;intro i;simp only[List.getElem?_map,List.getElem?_zipIdx];cases sa[i]?<;>simp
 rw[e1];refine OS d1 ?_;rw[show k+sa.length=k+n by omega];exact c2
theorem L6{P:Program}{kb:Nat}(hm:P.follows .mixedOrders=true){id:Nat}{l:List Oper}{draw:Bool}{Q:dR->St->Prop}{σ:St}
  (h:Nn P l 0 σ [] fun τ ks=>gy draw (fun _=>eH l.toArray ks)∧At τ (Q .norm)):cc P kb (.region id l.toArray draw) Q σ:=by
 obtain⟨τ,ks,h1,h2,h3,h4⟩:=h;intro base a g hb hr;have mu:eR P l.toArray ((List.range l.toArray.size).map fun i=>(i,ks.getD i .write)) σ τ:=by
  have e:(ks.zipIdx 0).map (fun p=>(p.2,p.1))=(List.range l.toArray.size).map fun i=>(i,ks.getD i .write):=by
   apply List.ext_getElem?;intro i;simp only[List.getElem?_map];have hlen:ks.length=l.toArray.size:=by simpa using h1
   by_cases hi:i<l.toArray.size
   ·have fL:i<ks.length:=by omega
    rw[List.getElem?_range hi];simp[fL]
   rw[List.getElem?_eq_none (by simp only[List.length_zipIdx];omega),List.getElem?_eq_none (by simp only[List.length_range];omega)];rfl
  rw[<-e];exact h2
 cases draw with
 | false=>exact kq mu hr fun a g wC=>⟨g,τ,rfl,wC,h4⟩
 | true =>
  have hB:=h3 rfl;simp only[List.nil_append]at hB;exact lE hm hB mu hr fun a g wC=>⟨g,τ,rfl,wC,h4⟩
end Go.Av
namespace Go.Proofs.Ytkhnjeblbiocaaa
open Go.Av
theorem PB{l:List Mv}{j:Nat}{x:Mv}(h:l[j]?=some x):l.drop j=x::l.drop (j+1):=by
 obtain⟨hk,e⟩:=List.getElem?_eq_some_iff.1 h;rw[<-e,<-List.drop_eq_getElem_cons hk]
theorem T8{O:List ak}(bC:∀o∈O,o.upto O.length)(X:Nat)(a b:Int)(hX:O[X]?=some (.cells [aI a,aI b]))(y:Mv):bc Try.prog 45 O [eM y,.mp X 0] fun r O'=>r=.v (.bool (decide (y.1=a)))∧O'=O:=by
 have Ul:=I hX;have h1:∀Y,(O++Y)[X]?=some (.cells [aI a,aI b]):=fun Y=>bJ hX;have h2:∀Y Z,(O++Y::Z)[O.length]?=some Y:=fun Y Z=>by simp
 have gT:O.length<=O.length:=Nat.le_refl _;refine gb hT true (O.length) Try.func45 rfl (by kernel_rfl) (by simp[Try.ntmps45]) (by assumption) ?_;show cc Try.prog _ _ _ ⟨9,_,_⟩;dsimp only[Tmp,TypeId,ax];refine aA (ah ?_);refine aX ?_;simp -dsimp only[simprocAttr,↓aa,zp,h1,h2];refine ah ?_;refine aq ?_;simp -dsimp only[simprocAttr,↓aa,zp,zr,Try.results45,List.take_left];exact bC
theorem RL(y:Mv):bw Try.prog 48 [eM y] (.v (.bool (decide (y.1=y.2)))):=by
 refine zf true 0 Try.func48 Try.ntmps48 ?_;dsimp only[Tmp,TypeId,ax];refine aA (ah ?_);refine aA (ah ?_);refine aq ?_;simp -dsimp only[simprocAttr,↓aa,zp,zr,Try.results48]
theorem Tj{O:List ak}(bC:∀o∈O,o.upto O.length)(X:Nat)(a b:Int)(hX:O[X]?=some (.cells [aI a,aI b]))(y:Mv):bc Try.prog 51 O [eM y,.mp X 0] fun r O'=>r=.v (.bool (decide (y.2=a)))∧O'=O:=by
 have Ul:=I hX;have h1:∀Y,(O++Y)[X]?=some (.cells [aI a,aI b]):=fun Y=>bJ hX;have h2:∀Y Z,(O++Y::Z)[O.length]?=some Y:=fun Y Z=>by simp
 have gT:O.length<=O.length:=Nat.le_refl _;refine gb hT true (O.length) Try.func51 rfl (by kernel_rfl) (by simp[Try.ntmps51]) (by assumption) ?_;show cc Try.prog _ _ _ ⟨9,_,_⟩;dsimp only[Tmp,TypeId,ax];refine aA (ah ?_);refine aX ?_;simp -dsimp only[simprocAttr,↓aa,zp,h1,h2];refine ah ?_;refine aq ?_;simp -dsimp only[simprocAttr,↓aa,zp,zr,Try.results51,List.take_left];exact bC
theorem Pb{O:List ak}(f':Nat)(jd:List ae)(q:Mv->Bool)(l:List Mv)(hq:∀x∈l,bc Try.prog f' O (eM x::jd) fun r O'=>r=.v (.bool (q x))∧O'=O) :
  bc Try.prog 49 O [.aE 2 (l.map eM) .sh,.fn (.func f') [] jd] fun r O'=>r=aI (MT q l)∧O'=O:=by
 obtain⟨R,hR⟩:∃R,R=MT q l:=⟨_,rfl⟩
 rw[<-hR];refine KZ hT Try.func49 rfl (by kernel_rfl) (by simp[Try.ntmps49]) ?_;show cc Try.prog _ _ _ ⟨19,_,_⟩;dsimp only[Tmp,TypeId,ax];refine aA (ah ?_);refine ff 0 rfl (fun wo=>?_);simp only[List.length_map]at wo;refine b8 (ah ?_);refine aj (aU (ι:={k:Nat // k<=l.length∧R=Lw q (l.drop k) k}) (fun k=>⟨19,[(0,.aE 2 (l.map eM) .sh),(1,.fn (.func f') [] jd),(7,aI l.length),(8,aI k.1)],O⟩) (fun k=>l.length-k.1) ⟨0,by omega,hR⟩ ?_ ?_)
 ·refine zq rfl ?_ ?_;simp -dsimp only[simprocAttr,↓aa,zp,zc]
  all_goals rfl
 rintro⟨k,hk,cO⟩;refine aA (ah ?_);apply gW rfl<;>intro h
 ·refine cA ?_;have aZ:k<l.length:=by simpa using h
  obtain⟨x,hx⟩:∃x,l[k]?=some x:=⟨l[k],List.getElem?_eq_getElem aZ⟩
  have Xt:=hq x (List.mem_of_getElem? hx);rw[PB hx,Lw]at cO;refine aK (aj ?_);refine aA (ah ?_);refine aX ?_;simp -dsimp only[simprocAttr,↓aa,zp,hx]
  repeat(refine⟨by omega,?_⟩)
  refine .inr (.inr ⟨_,Xt,au (zj ?_)⟩);refine ah ?_;apply aP rfl<;>intro h
  ·refine aA (ah ?_);refine aq ?_;simp -dsimp only[simprocAttr,↓aa,zp,Li,Try.results49,cX,fv,eC,cL,cf,cy];rw[cO,if_pos h]
  refine jR ?_;rw[if_neg (by simp[h])]at cO;refine dc ?_
  repeat(refine⟨by omega,?_⟩)
  refine fV ?_;refine⟨⟨k+1,aZ,cO⟩,by show l.length-(k+1)<l.length-k;omega,?_⟩;refine zq rfl ?_ ?_;simp -dsimp only[simprocAttr,↓aa,zp,zc]
  all_goals first|rfl|exact Sub.int (by simp)
 refine aR ?_;simp -dsimp only[bX,ne_eq,Nat.reduceEqDiff,reduceCtorEq];have m6:k=l.length:=by
  have:=of_decide_eq_false h;omega
 subst m6;rw[List.drop_length]at cO;refine aA (ah ?_);refine aq ?_;simp -dsimp only[simprocAttr,↓aa,zp,Li,Try.results49,cX,fv,eC,cL,cf,cy];rw[cO];rfl
theorem Nr{O:List ak}(id c:Nat)(J:List ae)(l:List Mv)(hO:O[id]?=some (.cells (mC l++J)))(Qj:l.length<=2 ^ 40)(f':Nat)(jd:List ae)(q:Mv->Bool)
  (hq:∀x∈l,bc Try.prog f' O (eM x::jd) fun r O'=>r=.v (.bool (q x))∧O'=O) :
  bc Try.prog 49 O [.ms id 0 l.length c,.fn (.func f') [] jd] fun r O'=>r=aI (MT q l)∧O'=O:=by
 obtain⟨R,hR⟩:∃R,R=MT q l:=⟨_,rfl⟩
 rw[<-hR];have hlen:(mC l++J).length=l.length*2+J.length:=by rw[List.length_append,Lm]
 refine KZ hT Try.func49 rfl (by kernel_rfl) (by simp[Try.ntmps49]) ?_;show cc Try.prog _ _ _ ⟨19,_,_⟩;dsimp only[Tmp,TypeId,ax];refine aA (ah ?_);refine b8 (ah ?_);refine aj (aU (ι:={k:Nat // k<=l.length∧R=Lw q (l.drop k) k}) (fun k=>⟨19,[(0,.ms id 0 l.length c),(1,.fn (.func f') [] jd),(7,aI l.length),(8,aI k.1)],O⟩) (fun k=>l.length-k.1) ⟨0,by omega,hR⟩ ?_ ?_)
 ·refine zq rfl ?_ ?_;simp -dsimp only[simprocAttr,↓aa,zp,zc]
  all_goals rfl
 rintro⟨k,hk,cO⟩;refine aA (ah ?_);apply gW rfl<;>intro h
 ·refine cA ?_;have aZ:k<l.length:=by simpa using h
  obtain⟨x,hx⟩:∃x,l[k]?=some x:=⟨l[k],List.getElem?_eq_getElem aZ⟩
  have Xt:=hq x (List.mem_of_getElem? hx);obtain⟨ru,-,-⟩:=Pj hx J;rw[PB hx,Lw]at cO;refine aK (aj ?_);refine aA (ah ?_);generalize mC l++J=C at *;refine aX ?_;simp -dsimp only[simprocAttr,↓aa,zp,hO,ru,hlen]
  repeat(refine⟨by omega,?_⟩)
  refine .inr (.inr ⟨_,Xt,au (zj ?_)⟩);refine ah ?_;apply aP rfl<;>intro h
  ·refine aA (ah ?_);refine aq ?_;simp -dsimp only[simprocAttr,↓aa,zp,Li,Try.results49,cX,fv,eC,cL,cf,cy];rw[cO,if_pos h]
  refine jR ?_;rw[if_neg (by simp[h])]at cO;refine dc ?_
  repeat(refine⟨by omega,?_⟩)
  refine fV ?_;refine⟨⟨k+1,aZ,cO⟩,by show l.length-(k+1)<l.length-k;omega,?_⟩;refine zq rfl ?_ ?_;simp -dsimp only[simprocAttr,↓aa,zp,zc]
  all_goals first|rfl|exact Sub.int (by simp)
 refine aR ?_;simp -dsimp only[bX,ne_eq,Nat.reduceEqDiff,reduceCtorEq];have m6:k=l.length:=by
  have:=of_decide_eq_false h;omega
 subst m6;rw[List.drop_length]at cO;refine aA (ah ?_);refine aq ?_;simp -dsimp only[simprocAttr,↓aa,zp,Li,Try.results49,cX,fv,eC,cL,cf,cy];rw[cO];rfl
theorem RW{O:List ak}(f':Nat)(jd:List ae)(q:Mv->Bool)(l:List Mv)(hq:∀x∈l,bc Try.prog f' O (eM x::jd) fun r O'=>r=.v (.bool (q x))∧O'=O) :
  bc Try.prog 44 O [.aE 2 (l.map eM) .sh,.fn (.func f') [] jd] fun r O'=>r=.v (.bool (l.any q))∧O'=O:=by
 have hi:=Pb f' jd q l hq;have ha:=Qk q l;refine KZ hT Try.func44 rfl (by kernel_rfl) (by simp[Try.ntmps44]) ?_;show cc Try.prog _ _ _ ⟨9,_,_⟩;dsimp only[Tmp,TypeId,ax];refine aA (ah ?_);refine aA ?_;refine .inr (.inr ⟨_,hi,au (zj ?_)⟩);refine ah ?_;refine aq ?_;simp -dsimp only[simprocAttr,↓aa,zp,Li,Try.results44,cX,fv,eC,cL,cf,cy];rw[ha]
theorem RX{O:List ak}(id c:Nat)(J:List ae)(l:List Mv)(hO:O[id]?=some (.cells (mC l++J)))(Qj:l.length<=2 ^ 40)(f':Nat)(jd:List ae)(q:Mv->Bool)
  (hq:∀x∈l,bc Try.prog f' O (eM x::jd) fun r O'=>r=.v (.bool (q x))∧O'=O) :
  bc Try.prog 44 O [.ms id 0 l.length c,.fn (.func f') [] jd] fun r O'=>r=.v (.bool (l.any q))∧O'=O:=by
 have hi:=Nr id c J l hO Qj f' jd q hq;have ha:=Qk q l;refine KZ hT Try.func44 rfl (by kernel_rfl) (by simp[Try.ntmps44]) ?_;show cc Try.prog _ _ _ ⟨9,_,_⟩;dsimp only[Tmp,TypeId,ax];refine aA (ah ?_);refine aA ?_;refine .inr (.inr ⟨_,hi,au (zj ?_)⟩);refine ah ?_;refine aq ?_;simp -dsimp only[simprocAttr,↓aa,zp,Li,Try.results44,cX,fv,eC,cL,cf,cy];rw[ha]
theorem T9{O:List ak}(bC:∀o∈O,o.upto O.length)(id L c:Nat)(J:List ae)(l:List Mv)(x:Mv)(hL:O[L]?=some (.cells [.ms id 0 l.length c]))(hO:O[id]?=some (.cells (mC l++J)))(Qj:l.length<=2 ^ 40) :
  bc Try.prog 50 O [eM x,.mp L 0] fun r O'=>r=.v (.bool (Lo l x))∧O'=O:=by
 have WV:=I hL;have h1:∀Y,(O++Y)[L]?=some (.cells [.ms id 0 l.length c]):=fun Y=>bJ hL;have xx:=RX (O:=O++[.cells [aI x.1,aI x.2]]) id c J l (bJ hO) Qj 51 [.mp O.length 0] (fun y=>decide (y.2=x.1)) fun y _=>Tj (fun o ho=>by
  rw[List.length_append];rcases List.mem_append.1 ho with q|q
  ·exact ak.cu (by simp) (bC o q)
  rw[List.mem_singleton.1 q];exact⟨trivial,trivial,trivial⟩) O.length x.1 x.2 (gF _ _) y
 have gT:O.length<=O.length:=Nat.le_refl _;unfold Lo;refine gb hT true (O.length) Try.func50 rfl (by kernel_rfl) (by simp[Try.ntmps50]) (by assumption) ?_;show cc Try.prog _ _ _ ⟨8,_,_⟩;dsimp only[Tmp,TypeId,ax];refine aA (ah ?_);refine aX ?_;simp -dsimp only[simprocAttr,↓aa,zp,h1];refine .inr (.inr ⟨_,xx,au (zj ?_)⟩);refine ah ?_;refine aq ?_;simp -dsimp only[simprocAttr,↓aa,zp,zr,Try.results50,List.take_left];exact bC
theorem P6{O:List ak}(l:List Mv)(hl:l≠[])(wo:l.length<=2 ^ 40) :
  bc Try.prog 47 O [.aE 2 (l.map eM) .nn] fun r O'=>r=.ms O.length 0 l.length l.length∧O'=O++[.cells (mC l)]:=by
 have EN:¬l.length=0:=fun e=>hl (List.length_eq_zero_iff.1 e);have hc:=Qp l;have hs:(l.map eM).map ae.share=l.map eM:=by
  rw[List.map_map];exact List.map_congr_left fun x _=>rfl
 refine KZ hT Try.func47 rfl (by kernel_rfl) (by simp[Try.ntmps47]) ?_;show cc Try.prog _ _ _ ⟨8,_,_⟩;dsimp only[Tmp,TypeId,ax];refine aA (ah ?_);refine b8 (ah ?_);refine cE rfl ?_;refine cA ?_;refine Jd ?_;simp -dsimp only[simprocAttr,↓aa,zp,hc,hs,List.length_map]
 repeat(refine⟨by omega,?_⟩)
 refine ah ?_;refine aq ?_;simp -dsimp only[simprocAttr,↓aa,zp,Li,Try.results47,cX,fv,eC,cL,cf,cy]
theorem QJ{l:List Mv}{k:Nat}{x:Mv}(h:k<l.length):(l.set k x).take (k+1)=l.take k++[x]:=by
 rw[List.take_add_one,List.getElem?_set_self h];congr 1;apply List.ext_getElem?;intro i;simp only[List.getElem?_take,List.getElem?_set];split
 ·rw[if_neg (by omega)]
 rfl
theorem Np(l m:List Mv):KH (l++m)=KH l++KH m:=List.filter_append ..
theorem MP{l:List Mv}(h:∀x∈l,decide (x.1=x.2)=false):KH l=l:=by
 unfold KH;rw[List.filter_eq_self];intro x hx;rw[h x hx];rfl
theorem T4(n:Nat):(List.replicate n [aI 0,aI 0]).flatten=List.replicate (n*2) (aI 0):=by
 induction n with
 | zero=>rfl
 | succ n ih =>
  rw[List.replicate_succ,List.flatten_cons,ih,show(n+1)*2=n*2+1+1 by omega,List.replicate_succ,List.replicate_succ];rfl
theorem U7(F:List Mv){k n:Nat}(hk:k<=n)(hF:F.length=n):aS (mC F) (k*2) (List.replicate ((n-k)*2) (aI 0))=mC (F.take k)++List.replicate ((n-k)*2) (aI 0):=by
 have e:mC F=mC (F.take k)++mC (F.drop k):=by rw[<-Q9,List.take_append_drop]
 have hl:(mC (F.take k)).length=k*2:=by rw[Lm,List.length_take];omega
 have hd:(mC (F.drop k)).length=(n-k)*2:=by rw[Lm,List.length_drop];omega
 unfold aS;rw[e,<-hl,List.take_left,List.length_replicate,<-hd,List.drop_length_add_append,List.drop_length,List.append_nil]
theorem R0{O:List ak}(bC:∀o∈O,o.upto O.length)(id:Nat)(l:List Mv)(hl:l≠[])(hO:O[id]?=some (.cells (mC l)))(Qj:l.length<=2 ^ 40) :
  bc Try.prog 46 O [.ms id 0 l.length l.length,.fn (.func 48) [] []] fun r O'=>r=.ms id 0 (KH l).length l.length∧O'=O.set id (.cells (mC (KH l)++List.replicate ((l.length-(KH l).length)*2) (aI 0))):=by
 have fA:=I hO;obtain⟨n,hn⟩:∃n,n=l.length:=⟨_,rfl⟩
 have nR:0<n:=by rw[hn];exact List.length_pos_iff.2 hl
 have hi:=Nr (O:=O) id l.length [] l (by rw[List.append_nil];exact hO) Qj 48 [] (fun x=>decide (x.1=x.2)) fun x _=>(RL x).use (by simp[aw,ae.upto,az]) O;rw[<-hn]at hi ⊢;rcases Lr (fun x:Mv=>decide (x.1=x.2)) l with⟨e1,e2⟩|⟨j0,x0,e1,e2,e3,e4⟩
 ·rw[e1]at hi;rw[MP e2,<-hn,Nat.sub_self,Nat.zero_mul,List.replicate_zero,List.append_nil,K6 hO];refine KZ hT Try.func46 rfl (by kernel_rfl) (by simp[Try.ntmps46]) ?_;show cc Try.prog _ _ _ ⟨42,_,_⟩;dsimp only[Tmp,TypeId,ax];refine aA (ah ?_);refine aA ?_;refine .inr (.inr ⟨_,hi,au (zj ?_)⟩);refine ah ?_;refine b8 (ah ?_);refine cS rfl ?_;refine aA (ah ?_);refine aq ?_;simp -dsimp only[simprocAttr,↓aa,zp,Li,Try.results46,cX,fv,eC,cL,cf,cy]
 rw[e1]at hi;have WA:=I e2;obtain⟨D,hD⟩:∃D,D=KH l:=⟨_,rfl⟩
 rw[<-hD];have jP:∀m:List Mv,(KH m).length<=m.length:=fun m=>List.length_filter_le ..;have dD:KH (l.take (j0+1))=l.take j0:=by
  rw[List.take_add_one,e2,Np,MP e4];show l.take j0++KH [x0]=_;have:KH [x0]=[]:=by
   unfold KH;simp at e3;simp[e3]
  rw[this,List.append_nil]
 have YI:decide ((j0:Int)=-1)=false:=decide_eq_false (by omega);refine KZ hT Try.func46 rfl (by kernel_rfl) (by simp[Try.ntmps46]) ?_;show cc Try.prog _ _ _ ⟨42,_,_⟩;dsimp only[Tmp,TypeId,ax];refine aA (ah ?_);refine aA ?_;refine .inr (.inr ⟨_,hi,au (zj ?_)⟩);refine ah ?_;refine dd ?_;simp -dsimp only[simprocAttr,↓aa,zp,YI];refine ah ?_;apply aP rfl<;>intro h
 ·cases h
 refine cA ?_;refine b8 ?_
 repeat(refine⟨by omega,?_⟩)
 refine ah ?_;refine aj (aU (ι:={X:Nat×Nat×List Mv // X.1<=n∧X.2.2.length=n∧X.2.2.drop X.1=l.drop X.1∧X.2.2.take X.2.1=KH (l.take X.1)∧X.2.1<X.1∧X.2.1=(KH (l.take X.1)).length}) (fun X=>⟨42,[(0,.ms id 0 n n),(1,.fn (.func 48) [] []),(5,aI X.1.2.1),(6,aI X.1.1)],O.set id (.cells (mC X.1.2.2))⟩) (fun X=>n-X.1.1) ⟨(j0+1,j0,l),by simp only;omega,hn.symm,rfl,dD.symm,by simp only;omega,by simp only[dD,List.length_take];omega⟩ ?_ ?_)
 ·refine zq rfl ?_ ?_;simp -dsimp only[simprocAttr,↓aa,zp,zc]
  ·exact Sub.int (by simp)
  exact(K6 hO).symm
 rintro⟨⟨j,k,F⟩,hj,Pa,WS,VD,Yl,hk⟩;simp only at hj Pa WS VD Yl hk;have XR:(O.set id (.cells (mC F)))[id]?=some (.cells (mC F++[])):=by rw[List.append_nil];exact List.getElem?_set_self fA
 have XM:(mC F++[]).length=n*2:=by rw[List.append_nil,Lm,Pa]
 have NL:∀y,(O.set id (.cells (mC F))).set id y=O.set id y:=fun y=>List.set_set ..;refine b8 (ah ?_);apply aP rfl<;>intro h
 ·refine cA ?_;have aZ:j<n:=by simpa using h
  obtain⟨x,hx⟩:∃x,l[j]?=some x:=⟨l[j]'(by omega),List.getElem?_eq_getElem _⟩
  have Yn:F[j]?=some x:=by
   have:=congrArg (fun z=>z[0]?) WS;simp only[List.getElem?_drop,Nat.add_zero]at this;rw[this,hx]
  obtain⟨ru,-,-⟩:=Pj Yn [];have iz:l.take (j+1)=l.take j++[x]:=by rw[List.take_add_one,hx];rfl
  have hq:=RL x;have fY:∀o∈O.set id (.cells (mC F)),o.upto (O.set id (.cells (mC F))).length:=by
   rw[List.length_set];refine bF bC ?_;rw[<-Qp];show aw _ _;rw[aY];intro y hy;unfold ao at hy;rw[List.mem_flatMap]at hy;obtain⟨z,hz,hy⟩:=hy;obtain⟨p,_,rfl⟩:=List.mem_map.1 hz;simp[ae.cells]at hy;rcases hy with rfl|rfl<;>trivial
  have WT:∃y,F[k]?=some y:=⟨F[k]'(by omega),List.getElem?_eq_getElem _⟩
  obtain⟨y,WT⟩:=WT;have Vo:=Te WT x [];have Vo:aS (mC F++[]) (k*2) [aI x.1,aI x.2]=mC (F.set k x):=by rw[Vo,List.append_nil]
  have Ym:∀(m:Nat),j<m->(F.set k x).drop m=F.drop m:=fun m hm=>by
   apply List.ext_getElem?;intro i;simp only[List.getElem?_drop,List.getElem?_set];rw[if_neg (by omega)]
  have VE:F.drop (j+1)=l.drop (j+1):=by
   have:=congrArg (fun z=>z.drop 1) WS;simpa[List.drop_drop]using this
  have wm:((k:Nat):Int)+1<=9223372036854775807:=by omega
  refine aK (aj ?_);generalize mC F++[]=C at *;refine aX ?_;simp -dsimp only[simprocAttr,↓aa,zp,XR,ru,XM]
  repeat(refine⟨by omega,?_⟩)
  refine ah ?_;refine aO 7 ([aI x.1,aI x.2]) [(0,.ms id 0 n n),(1,.fn (.func 48) [] []),(5,aI k),(6,aI j),(7,.ip none [aI x.1,aI x.2])] (by simp[bu,a7,Go.Av.look]) (by rfl) (by simp) (by simp[bu,a7,Go.Av.look]) ?_ ?_ ?_
  ·exact fY
  ·simp[ae.upto,aw,az];omega
  refine aA ?_;refine zi hq ?_;refine ah ?_;apply aP rfl<;>intro h
  ·have WI:decide (x.1=x.2)=false:=by simpa using h
   have ED:KH (l.take (j+1))=KH (l.take j)++[x]:=by
    rw[iz,Np,MP (l:=[x]) (fun y hy=>by rw[List.mem_singleton.1 hy];exact WI)]
   refine aX ?_;simp -dsimp only[simprocAttr,↓aa,zp,XR,XM]
   repeat(refine⟨by omega,?_⟩)
   refine ah ?_;rw[Vo,NL];refine dc ?_
   repeat(refine⟨by omega,?_⟩)
   refine ah ?_;refine dc ?_
   repeat(refine⟨by omega,?_⟩)
   refine fV ?_;refine⟨⟨(j+1,k+1,F.set k x),aZ,by simp only[List.length_set,Pa],by simp only;rw[Ym _ (by omega),VE],by simp only[ED];rw[QJ (by omega),VD],by simp only;omega,by simp only[ED,List.length_append,List.length_singleton];omega⟩,by show n-(j+1)<n-j;omega,?_⟩;refine zq rfl ?_ ?_;simp -dsimp only[simprocAttr,↓aa,zp,zc]
   ·exact⟨Sub.int (by simp),Sub.int (by simp)⟩
   rfl
  refine jR ?_;have WI:decide (x.1=x.2)=true:=by simpa using h
  have ED:KH (l.take (j+1))=KH (l.take j):=by
   have:KH [x]=[]:=by
    unfold KH;simp at WI;simp[WI]
   rw[iz,Np,this,List.append_nil]
  refine dc ?_
  repeat(refine⟨by omega,?_⟩)
  refine fV ?_;refine⟨⟨(j+1,k,F),aZ,Pa,VE,by simp only[ED];exact VD,by simp only;omega,by simp only[ED];exact hk⟩,by show n-(j+1)<n-j;omega,?_⟩;refine zq rfl ?_ ?_;simp -dsimp only[simprocAttr,↓aa,zp,zc]
  ·exact Sub.int (by simp)
  rfl
 refine aR ?_;simp -dsimp only[bX,ne_eq,Nat.reduceEqDiff,reduceCtorEq];have YM:j=n:=by
  have:=of_decide_eq_false h;omega
 subst YM;rw[List.take_of_length_le (l:=l) (by omega),<-hD]at VD hk;subst hk;have VN:=U7 F (k:=D.length) (n:=j) (by omega) Pa;rw[VD]at VN;have Xv:(List.replicate (j-D.length) [aI 0,aI 0]).flatten=List.replicate ((j-D.length)*2) (aI 0):=T4 _;have WX:(O.set id (.cells (mC F)))[id]?=some (.cells (mC F)):=List.getElem?_set_self fA;have WU:(mC F).length=j*2:=by rw[Lm,Pa]
 generalize mC F=C at *;refine aX ?_;simp -dsimp only[simprocAttr,↓aa,zp,WX,WU,Xv]
 repeat(refine⟨by omega,?_⟩)
 refine ah ?_;rw[VN,NL];refine aA ?_
 repeat(refine⟨by omega,?_⟩)
 refine ah ?_;refine aq ?_;simp -dsimp only[simprocAttr,↓aa,zp,Li,Try.results46,cX,fv,eC,cL,cf,cy];rw[Nat.sub_zero,Nat.sub_zero]
theorem R1{l:List Mv}{i:Nat}(hi:i<l.length)(J:List ae) :
  aS (aS (mC l++J) (i*2) (((mC l++J).drop ((i+1)*2)).take ((l.length-(i+1))*2))) ((l.length-1)*2) [aI 0,aI 0]=mC (l.eraseIdx i)++(aI 0::aI 0::J):=by
 obtain⟨p,hp⟩:∃p,l[i]?=some p:=⟨l[i],List.getElem?_eq_getElem hi⟩
 have e1:=Mk hp;have e2:l.eraseIdx i=l.take i++l.drop (i+1):=List.eraseIdx_eq_take_drop_succ ..;have hA:(mC (l.take i)).length=i*2:=by rw[Lm,List.length_take];omega
 have hB:(mC (l.drop (i+1))).length=(l.length-(i+1))*2:=by rw[Lm,List.length_drop]
 obtain⟨n,hn⟩:∃n,n=l.length:=⟨_,rfl⟩
 rw[e2,Q9,e1,<-hn];rw[<-hn]at hB hi;generalize mC (l.take i)=A at *;generalize mC (l.drop (i+1))=B at *;have hd:((A++aI p.1::aI p.2::B)++J).drop ((i+1)*2)=B++J:=by
  rw[List.append_assoc,show(i+1)*2=A.length+2 by omega,List.drop_length_add_append];rfl
 rw[hd,<-hB,List.take_left];have hX:aS ((A++aI p.1::aI p.2::B)++J) (i*2) B=A++(B++((aI p.1::aI p.2::B)++J).drop B.length):=by
  unfold aS;rw[List.append_assoc,<-hA,List.take_left,List.drop_length_add_append]
 rw[hX];obtain⟨D,hD⟩:∃D,D=((aI p.1::aI p.2::B)++J).drop B.length:=⟨_,rfl⟩
 have Yj:D.drop 2=J:=by
  rw[hD,List.drop_drop,show B.length+2=(aI p.1::aI p.2::B).length by simp,List.drop_left]
 rw[<-hD];unfold aS;rw[show(n-1)*2=(A++B).length by rw[List.length_append];omega,<-List.append_assoc A B D,List.take_left,List.drop_length_add_append];simp only[List.length_cons,List.length_nil];rw[show 0+1+1=2 from rfl,Yj];simp
theorem SP{O:List ak}(id c:Nat)(J:List ae)(l:List Mv)(i:Nat)(hi:i<l.length)(hc:l.length<=c)(hO:O[id]?=some (.cells (mC l++J)))(Qj:l.length<=2 ^ 40)(YE:c<=2 ^ 40) :
  bc Try.prog 52 O [.ms id 0 l.length c,aI i,aI (i+1)] fun r O'=>r=.ms id 0 (l.length-1) c∧O'=O.set id (.cells (mC (l.eraseIdx i)++(aI 0::aI 0::J))):=by
 have fA:=I hO;have Vk:=R1 hi J;have R5:(mC l++J).length=l.length*2+J.length:=by rw[List.length_append,Lm]
 obtain⟨n,hn⟩:∃n,n=l.length:=⟨_,rfl⟩
 rw[<-hn]at hi hc Qj Vk R5 ⊢;have YH:decide ((i:Int)=i+1)=false:=decide_eq_false (by omega);generalize mC (l.eraseIdx i)++(aI 0::aI 0::J)=E at *;generalize mC l++J=C at *;have NL:∀y z,(O.set id y).set id z=O.set id z:=fun y z=>List.set_set ..;refine KZ hT Try.func52 rfl (by kernel_rfl) (by simp[Try.ntmps52]) ?_;show cc Try.prog _ _ _ ⟨33,_,_⟩;dsimp only[Tmp,TypeId,ax];refine aA (ah ?_);refine aK (kT ⟨false,false⟩ hT 5 rfl rfl rfl (by simp) ?_);simp -dsimp only[simprocAttr,↓aa,zp];refine⟨_,_,P4 (l:=i) (h:=i+1) (m:=n) hT rfl (by simp) tu rfl tv rfl rfl rfl rfl (by omega) (by omega) (by omega) (by omega) (by omega),?_⟩;simp -dsimp only[simprocAttr,↓aa,zp];refine ah ?_;refine dd ?_;simp -dsimp only[simprocAttr,↓aa,zp,YH];refine ah ?_;apply aP rfl<;>intro h
 ·cases h
 refine cA ?_;refine aA (ah ?_);have XS:∀y,(O.set id y)[id]?=some y:=fun y=>List.getElem?_set_self fA;by_cases VW:i+1=n
 ·have iz:(C.drop ((i+1)*2)).take ((n-(i+1))*2)=[]:=by rw[show n-(i+1)=0 by omega,Nat.zero_mul,List.take_zero]
  rw[iz]at Vk;refine aK (L6 hm (Nn.Uo ⟨false,false⟩ hT 5 rfl rfl (by simp) ?_));simp -dsimp only[simprocAttr,↓aa,zp]
  repeat(refine⟨by omega,?_⟩)
  refine Nn.op rfl rfl (N6 (k:=.i64) hT rfl (by simp) tu rfl tv rfl (by rw[<-VW];rfl)) ?_;simp -dsimp only[simprocAttr,↓aa,zp];refine Nn.Uo ⟨false,false⟩ hT 2 rfl rfl (by simp) ?_;simp -dsimp only[simprocAttr,↓aa,zp,hO]
  repeat(refine⟨by omega,?_⟩)
  refine Nn.fin rfl ⟨ob (by kernel_rfl),?_⟩;refine ah ?_;obtain⟨E1,UI⟩:∃E1,E1=aS C (i*2) []:=⟨_,rfl⟩
  rw[<-UI]at Vk;show cc Try.prog _ _ _ ⟨_,(0,.ms id 0 i c)::_,O.set id (.cells (aS C (i*2) []))⟩;rw[<-UI];have UJ:E1.length=C.length:=by
   rw[UI,ct];simp;omega
  have UK:∀y,(O.set id y)[id]?=some y:=XS;have Xq:n-i=1:=by omega
  have hz:(List.replicate 1 [aI 0,aI 0]).flatten=[aI 0,aI 0]:=rfl;refine aX ?_;simp -dsimp only[simprocAttr,↓aa,zp,UK,UJ,Xq,hz]
  repeat(refine⟨by omega,?_⟩)
  refine ah ?_;rw[NL];refine aA (ah ?_);refine aq ?_;simp -dsimp only[simprocAttr,↓aa,zp,Li,Try.results52,cX,fv,eC,cL,cf,cy];have Xs:i=n-1:=by omega
  rw[Xs,<-Vk];exact⟨rfl,rfl⟩
 have Vm:(i+(n-(i+1)))*2<=C.length:=by omega
 have Xn:(i+1)*2+(n-(i+1))*2<=C.length:=by omega
 refine aK (L6 hm (Nn.Uo ⟨false,false⟩ hT 6 rfl rfl (by simp) ?_));simp -dsimp only[simprocAttr,↓aa,zp]
 repeat(refine⟨by omega,?_⟩)
 refine Nn.op rfl rfl ((N5 hT rfl (by simp) tu rfl tv rfl hO rfl (by omega) Vm Xn (by omega)).close jK) ?_;simp -dsimp only[simprocAttr,↓aa,zp];refine Nn.Uo ⟨false,false⟩ hT 1 rfl rfl (by simp) ?_;simp -dsimp only[simprocAttr,↓aa,zp];refine Nn.fin rfl ⟨ob (by kernel_rfl),?_⟩;refine ah ?_;obtain⟨E1,UI⟩:∃E1,E1=aS C (i*2) ((C.drop ((i+1)*2)).take ((n-(i+1))*2)):=⟨_,rfl⟩
 rw[<-UI]at Vk;show cc Try.prog _ _ _ ⟨_,(0,.ms id 0 (i+(n-(i+1))) c)::_,O.set id (.cells (aS C (i*2) ((C.drop ((i+1)*2)).take ((n-(i+1))*2))))⟩;rw[<-UI];generalize hq:i+(n-(i+1))=q at *;have UJ:E1.length=C.length:=by
  rw[UI,ct];rw[List.length_take,List.length_drop];omega
 have UK:∀y,(O.set id y)[id]?=some y:=XS;have Xq:n-q=1:=by omega
 have hz:(List.replicate 1 [aI 0,aI 0]).flatten=[aI 0,aI 0]:=rfl;refine aX ?_;simp -dsimp only[simprocAttr,↓aa,zp,UK,UJ,Xq,hz]
 repeat(refine⟨by omega,?_⟩)
 refine ah ?_;rw[NL];refine aA (ah ?_);refine aq ?_;simp -dsimp only[simprocAttr,↓aa,zp,Li,Try.results52,cX,fv,eC,cL,cf,cy];have Xs:q=n-1:=by omega
 rw[Xs,<-Vk];exact⟨rfl,rfl⟩
def Mo(v s:Int)(l:List Mv)(j:Nat):List Mv:=(l.take j).map (KQ v s)++l.drop j
theorem Sl(v s:Int)(l:List Mv):Mo v s l 0=l:=by simp[Mo]
theorem Tf(v s:Int)(l:List Mv):Mo v s l l.length=l.map (KQ v s):=by simp[Mo]
theorem Tg(v s:Int)(l:List Mv)(j:Nat):(Mo v s l j).length=l.length:=by
 unfold Mo;rw[List.length_append,List.length_map,List.length_take,List.length_drop];omega
theorem T6(v s:Int){l:List Mv}{j:Nat}{x:Mv}(h:l[j]?=some x):(Mo v s l j)[j]?=some x:=by
 have hl:=I h;unfold Mo;rw[List.getElem?_append_right (by rw[List.length_map,List.length_take];omega),List.length_map,List.length_take,show j-min j l.length=0 by omega,List.getElem?_drop,Nat.add_zero,h]
theorem Sk(v s:Int){l:List Mv}{j:Nat}{x:Mv}(h:l[j]?=some x):(Mo v s l j).set j (KQ v s x)=Mo v s l (j+1):=by
 have hl:=I h;unfold Mo;rw[PB h,List.set_append_right _ _ (by rw[List.length_map,List.length_take];omega),List.length_map,List.length_take,show j-min j l.length=0 by omega,List.set_cons_zero,List.take_add_one,h,List.map_append,List.append_assoc];rfl
theorem RH(n:Nat)(l:List Mv):aw n (mC l):=by
 rw[aY];intro y hy;unfold mC at hy;rw[List.mem_flatMap]at hy;obtain⟨p,_,hy⟩:=hy;simp at hy;rcases hy with rfl|rfl<;>trivial
theorem K2(n:Nat):∀l:List Mv,aw n (l.map eM)
 | []=>trivial
 | x::r=>⟨⟨trivial,trivial,trivial⟩,K2 n r⟩
theorem Rd(spare:Int){left:List Mv}(cj:left≠[]):∃(L2 ex:List Mv) (k:Nat) (x:Mv),L2.length=left.length∧L2[k]?=some x∧KY spare left=(L2.eraseIdx k,ex++[x]) ∧
  (MT (Lo left) left<0->k=0∧∃x0,left[0]?=some x0∧L2=left.map (KQ x0.1 spare)∧ex=[(spare,x0.1)])∧(0<=MT (Lo left) left->MT (Lo left) left=(k:Int)∧L2=left∧ex=[]):=by
 match left,cj with
 | x0::r,_ =>
  by_cases h:MT (Lo (x0::r)) (x0::r)<0
  ·refine⟨(x0::r).map (KQ x0.1 spare),[(spare,x0.1)],0,KQ x0.1 spare x0,List.length_map _,rfl,?_,fun _=>⟨rfl,x0,rfl,rfl,rfl⟩,fun q=>by omega⟩;unfold KY;simp only;rw[if_pos h];rfl
  rcases Lr (Lo (x0::r)) (x0::r)with⟨e,_⟩|⟨j,x,e,hj,_,_⟩
  ·omega
  refine⟨x0::r,[],j,x,rfl,hj,?_,fun q=>by omega,fun _=>⟨e,rfl,rfl⟩⟩;unfold KY;simp only;rw[if_neg h,e,Int.toNat_natCast,hj];rfl
theorem Tn(l:List Mv)(spare:Int)(cj:l≠[])(hl:l.length<=2 ^ 30)(lV:∀x∈l,0<=x.1∧0<=x.2)(Xd:∀(i j:Nat)(x y:Mv),i<j->l[i]?=some x->l[j]?=some y->x.1≠y.1)(fQ:∀x∈l,x.1≠spare∧x.2≠spare) :
  bw Try.prog 25 [.aE 2 (l.map eM) .sh,aI spare] (.df [.aE 2 ((NX l spare).map eM) .sh,aI 0]):=by
 obtain⟨n,hn⟩:∃n,n=l.length:=⟨_,rfl⟩
 obtain⟨R,hR⟩:∃R,R=NX l spare:=⟨_,rfl⟩
 rw[<-hR];refine zf true 0 Try.func25 Try.ntmps25 ?_;dsimp only[Tmp,TypeId,ax];refine ns 0 rfl (fun e=>absurd (List.map_eq_nil_iff.1 e) cj) ?_;simp -dsimp only[simprocAttr,↓aa,zp];refine aA (ah ?_);refine ff 0 rfl (fun wo=>?_);simp only[List.length_map]at wo;refine dd ?_;simp -dsimp only[simprocAttr,↓aa,zp,<-hn];refine ah ?_;refine aj (aU (ι:={k:Nat // k<=n}) (fun k=>⟨99,[(0,.aE 2 (l.map eM) .nn),(1,aI spare),(13,.aE 2 (l.map eM) .nn),(14,aI n),(15,aI k.1)],[]⟩) (fun k=>n-k.1) ⟨0,by omega⟩ ?_ ?_)
 ·refine zq rfl ?_ ?_;simp -dsimp only[simprocAttr,↓aa,zp,zc]
  all_goals rfl
 rintro⟨k,hk⟩;refine aA (ah ?_);apply gW rfl<;>intro h
 ·refine cA ?_;have aZ:k<n:=by simpa using h
  obtain⟨x,hx⟩:∃x,l[k]?=some x:=⟨l[k]'(by omega),List.getElem?_eq_getElem _⟩
  have uN:=List.mem_of_getElem? hx;obtain⟨p1,p2⟩:=lV x uN;obtain⟨s1,s2⟩:=fQ x uN;have d1:decide (x.1<0)=false:=decide_eq_false (by omega);have d2:decide (x.2<0)=false:=decide_eq_false (by omega);have d3:decide (x.1=spare)=false:=decide_eq_false s1;have d4:decide (x.2=spare)=false:=decide_eq_false s2;have bC:∀o∈[ak.cells [aI x.1,aI x.2]],o.upto [ak.cells [aI x.1,aI x.2]].length:=fun o ho=>by
   rw[List.mem_singleton.1 ho];exact⟨trivial,trivial,trivial⟩
  have W2:(l.take k).any (fun y=>decide (y.1=x.1))=false:=by
   rw[List.any_eq_false];intro y hy;obtain⟨i,hi⟩:=List.mem_iff_getElem?.1 hy;have Xj:=I hi;rw[List.length_take]at Xj;rw[List.getElem?_take,if_pos (by omega)]at hi;simpa using Xd i k y x (by omega) hi hx
  have eJ:=RW (O:=[ak.cells [aI x.1,aI x.2]]) 45 [.mp 0 0] (fun y=>decide (y.1=x.1)) (l.take k) fun y _=>T8 bC 0 x.1 x.2 rfl y;rw[W2,List.map_take]at eJ;refine aK (aj ?_);refine aX ?_;simp -dsimp only[simprocAttr,↓aa,zp,hx]
  repeat(refine⟨by omega,?_⟩)
  refine ah ?_;refine aj ?_;refine aX ?_;simp -dsimp only[simprocAttr,↓aa,zp,d1,d2];refine ah ?_;apply aP rfl<;>intro h
  ·cases h
  refine aX ?_;simp -dsimp only[simprocAttr,↓aa,zp,wo]
  repeat(refine⟨by omega,?_⟩)
  refine .inr (.inr ⟨_,eJ,au (zj ?_)⟩);refine ah ?_;apply aP rfl<;>intro h
  ·cases h
  refine aX ?_;simp -dsimp only[simprocAttr,↓aa,zp,d3,d4];refine ah ?_;apply aP rfl<;>intro h
  ·cases h
  refine Hw ?_;refine bT 0 [(0,.aE 2 (l.map eM) .nn),(1,aI spare),(13,.aE 2 (l.map eM) .nn),(14,aI n),(15,aI k)] (by omega) (by omega) [] ?_ ?_ ?_ ?_ ?_
  ·rfl
  ·simp
  ·simp[gj,St.get,bu,a7,Go.Av.look,Sub.refl]
  ·simp[aw,ae.upto,az,K2]
  refine dc ?_
  repeat(refine⟨by omega,?_⟩)
  refine fV ?_;refine⟨⟨k+1,aZ⟩,by show n-(k+1)<n-k;omega,?_⟩;refine zq rfl ?_ ?_;simp -dsimp only[simprocAttr,↓aa,zp,zc]
  ·exact Sub.int (by simp)
  rfl
 refine aR ?_;simp -dsimp only[bX,ne_eq,Nat.reduceEqDiff,reduceCtorEq];clear hk;have eJ:=P6 (O:=[]) l cj (by omega);have zY:=R0 (O:=[ak.cells (mC l)]) (fun o ho=>by rw[List.mem_singleton.1 ho];exact RH _ _) 0 l cj rfl (by omega);rw[<-hn]at eJ zY;have V7:[ak.cells (mC l)].set 0 (.cells (mC (KH l)++List.replicate ((n-(KH l).length)*2) (aI 0)))=[.cells (mC (KH l)++List.replicate ((n-(KH l).length)*2) (aI 0))]:=rfl;rw[V7]at zY;have jP:(KH l).length<=n:=by rw[hn];exact List.length_filter_le ..
 have Ys:R=Lg spare n (KH l):=by rw[hR,hn];rfl
 generalize KH l=D at *;have Yp:∀y∈List.replicate ((n-D.length)*2) (aI 0),y=aI 0:=fun y hy=>(List.mem_replicate.1 hy).2;generalize List.replicate ((n-D.length)*2) (aI 0)=J0 at *;refine aA ?_;refine .inr (.inl ⟨_,_,eJ,.inl (au (zj ?_))⟩);refine .inr (.inl ⟨_,_,zY,.inl (au (zj ?_))⟩);refine ah ?_;refine aA (ah ?_);refine sr 9 rfl ?_;simp -dsimp only[simprocAttr,↓aa,zp];show cc Try.prog _ _ _ ⟨_,_,[.cells (mC D++J0),.cells [.ms 0 0 D.length n],.spare 0]⟩;refine aK (aj (aU (ι:={X:List Mv×List ae×List Mv×Nat // X.1.length<=n∧X.1.length<=X.2.2.2∧R=X.2.2.1++Lg spare X.2.2.2 X.1∧X.2.2.1.length<=2*(n-X.1.length)∧∀y∈X.2.1,y=aI 0}) (fun X=>⟨99,[(1,aI spare),(8,.mp 1 0),(9,.aE 2 (X.1.2.2.1.map eM) (.tok 2))],[.cells (mC X.1.1++X.1.2.1),.cells [.ms 0 0 X.1.1.length n],.spare X.1.2.2.1.length]⟩) (fun X=>X.1.1.length) ⟨(D,J0,[],n),jP,jP,Ys,by simp,Yp⟩ ?_ ?_))
 ·refine zq rfl ?_ ?_;simp -dsimp only[simprocAttr,↓aa,zp,zc]
  all_goals rfl
 rintro⟨⟨left,J,out,fuel⟩,Vm,HY,VG,yh,hJ⟩;simp only at Vm HY VG yh hJ;obtain⟨m,hm⟩:∃m,m=left.length:=⟨_,rfl⟩
 have bC:∀o∈[ak.cells (mC left++J),.cells [.ms 0 0 left.length n],.spare out.length],o.upto [ak.cells (mC left++J),.cells [.ms 0 0 left.length n],.spare out.length].length:=fun o ho=>by
  simp only[List.mem_cons,List.not_mem_nil,or_false]at ho;rcases ho with rfl|rfl|rfl
  ·show aw _ _;rw[aY];intro y hy;rcases List.mem_append.1 hy with q|q
   ·exact aY.1 (RH _ _) y q
   rw[hJ y q];trivial
  ·exact⟨show 0<3 by omega,trivial⟩
  trivial
 refine b8 (ah ?_);apply aP rfl<;>intro h
 ·refine cA ?_;have kB:left≠[]:=fun e=>by rw[e]at h;simp at h
  have X5:0<left.length:=List.length_pos_iff.2 kB;obtain⟨L2,ex,k,x,g1,g2,g3,g4,g5⟩:=Rd spare kB;have wm:=I g2;rw[g1]at wm;have Bx:=Nr (O:=[ak.cells (mC left++J),.cells [.ms 0 0 left.length n],.spare out.length]) 0 n J left rfl (by omega) 50 [.mp 1 0] (Lo left) fun y _=>T9 bC 0 1 n J left y rfl rfl (by omega);obtain⟨ix,vn⟩:∃ix,ix=MT (Lo left) left:=⟨_,rfl⟩
  rw[<-vn]at Bx g4 g5;refine aj ?_;refine aA ?_;refine .inr (.inr ⟨_,Bx,au (zj ?_)⟩);refine ah ?_;refine gI (⟨99,[(1,aI spare),(8,.mp 1 0),(9,.aE 2 ((out++ex).map eM) (.tok 2)),(10,aI k)],[.cells (mC L2++J),.cells [.ms 0 0 left.length n],.spare (out++ex).length]⟩) ?_ ?_
  ·by_cases S8:ix<0
   ·obtain⟨rfl,x0,Cu,rfl,rfl⟩:=g4 S8;have mP:decide (ix<0)=true:=decide_eq_true S8;obtain⟨-,xx,-⟩:=Pj Cu J;have R5:(mC left++J).length=left.length*2+J.length:=by rw[List.length_append,Lm]
    rw[Nat.zero_mul]at xx;refine aX ?_;simp -dsimp only[simprocAttr,↓aa,zp,mP];refine ah ?_;apply aP rfl<;>intro h
    ·generalize Yh:mC left++J=C at *;refine aX ?_;simp -dsimp only[simprocAttr,↓aa,zp,xx,R5]
     repeat(refine⟨by omega,?_⟩)
     refine ah ?_;refine aA ?_
     repeat(refine⟨by omega,?_⟩)
     refine ah ?_;have Of:out.map eM++[.agg [aI spare,aI x0.1]]=(out++[(spare,x0.1)]).map eM:=by simp
     rw[Of];have V3:(out++[(spare,x0.1)]).length=out.length+1:=by simp
     rw[V3];generalize out++[(spare,x0.1)]=T7 at *;obtain⟨v,hv⟩:∃v,v=x0.1:=⟨_,rfl⟩
     rw[<-hv];refine b8 (ah ?_);have XG:mC (Mo v spare left 0)=mC left:=by rw[Sl]
     have Wu:left.map (KQ v spare)=Mo v spare left left.length:=(Tf ..).symm;have gd:[ak.cells C,ak.cells [ae.ms 0 0 left.length n],ak.spare (out.length+1)]=[.cells (mC (Mo v spare left 0)++J),.cells [.ms 0 0 left.length n],.spare (out.length+1)]:=by rw[XG,Yh]
     refine aj (aU (ι:={j:Nat // j<=left.length}) (fun j=>⟨99,[(1,aI spare),(8,.mp 1 0),(9,.aE 2 (T7.map eM) (.tok 2)),(11,aI v),(69,aI left.length),(70,aI j.1)],[.cells (mC (Mo v spare left j.1)++J),.cells [.ms 0 0 left.length n],.spare (out.length+1)]⟩) (fun j=>left.length-j.1) ⟨0,by omega⟩ ?_ ?_)
     ·refine zq rfl ?_ ?_;simp -dsimp only[simprocAttr,↓aa,zp,zc]
      all_goals exact gd
     rintro⟨j,hj⟩;refine aA (ah ?_);apply gW rfl<;>intro h
     ·refine cA ?_;have nQ:j<left.length:=by simpa using h
      obtain⟨y,hy⟩:∃y,left[j]?=some y:=⟨left[j]'(by omega),List.getElem?_eq_getElem _⟩
      have nU:=T6 v spare hy;obtain⟨-,-,mZ⟩:=Pj nU J;have R5:(mC (Mo v spare left j)++J).length=left.length*2+J.length:=by rw[List.length_append,Lm,Tg]
      have Vo:=T3 nU spare J;have dD:=Sk v spare hy;generalize Yi:mC (Mo v spare left j)++J=C2 at *;refine aK (aj ?_);refine aA (ah ?_);refine aX ?_;simp -dsimp only[simprocAttr,↓aa,zp,mZ,R5]
      repeat(refine⟨by omega,?_⟩)
      refine ah ?_;apply aP rfl<;>intro h
      ·have XF:y.2=v:=by simpa using h
       unfold KQ at dD;rw[if_pos XF]at dD;rw[dD]at Vo;refine j1 ?_;simp -dsimp only[simprocAttr,↓aa,zp,R5]
       repeat(refine⟨by omega,?_⟩)
       refine ah ?_;rw[Vo];refine dc ?_
       repeat(refine⟨by omega,?_⟩)
       refine fV ?_;refine⟨⟨j+1,nQ⟩,by show left.length-(j+1)<left.length-j;omega,?_⟩;refine zq rfl ?_ ?_;simp -dsimp only[simprocAttr,↓aa,zp,zc]
       ·exact Sub.int (by simp)
       rfl
      refine jR ?_;have XF:¬y.2=v:=by simpa using h
      unfold KQ at dD;rw[if_neg XF,K6 nU]at dD;refine dc ?_
      repeat(refine⟨by omega,?_⟩)
      refine fV ?_;refine⟨⟨j+1,nQ⟩,by show left.length-(j+1)<left.length-j;omega,?_⟩;refine zq rfl ?_ ?_;simp -dsimp only[simprocAttr,↓aa,zp,zc]
      ·exact Sub.int (by simp)
      rw[<-Yi,dD]
     refine aR ?_;simp -dsimp only[bX,ne_eq,Nat.reduceEqDiff,reduceCtorEq];have NK:j=left.length:=by
      have:=of_decide_eq_false h;omega
     subst NK;rw[<-Wu];refine dc ?_;refine bd ?_;show bg _ _;refine zq rfl ?_ ?_;simp -dsimp only[simprocAttr,↓aa,zp,zc];rw[<-V3]
    cases h
   have mP:decide (ix<0)=false:=decide_eq_false S8;obtain⟨Xj,rfl,rfl⟩:=g5 (by omega);rw[List.append_nil];refine aX ?_;simp -dsimp only[simprocAttr,↓aa,zp,mP];refine ah ?_;refine cE rfl ?_;refine a8 ?_;show bg _ _;refine zq rfl ?_ ?_;simp -dsimp only[simprocAttr,↓aa,zp,zc]
   ·exact Sub.of_eq (by rw[Xj])
   rfl
  obtain⟨ru,-,-⟩:=Pj g2 J;have R5:(mC L2++J).length=left.length*2+J.length:=by rw[List.length_append,Lm,g1]
  have hex:ex.length<=1:=by
   by_cases S8:ix<0
   ·obtain⟨_,_,_,_,rfl⟩:=g4 S8;simp
   obtain⟨_,_,rfl⟩:=g5 (by omega);simp
  have By:(out++ex).length<=out.length+1:=by rw[List.length_append];omega
  generalize WC:out++ex=o2 at *;have R7:=SP (O:=[ak.cells (mC L2++J),.cells [.ms 0 0 left.length n],.spare (o2.length+1)]) 0 n J L2 k (by omega) (by omega) rfl (by omega) (by omega);rw[g1]at R7;have gw:([ak.cells (mC L2++J),.cells [.ms 0 0 left.length n],.spare (o2.length+1)]:List ak).set 0 (.cells (mC (L2.eraseIdx k)++(aI 0::aI 0::J)))=[.cells (mC (L2.eraseIdx k)++(aI 0::aI 0::J)),.cells [.ms 0 0 left.length n],.spare (o2.length+1)]:=rfl;rw[gw]at R7;obtain⟨C,hC⟩:∃C,C=mC L2++J:=⟨_,rfl⟩
  rw[<-hC]at ru R5 R7;rw[<-hC];have Of:o2.map eM++[.agg [aI x.1,aI x.2]]=(o2++[x]).map eM:=by simp
  refine aX ?_;simp -dsimp only[simprocAttr,↓aa,zp,ru,R5]
  repeat(refine⟨by omega,?_⟩)
  refine ah ?_;rw[Of];refine dc ?_
  repeat(refine⟨by omega,?_⟩)
  refine .inr (.inl ⟨_,_,R7,.inl (au (zj ?_))⟩);refine Jc ?_;have oX:(L2.eraseIdx k).length=left.length-1:=by rw[List.length_eraseIdx,if_pos (by omega),g1]
  have Al:(o2++[x]).length=o2.length+1:=by rw[List.length_append];rfl
  have uG:[ak.cells (mC (L2.eraseIdx k)++aI 0::aI 0::J),ak.cells [ae.ms 0 0 (left.length-1) n],ak.spare (o2.length+1)]=[ak.cells (mC (L2.eraseIdx k)++aI 0::aI 0::J),ak.cells [ae.ms 0 0 (L2.eraseIdx k).length n],ak.spare (o2++[x]).length]:=by rw[Al,oX]
  have YR:R=o2++[x]++Lg spare (fuel-1) (L2.eraseIdx k):=by
   rw[VG,show fuel=fuel-1+1 by omega,Lg,if_neg kB,g3,<-WC];simp
  refine⟨⟨(L2.eraseIdx k,aI 0::aI 0::J,o2++[x],fuel-1),by simp only;omega,by simp only;omega,YR,by simp only;omega,fun y hy=>?_⟩,by show(L2.eraseIdx k).length<left.length;omega,?_⟩
  ·simp only[List.mem_cons]at hy;rcases hy with q|q|q
   ·exact q
   ·exact q
   exact hJ y q
  refine zq rfl ?_ ?_;simp -dsimp only[simprocAttr,↓aa,zp,zc];exact uG
 refine aR ?_;simp -dsimp only[bX,ne_eq,Nat.reduceEqDiff,reduceCtorEq];have EN:left=[]:=by
  have:=of_decide_eq_false h;exact List.length_eq_zero_iff.1 (by omega)
 have Yt:R=out:=by
  rw[VG,EN];cases fuel<;>simp[Lg]
 refine aA (ah ?_);refine aq ?_;simp -dsimp only[simprocAttr,↓aa,zp,zr,Try.results25];exact⟨⟨⟨K2 _ _,trivial⟩,trivial,trivial⟩,by rw[Yt]⟩
theorem Ua(spare:Int):bw Try.prog 25 [.aE 2 [] .sh,aI spare] (.df [.aE 2 [] .sh,aI 0]):=by
 have Xi:bw Try.prog 49 [.aE 2 [] .sh,.fn (.func 48) [] []] (aI (-1)):=by
  have:=Pb (O:=[]) 48 [] (fun x=>decide (x.1=x.2)) [] (fun x hx=>by cases hx);exact this
 have R7:bw Try.prog 46 [.aE 2 [] .sh,.fn (.func 48) [] []] (.aE 2 [] .sh):=by
  refine zf true 0 Try.func46 Try.ntmps46 ?_;dsimp only[Tmp,TypeId,ax];refine aA (ah ?_);refine aA ?_;refine .inl ⟨_,Xi,by simp only[aw,ae.upto,zt,zu,az,K2],au ?_⟩;simp -dsimp only[simprocAttr,↓aa,zp];refine ah ?_;refine b8 (ah ?_);refine cS rfl ?_;refine aA (ah ?_);refine aq ?_;simp -dsimp only[simprocAttr,↓aa,zp,zr,Try.results46];trivial
 have eJ:bw Try.prog 47 [.aE 2 [] .sh] (.aE 2 [] .sh):=by
  refine zf true 0 Try.func47 Try.ntmps47 ?_;dsimp only[Tmp,TypeId,ax];refine ns 0 rfl (fun _=>?_) ?_
  ·simp -dsimp only[simprocAttr,↓aa,zp];refine aA (ah ?_);refine b8 (ah ?_);refine cS rfl ?_;refine aA (ah ?_);refine aq ?_;simp -dsimp only[simprocAttr,↓aa,zp,zr,Try.results47];trivial
  simp -dsimp only[simprocAttr,↓aa,zp];refine aA (ah ?_);refine b8 (ah ?_);refine cE rfl ?_;refine cA ?_;refine aA ?_
  repeat(refine⟨by omega,?_⟩)
  refine ah ?_;refine aq ?_;simp -dsimp only[simprocAttr,↓aa,zp,zr,Try.results47];trivial
 refine zf true 0 Try.func25 Try.ntmps25 ?_;dsimp only[Tmp,TypeId,ax];refine aA (ah ?_);refine b8 (ah ?_);refine aj (aU (ι:=Unit) (fun x=>⟨99,[(0,.aE 2 [] .sh),(1,aI spare),(13,.aE 2 [] .sh),(14,aI 0),(15,aI 0)],[]⟩) (fun x=>0) () ?_ ?_)
 ·refine zq rfl ?_ ?_;simp -dsimp only[simprocAttr,↓aa,zp,zc]
  all_goals rfl
 rintro⟨⟩;refine aA (ah ?_);refine Iv rfl ?_;refine aR ?_;simp -dsimp only[bX,ne_eq,Nat.reduceEqDiff,reduceCtorEq];refine aA ?_;refine .inl ⟨_,eJ,by simp only[aw,ae.upto,zt,zu,az,K2],au ?_⟩;simp -dsimp only[simprocAttr,↓aa,zp];refine .inl ⟨_,R7,by simp only[aw,ae.upto,zt,zu,az,K2],au ?_⟩;simp -dsimp only[simprocAttr,↓aa,zp];refine ah ?_;refine aA (ah ?_);refine aK (aj (aU (ι:=Unit) (fun x=>⟨99,[(8,.mp 0 0),(9,.aE 2 [] .ex)],[.cells [.aE 2 [] .sh]]⟩) (fun x=>0) () ?_ ?_))
 ·refine zq rfl ?_ ?_;simp -dsimp only[simprocAttr,↓aa,zp,zc]
  all_goals rfl
 rintro⟨⟩;refine b8 (ah ?_);refine cE rfl ?_;refine aR ?_;simp -dsimp only[bX,ne_eq,Nat.reduceEqDiff,reduceCtorEq];refine aA (ah ?_);refine aq ?_;simp -dsimp only[simprocAttr,↓aa,zp,zr,Try.results25];trivial
def Qr(u:bR)(fuel:Int):BB :=
 if KX u≠0 then⟨[],0,0,0,KX u⟩
 else if within fuel 1 1000000=false then⟨[],0,0,0,4⟩
 else bm u fuel
structure Uy(u:bR):Prop where
 few:u.fns.length<=256
 main:0<=u.main∧u.main<u.fns.length
 none:(aD (aL u u.main) 0).params=[]
 fns:∀f∈u.fns,QN f
 calls:∀f∈u.fns,∀b∈f.blocks,∀i∈b.ins,fH u i=0
theorem Sh{u:bR}(bB:u.fit)(h:KX u=0):Uy u:=by
 unfold KX at h;split at h
 ·simp at h
 split at h
 ·simp at h
 split at h
 ·simp at h
 rename_i h3;have h4:=hZ h;have h5:=h4.2;split at h5
 ·simp at h5
 rename_i h6;exact⟨by omega,by omega,List.length_eq_zero_iff.1 (by omega),fun f hf=>RI (bB.2.2 f hf) (MW h4.1 f hf),kW h5⟩
theorem QN.QX{f:Func}(h:QN f){b:Block}(hb:b∈f.blocks):b.params.length<=6:=by
 obtain⟨k,hk⟩:=List.mem_iff_getElem?.1 hb;by_cases h0:0<k
 ·rw[h.bare k b hk h0];simp
 have DK:k=0:=by omega
 subst DK;have:=h.args;unfold aD at this;rw[show((0:Int).toNat)=0 from rfl,hk]at this;exact this
theorem Qv{u:bR}(bB:u.fit)(h:KX u=0):ep u:=by
 have hw:=Sh bB h;refine⟨hw.main,hw.few,hw.none,fun f hf=>⟨(hw.fns f hf).ne,by have:=(hw.fns f hf).few;omega⟩,fun f hf b hb=>?_⟩;have hF:=hw.fns f hf;have hE:=jE (hF.fin b hb);refine⟨fun i hi=>?_,⟨hE.kind,?_,hE.rE,hE.cond,hE.switch,fun e he=>?_,by have:=hE.cases;omega⟩,by have:=hF.ins b hb;omega⟩
 ·have hc:=tR (hw.calls f hf b hb i hi);have EL:=((bB.2.2 f hf).2.2 b hb).2.2.2.1 i hi;by_cases gB:i.op=100
  ·have hm:=hF.We b hb i hi;unfold Nf at hm;have hl:i.args.length=1:=by
    split at hm
    ·simp at hm
    simp only[ne_eq,gB,not_true_eq_false,if_false]at hm;split at hm
    ·simp at hm
    rename_i q;omega
   exact⟨.inr gB,by omega,⟨EL.1,EL.2.2.1⟩,fun q=>by omega,fun q=>by omega,fun _=>hl,fun q=>by omega,fun q=>by omega,fun q=>by omega,fun q=>by omega,fun q=>by omega,fun q=>by omega,fun q=>by omega,fun q=>by omega⟩
  have fL:=hF.form b hb i hi gB;have hlen:=fL.len;refine⟨.inl fL.op,by omega,⟨EL.1,EL.2.2.1⟩,fun q=>(fL.c0 q).1,fL.c2,fun q=>fL.c1 (by have:=fL.op;omega),fL.c3,fun q=>⟨?_,hlen⟩,fun q=>?_,fun q=>?_,fL.app,fL.G',fun _=>hlen,fL.vec⟩
  ·have:=fL.F' q;unfold fp;omega
  ·have:=fL.call (.inl q);have:=hc.1 (.inr q);exact⟨by omega,by omega,hlen⟩
  have:=fL.call (.inr q);exact⟨by omega,hc.1 (.inl q),hc.2.1 q⟩
 ·by_cases h4:b.term.kind=4
  ·have:=hE.ve h4;omega
  have:=hE.n h4;omega
 have m5:=hE.db e he;have hm:=fh (f:=f) (k:=e.block) (by omega) (by omega);have:=hF.QX hm;exact⟨by omega,by omega,m5.2,by omega⟩
theorem Sm(u:bR)(bB:u.fit)(fuel:Int):bw Try.prog 29 [u.enc,aI fuel] (Qr u fuel).enc:=by
 have oF:=Mm u bB;obtain⟨R,hR⟩:∃R,R=Qr u fuel:=⟨_,rfl⟩
 rw[<-hR];unfold Qr at hR;by_cases hc:KX u=0
 ·rw[if_neg (by simp[hc])]at hR;have hu:=Qv bB hc;rw[hc]at oF;by_cases wD:fuel<1∨1000000<fuel
  ·have G2:within fuel 1 1000000=false:=by
    cases hx:within fuel 1 1000000 with
    | false=>rfl
    | true =>
     have:=fa.1 hx;omega
   rw[if_pos G2]at hR;refine zf true 0 Try.func29 Try.ntmps29 ?_;dsimp only[Tmp,TypeId,ax];refine aA (ah ?_);refine aH 2 0 (.ip none [a9 u.fns,aI u.main]) rfl (by simp[ak.aF]) trivial rfl ?_ ?_;rotate_left;simp -dsimp only[simprocAttr,↓aa,zp];rotate_left
   ·exact cw.mp rfl rfl
   refine b8 ?_;refine .inl ⟨_,oF,by simp only[aw,ae.upto,zt,zu,az,K2],au ?_⟩;simp -dsimp only[simprocAttr,↓aa,zp];refine ah ?_;refine aA (ah ?_);apply aP rfl<;>intro h
   ·cases h
   refine cA ?_;cases nR:decide (fuel<1)with
   | true =>
    refine dd ?_;simp -dsimp only[simprocAttr,↓aa,zp,nR];refine ah ?_;refine cS rfl ?_;refine aA (ah ?_);refine aq ?_;simp -dsimp only[simprocAttr,↓aa,zp,zr,Try.results29];rw[hR];exact⟨by simp[aw,ae.upto],rfl⟩
   | false =>
    have V1:=of_decide_eq_false nR;have r9:decide (1000000<fuel)=true:=decide_eq_true (by omega);refine dd ?_;simp -dsimp only[simprocAttr,↓aa,zp,nR,r9];refine ah ?_;refine cS rfl ?_;refine aA (ah ?_);refine aq ?_;simp -dsimp only[simprocAttr,↓aa,zp,zr,Try.results29];rw[hR];exact⟨by simp[aw,ae.upto],rfl⟩
  have XD:within fuel 1 1000000=true:=fa.2 (by omega);have nR:decide (fuel<1)=false:=decide_eq_false (by omega);have r9:decide (1000000<fuel)=false:=decide_eq_false (by omega);rw[if_neg (by simp[XD])]at hR;have wB:=nX hu (fuel:=fuel) (by omega) (by omega);rw[<-hR]at wB;unfold BB.enc at wB;refine zf true 0 Try.func29 Try.ntmps29 ?_;dsimp only[Tmp,TypeId,ax];refine aA (ah ?_);refine aH 2 0 (.ip none [a9 u.fns,aI u.main]) rfl (by simp[ak.aF]) trivial rfl ?_ ?_;rotate_left;simp -dsimp only[simprocAttr,↓aa,zp];rotate_left
  ·exact cw.mp rfl rfl
  refine b8 ?_;refine .inl ⟨_,oF,by simp only[aw,ae.upto,zt,zu,az,K2],au ?_⟩;simp -dsimp only[simprocAttr,↓aa,zp];refine ah ?_;refine aA (ah ?_);apply aP rfl<;>intro h
  ·cases h
  refine cA ?_;refine dd ?_;simp -dsimp only[simprocAttr,↓aa,zp,nR,r9];refine ah ?_;apply aP rfl<;>intro h
  ·cases h
  refine cA ?_;refine aA ?_;refine .inl ⟨_,wB,by simp only[aw,ae.upto,zt,zu,az,K2],au ?_⟩;simp -dsimp only[simprocAttr,↓aa,zp];refine ah ?_;refine aq ?_;simp -dsimp only[simprocAttr,↓aa,zp,zr,Try.results29];exact⟨by simp[aw,ae.upto,az],rfl⟩
 rw[if_pos hc]at hR;obtain⟨e,he⟩:∃e,e=KX u:=⟨_,rfl⟩
 rw[<-he]at hc oF hR;have jn:decide (e=0)=false:=decide_eq_false hc;refine zf true 0 Try.func29 Try.ntmps29 ?_;dsimp only[Tmp,TypeId,ax];refine aA (ah ?_);refine aH 2 0 (.ip none [a9 u.fns,aI u.main]) rfl (by simp[ak.aF]) trivial rfl ?_ ?_;rotate_left;simp -dsimp only[simprocAttr,↓aa,zp];rotate_left
 ·exact cw.mp rfl rfl
 refine b8 ?_;refine .inl ⟨_,oF,by simp only[aw,ae.upto,zt,zu,az,K2],au ?_⟩;simp -dsimp only[simprocAttr,↓aa,zp];refine ah ?_;refine aX ?_;simp -dsimp only[simprocAttr,↓aa,zp,jn];refine ah ?_;refine cS rfl ?_;refine aA (ah ?_);refine aq ?_;simp -dsimp only[simprocAttr,↓aa,zp,zr,Try.results29];rw[hR];exact⟨by simp[aw,ae.upto],rfl⟩
def Rv(x:Mv):bE:=⟨x.1,100,0,[x.2]⟩
def KK(g:Func)(e:Edge):List Mv:=(aD g e.block).params.zip e.args
def KG(g:Func)(e:Edge)(spare:Int):List bE:=(NX (KK g e) spare).map Rv
structure WL(g:Func)(e:Edge)(spare:Int):Prop where
 blk:0<=e.block∧e.block<g.blocks.length
 len:e.args.length=(aD g e.block).params.length
 few:(aD g e.block).params.length<=4096
 pos:∀x∈KK g e,0<=x.1∧0<=x.2
 XJ:∀(i j:Nat) (x y:Mv),i<j->(KK g e)[i]?=some x->(KK g e)[j]?=some y->x.1≠y.1
 sp:∀x∈KK g e,x.1≠spare∧x.2≠spare
def Ng(L:List Block)(k:Nat)(F:Block->Block):List Block:=match L[k]? with
 | some b=>L.set k (F b)
 | none=>L
theorem LL{L:List Block}{k:Nat}{b:Block}(h:L[k]?=some b)(F:Block->Block):Ng L k F=L.set k (F b):=by
 unfold Ng;rw[h]
def Ok(b:Block):Block:=⟨b.params,b.ins,⟨1,0,0,[],b.term.to⟩⟩
def MJ(l:List bE)(b:Block):Block:=⟨b.params,b.ins++l,b.term⟩
def LN(l:List bE)(b:Block):Block:=⟨b.params,l++b.ins,b.term⟩
def P0(n:Nat)(b:Block):Block:=KI b (b.term.to.set n ⟨(b.term.to[n]?.getD ⟨0,[]⟩).block,[]⟩)
def Mc(one:Bool)(l:List bE)(k:Nat)(x:Edge)(L:List Block):List Block:=if one then Ng L k (MJ l)else Ng L x.block.toNat (LN l)
def Mr(g:Func)(sp:Int)(k:Nat)(b:Block)(n:Nat)(x:Edge)(L:List Block):List Block:=Ng (Mc (decide (b.term.to.length=1)) (KG g x sp) k x L) k (P0 n)
def Q8(g:Func)(sp:Int)(k:Nat)(b:Block):Nat->List Edge->List Block->List Block
 | _,[],L=>L
 | n,x::r,L=>Q8 g sp k b (n+1) r (Mr g sp k b n x L)
def Ol(k:Nat)(b:Block)(L:List Block):List Block:=if b.term.kind=3∧b.term.to.length=1 then Ng L k Ok else L
def Pf(g:Func)(sp:Int):Nat->List Block->List Block->List Block
 | _,[],L=>L
 | k,b::r,L=>Pf g sp (k+1) r (Q8 g sp k b 0 b.term.to (Ol k b L))
def Nh(b:Block):Block:=⟨[],b.ins,b.term⟩
def Lf(k:Nat):List Block->List Block
 | []=>[]
 | b::r=>(if k=0 then b else Nh b)::Lf (k+1) r
def LP(g:Func)(sp:Int):Func:=⟨g.name,Lf 0 (Pf g sp 0 g.blocks g.blocks)⟩
structure Rq(g:Func)(m:Nat)(L:List Block):Prop where
 len:L.length=g.blocks.length
 to:∀(j:Nat) (b c:Block),g.blocks[j]?=some b->L[j]?=some c->c.term.to.length=b.term.to.length
 few:∀c∈L,c.ins.length<=m
theorem Rq.set{g:Func}{m m':Nat}{L:List Block}(h:Rq g m L){k:Nat}{c c':Block}(hc:L[k]?=some c)(ht:c'.term.to.length=c.term.to.length)(hi:c'.ins.length<=m')(hm:m<=m'):Rq g m' (L.set k c') where
 len:=by rw[List.length_set,h.len]
 to:=fun j b d hb hd=>by
  rw[List.getElem?_set]at hd;split at hd
  ·rename_i e;subst e;rw[if_pos (I hc)]at hd;simp only[Option.some.injEq]at hd;subst hd;rw[ht];exact h.to k b c hb hc
  exact h.to j b d hb hd
 few:=fun d hd=>by
  rcases List.mem_or_eq_of_mem_set hd with q|q
  ·have:=h.few d q;omega
  rw[q];exact hi
theorem Rq.start(g:Func){m:Nat}(h:∀b∈g.blocks,b.ins.length<=m):Rq g m g.blocks:=⟨rfl,fun j b c h1 h2=>by
 rw[h1]at h2;rw[Option.some.inj h2],h⟩
@[irreducible] def Mz (k n:Nat):Nat:=1024+k*2500000+n*8192
theorem Se:Mz 0 0=1024:=by unfold Mz;omega
theorem Sd(k n:Nat):Mz k n+8192<=Mz k (n+1):=by unfold Mz;omega
theorem Sc{k n:Nat}(h:n<=257):Mz k n<=Mz (k+1) 0:=by unfold Mz;omega
theorem TW{k n:Nat}(h:k<=128)(hn:n<=257):Mz k n<=400000000:=by unfold Mz;omega
theorem Rq.mono{g:Func}{m m':Nat}{L:List Block}(h:Rq g m L)(hm:m<=m'):Rq g m' L:=⟨h.len,h.to,fun c hc=>by have:=h.few c hc;omega⟩
theorem Nv{u:bR}{m:Mach}(hm:bG u m)(ho:m.over=false)(hp:¬m.left<1):bG u (m.cR 1)∧(m.cR 1).over=false∧(m.cR 1).short=false∧(m.cR 1).left=m.left-1∧(m.cR 1).frames=m.frames:=by
 have h0:=hm.left;have hd:=hm.depth;have wu:m.cR 1 = { m with left:=m.left-1 }:=by simp[Mach.cR,hp]
 rw[wu];exact⟨⟨fun f hf=>(hm.frames f hf).of_heap (by rfl),fun a ha=>⟨(hm.gk a ha).1,fun v hv=>((hm.gk a ha).2 v hv).of_heap (by rfl)⟩,by simp only;omega,by simp only;omega,hm.out,hm.words,hm.fin,hm.val,hm.done,fun h=>hm.over h⟩,ho,(hm.over ho).2,rfl,rfl⟩
theorem Mu{m:Mach}(hp:m.left<1):m.cR 1 = { m with short:=true,over:=true }:=by simp[Mach.cR,hp]
theorem M3{u:bR}(hu:ep u):∀(k:Nat) (m:Mach),bG u m->m.left.toNat+2<=k->(Mach.run u k m).over=true∧(Mach.run u k m).left<=m.left∧(m.over=false->(Mach.run u k m).short=false->(Mach.run u k m).left<=m.left-1)∧((Mach.run u k m).short=false->bG u (Mach.run u k m))
 | 0,m,hm,hk=>by omega
 | k+1,m,hm,hk=>by
  cases lF:m.over with
  | true=>simp[Mach.run,lF,hm]
  | false =>
   have hl:=hm.left;have hd:=hm.depth;simp only[Mach.run,lF,Bool.false_eq_true,if_false];by_cases hp:m.left<1
   ·rw[Mu hp];simp
   obtain⟨q1,q2,q3,q4,q5⟩:=Nv hm lF hp;rw[if_neg (by simp[q3])];have nN:(m.cR 1).frames.length+(m.cR 1).left+1<=2 ^ 40:=by rw[q4,q5];omega
   have hs:=bG.step hu q1 q2 nN;have o5:=oP u (m.cR 1) q1 hu q2;have Aj:=hs.left;have ih:=M3 hu k _ hs (by omega);refine⟨ih.1,by have:=ih.2.1;omega,fun _ _=>by have:=ih.2.1;omega,ih.2.2.2⟩
namespace Mach
def shift(m:Mach)(c:Int):Mach:={ m with left:=m.left+c }
theorem PR(m:Mach)(c:Int)(f:Fr):(m.shift c).bf f=(m.bf f).shift c:=rfl
theorem QD(m:Mach)(c:Int)(f:Fr)(v:SV):(m.shift c).leave f v=(m.leave f v).shift c:=by
 unfold leave;show(match m.frames.tail with | []=>_|g::r=>_)=_;cases m.frames.tail<;>rfl
theorem PQ(u:bR)(m:Mach)(c:Int)(f:Fr)(t:Term):(m.shift c).finish u f t=(m.finish u f t).shift c:=by
 unfold finish;split
 ·rfl
 split
 ·rfl
 split
 ·exact QD ..
 split<;>rfl
theorem Ps(m:Mach)(c n:Int)(h:¬m.left<n)(h':¬m.left+c<n):(m.shift c).cR n=(m.cR n).shift c:=by
 have h1:m.cR n = { m with left:=m.left-n }:=by simp[cR,h]
 have h2:(m.shift c).cR n = { m.shift c with left:=(m.shift c).left-n }:=by simp[cR,shift,h']
 rw[h1,h2];simp only[shift];congr 1;omega
theorem Oz(m:Mach)(c:Int)(size fill:SV)(hs:(m.bt size fill).1.short=false)(hl:0<=(m.bt size fill).1.left+c):(m.shift c).bt size fill=((m.bt size fill).1.shift c,(m.bt size fill).2):=by
 unfold bt at hs hl ⊢;by_cases h1:size.kind≠0
 ·rw[if_pos h1,if_pos h1]
 rw[if_neg h1]at hs hl;rw[if_neg h1,if_neg h1];by_cases h2:size.n<0∨1024<size.n
 ·rw[if_pos h2,if_pos h2]
 rw[if_neg h2]at hs hl;rw[if_neg h2,if_neg h2];by_cases h3:(m.cR size.n).short=true
 ·rw[if_pos h3]at hs;simp only at hs;rw[hs]at h3;cases h3
 rw[if_neg h3]at hl;have h4:¬m.left<size.n:=fun q=>h3 (by simp[cR,q]);have h5:m.cR size.n = { m with left:=m.left-size.n }:=by simp[cR,h4]
 have h7:(m.cR size.n).left=m.left-size.n:=by rw[h5]
 simp only[h7]at hl;rw[Ps m c size.n h4 (by omega)];have h6:¬((m.cR size.n).shift c).short=true:=h3;rw[if_neg h6,if_neg h3];rfl
theorem PN(m:Mach)(c:Int)(i:bE)(args:List SV)(hs:(m.effect i args).1.short=false)(hl:0<=(m.effect i args).1.left+c):(m.shift c).effect i args=((m.effect i args).1.shift c,(m.effect i args).2):=by
 unfold effect at hs hl ⊢;by_cases sJ:i.op=15
 ·rw[if_pos sJ,if_pos sJ];show(if _ then _ else if m.out.length=1000 then _ else _)=_;split
  ·rfl
  split<;>rfl
 rw[if_neg sJ]at hs hl;rw[if_neg sJ,if_neg sJ];by_cases rX:i.op=16
 ·rw[if_pos rX]at hs hl;rw[if_pos rX,if_pos rX];exact Oz m c _ _ hs hl
 rw[if_neg rX,if_neg rX];by_cases tH:i.op=18
 ·rw[if_pos tH,if_pos tH];split
  ·rfl
  split<;>rfl
 have hh:(m.shift c).heap=m.heap:=rfl;rw[if_neg tH,if_neg tH,hh];by_cases k1:(ca args 0).kind≠3∨(i.op≠17∧(ca args 1).kind≠0)
 ·rw[if_pos k1,if_pos k1]
 rw[if_neg k1,if_neg k1];by_cases k2:i.op=17
 ·rw[if_pos k2,if_pos k2]
 rw[if_neg k2,if_neg k2];by_cases k3:(ca args 1).n<0∨((gR m.heap (ca args 0).arr).length:Int)<=(ca args 1).n
 ·rw[if_pos k3,if_pos k3]
 rw[if_neg k3,if_neg k3];by_cases k4:i.op=19
 ·rw[if_pos k4,if_pos k4]
 rw[if_neg k4,if_neg k4];rfl
theorem OA(m:Mach)(c:Int)(i:bE)(args:List SV)(hs:(m.exec i args).1.short=false)(hl:0<=(m.exec i args).1.left+c):(m.shift c).exec i args=((m.exec i args).1.shift c,(m.exec i args).2):=by
 unfold exec at hs hl ⊢;by_cases h0:i.op=0
 ·rw[if_pos h0,if_pos h0]
 rw[if_neg h0]at hs hl;rw[if_neg h0,if_neg h0];by_cases h1:1<=i.op∧i.op<=7
 ·rw[if_pos h1,if_pos h1];split<;>rfl
 rw[if_neg h1]at hs hl;rw[if_neg h1,if_neg h1];by_cases h8:i.op=8
 ·rw[if_pos h8,if_pos h8]
 rw[if_neg h8]at hs hl;rw[if_neg h8,if_neg h8];by_cases h9:i.op=9
 ·rw[if_pos h9,if_pos h9]
 rw[if_neg h9]at hs hl;rw[if_neg h9,if_neg h9];by_cases rW:i.op=10∨i.op=11∨i.op=12∨i.op=21
 ·rw[if_pos rW,if_pos rW]
 rw[if_neg rW]at hs hl;rw[if_neg rW,if_neg rW];by_cases v7:i.op=22∨i.op=23∨i.op=24
 ·rw[if_pos v7,if_pos v7]
 rw[if_neg v7]at hs hl;rw[if_neg v7,if_neg v7];by_cases gB:i.op=100
 ·rw[if_pos gB,if_pos gB]
 rw[if_neg gB]at hs hl;rw[if_neg gB,if_neg gB];exact PN m c i args hs hl
theorem Ma(f:Fr)(to:Int)(r:Mach×SV×Int):(settle f to r).short=r.1.short∧(settle f to r).left=r.1.left:=by
 unfold settle;split<;>exact⟨rfl,rfl⟩
theorem PS(f:Fr)(to:Int)(r:Mach×SV×Int)(c:Int):settle f to (r.1.shift c,r.2)=(settle f to r).shift c:=by
 unfold settle;simp only;split<;>rfl
theorem Rg(u:bR)(m:Mach)(c:Int)(hs:(m.step u).short=false)(hl:0<=(m.step u).left+c):(m.shift c).step u=(m.step u).shift c:=by
 unfold step at hs hl ⊢;show(match m.frames with | []=>m.shift c|f::_=>_)=_;cases hf:m.frames with
 | nil=>rfl
 | cons f r =>
  rw[hf]at hs hl;simp only at hs hl ⊢;cases hi:(aD (aL u f.fn) f.blk).ins[f.pos]? with
  | none =>
   simp only;exact PQ u m c f _
  | some i =>
   rw[hi]at hs hl;simp only at hs hl ⊢;rw[PR];generalize m.bf { f with pos:=f.pos+1 }=m' at *;unfold act at hs hl ⊢;by_cases nj:i.op=13
   ·simp only[nj,if_true];rfl
   by_cases oE:i.op=14
   ·rw[if_neg nj,if_pos oE]at hs hl ⊢;rw[if_neg nj,if_pos oE];split<;>rfl
   rw[if_neg nj,if_neg oE]at hs hl ⊢;rw[if_neg nj,if_neg oE];have q:=Ma { f with pos:=f.pos+1 } i.to (m'.exec i (bN f.vals i.args));rw[q.1]at hs;rw[q.2]at hl;rw[OA m' c i _ hs hl,PS]
end Mach
theorem K5{u:bR}{m:Mach}(h:m.over=true)(k:Nat):Mach.run u k m=m:=by
 cases k with
 | zero=>rfl
 | succ k=>simp[Mach.run,h]
theorem Pq{u:bR}(hu:ep u)(c:Int):∀(k:Nat) (m:Mach),bG u m->m.left.toNat+2<=k->(Mach.run u k m).short=false->0<=(Mach.run u k m).left+c->∀j,k<=j∨(m.left+c).toNat+2<=j->Mach.run u j (m.shift c)=(Mach.run u k m).shift c
 | 0,m,hm,hk,_,_,j,hj=>by omega
 | k+1,m,hm,hk,hs,hl,j,hj=>by
  cases lF:m.over with
  | true =>
   have h1:(m.shift c).over=true:=lF;rw[K5 lF,K5 h1]
  | false =>
   have EN:=hm.left;have hd:=hm.depth;have bz:Mach.run u (k+1) m=if(m.cR 1).short then m.cR 1 else Mach.run u k (Mach.step u (m.cR 1)):=by simp[Mach.run,lF]
   rw[bz]at hs hl ⊢;by_cases hp:m.left<1
   ·rw[Mu hp]at hs;simp at hs
   obtain⟨q1,q2,q3,q4,q5⟩:=Nv hm lF hp;rw[if_neg (by simp[q3])]at hs hl ⊢;have nN:(m.cR 1).frames.length+(m.cR 1).left+1<=2 ^ 40:=by rw[q4,q5];omega
   have dD:=bG.step hu q1 q2 nN;have o5:=oP u (m.cR 1) q1 hu q2;have Aj:=dD.left;have hr:=M3 hu k _ dD (by omega);obtain⟨j,rfl⟩:∃j',j=j'+1:=⟨j-1,by omega⟩
   have NL:(Mach.step u (m.cR 1)).short=false:=by
    cases hx:(Mach.step u (m.cR 1)).short with
    | false=>rfl
    | true =>
     have ho:(Mach.step u (m.cR 1)).over=true:=by
      cases hy:(Mach.step u (m.cR 1)).over with
      | true=>rfl
      | false=>rw[(dD.over hy).2]at hx;cases hx
     rw[K5 ho,hx]at hs;cases hs
   have h1:Mach.run u (j+1) (m.shift c)=if((m.shift c).cR 1).short then(m.shift c).cR 1 else Mach.run u j (Mach.step u ((m.shift c).cR 1)):=by
    have:(m.shift c).over=false:=lF;simp[Mach.run,this]
   have hle:=hr.2.1;rw[h1,Mach.Ps m c 1 hp (by omega)];have h2:¬((m.cR 1).shift c).short=true:=by
    show ¬(m.cR 1).short=true;rw[q3];simp
   rw[if_neg h2,Mach.Rg u (m.cR 1) c NL (by omega)];exact Pq hu c k _ dD (by omega) hs hl j (by omega)
end Go.Proofs.Ytkhnjeblbiocaaa
namespace Go.Proofs.Ytkhnjeblbiocaaa
open Go.Av
def Tz(s:Int->Int)(i:bE):bE:=⟨s i.to,i.op,i.n,i.args.map s⟩
theorem LA(es:List (Int×SV))(k j:Int)(v:SV):cZ (cK es k v) j=if k=j then v else cZ es j:=by
 unfold cZ;induction es with
 | nil =>
  simp only[cK,gq];split<;>rfl
 | cons p r ih =>
  obtain⟨a,x⟩:=p;simp only[cK];by_cases h:a=k
  ·rw[if_pos h];subst h;simp only[gq];split<;>rfl
  rw[if_neg h];simp only[gq];by_cases h2:a=j
  ·rw[if_pos h2,if_pos h2,if_neg (fun q=>h (by rw[h2,q]))]
  rw[if_neg h2,if_neg h2];exact ih
def VR(D:Int->Prop)(s:Int->Int)(es jl:List (Int×SV)):Prop:=∀k,D k->cZ jl (s k)=cZ es k
section
variable {D:Int->Prop} {s:Int->Int}
theorem VR.put(hi:∀j k,D j->D k->s j=s k->j=k){es jl:List (Int×SV)}(h:VR D s es jl){k:Int}(hk:D k)(v:SV):VR D s (cK es k v) (cK jl (s k) v):=fun j hj=>by
 rw[LA,LA];by_cases e:k=j
 ·rw[if_pos e,if_pos (by rw[e])]
 rw[if_neg e,if_neg (fun q=>e (hi k j hk hj q)),h j hj]
theorem VR.bind(hi:∀j k,D j->D k->s j=s k->j=k):∀(ps:List Int) (l:List SV) {es jl:List (Int×SV)},(∀p∈ps,D p)->VR D s es jl->VR D s (cH es ps l) (cH jl (ps.map s) l)
 | [],l,es,jl,_,h=>by simpa[cH]using h
 | p::ps,[],es,jl,_,h=>by simpa[cH]using h
 | p::ps,a::l,es,jl,hp,h=>by
  simp only[cH,List.map_cons];exact VR.bind hi ps l (fun q hq=>hp q (List.mem_cons_of_mem _ hq)) (h.put hi (hp p List.mem_cons_self) a)
theorem VR.take{es jl:List (Int×SV)}(h:VR D s es jl){l:List Int}(hl:∀a∈l,D a):bN jl (l.map s)=bN es l:=by
 unfold bN;rw[List.map_map];exact List.map_congr_left fun a ha=>h a (hl a ha)
theorem VR.other{es jl:List (Int×SV)}(h:VR D s es jl){j:Int}(hj:∀k,D k->s k≠j)(v:SV):VR D s es (cK jl j v):=fun k hk=>by
 rw[LA,if_neg fun q=>hj k hk q.symm,h k hk]
end
structure SH(v:bR)(s:Int->Int)(D L:Int->Prop)(β:Int->Int)(pre:Int->List bE)(c:Int)(fn:Int)(e e':Edge):Prop where
 live:L e.block
 args:∀a∈e.args,D a
 XH:(e'.block=β e.block∧e'.args=e.args.map s∧1+((pre e.block).length:Int)<=c) ∨
  ∃(C:Block) (e2:Edge),C=aD (aL v fn) e'.block∧C.ins=[]∧C.term.kind=1∧C.term.to=[e2]∧e2.block=β e.block∧2+((pre e.block).length:Int)<=c ∧
   ∀es,bN (cH es C.params (bN es e'.args)) e2.args=bN es (e.args.map s)∧∀k,D k->cZ (cH es C.params (bN es e'.args)) (s k)=cZ es (s k)
structure Vw(v:bR)(s:Int->Int)(D L:Int->Prop)(β:Int->Int)(pre:Int->List bE)(c:Int)(fn:Int)(b:Int)(B B':Block):Prop where
 params:B'.params=B.params.map s∧∀p∈B.params,D p
 ins:B'.ins=pre b++B.ins.map (Tz s)
 vals:∀i∈B.ins,D i.to∧∀a∈i.args,D a
 hd:∀i∈pre b,i.op=0∧∀k,D k->s k≠i.to
 term:B'.term.kind=B.term.kind∧B'.term.n=B.term.n∧B'.term.cases=B.term.cases∧B'.term.to.length=B.term.to.length
 arg:B.term.kind≠1->B.term.kind≠4->B'.term.arg=s B.term.arg∧D B.term.arg
 db:∀(k:Nat) e e',B.term.to[k]?=some e->B'.term.to[k]?=some e'->SH v s D L β pre c fn e e'
structure NA(u v:bR)(s:Int->Int)(D L:Int->Int->Prop)(β:Int->Int->Int)(pre:Int->Int->List bE)(c:Int):Prop where
 fns:v.fns.length=u.fns.length
 main:v.main=u.main
 inj:∀fn j k:Int,D fn j->D fn k->s j=s k->j=k
 zero:∀fn:Int,0<=fn->fn<u.fns.length->L fn 0∧β fn 0=0∧1+((pre fn 0).length:Int)<=c
 Py:∀fn b:Int,0<=fn->fn<u.fns.length->L fn b->Vw v s (D fn) (L fn) (β fn) (pre fn) c fn b (aD (aL u fn) b) (aD (aL v fn) (β fn b))
namespace Mach
def put(m:Mach)(fs:List Fr)(l:Int):Mach:={ m with frames:=fs,left:=l }
theorem NU(m:Mach)(fs:List Fr)(size fill:SV):({ m with frames:=fs }:Mach).bt size fill=({ (m.bt size fill).1 with frames:=fs },(m.bt size fill).2):=by
 unfold bt;by_cases h1:size.kind≠0
 ·rw[if_pos h1,if_pos h1]
 rw[if_neg h1,if_neg h1];by_cases h2:size.n<0∨1024<size.n
 ·rw[if_pos h2,if_pos h2]
 rw[if_neg h2,if_neg h2];have e:({ m with frames:=fs }:Mach).cR size.n = { m.cR size.n with frames:=fs }:=by
  unfold cR;by_cases h3:m.left<size.n
  ·rw[if_pos h3,if_pos h3]
  rw[if_neg h3,if_neg h3]
 rw[e];by_cases h4:(m.cR size.n).short=true
 ·rw[if_pos h4,if_pos h4]
 rw[if_neg h4,if_neg h4]
theorem OK(m:Mach)(fs:List Fr)(i:bE)(args:List SV):({ m with frames:=fs }:Mach).effect i args=({ (m.effect i args).1 with frames:=fs },(m.effect i args).2):=by
 unfold effect;by_cases sJ:i.op=15
 ·rw[if_pos sJ,if_pos sJ];show(if _ then _ else if m.out.length=1000 then _ else _)=_;split
  ·rfl
  split<;>rfl
 rw[if_neg sJ,if_neg sJ];by_cases rX:i.op=16
 ·rw[if_pos rX,if_pos rX];exact NU m fs _ _
 rw[if_neg rX,if_neg rX];by_cases tH:i.op=18
 ·rw[if_pos tH,if_pos tH];split
  ·rfl
  split<;>rfl
 rw[if_neg tH,if_neg tH];by_cases k1:(ca args 0).kind≠3∨(i.op≠17∧(ca args 1).kind≠0)
 ·rw[if_pos k1,if_pos k1]
 rw[if_neg k1,if_neg k1];by_cases k2:i.op=17
 ·rw[if_pos k2,if_pos k2]
 rw[if_neg k2,if_neg k2];show(if(ca args 1).n<0∨((gR m.heap (ca args 0).arr).length:Int)<=(ca args 1).n then _ else _)=_;by_cases k3:(ca args 1).n<0∨((gR m.heap (ca args 0).arr).length:Int)<=(ca args 1).n
 ·rw[if_pos k3,if_pos k3]
 rw[if_neg k3,if_neg k3];by_cases k4:i.op=19
 ·rw[if_pos k4,if_pos k4]
 rw[if_neg k4,if_neg k4]
theorem Qf(m:Mach)(fs:List Fr)(i:bE)(args:List SV):({ m with frames:=fs }:Mach).exec i args=({ (m.exec i args).1 with frames:=fs },(m.exec i args).2):=by
 unfold exec;by_cases h0:i.op=0
 ·rw[if_pos h0,if_pos h0]
 rw[if_neg h0,if_neg h0];by_cases h1:1<=i.op∧i.op<=7
 ·rw[if_pos h1,if_pos h1];split<;>rfl
 rw[if_neg h1,if_neg h1];by_cases h8:i.op=8
 ·rw[if_pos h8,if_pos h8]
 rw[if_neg h8,if_neg h8];by_cases h9:i.op=9
 ·rw[if_pos h9,if_pos h9]
 rw[if_neg h9,if_neg h9];by_cases rW:i.op=10∨i.op=11∨i.op=12∨i.op=21
 ·rw[if_pos rW,if_pos rW]
 rw[if_neg rW,if_neg rW];by_cases v7:i.op=22∨i.op=23∨i.op=24
 ·rw[if_pos v7,if_pos v7]
 rw[if_neg v7,if_neg v7];by_cases gB:i.op=100
 ·rw[if_pos gB,if_pos gB]
 rw[if_neg gB,if_neg gB];exact OK m fs i args
theorem Qz(m:Mach)(fs:List Fr)(l:Int)(i:bE)(args:List SV)(hs:(m.exec i args).1.short=false)(h0:0<=(m.exec i args).1.left)(hl:m.left<=l) :
  (m.put fs l).exec i args=((m.exec i args).1.put fs (l-(m.left-(m.exec i args).1.left)),(m.exec i args).2):=by
 have e:m.put fs l = { m.shift (l-m.left)with frames:=fs }:=by
  unfold put shift;simp only[Mach.mk.injEq,true_and,and_true];omega
 rw[e,Qf,OA m _ i args hs (by omega)];unfold put shift;simp only[Prod.mk.injEq,Mach.mk.injEq,true_and,and_true];omega
inductive Steps(u:bR):Nat->Mach->Mach->Prop
 | refl (m:Mach):Steps u 0 m m
 | cons {n:Nat} {m m':Mach}:m.over=false->m.short=false->1<=m.left->Steps u n (step u { m with left:=m.left-1 }) m'->Steps u (n+1) m m'
theorem Mt{m:Mach}(h:1<=m.left):m.cR 1 = { m with left:=m.left-1 }:=by
 unfold cR;rw[if_neg (by omega)]
theorem Steps.trans{u:bR}{a b:Nat}{m m' lg:Mach}(h:Steps u a m m')(k:Steps u b m' lg):Steps u (a+b) m lg:=by
 induction h with
 | refl m=>rw[Nat.zero_add];exact k
 | cons h1 h2 h3 _ ih =>
  rw[Nat.add_right_comm];exact .cons h1 h2 h3 (ih k)
theorem Steps.run{u:bR}{n:Nat}{m m':Mach}(h:Steps u n m m')(k:Nat):Mach.run u (n+k) m=Mach.run u k m':=by
 induction h with
 | refl m=>rw[Nat.zero_add]
 | cons h1 h2 h3 _ ih =>
  rw[Nat.add_right_comm];simp only[Mach.run];rw[if_neg (by rw[h1];simp),Mt h3,if_neg (by simp only;rw[h2];simp)];exact ih
theorem Steps.before{u:bR}{n:Nat}{m m':Mach}(h:Steps u n m m'):∀k,k<n->(Mach.run u k m).over=false:=by
 induction h with
 | refl m=>intro k hk;omega
 | cons h1 h2 h3 _ ih =>
  intro k hk;cases k with
  | zero=>exact h1
  | succ k =>
   simp only[Mach.run];rw[if_neg (by rw[h1];simp),Mt h3,if_neg (by simp only;rw[h2];simp)];exact ih k (by omega)
end Mach
section
variable (u v:bR) (s:Int->Int) (D L:Int->Int->Prop) (β:Int->Int->Int) (pre:Int->Int->List bE)
structure FR(f f':Fr):Prop where
 ids:f'.bP=f.bP∧f'.di=f.di∧f'.fn=f.fn
 fn:0<=f.fn∧f.fn<u.fns.length
 live:L f.fn f.blk
 blk:f'.blk=β f.fn f.blk
 pos:f'.pos=(pre f.fn f.blk).length+f.pos
 vals:VR (D f.fn) s f.vals f'.vals
def Vf(f f':Fr):List Fr->Prop
 | []=>True
 | g::_=>f'.to=s f.to∧D g.fn f.to
def RR:List Fr->List Fr->Prop
 | [],[]=>True
 | f::r,f'::r'=>FR u s D L β pre f f'∧Vf s D f f' r∧RR r r'
 | _,_=>False
def Rel(c d:Int)(m m':Mach):Prop:=∃fs l,m'=m.put fs l∧RR u s D L β pre m.frames fs∧c*m.left<=l∧l<=m.left+d
end
section
variable {u v:bR} {s:Int->Int} {D L:Int->Int->Prop} {β:Int->Int->Int} {pre:Int->Int->List bE} {c d:Int}
theorem RR.cons{f:Fr}{r:List Fr}{fs:List Fr}(h:RR u s D L β pre (f::r) fs):∃f' r',fs=f'::r'∧FR u s D L β pre f f'∧Vf s D f f' r∧RR u s D L β pre r r':=by
 cases fs with
 | nil=>exact False.elim h
 | cons f' r'=>exact⟨f',r',rfl,h.1,h.2.1,h.2.2⟩
theorem ahead{fn b:Int}{B':Block}{rest:List bE}(hb:aD (aL v fn) (β fn b)=B')(hi:B'.ins=pre fn b++rest)(hp:∀i∈pre fn b,i.op=0∧∀k,D fn k->s k≠i.to){m:Mach}(ho:m.over=false)(hs:m.short=false){f':Fr}{r':List Fr}(h1:f'.fn=fn)(h2:f'.blk=β fn b){es:List (Int×SV)} :
  ∀(n:Nat) (k:Nat) (KP:List (Int×SV)) (l:Int),k+n=(pre fn b).length->(n:Int)<=l->VR (D fn) s es KP ->
   ∃OF,VR (D fn) s es OF∧Mach.Steps v n (m.put ({ f' with pos:=k,vals:=KP }::r') l) (m.put ({ f' with pos:=(pre fn b).length,vals:=OF }::r') (l-n))
 | 0,k,KP,l,hk,hl,hv=>⟨KP,hv,by
   have:l-((0:Nat):Int)=l:=by omega
   rw[this,show k=(pre fn b).length by omega];exact .refl _⟩
 | n+1,k,KP,l,hk,hl,hv=>by
  obtain⟨i,EJ⟩:∃i,(pre fn b)[k]?=some i:=⟨(pre fn b)[k]'(by omega),List.getElem?_eq_getElem _⟩
  obtain⟨q1,q2⟩:=hp i (List.mem_of_getElem? EJ);obtain⟨OF,e1,e2⟩:=ahead hb hi hp ho hs (f':=f') (r':=r') h1 h2 n (k+1) (cK KP i.to (.word i.n)) (l-1) (by omega) (by omega) (hv.other q2 _);refine⟨OF,e1,.cons ho hs (by show 1<=l;omega) ?_⟩;have dD:Mach.step v { m.put ({ f' with pos:=k,vals:=KP }::r') l with left:=l-1 }=m.put ({ f' with pos:=k+1,vals:=cK KP i.to (.word i.n) }::r') (l-1):=by
   unfold Mach.step Mach.put;simp only;rw[h1,h2,hb,hi,List.getElem?_append_left (I EJ),EJ];simp only;unfold Mach.act;rw[if_neg (by omega),if_neg (by omega)];unfold Mach.exec;rw[if_pos q1];rfl
  rw[show l-((n+1:Nat):Int)=l-1-n by omega];show Mach.Steps v n (Mach.step v { m.put ({ f' with pos:=k,vals:=KP }::r') l with left:=l-1 }) _;rw[dD];exact e2
theorem Qu{c x l a:Int}(hc:1<=c)(h:c*x<=l)(ha:0<=a):c*(x-a)<=l-a:=by
 have h1:c*(x-a)=c*x-c*a:=Int.mul_sub ..;have h2:1*a<=c*a:=Int.mul_le_mul_of_nonneg_right hc ha;omega
def PZ(u v:bR)(s:Int->Int)(D L:Int->Int->Prop)(β:Int->Int->Int)(pre:Int->Int->List bE)(c d:Int)(m m':Mach):Prop:=∃n lg,Mach.Steps v n m' lg∧Rel u s D L β pre c d m lg
theorem PZ.now{m m':Mach}(h:Rel u s D L β pre c d m m'):PZ u v s D L β pre c d m m':=⟨0,m',.refl _,h⟩
theorem Px(T:NA u v s D L β pre c){m:Mach}(ho:m.over=false)(hs:m.short=false){f f':Fr}{r r':List Fr}{l:Int}(hm:m.frames=f::r)
  (h1:f'.bP=f.bP∧f'.di=f.di∧f'.fn=f.fn) (h2:0<=f.fn∧f.fn<u.fns.length) (h3:L f.fn f.blk) (h4:f'.blk=β f.fn f.blk) (h5:f.pos=0) (h6:f'.pos=0) (hv:VR (D f.fn) s f.vals f'.vals)
  (ht:Vf s D f f' r) (hr:RR u s D L β pre r r') (l0:0<=m.left) (l1:c*m.left+(pre f.fn f.blk).length<=l) (l2:l-(pre f.fn f.blk).length<=m.left+d) (hc:1<=c):PZ u v s D L β pre c d m (m.put (f'::r') l):=by
 have hB:=T.Py f.fn f.blk h2.1 h2.2 h3;have eJ:0<=c*m.left:=Int.mul_nonneg (by omega) l0;obtain⟨OF,e1,e2⟩:=ahead (s:=s) (D:=D) (pre:=pre) (β:=β) (v:=v) rfl hB.ins hB.hd ho hs (f':=f') (r':=r') h1.2.2 h4 (es:=f.vals) (pre f.fn f.blk).length 0 f'.vals l (by omega) (by omega) hv;have e:({ f' with pos:=0,vals:=f'.vals }:Fr)=f':=by
  rw[<-h6]
 rw[e]at e2;refine⟨_,_,e2,_,_,rfl,?_,by omega,by omega⟩;rw[hm];exact⟨⟨h1,h2,h3,h4,by rw[h5];rfl,e1⟩,by cases r<;>exact ht,hr⟩
theorem Oe(T:NA u v s D L β pre c)(hc:1<=c){m:Mach}(ho:m.over=false)(hs:m.short=false){f f':Fr}{r r':List Fr}{y:Int}(hm:m.frames=f::r)(hF:FR u s D L β pre f f')(hT:Vf s D f f' r)(hR:RR u s D L β pre r r')
  (l0:0<=m.left) (l1:c*m.left+(c-1)<=y) (l2:y<=m.left+d) {e e':Edge} (he:SH v s (D f.fn) (L f.fn) (β f.fn) (pre f.fn) c f.fn e e'):PZ u v s D L β pre c d (m.follow u f e) ((m.put (f'::r') y).follow v f' e'):=by
 obtain⟨Ye,Y7,Zb,TF,pos',PX,KP⟩:=f';obtain⟨⟨h1,h2,h3⟩,g2,g3,g4,g5,g6⟩:=hF;simp only at h1 h2 h3 g4 g5 g6;subst h1 h2 h3;have hB:=T.Py f.fn e.block g2.1 g2.2 he.live;have ht:bN KP (e.args.map s)=bN f.vals e.args:=g6.take he.args;have dh:(m.follow u f e).frames = { f with blk:=e.block,pos:=0,vals:=cH f.vals (aD (aL u f.fn) e.block).params (bN f.vals e.args) }::r:=by
  show _::m.frames.tail=_;rw[hm];rfl
 rcases he.XH with⟨w1,w2,w3⟩|⟨C,e2,w1,w2,w3,w4,w5,w6,w7⟩
 ·have e0:(m.put (⟨f.bP,f.di,f.fn,TF,pos',PX,KP⟩::r') y).follow v ⟨f.bP,f.di,f.fn,TF,pos',PX,KP⟩ e'=(m.follow u f e).put (⟨f.bP,f.di,f.fn,β f.fn e.block,0,PX,cH KP ((aD (aL u f.fn) e.block).params.map s) (bN f.vals e.args)⟩::r') y:=by
   unfold Mach.follow;simp only;rw[w1,w2,hB.params.1,ht];rfl
  rw[e0];exact Px T (m:=m.follow u f e) ho hs dh ⟨rfl,rfl,rfl⟩ g2 he.live rfl rfl rfl (VR.bind (T.inj f.fn) _ _ hB.params.2 g6) hT hR l0 (by
   show c*m.left+(pre f.fn e.block).length<=y;omega) (by
   show y-(pre f.fn e.block).length<=m.left+d;omega) hc
 obtain⟨x1,x2⟩:=w7 KP;have eJ:0<=c*m.left:=Int.mul_nonneg (by omega) l0;have sT:VR (D f.fn) s f.vals (cH KP C.params (bN KP e'.args)):=fun k hk=>by rw[x2 k hk,g6 k hk]
 generalize yW:cH KP C.params (bN KP e'.args)=VB at *;have e0:(m.put (⟨f.bP,f.di,f.fn,TF,pos',PX,KP⟩::r') y).follow v ⟨f.bP,f.di,f.fn,TF,pos',PX,KP⟩ e'=m.put (⟨f.bP,f.di,f.fn,e'.block,0,PX,VB⟩::r') y:=by
  unfold Mach.follow;simp only;rw[<-w1,yW];rfl
 have e1:Mach.step v { m.put (⟨f.bP,f.di,f.fn,e'.block,0,PX,VB⟩::r') y with left:=y-1 }=(m.follow u f e).put (⟨f.bP,f.di,f.fn,β f.fn e.block,0,PX,cH VB ((aD (aL u f.fn) e.block).params.map s) (bN f.vals e.args)⟩::r') (y-1):=by
  unfold Mach.step Mach.put;simp only;rw[<-w1,w2];simp only[List.getElem?_nil];unfold Mach.finish;rw[w3,if_neg (by decide),if_pos rfl,w4];simp only[List.getElem?_cons_zero,Option.getD_some];unfold Mach.follow;simp only;rw[x1,ht,w5,hB.params.1];rfl
 rw[e0];obtain⟨n,lg,s1,s2⟩:=Px T (m:=m.follow u f e) (l:=y-1) ho hs dh (f':=⟨f.bP,f.di,f.fn,β f.fn e.block,0,PX,cH VB ((aD (aL u f.fn) e.block).params.map s) (bN f.vals e.args)⟩) ⟨rfl,rfl,rfl⟩ g2 he.live rfl rfl rfl (VR.bind (T.inj f.fn) _ _ hB.params.2 sT) hT hR l0 (by
  show c*m.left+(pre f.fn e.block).length<=y-1;omega) (by
  show y-1-(pre f.fn e.block).length<=m.left+d;omega) hc
 refine⟨n+1,lg,.cons ho hs (by show 1<=y;omega) ?_,s2⟩;show Mach.Steps v n (Mach.step v { m.put (⟨f.bP,f.di,f.fn,e'.block,0,PX,VB⟩::r') y with left:=y-1 }) lg;rw[e1];exact s1
theorem Sb(T:NA u v s D L β pre c){m:Mach}{f f':Fr}{r r':List Fr}{y:Int}(hm:m.frames=f::r)(hT:Vf s D f f' r)(hR:RR u s D L β pre r r')(l1:c*m.left<=y)(l2:y<=m.left+d)(x:SV) :
  PZ u v s D L β pre c d (m.leave f x) ((m.put (f'::r') y).leave f' x):=by
 refine .now ?_;unfold Mach.leave;rw[hm];simp only[List.tail_cons,Mach.put];cases r with
 | nil =>
  cases r' with
  | nil=>exact⟨[],y,rfl,trivial,l1,l2⟩
  | cons g' r'=>exact False.elim hR
 | cons g r =>
  obtain⟨g',r2,rfl,hG,SD,Vi⟩:=hR.cons;obtain⟨t1,t2⟩:=hT;simp only;refine⟨{ g' with vals:=cK g'.vals f'.to x }::r2,y,rfl,⟨⟨hG.ids,hG.fn,hG.live,hG.blk,hG.pos,?_⟩,by cases r<;>exact SD,Vi⟩,l1,l2⟩;show VR (D g.fn) s (cK g.vals f.to x) (cK g'.vals f'.to x);rw[t1];exact hG.vals.put (T.inj g.fn) t2 x
theorem O8(T:NA u v s D L β pre c)(hc:1<=c){m:Mach}(ho:m.over=false)(hs:m.short=false){TM:List Fr}{y:Int}{g:Fr}{r:List Fr}(hm:m.frames=g::r)(hR:RR u s D L β pre m.frames TM)(l0:0<=m.left)(l1:c*m.left+(c-1)<=y)(l2:y<=m.left+d)
  {fn:Int} (jr:0<=fn∧fn<u.fns.length) (args:List SV) {to PX:Int} (ht:PX=s to∧D g.fn to):PZ u v s D L β pre c d (m.enter u fn args to) ((m.put TM y).enter v fn args PX):=by
 obtain⟨z1,z2,z3⟩:=T.zero fn jr.1 jr.2;have hB:=T.Py fn 0 jr.1 jr.2 z1;rw[z2]at hB;have e0:(m.put TM y).enter v fn args PX=(m.enter u fn args to).put (⟨m.next+1,m.next,fn,0,0,PX,cH [] ((aD (aL u fn) 0).params.map s) args⟩::TM) y:=by
  unfold Mach.enter;rw[hB.params.1];rfl
 rw[e0];refine Px T (m:=m.enter u fn args to) ho hs (f:=⟨m.next+1,m.next,fn,0,0,to,cH [] (aD (aL u fn) 0).params args⟩) (r:=m.frames) rfl ⟨rfl,rfl,rfl⟩ jr z1 z2.symm rfl rfl (VR.bind (T.inj fn) _ _ hB.params.2 (fun _ _=>rfl)) ?_ hR l0 (by
  show c*m.left+(pre fn 0).length<=y;omega) (by
  show y-(pre fn 0).length<=m.left+d;omega) hc
 rw[hm];exact ht
theorem Oy(E:Mach)(E2:SV×Int)(f f':Fr)(fs:List Fr)(to PX y:Int):Mach.settle f' PX (E.put fs y,E2)=(Mach.settle f to (E,E2)).put ({ f' with vals:=cK f'.vals PX E2.1 }::fs.tail) y:=by
 unfold Mach.settle;simp only;split<;>rfl
theorem MH(E:Mach)(E2:SV×Int)(f:Fr)(to:Int):(Mach.settle f to (E,E2)).frames = { f with vals:=cK f.vals to E2.1 }::E.frames.tail∧(Mach.settle f to (E,E2)).left=E.left:=by
 unfold Mach.settle;simp only;split<;>exact⟨rfl,rfl⟩
theorem Tt(T:NA u v s D L β pre c)(hu:ep u)(hc:1<=c){m m':Mach}(hm:bG u m)(ho:m.over=false)(h1:1<=m.left)(hs:(Mach.step u { m with left:=m.left-1 }).short=false)(hr:Rel u s D L β pre c d m m') :
  ∃n lg,Mach.Steps v (n+1) m' lg∧Rel u s D L β pre c d (Mach.step u { m with left:=m.left-1 }) lg:=by
 obtain⟨fs,l,rfl,Cj,l1,l2⟩:=hr;obtain⟨cj,iy⟩:=hm.over ho;have eJ:1*m.left<=c*m.left:=Int.mul_le_mul_of_nonneg_right hc (by omega);have eZ:c*(m.left-1)=c*m.left-c:=by rw[Int.mul_sub,Int.mul_one]
 suffices h:PZ u v s D L β pre c d (Mach.step u { m with left:=m.left-1 }) (Mach.step v (({ m with left:=m.left-1 }:Mach).put fs (l-1))) by
  obtain⟨n,lg,q1,q2⟩:=h;exact⟨n,lg,.cons ho iy (by show 1<=l;omega) q1,q2⟩
 have lL:bG u { m with left:=m.left-1 }:=by
  have:=(Nv hm ho (by omega)).1
  rwa [Mach.Mt h1]at this
 have e1:({ m with left:=m.left-1 }:Mach).left=m.left-1:=rfl;have k1:c*({ m with left:=m.left-1 }:Mach).left+(c-1)<=l-1:=by rw[e1];omega
 have k2:l-1<=({ m with left:=m.left-1 }:Mach).left+d:=by rw[e1];omega
 have k0:0<=({ m with left:=m.left-1 }:Mach).left:=by rw[e1];omega
 have kO:({ m with left:=m.left-1 }:Mach).over=false:=ho;have yi:({ m with left:=m.left-1 }:Mach).short=false:=iy;have VT:RR u s D L β pre ({ m with left:=m.left-1 }:Mach).frames fs:=Cj;have wx:({ m with left:=m.left-1 }:Mach).frames≠[]:=cj;generalize ({ m with left:=m.left-1 }:Mach)=M at *;generalize l-1=y at *;clear hm eJ eZ l1 l2 Cj cj e1 iy h1 ho;cases dh:M.frames with
 | nil=>exact absurd dh wx
 | cons f r =>
  rw[dh]at VT;obtain⟨f',r',rfl,hF,hT,hR⟩:=VT.cons;have Nq:=lL.frames f (by rw[dh];simp);have hb:=hu.blocks _ (fN Nq.fn.1 Nq.fn.2) _ (fh Nq.blk.1 Nq.blk.2);have hB:=T.Py f.fn f.blk hF.fn.1 hF.fn.2 hF.live;have fS:(aD (aL v f'.fn) f'.blk).ins[f'.pos]?=((aD (aL u f.fn) f.blk).ins[f.pos]?).map (Tz s):=by
   rw[hF.ids.2.2,hF.blk,hB.ins,hF.pos,List.getElem?_append_right (by omega),Nat.add_sub_cancel_left,List.getElem?_map]
  have fX:(M.put (f'::r') y).frames=f'::r':=rfl;have k3:c*M.left<=y:=by omega
  unfold Mach.step at hs ⊢;rw[dh]at hs ⊢;rw[fX];simp only at hs ⊢;rw[fS];cases hi:(aD (aL u f.fn) f.blk).ins[f.pos]? with
  | none =>
   simp only[Option.map_none];rw[hF.ids.2.2,hF.blk];generalize aD (aL v f.fn) (β f.fn f.blk)=B' at *;generalize FK:aD (aL u f.fn) f.blk=B at *;obtain⟨t1,t2,t3,t4⟩:=hB.term;unfold Mach.finish;rw[t1,t2];by_cases q4:B.term.kind=4
   ·rw[if_pos q4,if_pos q4];exact .now ⟨f'::r',y,rfl,by show RR u s D L β pre M.frames _;rw[dh];exact⟨hF,hT,hR⟩,k3,k2⟩
   rw[if_neg q4,if_neg q4];by_cases q1:B.term.kind=1
   ·rw[if_pos q1,if_pos q1];have hl:=hb.term.rE q1;obtain⟨e,he⟩:∃e,B.term.to[0]?=some e:=⟨B.term.to[0]'(by omega),List.getElem?_eq_getElem _⟩
    obtain⟨e',m5⟩:∃e',B'.term.to[0]?=some e':=⟨B'.term.to[0]'(by omega),List.getElem?_eq_getElem _⟩
    rw[he,m5];exact Oe T hc kO yi dh hF hT hR k0 k1 k2 (hB.db 0 e e' he m5)
   rw[if_neg q1,if_neg q1];obtain⟨a1,a2⟩:=hB.arg q1 q4;have Wy:cZ f'.vals B'.term.arg=cZ f.vals B.term.arg:=by rw[a1];exact hF.vals _ a2
   rw[Wy];by_cases q0:B.term.kind=0
   ·rw[if_pos q0,if_pos q0];exact Sb T dh hT hR k3 k2 _
   rw[if_neg q0,if_neg q0];by_cases qk:(cZ f.vals B.term.arg).kind≠0
   ·rw[if_pos qk,if_pos qk];exact .now ⟨f'::r',y,rfl,by show RR u s D L β pre M.frames _;rw[dh];exact⟨hF,hT,hR⟩,k3,k2⟩
   rw[if_neg qk,if_neg qk];have mu:dP B'.term (cZ f.vals B.term.arg).n=dP B.term (cZ f.vals B.term.arg).n:=by
    unfold dP;rw[t1,t3]
   rw[mu];obtain⟨e,he⟩:=mi hb.term q0 q1 q4 (cZ f.vals B.term.arg).n;have aZ:=I he;obtain⟨e',m5⟩:∃e',B'.term.to[dP B.term (cZ f.vals B.term.arg).n]?=some e':=⟨B'.term.to[dP B.term (cZ f.vals B.term.arg).n]'(by omega),List.getElem?_eq_getElem _⟩
   rw[he,m5];exact Oe T hc kO yi dh hF hT hR k0 k1 k2 (hB.db _ e e' he m5)
  | some i =>
   rw[hi]at hs;simp only[Option.map_some]at hs ⊢;have VV:=List.mem_of_getElem? hi;have rz:=hb.ins i VV;have aZ:=I hi;obtain⟨d1,d2⟩:=hB.vals i VV;have dY:bN f'.vals (Tz s i).args=bN f.vals i.args:=hF.vals.take d2;rw[dY];have kr:kf u M { f with pos:=f.pos+1 }:=⟨Nq.fn,Nq.blk,aZ,Nq.vals⟩
   have wi:kf u (M.bf { f with pos:=f.pos+1 }) { f with pos:=f.pos+1 }:=kr.of_heap (by rfl);have WW:=lL.bf wx kr;have ha:=kI wi.vals i.args;have km:=kH f.vals i.args;have Pa:FR u s D L β pre { f with pos:=f.pos+1 } { f' with pos:=f'.pos+1 }:=⟨hF.ids,hF.fn,hF.live,hF.blk,by show f'.pos+1=_+(f.pos+1);rw[hF.pos];rfl,hF.vals⟩
   have oG:(M.bf { f with pos:=f.pos+1 }).frames = { f with pos:=f.pos+1 }::r:=by
    show _::M.frames.tail=_;rw[dh];rfl
   have e2:(M.put (f'::r') y).bf { f' with pos:=f'.pos+1 }=(M.bf { f with pos:=f.pos+1 }).put ({ f' with pos:=f'.pos+1 }::r') y:=rfl;rw[e2];have SD:Vf s D { f with pos:=f.pos+1 } { f' with pos:=f'.pos+1 } r:=by cases r<;>exact hT
   have PG:RR u s D L β pre (M.bf { f with pos:=f.pos+1 }).frames ({ f' with pos:=f'.pos+1 }::r'):=by
    rw[oG];exact⟨Pa,SD,hR⟩
   have Yb:0<=(M.bf { f with pos:=f.pos+1 }).left:=k0;have Wg:c*(M.bf { f with pos:=f.pos+1 }).left+(c-1)<=y:=k1;have Yc:y<=(M.bf { f with pos:=f.pos+1 }).left+d:=k2;have WC:(M.bf { f with pos:=f.pos+1 }).over=false:=kO;have Vq:(M.bf { f with pos:=f.pos+1 }).short=false:=yi;have XC:(({ f with pos:=f.pos+1 }:Fr)).vals=f.vals:=rfl;rw[XC]at ha;unfold Mach.act at hs ⊢;have o1:(Tz s i).op=i.op:=rfl;have o2:(Tz s i).n=i.n:=rfl;have o3:(Tz s i).to=s i.to:=rfl;rw[o1,o2,o3];by_cases nj:i.op=13
   ·rw[if_pos nj,if_pos nj];obtain⟨c1,c2,c3⟩:=rz.call nj;exact O8 T hc WC Vq oG PG Yb Wg Yc ⟨c1,c2⟩ _ ⟨rfl,d1⟩
   rw[if_neg nj]at hs;rw[if_neg nj,if_neg nj];by_cases oE:i.op=14
   ·rw[if_pos oE,if_pos oE];by_cases wm:(ca (bN f.vals i.args) 0).kind=2
    ·have jr:=SV.Wf.fn (gH ha 0) wm;obtain⟨z1,z2,z3⟩:=T.zero _ jr.1 jr.2;have hP:=(T.Py _ 0 jr.1 jr.2 z1).params.1;rw[z2]at hP;rw[hP,List.length_map];by_cases yV:(ca (bN f.vals i.args) 0).kind=2∧(aD (aL u (ca (bN f.vals i.args) 0).n) 0).params.length=(bN f.vals i.args).length
     ·rw[if_pos yV,if_pos yV];exact O8 T hc WC Vq oG PG Yb Wg Yc jr _ ⟨rfl,d1⟩
     rw[if_neg yV,if_neg yV];exact .now ⟨_,y,rfl,PG,k3,k2⟩
    rw[if_neg (fun q=>wm q.1),if_neg (fun q=>wm q.1)];exact .now ⟨_,y,rfl,PG,k3,k2⟩
   rw[if_neg oE]at hs;rw[if_neg oE,if_neg oE];have hx:=nG WW rz km ha;have Y4:((M.bf { f with pos:=f.pos+1 }).put ({ f' with pos:=f'.pos+1 }::r') y).exec (Tz s i) (bN f.vals i.args)=((M.bf { f with pos:=f.pos+1 }).put ({ f' with pos:=f'.pos+1 }::r') y).exec i (bN f.vals i.args):=rfl;have NL:=(Mach.Ma { f with pos:=f.pos+1 } i.to ((M.bf { f with pos:=f.pos+1 }).exec i (bN f.vals i.args))).1;rw[NL]at hs;have uF:(M.bf { f with pos:=f.pos+1 }).left<=y:=by
    have:1*M.left<=c*M.left:=Int.mul_le_mul_of_nonneg_right hc k0;show M.left<=y;omega
   rw[Y4,Mach.Qz _ _ _ _ _ hs hx.left.1 uF];generalize (M.bf { f with pos:=f.pos+1 }).exec i (bN f.vals i.args)=X at *;obtain⟨E,E2⟩:=X;have XE:E.frames = { f with pos:=f.pos+1 }::r:=by
    rw[<-oG];exact hx.frames
   have Al:E.left<=M.left:=hx.left.2;obtain⟨w1,w2⟩:=MH E E2 { f with pos:=f.pos+1 } i.to;refine .now ⟨_,_,Oy E E2 { f with pos:=f.pos+1 } _ _ i.to _ _,?_,?_,?_⟩
   ·rw[w1,XE];refine⟨⟨Pa.ids,Pa.fn,Pa.live,Pa.blk,Pa.pos,Pa.vals.put (T.inj f.fn) d1 _⟩,by cases r<;>exact hT,hR⟩
   ·rw[w2];have:=Qu hc k3 (a:=M.left-E.left) (by omega);rw[show M.left-(M.left-E.left)=E.left by omega]at this;exact this
   rw[w2];show y-(M.left-E.left)<=E.left+d;omega
theorem Rel.core{m m':Mach}(h:Rel u s D L β pre c d m m'):m'.over=m.over∧m'.short=m.short∧m'.out=m.out∧m'.fin=m.fin∧m'.val=m.val∧c*m.left<=m'.left∧m'.left<=m.left+d:=by
 obtain⟨fs,l,rfl,_,l1,l2⟩:=h;exact⟨rfl,rfl,rfl,rfl,rfl,l1,l2⟩
theorem RM(T:NA u v s D L β pre c)(hu:ep u)(hc:1<=c):∀(k:Nat) (m m':Mach),bG u m->Rel u s D L β pre c d m m'->(Mach.run u k m).short=false->∃n lg,Mach.Steps v n m' lg∧Rel u s D L β pre c d (Mach.run u k m) lg
 | 0,m,m',hm,hr,hs=>⟨0,m',.refl _,hr⟩
 | k+1,m,m',hm,hr,hs=>by
  cases ho:m.over with
  | true =>
   rw[K5 ho]at hs ⊢;exact⟨0,m',.refl _,hr⟩
  | false =>
   have bz:Mach.run u (k+1) m=if(m.cR 1).short then m.cR 1 else Mach.run u k (Mach.step u (m.cR 1)):=by simp[Mach.run,ho]
   rw[bz]at hs ⊢;by_cases hp:m.left<1
   ·rw[Mu hp]at hs;simp at hs
   obtain⟨q1,q2,q3,q4,q5⟩:=Nv hm ho hp;rw[if_neg (by simp[q3])]at hs ⊢;have nN:(m.cR 1).frames.length+(m.cR 1).left+1<=2 ^ 40:=by
    have:=hm.depth;rw[q4,q5];omega
   have dD:=bG.step hu q1 q2 nN;have NL:(Mach.step u (m.cR 1)).short=false:=by
    cases hx:(Mach.step u (m.cR 1)).short with
    | false=>rfl
    | true =>
     have ho:(Mach.step u (m.cR 1)).over=true:=by
      cases hy:(Mach.step u (m.cR 1)).over with
      | true=>rfl
      | false=>rw[(dD.over hy).2]at hx;cases hx
     rw[K5 ho,hx]at hs;cases hs
   rw[Mach.Mt (by omega)]at dD NL hs ⊢;obtain⟨n,m1,s1,s2⟩:=Tt T hu hc hm ho (by omega) NL hr;obtain⟨n2,m2,s3,s4⟩:=RM T hu hc k _ m1 dD s2 hs;exact⟨n+1+n2,m2,s1.trans s3,s4⟩
theorem Qy(T:NA u v s D L β pre c)(hu:ep u)(hv:ep v)(hc:1<=c){F G:Int}(hF:0<=F∧F<=1000000)(hG:G<=1000000)(gQ:c*F+(c-1)<=G)(he:(bm u F).e=0) :
  (bm v G).e=0∧(bm v G).out=(bm u F).out∧(bm v G).fin=(bm u F).fin∧(bm v G).val=(bm u F).val∧(bm v G).n<=G-c*(F-(bm u F).n)∧(bm u F).n+(pre u.main 0).length<=(bm v G).n:=by
 have XX:1*F<=c*F:=Int.mul_le_mul_of_nonneg_right hc hF.1;obtain⟨z1,z2,z3⟩:=T.zero u.main hu.main.1 hu.main.2;have hB:=T.Py u.main 0 hu.main.1 hu.main.2 z1;rw[z2]at hB;have V':=l8 hu (fuel:=F) hF.1 hF.2;have Vt:=l8 hv (fuel:=G) (by omega) hG;have Q2:PZ u v s D L β pre c (G-F-(pre u.main 0).length) ((Mach.start F).enter u u.main [] 0) ((Mach.start G).enter v v.main [] 0):=by
  have e0:(Mach.start G).enter v v.main [] 0=((Mach.start F).enter u u.main [] 0).put [⟨5,4,u.main,0,0,0,cH [] ((aD (aL u u.main) 0).params.map s) []⟩] G:=by
   rw[T.main];unfold Mach.enter;rw[hB.params.1];rfl
  rw[e0];refine Px T (m:=(Mach.start F).enter u u.main [] 0) rfl rfl (f:=⟨5,4,u.main,0,0,0,cH [] (aD (aL u u.main) 0).params []⟩) (r:=[]) rfl ⟨rfl,rfl,rfl⟩ hu.main z1 z2.symm rfl rfl (VR.bind (T.inj u.main) _ _ hB.params.2 (fun _ _=>rfl)) trivial trivial hF.1 (by
   show c*F+(pre u.main 0).length<=G;omega) (by
   show G-(pre u.main 0).length<=F+(G-F-(pre u.main 0).length)
   omega) hc
 obtain⟨n0,m0,s0,r0⟩:=Q2;unfold bm at he ⊢;simp only at he ⊢;have UZ:=M3 hu (F.toNat+2) _ V' (by simp[Mach.enter,Mach.start]);have pA:=M3 hv (G.toNat+2) _ Vt (by simp[Mach.enter,Mach.start]);have U1:=fun h=>RM T hu hc (F.toNat+2) _ m0 V' r0 h;generalize Mach.run u (F.toNat+2) ((Mach.start F).enter u u.main [] 0)=E at *;cases hs:E.short with
 | true =>
  rw[hs]at he;simp at he
 | false =>
  obtain⟨n1,m1,s1,r1⟩:=U1 hs;have S:=s0.trans s1;obtain⟨b1,b2,b3,b4,b5,b6,b7⟩:=r1.core;have hle:n0+n1<=G.toNat+2:=Classical.byContradiction fun q=>by
   have:=S.before (G.toNat+2) (by omega);rw[pA.1]at this;cases this
  have iR:Mach.run v (G.toNat+2) ((Mach.start G).enter v v.main [] 0)=m1:=by
   have:=S.run (G.toNat+2-(n0+n1));rw[show n0+n1+(G.toNat+2-(n0+n1))=G.toNat+2 by omega]at this;rw[this];exact K5 (by rw[b1];exact UZ.1) _
  rw[iR,b2,hs];simp only[Bool.false_eq_true,if_false];refine⟨trivial,b3,b4,b5,?_,?_⟩
  ·rw[show F-(F-E.left)=E.left by omega];omega
  omega
end
end Go.Proofs.Ytkhnjeblbiocaaa
