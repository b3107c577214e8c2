/-
  Texts bound together by a program of mine: YtkhnjeblbiocaaaPum, YtkhnjeblbiocaaaPya, YtkhnjeblbiocaaaPf, YtkhnjeblbiocaaaT41, YtkhnjeblbiocaaaPj, YtkhnjeblbiocaaaT43, YtkhnjeblbiocaaaT48, YtkhnjeblbiocaaaPg, YtkhnjeblbiocaaaPk, YtkhnjeblbiocaaaT44, YtkhnjeblbiocaaaT45, YtkhnjeblbiocaaaT46, YtkhnjeblbiocaaaT54, YtkhnjeblbiocaaaPl, YtkhnjeblbiocaaaPdb, YtkhnjeblbiocaaaPdc, YtkhnjeblbiocaaaPdd, YtkhnjeblbiocaaaPua, YtkhnjeblbiocaaaPub, YtkhnjeblbiocaaaPc, YtkhnjeblbiocaaaPyb, YtkhnjeblbiocaaaPy, YtkhnjeblbiocaaaPz, YtkhnjeblbiocaaaPwa, YtkhnjeblbiocaaaPus, YtkhnjeblbiocaaaPun, YtkhnjeblbiocaaaPuo, YtkhnjeblbiocaaaPuq, YtkhnjeblbiocaaaPut, YtkhnjeblbiocaaaPuu, YtkhnjeblbiocaaaPuv, YtkhnjeblbiocaaaPwb, YtkhnjeblbiocaaaPur, YtkhnjeblbiocaaaPux, YtkhnjeblbiocaaaPva, YtkhnjeblbiocaaaPwd, YtkhnjeblbiocaaaPwe, YtkhnjeblbiocaaaPye, YtkhnjeblbiocaaaPyc, YtkhnjeblbiocaaaPyd, YtkhnjeblbiocaaaPyf, YtkhnjeblbiocaaaPyg, YtkhnjeblbiocaaaPwf, YtkhnjeblbiocaaaPwi, YtkhnjeblbiocaaaPwg, YtkhnjeblbiocaaaPwh, YtkhnjeblbiocaaaT121, YtkhnjeblbiocaaaT122, YtakdmelemfnmdaaAvv, YtkhnjeblbiocaaaT134, YtkhnjeblbiocaaaT135, YtkhnjeblbiocaaaT131, YtkhnjeblbiocaaaT123, YtkhnjeblbiocaaaT63, YtkhnjeblbiocaaaT136, YtkhnjeblbiocaaaPyh, YtkhnjeblbiocaaaPuy, YtkhnjeblbiocaaaT164.
-/
import Derived.Test.YtkhnjeblbiocaaaJ4
import Derived.Sort.Grow
set_option linter.all false
set_option maxRecDepth 100000
set_option maxHeartbeats 4000000

namespace Go.Av
def Qn(P:Program)(o:Oper)(mK:St)(R:ae->List ak->Prop):Prop :=
 ∀(base:G) (σ:St) (a:Act) (g:G),Rel base σ a g->σ.n=mK.n->(∀x∈o.op.operands,∀y,mK.ev x=some y->σ.ev x=some y)->σ.objs=mK.objs ->
  ∀(K:Act->World->Prop) (Q:Exit->Act->World->Prop),(∀r u g',R r g'.objs->Rel base ⟨σ.n,nc o.dst r σ.ba,g'.objs⟩ (a.put o.dst u) g'->K (a.put o.dst u) g'.w)->o.wp P a g.w K Q
theorem NI{P:Program}{o:Oper}{σ:St}{x:Operand}{args:Array Operand}{oq:Array TypeId}{f:FuncId}{fs cs dC:List ae}{R:ae->List ak->Prop}
  (ho:o.op=.call ⟨.value x,args,oq⟩) (hd:∀d,o.dst=some d->d<σ.n) (hx:σ.ev x=some (.fn (.func f) fs cs)) (ha:σ.uj args.toList=some dC)
  (dZ:bc P f σ.objs (fs++dC++cs) R):Qn P o σ R:=by
 intro base τ a g bM hn mO hm K Q hK;have vn:σ.ev x=some (.fn (.func f) fs cs):=hx;have h1:=bM.eval (mO x (by simp[ho,Op.operands,Call.operands]) _ hx);obtain⟨us,vs,e1,l1,l2,r1,r2⟩:=h1.zS;have h2:=nF (σ:=σ) (a:=a) (g:=g) (xs:=args.toList) (fun z hz y hy=>bM.eval (mO z (by
  rw[ho];simp only[Op.operands,Call.operands,Array.mem_append];exact .inr (Array.mem_toList_iff.1 hz)) y hy)) ha
 have HE:gZ g dC (args.map a.eval):=by
  have e:args.map a.eval=(args.toList.map a.eval).toArray:=Array.ext' (by rw[Array.toList_map]);rw[e];exact h2
 have cM:=(gZ.kS (gZ.kS ⟨l1,r1⟩ HE) ⟨l2,r2⟩)
 have bz:=sc (P:=P) (w:=g.w) ho e1 dZ.1;unfold Oper.wp;rw[bz,Oper.upon_enter];refine(dZ.2 g _ bM.good (bM.objs.trans hm) cM).mono ?_;rintro e w' ⟨g',v,r',q1,q2,q3,q4,q5,q6⟩;subst q1;subst q2;refine hK r' v g' q6 ?_;cases jo:o.dst with
 | none=>exact bM.step q3 q4
 | some d=>exact bM.put q3 q4 (d:=d) (by rw[hn];exact hd d jo) q5
theorem Ft{P:Program}{ops:Array Oper}{base:G}{ρ:St}{Q:Exit->Act->World->Prop}{rest:List Nat}(hQ:∀a g,Rel base ρ a g->wpOps P ops Q rest a g.w) :
  ∀(l:List (Nat×Kind)) (σ:St) (a:Act) (g:G),eR P ops l σ ρ->Rel base σ a g->wpOps P ops Q (l.map (·.1)++rest) a g.w
 | [],σ,a,g,mu,bM=>hQ a g (gz.rel mu bM)
 | (i,k)::r,σ,a,g,mu,bM=>by
  obtain⟨fE,⟨o,ho,bV⟩,cP⟩:=mu;simp only[List.map_cons,List.cons_append,wpOps,ho];rcases bV with⟨hw,r',m,ux,hk,An⟩|⟨hw,_,An⟩
  ·rw[if_pos (fK bM hw)];refine .inl (ux.2 base σ a g bM rfl (fun x _ y hy=>hy) (Mode.np (.inr rfl)) _ _ fun u g' mQ=>?_);subst An;exact Ft hQ r _ _ _ cP mQ
  rw[if_neg (by rw[fK bM hw];simp)];subst An;refine Ft hQ r _ _ g cP ?_;cases jo:o.dst with
  | none=>exact bM
  | some d=>exact bM.skip d
theorem OK(ks:List Kind)(s:Nat):(((ks.zipIdx 0).map fun p=>(p.2,p.1)).map fun p=>(s+p.1,p.2)).map (·.1)=(List.range ks.length).map (s + ·):=by
 apply List.ext_getElem?;intro i;simp only[List.getElem?_map,List.getElem?_zipIdx];by_cases h:i<ks.length
 ·simp[h]
 rw[List.getElem?_eq_none (by omega),List.getElem?_eq_none (by simp;omega)];rfl
theorem Pg{n k:Nat}(h:k<n):List.range n=(List.range k).map (0 + ·)++(k::(List.range (n-(k+1))).map (k+1 + ·)):=by
 apply List.ext_getElem?;intro i;by_cases h1:i<k
 ·rw[List.getElem?_append_left (by simpa using h1)];simp[h1,show i<n by omega]
 rw[List.getElem?_append_right (by simp;omega)];simp only[List.length_map,List.length_range];by_cases h2:i=k
 ·subst h2;simp[h]
 rw[show i-k=(i-k-1)+1 by omega,List.getElem?_cons_succ,List.getElem?_map];by_cases h3:i<n
 ·rw[List.getElem?_range h3,List.getElem?_range (by omega),Option.map_some];congr 1;omega
 rw[List.getElem?_eq_none (by simp;omega),List.getElem?_eq_none (by simp;omega)];rfl
theorem NG{P:Program}{kb:Nat}{aW:eo}(md:Md)(hT:cb P aW){id:Nat}{l l1 l2:List Oper}{o:Oper}{Q:dR->St->Prop}{σ:St}(k:Nat)(h1:l.take k=l1)(h2:l[k]?=some o)(h3:l.drop (k+1)=l2)(hg:∀o∈l,o.guard=none)
  (h:eV P aW md l1 0 [] σ [] fun τ _=>∃R,Qn P o τ R∧∀r O',R r O'->eV P aW md l2 0 [] ⟨τ.n,nc o.dst r τ.ba,O'⟩ [] fun ρ _=>At ρ (Q .norm)):cc P kb (.region id l.toArray false) Q σ:=by
 have aZ:=I h2;obtain⟨τ,sa,c1,n1,R,hc,h⟩:=ee (all:=l1.toArray) hT l1 0 [] σ [] (fun j=>by simp) (fun j t hj=>by simp[ib]at hj) h;intro base a g hb hr;have Bw:o.guard=none:=hg o (List.mem_of_getElem? h2);have Il:l1.length=k:=by rw[<-h1,List.length_take];omega
 have I':l2.length=l.length-(k+1):=by rw[<-h3,List.length_drop]
 have d1:=iP (all:=l.toArray) (k:=0) (fun i o' hi=>by
  have fL:l1[i]?=some o':=by simpa using hi
  have:=I fL;rw[<-h1,List.getElem?_take]at fL;split at fL
  ·simpa using fL
  cases fL) (by simpa using hg) c1
 refine wp_region ?_;rw[show l.toArray.size=l.length from List.size_toArray,Pg aZ];have e1:=OK sa 0;rw[n1,Il]at e1;rw[<-e1];refine Ft (ρ:=τ) (fun a g hr=>?_) _ _ _ _ d1 hr;have ho:l.toArray[k]?=some o:=by simpa using h2
 simp only[wpOps,ho];have hw:dg l.toArray o τ=some true:=by simp[dg,Bw]
 rw[if_pos (fK hr hw)];refine .inl (hc base τ a g hr rfl (fun x _ y hy=>hy) rfl _ _ fun r u g' hR mQ=>?_);obtain⟨ρ,D5,c2,n2,hQ⟩:=ee (all:=l2.toArray) hT l2 0 [] _ [] (fun j=>by simp) (fun j t hj=>by simp[ib]at hj) (h r g'.objs hR);have d2:=iP (all:=l.toArray) (k:=k+1) (fun i o' hi=>by
  have fL:l2[i]?=some o':=by simpa using hi
  rw[<-h3,List.getElem?_drop]at fL;simpa using fL) (by simpa using hg) c2
 have e2:=OK D5 (k+1);rw[n2,I']at e2;rw[<-e2];have:=Ft (rest:=[]) (Q:=Ec base Q) (P:=P) (ops:=l.toArray) (base:=base) (ρ:=ρ) (fun a g hr=>⟨g,ρ,rfl,hr,hQ⟩) _ _ _ _ d2 mQ;rw[List.append_nil]at this;exact this
def N'(aW:eo)(rv:List ResultVar)(R:ae->List ak->Prop):dR->St->Prop
 | .exit _,_=>False
 | _,σ=>on (cX aW σ rv) fun rs=>R (eC rs) σ.objs
theorem M9{P:Program}{aW:eo}(hT:cb P aW){f:FuncId}{fn:Func}{c:Code}{O:List ak}{args:List ae}{R:ae->List ak->Prop}(hf:P.funcs[f]?=some fn)(hb:fn.body=some c)
  (qu : (fn.name == "runtime.NumGoroutine") = false) (hn : args.length <= fn.ntmps) (h : cc P O.length c (N' aW fn.results.toList R) ⟨fn.ntmps, ax 0 args, O⟩) : bc P f O args R := by
 refine⟨⟨fn,hf,qu,by simp[hb]⟩,fun g vs hg ho ha=>?_⟩;refine calls_of_wp hf hb ?_;have bM:Rel g ⟨fn.ntmps,ax 0 args,O⟩ { tmps:=vs++Array.replicate (fn.ntmps-vs.size) undef,defers:=[] } g:={
  le:=Le.refl g
  good:=hg
  objs:=ho
  size:=by
   have:=ha.1;simp only[Array.size_append,Array.size_replicate];omega
  defers:=rfl
  slot:=fun s x hx=>by
   obtain⟨_,h1⟩:=lf args 0 s x hx;simp only[Nat.sub_zero]at h1;have aZ:=I h1;have jH:s<vs.size:=by rw[ha.1];exact aZ
   refine⟨vs[s],?_,ha.2 s x _ h1 (by simp[jH])⟩;simp only;rw[Array.getElem?_append,if_pos jH];simp[jH] }
 refine wp_mono (h g _ g (by rw[ho];exact Nat.le_refl _) bM) fun e a w hp=>?_;have key:∀g' fE,g'.w=w->Rel g fE a g'->(on (cX aW fE fn.results.toList) fun rs=>R (Av.eC rs) fE.objs) ->
   a.defers=[]∧∃v,(results fn a.tmps).run P w=.ok v w∧∃g' v' r,Ending.returned v=.returned v'∧g'.w=w∧Le g g'∧Good g'∧RV g' r v'∧R r g'.objs:=by
  intro g' fE hw hr hq;subst hw;obtain⟨rs,pG,h4⟩:=aG hq;obtain⟨us,q1,q2⟩:=ln hT hr pG;have hO:g'.objs=fE.objs:=hr.objs;refine⟨hr.defers,(if h:us.toArray.size=1 then us.toArray[0]else .tuple us.toArray),?_,g',_,_,rfl,rfl,hr.le,hr.good,RV.eC q2,by rw[hO];exact h4⟩;have hm:fn.results.mapM (jM a)=Functor.map List.toArray (fn.results.toList.mapM (jM a)):=Array.mapM_eq_mapM_toList;have eg:results fn a.tmps=(do
   let vs <-fn.results.mapM (jM a)
   pure (if h:vs.size=1 then vs[0]else .tuple vs)):=rfl
  rw[eg,hm];simp only[Sem.run_bind,Sem.run_map,q1,Result.andThen_ok,Sem.run_pure]
 cases e with
 | normal =>
  obtain⟨g',fE,h1,h2,h3⟩:=hp;exact key g' fE h1 h2 h3
 | ret =>
  obtain⟨g',fE,h1,h2,h3⟩:=hp;exact key g' fE h1 h2 h3
 | exit id =>
  obtain⟨g',fE,h1,h2,h3⟩:=hp;exact h3.elim
 | goto l=>exact hp.elim
 | panic c=>exact hp.elim
 | outgrown=>exact hp.elim

theorem Mb{P:Program}{kb:Nat}{c:Code}{Q:dR->St->Prop}{n:Nat}{ba:List (Nat×ae)}{O:List ak}(k:Nat){cs:List ae}(ds:List ae)(jJ:O[k]?=some (.cells cs))(hl:ds.length=cs.length)(dz:∀d∈ds,d.scalar)
  (hs:∀(j:Nat) (c d:ae),cs[j]?=some c->ds[j]?=some d->Sub O c d) (h:cc P kb c Q ⟨n,ba,O.set k (.cells ds)⟩):cc P kb c Q ⟨n,ba,O⟩ :=
 cc.weaken h fun base a g hb hr=>by
  have hO:g.objs=O:=hr.objs;have RP:g.objs[k]?=some (.cells cs):=by rw[hO];exact jJ
  obtain⟨l,arr,t,e1,e2,e3,e4,e5,e6⟩:=hr.good.cells k cs RP;have ht:ku g k (.cells cs) (some l) (.cells ds) g.w:={
   obj:=RP
   os:=rfl
   tape:=rfl
   output:=rfl
   size:=Nat.le_refl _
   block:=fun _ _ _=>rfl
   cell:=fun b off x hx _=>hx
   place:=fun l1 h1 _=>by
    simp only[Option.some.injEq]at h1;subst h1;exact .inr ⟨l,e1,trivial,rfl,Nat.le_refl _⟩
   spare:=fun m h=>by cases h
   plain:=fun _=>⟨by simp[ak.aF],e1⟩
   gone:=by simp }
  have hle:=Le.br hr.good ht;have c7:=Good.br hr.good ht ⟨l,arr,t,rfl,e2,e3,by omega,fun j d u hd hu=>by
   have aZ:=I hd;have hc:cs[j]?=some cs[j]:=List.getElem?_eq_getElem (by omega);exact(hs j _ d hc hd g u hO (e5 j _ u hc hu)).mono hle,dz,e6.2⟩ (fun l1 h1 _=>by
    simp only[Option.some.injEq]at h1;subst h1;exact a5 e3)
  refine⟨g.br k (some l) (.cells ds) g.w,rfl,{ le:=hr.le.trans hle,good:=c7,objs:=by simp[G.br,hO],size:=hr.size,defers:=hr.defers,slot:=fun s y hy=>?_ }⟩;have nU:(St.mk n ba O).get s=some y:=hy;obtain⟨u,h3,h4⟩:=hr.slot s y nU;exact⟨u,h3,h4.mono hle⟩
theorem Sub.Qj{O:List ak}(sz:Nat):Sub O (.v (.slice none 0 0)) (.aE sz [] .ex):=fun g u _ h=>by
 obtain⟨e,_⟩:=h.cq;rw[e];exact .nil (fun id q=>by cases q) (by simp)
end Go.Av
namespace Go.Proofs.Ytkhnjeblbiocaaa
open Go.Av
theorem RV.less{g g3:G}(hw:g3.w=g.w)(uy:g.env=[])(lU:g.objs=[])(iw:∀b off,jT g3 b off->jT g b off){x:ae}{u:Value}(h:RV g x u):RV g3 x u:=by
 have cn:∀b off,g3.cell b off=g.cell b off:=fun b off=>by unfold G.cell;rw[hw]
 induction h with
 | v hx=>exact .v hx
 | agg hl dz _ ih=>exact .agg hl dz ih
 | nil ho tK =>
  refine .nil (fun id e=>?_) tK;have:=ho id e;simp[lU]at this
 | aE cU dz cQ cF hs f hm hr ho ih =>
  rename_i sz xs o a cap;refine .aE cU dz cQ cF hs f (fun j c hj=>⟨by rw[cn];exact(hm j c hj).1,fun q=>(hm j c hj).2 (iw _ _ q)⟩) ih ?_;cases o with
  | sh=>trivial
  | nn=>trivial
  | ex=>exact ho
  | loc a=>exact ho
  | tok id =>
   have:=ho.1;simp[lU]at this
 | ip ha dz f hm hr ih=>exact .ip ha dz f (fun j c hj=>⟨by rw[cn];exact(hm j c hj).1,fun q=>(hm j c hj).2 (iw _ _ q)⟩) ih
 | mp he ho jI=>simp[uy]at he
 | ms he ho jI hc lJ cF=>simp[uy]at he
 | os he ho jI hc lJ cF=>simp[uy]at he
 | raw tK ho =>
  have:=ho.1;simp[lU]at this
 | mm he ho jI=>simp[uy]at he
 | im hh jI hl hk rA _ ih=>exact .im (by rw[hw];exact hh) (fun off q=>jI off (iw _ _ q)) hl hk rA ih
 | fn hl q8 _ _ ih xE=>exact .fn hl q8 ih xE
 | df hl _ ih=>exact .df hl ih
theorem Nn{g:G}{bs:List Block}{j:Nat}{c:ae}{u:Value}(hc:(ao (bs.map Block.enc))[j]?=some c)(h:RV g c u)(x:Bool):u≠.bool x:=by
 have hm:=List.mem_of_getElem? hc;simp only[ao,List.mem_flatMap,List.mem_map]at hm;obtain⟨_,⟨b,_,rfl⟩,hm⟩:=hm;have hl:∀{sz xs o},RV g (.aE sz xs o) u->u≠.bool x:=fun h q=>by
  subst q;rcases h.eT with⟨q,_⟩|⟨_,_,_,q,_⟩<;>cases q
 have hi:∀{n},RV g (aI n) u->u≠.bool x:=fun h q=>by
  subst q;cases(h.cq).1
 simp only[Block.enc,ae.cells,List.mem_cons,List.not_mem_nil,or_false]at hm;rcases hm with rfl|rfl|rfl|rfl|rfl|rfl|rfl
 ·exact hl h
 ·exact hl h
 ·exact hi h
 ·exact hi h
 ·exact hi h
 ·exact hl h
 exact hl h
theorem bw.look{P:Program}{f:FuncId}{name:Int}{bs:List Block}{r:ae}{O:List ak}{id:Nat}(h:bw P f [.agg [aI name,ay bs]] r)(ho:O[id]?=some (.cells (ao (bs.map Block.enc))))
  (hr:∀(g g2:G) (v:Value),g2.w=g.w->(∀b off x,g.cell b off=some (.bool x)->¬jT g b off->¬jT g2 b off)->RV g r v->RV g2 r v) :
  bc P f O [.agg [aI name,.os id bs.length 7]] (fun r' O'=>r'=r∧O'=O):=by
 refine⟨h.1,fun g vs hg Bw Pc=>?_⟩;subst Bw;obtain⟨h1,h2⟩:=Pc;simp only[List.length_cons,List.length_nil]at h1;have G0:vs[0]?=some (vs[0]'(by omega)):=Array.getElem?_eq_getElem _;obtain⟨fs,Cf,gK,z6⟩:=(h2 0 _ _ rfl G0).sl;obtain⟨dz,dh⟩:=z6;simp only[List.length_cons,List.length_nil]at gK;have GH:fs[0]?=some (fs[0]'(by omega)):=Array.getElem?_eq_getElem _;have kr:fs[1]?=some (fs[1]'(by omega)):=Array.getElem?_eq_getElem _;obtain⟨lc,o,cap,he,gd,Ki,cQ,hb,cF,RZ⟩:=(dh 1 _ _ rfl kr).oN;obtain⟨vn,R3⟩:=(dh 0 _ _ rfl GH).cq;obtain⟨arr,t,gQ,dp,hlen,eZ,jY,wq⟩:=hg.row ho he;obtain⟨g3,RH⟩:∃g3:G,g3=⟨g.w,fun b off=>jT g b off∧¬(b=lc.block∧off<(ao (bs.map Block.enc)).length),[],[]⟩:=⟨_,rfl⟩
 have PH:∀b off,jT g3 b off↔jT g b off∧¬(b=lc.block∧off<(ao (bs.map Block.enc)).length):=fun b off=>by
  subst RH;constructor
  ·rintro(q|⟨_,_,_,q,_⟩)
   ·exact q
   simp at q
  exact fun q=>.inl q
 have c7:Go.Av.Good g3:=by
  have TZ:=hg.bare;subst RH;exact { frlt:=fun b off q=>TZ.frlt b off (show jT g b off from q.1),fk:=fun _ _ _ q=>by simp at q,len:=rfl,loc:=fun _ _ _ q=>by simp at q,apart:=fun _ _ _ _ _ _ q=>by simp at q,cells:=fun _ _ q=>by simp at q,spare:=fun _ _ _ q=>by simp at q,map:=fun _ _ _ q=>by simp at q }
 have P6:g3.w=g.w:=by rw[RH]
 have Qz:g3.w.heap[lc.block]?=some (.cells arr t (0,0)):=by rw[P6];exact dp
 have RJ:∀{x u},RV g x u->x.upto 0->RV g3 x u:=fun h hx=>RV.less (g:=g.bare) P6 rfl rfl (fun b off q=>pO.2 ((PH b off).1 q).1) (h.bare hx);have pA:RV g3 (ay bs) (.slice (some ⟨lc.block,0,none⟩) bs.length cap):=by
  have wo:bs.length=(bs.map Block.enc).length:=by simp
  rw[wo];have ry:∀(j:Nat) (c:ae),(ao (bs.map Block.enc))[j]?=some c->∃u,arr[j]?=some u∧RV g c u∧c.upto 0∧c.scalar:=fun j c hj=>by
   have QP:=I hj;have IS:arr[j]?=some (arr[j]'(by omega)):=Array.getElem?_eq_getElem _;refine⟨_,IS,eZ j c _ hj IS,?_,jY c (List.mem_of_getElem? hj)⟩;have hm:=List.mem_of_getElem? hj;simp only[ao,List.mem_flatMap,List.mem_map]at hm;obtain⟨_,⟨p,hp,rfl⟩,hm⟩:=hm;have:=p.aN 0;simp only[Block.enc,ae.upto,aY]at this;exact this c hm
  refine .aE (f:=fun j=>arr.getD j (.bool false)) ?_ ?_ (by simpa using cQ) (by simpa using cF) (fun _=>rfl) ?_ ?_ trivial
  ·intro y hy;obtain⟨z,_,rfl⟩:=List.mem_map.1 hy;rfl
  ·intro y hy c hc;have hm:c∈ao (bs.map Block.enc):=List.mem_flatMap.2 ⟨y,hy,hc⟩;exact jY c hm
  ·intro j c hj;obtain⟨u,hu,_⟩:=ry j c hj;refine⟨?_,fun q=>((PH _ _).1 q).2 ⟨rfl,by rw[Nat.zero_add];exact I hj⟩⟩;show g3.w.cell? _=_;rw[Go.Av.cell_of_row Qz,Nat.zero_add,hu];simp[hu]
  intro j c hj;obtain⟨u,hu,SP,bC,_⟩:=ry j c hj;have:arr.getD j (.bool false)=u:=by simp[hu]
  rw[this];exact RJ SP bC
 have SS:gZ g3 [.agg [aI name,ay bs]] vs:=by
  refine⟨by simpa using h1,fun j c u hj hu=>?_⟩;have JB:=I hj;simp only[List.length_cons,List.length_nil]at JB;obtain rfl:j=0:=by omega
  rw[G0]at hu;simp only[List.getElem?_cons_zero,Option.some.injEq]at hj hu;rw[<-hj,<-hu,Cf];refine .agg (by simpa using gK) (fun c hc=>?_) fun i c u hi hu=>?_
  ·simp only[List.mem_cons,List.not_mem_nil,or_false]at hc;rcases hc with rfl|rfl<;>trivial
  have EJ:=I hi;simp only[List.length_cons,List.length_nil]at EJ;rcases(show i=0∨i=1 by omega)with e|e
  ·subst e;rw[GH]at hu;simp only[List.getElem?_cons_zero,Option.some.injEq]at hi hu;rw[<-hi,<-hu,vn];exact .v R3
  subst e;rw[kr]at hu;simp only[List.getElem?_cons_succ,List.getElem?_cons_zero,Option.some.injEq]at hi hu;rw[<-hi,<-hu,RZ];exact pA
 rw[<-P6];refine(h.2 g3 vs c7 (by rw[RH]) SS).mono ?_;rintro e w' ⟨g',v,r',k1,k2,k3,k4,c4,eM,ix⟩;have Qg:∀{b},¬fM g3 b:=s7 (by rw[RH]);have hX:Le g.bare ⟨g'.w,jT g,g'.env,g'.objs⟩:=by
  have SK:g'.env=[]:=by
   have:=k4.len;rw[ix]at this;exact List.length_eq_zero_iff.1 this
  have Tj:∀{b},¬fM (⟨g'.w,jT g,g'.env,g'.objs⟩:G) b:=s7 (by exact SK);exact {
   os:=by rw[show g.bare.w.os=g3.w.os by rw[P6];rfl];exact k3.os
   tape:=by rw[show g.bare.w.tape=g3.w.tape by rw[P6];rfl];exact k3.tape
   output:=by rw[show g.bare.w.output=g3.w.output by rw[P6];rfl];exact k3.output
   fr:=rfl
   size:=by rw[show g.bare.w.heap.size=g3.w.heap.size by rw[P6];rfl];exact k3.size
   block:=fun k hk hh=>⟨by
    have:=(k3.block k (by rw[P6];exact hk) Qg).1;rw[P6]at this;exact this,Tj⟩
   cell:=fun b off y hy hh=>⟨(k3.cell b off y (by unfold G.cell;rw[P6];exact hy) (fun q=>Qg q.block)).1,fun q=>Tj q.block⟩
   len:=Nat.zero_le _
   spare:=fun id m hm=>by simp[G.bare]at hm
   plain:=fun id o hm=>by simp[G.bare]at hm
   gone:=fun id hm=>by simp[G.bare]at hm
   tok:=fun id m hm=>by simp[G.bare]at hm }
 refine⟨g.back ⟨g'.w,jT g,g'.env,g'.objs⟩,v,r',k1,k2,Le.back hg hX,Go.Av.Good.back hg hX,?_,eM,rfl⟩;rw[eM]at c4 ⊢;refine hr g' _ v rfl (fun b off x hx hn q=>?_) c4;have hq:jT g b off:=q;have h3:¬jT g3 b off:=fun q3=>by
  apply hn;rcases q3 with q3|q3
  ·exact .inl (by rw[k3.fr];exact q3)
  exact absurd q3.block Qg
 have h4:b=lc.block∧off<(ao (bs.map Block.enc)).length:=Classical.byContradiction fun q4=>h3 ((PH b off).2 ⟨hq,q4⟩);obtain⟨rfl,h5⟩:=h4;have IS:arr[off]?=some (arr[off]'(by omega)):=Array.getElem?_eq_getElem _;have TR:g3.cell lc.block off=some (arr[off]'(by omega)):=by
  show g3.w.cell? _=_;rw[Go.Av.cell_of_row Qz,IS]
 have TS:=(k3.cell _ _ _ TR (fun q=>Qg q.block)).1;rw[TS]at hx;simp only[Option.some.injEq]at hx;exact Nn (List.getElem?_eq_getElem h5) (eZ off _ _ (List.getElem?_eq_getElem h5) IS) x hx
theorem Oi{l:List Bool}{n:Int}(g g2:G)(v:Value)(hw:g2.w=g.w)(hn:∀b off x,g.cell b off=some (.bool x)->¬jT g b off->¬jT g2 b off)(h:RV g (.df [.aE 1 (l.map eB) .sh,aI n]) v) :
  RV g2 (.df [.aE 1 (l.map eB) .sh,aI n]) v:=by
 have cn:∀b off,g2.cell b off=g.cell b off:=fun b off=>by unfold G.cell;rw[hw]
 obtain⟨vs,rfl,hl,hc⟩:=h.DB;refine .df hl fun i c u hi hu=>?_;have EJ:=I hi;simp only[List.length_cons,List.length_nil]at EJ;have ry:=hc i c u hi hu;rcases(show i=0∨i=1 by omega)with e|e
 ·subst e;simp only[List.getElem?_cons_zero,Option.some.injEq]at hi;subst hi;rcases ry.eT with⟨rfl,q⟩|⟨a,cap,f,rfl,cU,dz,cQ,cF,hs,hm,hr,ho⟩
  ·rw[q];exact .nil (fun id e=>by cases e) (by simp)
  have eJ:∀(j:Nat) (c:ae),(ao (l.map eB))[j]?=some c->∃x,c=eB x:=fun j c hj=>by
   have hm:=List.mem_of_getElem? hj;simp only[ao,List.mem_flatMap,List.mem_map]at hm;obtain⟨_,⟨p,_,rfl⟩,hm⟩:=hm;simp only[eB,ae.cells,List.mem_singleton]at hm;exact⟨p,hm⟩
  refine .aE cU dz cQ cF hs f (fun j c hj=>?_) (fun j c hj=>?_) trivial
  ·obtain⟨x,rfl⟩:=eJ j c hj;obtain⟨m1,m2⟩:=hm j _ hj;have e:=((hr j _ hj).cq).1;exact⟨by rw[cn];exact m1,hn _ _ x (by rw[m1,e]) m2⟩
  obtain⟨x,rfl⟩:=eJ j c hj;obtain⟨e1,e2⟩:=(hr j _ hj).cq;rw[e1];exact .v e2
 subst e;simp only[List.getElem?_cons_succ,List.getElem?_cons_zero,Option.some.injEq]at hi;subst hi;obtain⟨e1,e2⟩:=ry.cq;rw[e1];exact .v e2
theorem PL{n:Int}(g g2:G)(v:Value)(_:g2.w=g.w)(_:∀b off x,g.cell b off=some (.bool x)->¬jT g b off->¬jT g2 b off)(h:RV g (aI n) v):RV g2 (aI n) v:=by
 obtain⟨e1,e2⟩:=h.cq;rw[e1];exact .v e2
end Go.Proofs.Ytkhnjeblbiocaaa
namespace Go.Av

end Go.Av
namespace Go.Proofs.Ytkhnjeblbiocaaa
open Go.Av
theorem GB{cs:List ae}{j:Nat}(x:ae)(h:j<cs.length):aS cs j [x]=cs.set j x:=by
 apply List.ext_getElem?;intro i;rw[iG (by simp;omega),List.getElem?_set];simp only[List.length_cons,List.length_nil,Nat.zero_add];by_cases e:j=i
 ·subst e;simp[h]
 rw[if_neg (by omega),if_neg e]
theorem Q4{f:Func}{t:Term}(iR:FZ f t):t.to.length<=257:=by
 rcases(show(t.kind=0∨t.kind=4)∨t.kind=1∨t.kind=2∨t.kind=3 by have:=iR.kind;omega)with q|q|q|q
 ·rw[iR.to q];simp
 ·rw[iR.rE q];omega
 ·rw[iR.cond q];omega
 rw[iR.switch q];have:=iR.cases;omega

end Go.Proofs.Ytkhnjeblbiocaaa
namespace Go.Av
theorem LF{P:Program}{aW:eo}(hT:cb P aW){o:Oper}{σ:St}{t e:TypeId}{len:Nat}{parts:Array (Nat×Operand)}{ti te:cr}{ps:List (Nat×ae)}{xs:List ae}
  (ho:o.op=.buildSlice t len parts) (hd:∀d,o.dst=some d->d<σ.n) (ht:aW t=some ti) (aT:ti.desc=.slice e) (he:aW e=some te) (lV:0<te.size) (qo:σ.eI parts.toList=some ps) (gK:∀p∈ps,p.2.flat)
  (EW:gE 0 ps=some xs) (hlen:xs.length=len) (cU:∀x∈xs,x.cells.length=te.size) (yZ:len*te.size<=2 ^ 24) (hz:len≠0):Cert P o σ (.os σ.objs.length len te.size) (.write (σ.objs++[.cells (ao xs)])) :=
 Cert.gu hd fun base fE a g bM h ic=>by
  have hO:g.objs=σ.objs:=ic.resolve_left (by simp);have hg:=bM.good;have yY:=iQ (a:=a) (g:=g) (fun x hx y hy=>h x (by simpa[ho,Op.operands]using hx) y hy) qo gK;have hu:=bI hT ht aT;obtain⟨⟨i,z,h1,h2,h3,h4,h5,h6,h7,h8,h9⟩,_⟩:=hT e te he;have pF:=l7 EW;have dz:∀x∈xs,∀c∈x.cells,c.scalar:=by
   have aux:∀{ps:List (Nat×ae)} {vs:List (Nat×Value)},vt g ps vs->∀p∈ps,∀c∈p.2.cells,c.scalar:=by
    intro ps vs hr;induction hr with
    | nil=>intro p hp;cases hp
    | cons hx hf r ih =>
     intro p hp;rcases List.mem_cons.1 hp with hp|hp
     ·subst hp;exact hx.g9 hf
     exact ih p hp
   intro x hx c hc;have jZ:∃k,(k,x)∈ps:=by
    obtain⟨k,hk⟩:=List.getElem?_of_mem hx;refine⟨0+k,?_⟩;rw[pF,List.mem_map];refine⟨(x,0+k),?_,rfl⟩;rw[List.mem_iff_getElem?];exact⟨k,by simp[hk]⟩
   obtain⟨k,hk⟩:=jZ;exact aux yY _ hk c hc
  have cj:¬len*i.size=0:=by
   rw[h2];intro e0;rcases Nat.mul_eq_zero.1 e0 with q|q<;>omega
  obtain⟨zs,sW⟩:∃zs:Array Value,zs=(Array.range (len*i.size)).map (z.cells[· % z.cells.size]!):=⟨_,rfl⟩
  have wF:zs.size=len*te.size:=by rw[sW];simp[h2]
  obtain⟨zc,Ih,y1,sV⟩:∃zc:List ae,(∀c∈zc,c.scalar)∧gZ g zc zs∧zc.length=len*te.size:=by
   refine⟨(List.range (len*te.size)).map fun j=>te.zero.getD (j % te.size) (.v (.bool false)),fun c hc=>?_,⟨by simp[wF],fun j c u hj EM=>?_⟩,by simp⟩
   ·rw[List.mem_map]at hc;obtain⟨j,_,e⟩:=hc;subst e;have aZ:j % te.size<te.zero.length:=by rw[h6];exact Nat.mod_lt _ lV
    rw[List.getD_eq_getElem?_getD,List.getElem?_eq_getElem aZ];exact h9 _ (List.getElem_mem aZ)
   have gY:=I hj;simp only[List.length_map,List.length_range]at gY;rw[List.getElem?_map,List.getElem?_range gY]at hj;simp only[Option.map_some,Option.some.injEq]at hj;subst hj;have aZ:j % te.size<te.zero.length:=by rw[h6];exact Nat.mod_lt _ lV
   have jH:j % te.size<z.cells.size:=by rw[h5];exact aZ
   rw[sW]at EM;simp only[Array.getElem?_map,h2,Array.getElem?_range,if_pos gY,Option.map_some,Option.some.injEq]at EM;subst EM;rw[List.getD_eq_getElem?_getD,List.getElem?_eq_getElem aZ];refine h8 g (j % te.size) _ _ (List.getElem?_eq_getElem aZ) ?_;rw[h5,h6];simp[jH]
  have z7:∃cs',hU (fun i=>some (i*te.size,te.size)) zc ps=some cs':=by
   have aux:∀(ys:List ae) (k:Nat) (cs:List ae),(∀y∈ys,y.cells.length=te.size)->(k+ys.length)*te.size<=cs.length->∃cs',hU (fun i=>some (i*te.size,te.size)) cs ((ys.zipIdx k).map fun p=>(p.2,p.1))=some cs':=by
    intro ys;induction ys with
    | nil=>intro k cs _ _;exact⟨cs,rfl⟩
    | cons y ys ih =>
     intro k cs hy hl;simp only[List.zipIdx_cons,List.map_cons,hU];simp only[List.length_cons]at hl;have DL:(k+1)*te.size=k*te.size+te.size:=Nat.succ_mul k te.size;have xA:(k+1)*te.size<=(k+(ys.length+1))*te.size:=Nat.mul_le_mul_right _ (by omega);have hc:y.cells.length=te.size∧k*te.size+te.size<=cs.length:=⟨hy y (by simp),by omega⟩
     rw[if_pos hc];refine ih (k+1) _ (fun z hz=>hy z (List.mem_cons_of_mem _ hz)) ?_;rw[ct (by omega),show k+1+ys.length=k+(ys.length+1) by omega];exact hl
   rw[pF];exact aux xs 0 zc cU (by rw[sV,hlen,Nat.zero_add];exact Nat.le_refl _)
  obtain⟨cs',wg⟩:=z7;obtain⟨bZ,q1,q2,_⟩:=mn (fun i=>some (i*te.size,te.size)) yY y1 wg;obtain⟨e1,_⟩:=oD xs 0 zc cs' (by rw[<-pF];exact wg) (by rw[sV,hlen,Nat.zero_add];exact Nat.le_refl _);have e2:cs'=ao xs:=by
   rw[e1];simp only[Nat.zero_mul,List.take_zero,List.nil_append,Nat.zero_add];rw[List.drop_of_length_le (by rw[sV,hlen];omega),List.append_nil]
  subst e2;have bz:(Instr.buildSlice t len (parts.map fun(i,x)=>(i,a.eval x))).run P g.w=.ok (.slice (some ⟨g.w.heap.size,0,none⟩) len len) (g.w.alloc (.cells bZ e)):=by
   have sL:¬len*i.size > 2 ^ 24:=by rw[h2];omega
   rw[sW,<-h2]at q1;have D6:Instr.fill (fun Ii=>some (Ii*i.size,i.size)) ((Array.range (len*i.size)).map (z.cells[· % z.cells.size]!)) (parts.map fun(i,x)=>(i,a.eval x)).toList=some bZ:=by
    rw[Array.toList_map];exact q1
   simp only[Instr.buildSlice,run_underlying hu,Go.sizeOf,typeInfo,Go.zeroValue,Sem.run_bind,run_program,Result.andThen_ok,h1,Sem.run_pure,Go.newRow];rw[if_neg sL,if_neg cj];simp only[Sem.run_bind,Sem.run_pure,Result.andThen_ok,run_program,h1,h4,D6,run_newObj];rfl
  have hle:=Le.alloc hg (.cells bZ e) 0 (.cells (ao xs));have il:bZ.size=len*te.size:=by
   rw[q2.1,<-hlen];have:∀ys:List ae,(∀y∈ys,y.cells.length=te.size)->(ao ys).length=ys.length*te.size:=fun ys=>by
    induction ys with
    | nil=>intro _;simp[ao]
    | cons y ys ih =>
     intro hy;have h1:=ih fun z hz=>hy z (by simp[hz]);have h2:=hy y (by simp);simp only[ao,List.flatMap_cons,List.length_append,List.length_cons]at h1 ⊢;rw[h1,h2,Nat.succ_mul];omega
   exact this xs cU
  have SQ:∀c∈ao xs,c.scalar:=fun c hc=>by
   simp only[ao,List.mem_flatMap]at hc;obtain⟨x,hx,hc⟩:=hc;exact dz x hx c hc
  refine⟨.slice (some ⟨g.w.heap.size,0,none⟩) len len,g.alloc (.cells bZ e) 0 (.cells (ao xs)),.inl (by simp[execOp,ho,bz,G.alloc]),hle,Good.alloc hg _ 0 _ (.inr rfl) ⟨_,e,rfl,by rw[q2.1];exact Nat.le_refl _,(q2.mono hle).2,SQ⟩,by simp[G.alloc,hO,Mode.post],?_⟩;rw[<-hO];exact .os (l:=⟨g.w.heap.size,0,bZ.size⟩) (gJ hg) eE (by simp[ak.aF]) (Nat.le_refl _) (by rw[il];exact Nat.le_refl _) (by
   have:len<=len*te.size:=Nat.le_mul_of_pos_right _ lV;omega)
theorem cw.os{O:List ak}{id len sz:Nat}{cs xs:List ae}(fA:O[id]?=some (.cells cs))(cU:∀x∈xs,x.cells.length=sz)(hlen:xs.length=len)(hd:((cs.drop 0).take (len*sz)).map ae.bk=ao xs):cw O id (.os id len sz) (.aE sz xs .sh):=fun g u l' hg hO he hle h=>by
 obtain⟨l,o1,ez,h1,h2,_,xy,_,cF,eu⟩:=h.oN;subst eu;rw[he]at h1;simp only[Option.some.injEq]at h1;subst h1;have ij:g.objs[id]?=some (.cells cs):=by rw[hO];exact fA
 obtain⟨arr,t',gQ,dp,km,eZ,jY,_⟩:=hg.row ij he;subst hlen;have key:∀(j:Nat) (c:ae),(ao xs)[j]?=some c->∃c',cs[0+j]?=some c'∧c'.bk=c:=fun j c hj=>by
  rw[<-hd,List.getElem?_map,Option.map_eq_some_iff]at hj;obtain⟨c',hj,e⟩:=hj;have:=kJ hj;rw[List.getElem?_drop]at this;exact⟨c',this,e⟩
 refine .aE cU (fun x hx c hc=>?_) xy cF (fun _=>rfl) (fun j=>arr.getD (0+j) undef) (fun j c hj=>?_) (fun j c hj=>?_) trivial
 ·have jZ:c∈ao xs:=by
   simp only[ao,List.mem_flatMap];exact⟨x,hx,hc⟩
  obtain⟨j,hj⟩:=List.getElem?_of_mem jZ;obtain⟨c',gY,e⟩:=key j c hj;subst e;exact ae.en (jY c' (List.mem_of_getElem? gY))
 ·obtain⟨c',gY,e⟩:=key j c hj;have aZ:=I gY;refine⟨?_,k6 hg he ij trivial _⟩;show g.w.cell? _=_;simp only;rw[cell_of_row dp];simp[Array.getD_eq_getD_getElem?,show j<arr.size by omega]
 obtain⟨c',gY,e⟩:=key j c hj;have aZ:=I gY;subst e;exact((eZ _ c' _ gY (by simp[Array.getD_eq_getD_getElem?,show j<arr.size by omega])).mono hle).bk
theorem PM{P:Program}{aW:eo}{md:Md}(hT:cb P aW){o:Oper}{l2:List Oper}{Q:dR->St->Prop}{σ:St}{t e:TypeId}{len d:Nat}{parts:Array (Nat×Operand)}{ti te:cr}{ps:List (Nat×ae)}{xs:List ae}
  (ho:o.op=.buildSlice t len parts) (jo:o.dst=some d) (hd:d<σ.n) (ht:aW t=some ti) (aT:ti.desc=.slice e) (he:aW e=some te) (lV:0<te.size) (qo:σ.eI parts.toList=some ps) (gK:∀p∈ps,p.2.flat)
  (EW:gE 0 ps=some xs) (hlen:xs.length=len) (cU:∀x∈xs,x.cells.length=te.size) (yZ:len*te.size<=2 ^ 24) (hz:len≠0)
  (h:eV P aW md l2 0 [] ⟨σ.n,nc o.dst (.os σ.objs.length len te.size) σ.ba,σ.objs++[.cells (ao xs)]⟩ [] fun ρ _=>At ρ (Q .norm)):DE P aW md o l2 Q σ :=
 ⟨_,_,LF hT ho (fun d' e=>by rw[jo]at e;cases e;exact hd) ht aT he lV qo gK EW hlen cU yZ hz,h⟩
end Go.Av
namespace Go.Proofs.Ytkhnjeblbiocaaa
open Go.Av
def PO(zU:Nat)(l:List Int):ae:=if l=[]then .aE 1 [] .ex else .os zU l.length 1
theorem KF(x:Value):ao [ae.v x]=[ae.v x]:=rfl
theorem KQ(id len sz:Nat):(ae.os id len sz).cells=[ae.os id len sz]:=rfl
theorem Pe{O:List ak}(bC:∀o∈O,o.upto O.length)(h1:O[1]?=some (.cells [.aE 1 [] .ex]))(k:Int) :
  bc Try.prog 88 O [aI k,.mp 1 0] (fun r O'=>r=.df []∧O'=(O++[ak.cells [aI k]]).set 1 (.cells [.os O.length 1 1])):=by
 have hl:=I h1;have Ge:∀X,(O++X)[1]?=some (.cells [.aE 1 [] .ex]):=fun X=>bJ h1;have gT:O.length<=O.length+1:=by omega
 refine gb hT true (O.length+1) Try.func88 rfl (by kernel_rfl) (by simp[Try.ntmps88]) (by assumption) ?_;show cc Try.prog _ _ _ ⟨7,_,_⟩;dsimp only[Tmp,TypeId,ax];have iz:((O++[ak.cells [ae.v (.int .i64 k)]]).set 1 (.cells [.os O.length 1 1])).take (O.length+1)=(O++[ak.cells [ae.v (.int .i64 k)]]).set 1 (.cells [.os O.length 1 1]):=List.take_of_length_le (by simp);refine FW ?_;simp -dsimp only[simprocAttr,↓aa,zp,h1,Ge,KF,KQ];refine⟨trivial,?_⟩;refine bd ?_;simp -dsimp only[simprocAttr,↓aa,zp,zr,Try.results88,iz,List.length_set,List.length_append];exact⟨bF (FH (fun o ho=>ak.cu (by omega) (bC o ho)) ⟨trivial,trivial⟩) ⟨show _<_ by omega,trivial⟩,trivial⟩
theorem PK{O:List ak}(bC:∀o∈O,o.upto O.length){zU:Nat}{l:List Int}(h1:O[1]?=some (.cells [.os zU l.length 1]))(h2:O[zU]?=some (.cells (l.map aI)))(ho:zU≠1)(wo:l.length<=1000)(k:Int) :
  bc Try.prog 88 O [aI k,.mp 1 0] (fun r O'=>r=.df []∧O'=(O.set zU .gone++[ak.cells ((l++[k]).map aI)]).set 1 (.cells [.os O.length (l.length+1) 1])):=by
 have hl:=I h1;have Ge:∀X,(O.set zU .gone++X)[1]?=some (.cells [.os zU l.length 1]):=fun X=>bJ (bx h1 ho);have gT:O.length<=O.length+1:=by omega
 refine gb hT true (O.length+1) Try.func88 rfl (by kernel_rfl) (by simp[Try.ntmps88]) (by assumption) ?_;show cc Try.prog _ _ _ ⟨7,_,_⟩;dsimp only[Tmp,TypeId,ax];refine FW ?_;simp -dsimp only[simprocAttr,↓aa,zp,h1,Ge,h2,KF,KQ];refine⟨by simp,by omega,by omega,?_⟩;have v8:(l.map aI).take (l.length*1)=l.map aI:=List.take_of_length_le (by simp);have iz:((O.set zU .gone++[ak.cells (l.map aI++[ae.v (.int .i64 k)])]).set 1 (.cells [.os O.length (l.length+1) 1])).take (O.length+1)=(O.set zU .gone++[ak.cells (l.map aI++[ae.v (.int .i64 k)])]).set 1 (.cells [.os O.length (l.length+1) 1]):=List.take_of_length_le (by simp);refine⟨trivial,?_⟩;refine bd ?_;simp -dsimp only[simprocAttr,↓aa,zp,zr,Try.results88,v8,iz,List.length_set,List.length_append];refine⟨bF (FH (bF (fun o ho=>ak.cu (by omega) (bC o ho)) trivial) ?_) ⟨show _<_ by omega,trivial⟩,trivial,by simp⟩;show aw _ _;have:=az (O.length+1) (l++[k]);simpa using this
def B'(x v:Int):Int:=max x (v+1)
def Ci(b:Block):List Int:=b.params++b.ins.map bE.to
def Ce(f:Func):List Int:=f.blocks.flatMap Ci
def p'(f:Func):Int:=(Ce f).foldl B' 0
theorem Mg{O:List ak}(bC:∀o∈O,o.upto O.length){A:Nat}{x:Int}(hA:O[A]?=some (.cells [aI x]))(v:Int)(hv:0<=v∧v<=2 ^ 60) :
  bc Try.prog 38 O [aI v,.mp A 0] (fun r O'=>r=.df []∧O'=O.set A (.cells [aI (B' x v)])):=by
 have yS:=I hA;have iz:(O.set A (.cells [aI (B' x v)])).take O.length=O.set A (.cells [aI (B' x v)]):=cG;have oI:∀o∈O.set A (.cells [aI (B' x v)]),o.upto O.length:=bF bC ⟨trivial,trivial⟩;unfold B' at *;refine zf true O.length Try.func38 Try.ntmps38 ?_;dsimp only[Tmp,TypeId,ax];refine j1 ?_;simp -dsimp only[simprocAttr,↓aa,zp,hA]
 repeat(refine⟨by omega,?_⟩)
 refine bd ?_;simp -dsimp only[simprocAttr,↓aa,zp,zr,Try.results38,iz,List.length_set];exact⟨oI,trivial⟩
def Pr(f:Func):Prop:=∀v∈Ce f,0<=v∧v<=4095
theorem MJ{x v:Int}(hx:x<=4096)(hv:v<=4095):B' x v<=4096:=by
 unfold B';omega
theorem KL:∀(l:List Int) (x:Int),x<=4096->(∀v∈l,v<=4095)->l.foldl B' x<=4096
 | [],_,hx,_=>hx
 | v::r,x,hx,h=>KL r _ (MJ hx (h v (by simp))) (fun w hw=>h w (by simp[hw]))
theorem Lm:∀(l:List Int) (x:Int),x<=l.foldl B' x∧∀v∈l,v<l.foldl B' x
 | [],_=>⟨Int.le_refl _,by simp⟩
 | v::r,x=>by
  have ih:=Lm r (B' x v);have:x<=B' x v∧v<B' x v:=by unfold B';omega
  simp only[List.foldl_cons];refine⟨by omega,fun w hw=>?_⟩;rcases List.mem_cons.1 hw with q|q
  ·subst q;omega
  exact ih.2 w q
theorem N5{O:List ak}(bC:∀o∈O,o.upto O.length){A:Nat}(f:Func)(hf:Pr f)(iI:f.blocks.length<=2 ^ 47)(RB:∀b∈f.blocks,b.params.length<=2 ^ 47∧b.ins.length<=2 ^ 47)(hA:O[A]?=some (.cells [aI 0])) :
  bc Try.prog 37 O [f.enc,.fn (.func 38) [] [.mp A 0]] (fun r O'=>r=.df []∧O'=O.set A (.cells [aI (p' f)])):=by
 have yS:=I hA;obtain⟨R,hR⟩:∃R,R=p' f:=⟨_,rfl⟩
 rw[<-hR];unfold p' Ce at hR;have Sn:∀x,(O.set A x)[A]?=some x:=fun x=>List.getElem?_set_self yS;have fY:∀x:Int,∀o∈O.set A (.cells [aI x]),o.upto (O.set A (.cells [aI x])).length:=fun x=>by
  rw[List.length_set];exact bF bC ⟨trivial,trivial⟩
 have hlen:∀x,(O.set A x).length=O.length:=fun x=>List.length_set;have fo:O.set A (.cells [aI 0])=O:=kG hA;have iz:∀x:Int,(O.set A (.cells [aI x])).take O.length=O.set A (.cells [aI x]):=fun x=>cG;have dD:∀x y,(O.set A x).set A y=O.set A y:=fun x y=>List.set_set ..;refine zf true O.length Try.func37 Try.ntmps37 ?_;dsimp only[Tmp,TypeId,ax];refine aA (ah ?_);refine aO 2 ([aI f.name,ay f.blocks]) [(1,.fn (.func 38) [] [.mp A 0]),(2,.ip none [aI f.name,ay f.blocks])] rfl (by rfl) (by omega) (by simp[bu,a7,Go.Av.look]) ?_ ?_ ?_
 ·exact bC
 ·simp[ae.upto,aw,az,Block.ai,yS]
 refine aA (ah ?_);refine aj (aU (ι:={x:Nat×Int // x.1<=f.blocks.length∧R=((f.blocks.drop x.1).flatMap Ci).foldl B' x.2∧x.2<=4096}) (fun x=>⟨41,[(1,.fn (.func 38) [] [.mp A 0]),(11,ay f.blocks),(12,aI f.blocks.length),(13,aI x.1.1)],O.set A (.cells [aI x.1.2])⟩) (fun x=>f.blocks.length-x.1.1) ⟨(0,0),by simp,hR,by simp⟩ ?_ ?_)
 ·refine zq rfl ?_ ?_;simp -dsimp only[simprocAttr,↓aa,zp,zc];exact fo.symm
 rintro⟨⟨k,x⟩,hk,cO,hx⟩;simp only at hk cO hx;refine aA (ah ?_);apply gW rfl<;>intro h
 ·refine cA ?_;have aZ:k<f.blocks.length:=by simpa using h
  obtain⟨b,hb⟩:∃b,f.blocks[k]?=some b:=⟨f.blocks[k],by simp[aZ]⟩
  have jc:=List.mem_of_getElem? hb;have S':∀v∈Ci b,0<=v∧v<=4095:=fun v hv=>hf v (List.mem_flatMap.2 ⟨b,jc,hv⟩);rw[bS hb]at cO;rw[List.flatMap_cons,List.foldl_append,Ci,List.foldl_append]at cO;have RB:=RB b jc;have T4:=hlen (.cells [aI x]);refine aK (aj ?_);refine aX ?_;simp -dsimp only[simprocAttr,↓aa,zp,hb];refine ah ?_;refine aO 5 ([a6 b.params,bD b.ins,aI b.term.kind,aI b.term.arg,aI b.term.n,a6 b.term.cases,aJ b.term.to]) [(1,.fn (.func 38) [] [.mp A 0]),(5,.ip none [a6 b.params,bD b.ins,aI b.term.kind,aI b.term.arg,aI b.term.n,a6 b.term.cases,aJ b.term.to]),(11,ay f.blocks),(12,aI f.blocks.length),(13,aI k)] rfl (by rfl) (by omega) (by simp[bu,a7,Go.Av.look]) ?_ ?_ ?_
  ·exact fY x
  ·simp[ae.upto,aw,az,Block.ai,Edge.ai,bE.ai,yS]
  refine b8 (ah ?_);refine aj (aU (ι:={y:Nat×Int // y.1<=b.params.length∧R=((f.blocks.drop (k+1)).flatMap Ci).foldl B' ((b.ins.map bE.to).foldl B' ((b.params.drop y.1).foldl B' y.2))∧y.2<=4096}) (fun y=>⟨41,[(1,.fn (.func 38) [] [.mp A 0]),(5,.ip none [a6 b.params,bD b.ins,aI b.term.kind,aI b.term.arg,aI b.term.n,a6 b.term.cases,aJ b.term.to]),(11,ay f.blocks),(12,aI f.blocks.length),(13,aI k),(18,a6 b.params),(19,aI b.params.length),(20,aI y.1.1)],O.set A (.cells [aI y.1.2])⟩) (fun y=>b.params.length-y.1.1) ⟨(0,x),by simp,cO,hx⟩ ?_ ?_)
  ·refine zq rfl ?_ ?_;simp -dsimp only[simprocAttr,↓aa,zp,zc];rfl
  rintro⟨⟨j,y⟩,hj,fB,hy⟩;simp only at hj fB hy;refine aA (ah ?_);apply gW rfl<;>intro h
  ·refine cA ?_;have RM:j<b.params.length:=by simpa using h
   obtain⟨v,hv⟩:∃v,b.params[j]?=some v:=⟨b.params[j],by simp[RM]⟩
   rw[bS hv,List.foldl_cons]at fB;have R0:=S' v (by simp[Ci,List.mem_of_getElem? hv]);have dh:=Mg (fY y) (Sn _) v ⟨R0.1,by omega⟩;rw[dD]at dh;refine aK (aj ?_);refine aX ?_;simp -dsimp only[simprocAttr,↓aa,zp,hv];refine ah ?_;refine dc ?_;refine .inr (.inl ⟨_,_,dh,.inl (au (zj ?_))⟩);refine ah ?_;refine dc ?_
   repeat(refine⟨by omega,?_⟩)
   refine fV ?_;refine⟨⟨(j+1,B' y v),RM,fB,MJ hy R0.2⟩,by simp;omega,?_⟩;refine zq rfl ?_ ?_;simp -dsimp only[simprocAttr,↓aa,zp,zc]
   ·exact Sub.int (by simp)
   rfl
  refine aR ?_;simp -dsimp only[bX,ne_eq,Nat.reduceEqDiff,reduceCtorEq];have oH:j=b.params.length:=by simp at h;omega
  subst oH;rw[List.drop_length,List.foldl_nil]at fB;refine aA (ah ?_);refine aj (aU (ι:={z:Nat×Int // z.1<=b.ins.length∧R=((f.blocks.drop (k+1)).flatMap Ci).foldl B' (((b.ins.drop z.1).map bE.to).foldl B' z.2)∧z.2<=4096}) (fun z=>⟨41,[(1,.fn (.func 38) [] [.mp A 0]),(11,ay f.blocks),(12,aI f.blocks.length),(13,aI k),(29,bD b.ins),(30,aI b.ins.length),(31,aI z.1.1)],O.set A (.cells [aI z.1.2])⟩) (fun z=>b.ins.length-z.1.1) ⟨(0,y),by simp,fB,hy⟩ ?_ ?_)
  ·refine zq rfl ?_ ?_;simp -dsimp only[simprocAttr,↓aa,zp,zc];rfl
  rintro⟨⟨q,z⟩,hq,RT,hz⟩;simp only at hq RT hz;refine aA (ah ?_);apply gW rfl<;>intro h
  ·refine cA ?_;have RN:q<b.ins.length:=by simpa using h
   obtain⟨i,hi⟩:∃i,b.ins[q]?=some i:=⟨b.ins[q],by simp[RN]⟩
   rw[bS hi,List.map_cons,List.foldl_cons]at RT;have R0:=S' i.to (by simp only[Ci,List.mem_append,List.mem_map];exact .inr ⟨i,List.mem_of_getElem? hi,rfl⟩);have dh:=Mg (fY z) (Sn _) i.to ⟨R0.1,by omega⟩;rw[dD]at dh;have T4:=hlen (.cells [aI z]);refine aK (aj ?_);refine aX ?_;simp -dsimp only[simprocAttr,↓aa,zp,hi];refine ah ?_;refine aO 9 ([aI i.to,aI i.op,aI i.n,a6 i.args]) [(1,.fn (.func 38) [] [.mp A 0]),(9,.ip none [aI i.to,aI i.op,aI i.n,a6 i.args]),(11,ay f.blocks),(12,aI f.blocks.length),(13,aI k),(29,bD b.ins),(30,aI b.ins.length),(31,aI q)] rfl (by rfl) (by omega) (by simp[bu,a7,Go.Av.look]) ?_ ?_ ?_
   ·exact fY z
   ·simp[ae.upto,aw,az,Block.ai,Edge.ai,bE.ai,yS]
   refine dc ?_;refine .inr (.inl ⟨_,_,dh,.inl (au (zj ?_))⟩);refine ah ?_;refine dc ?_
   repeat(refine⟨by omega,?_⟩)
   refine fV ?_;refine⟨⟨(q+1,B' z i.to),RN,RT,MJ hz R0.2⟩,by simp;omega,?_⟩;refine zq rfl ?_ ?_;simp -dsimp only[simprocAttr,↓aa,zp,zc]
   ·exact Sub.int (by simp)
   rfl
  refine aR ?_;simp -dsimp only[bX,ne_eq,Nat.reduceEqDiff,reduceCtorEq];have T8:q=b.ins.length:=by simp at h;omega
  subst T8;rw[List.drop_length,List.map_nil,List.foldl_nil]at RT;refine dc ?_
  repeat(refine⟨by omega,?_⟩)
  refine fV ?_;refine⟨⟨(k+1,z),aZ,RT,hz⟩,by simp;omega,?_⟩;refine zq rfl ?_ ?_;simp -dsimp only[simprocAttr,↓aa,zp,zc]
  ·exact Sub.int (by simp)
  rfl
 refine aR ?_;simp -dsimp only[bX,ne_eq,Nat.reduceEqDiff,reduceCtorEq];have gT:k=f.blocks.length:=by simp at h;omega
 subst gT;rw[List.drop_length,List.flatMap_nil,List.foldl_nil]at cO;subst cO
 skip
 simp -dsimp only[simprocAttr,↓aa,zp,zr,Try.results37,iz,List.length_set];have:=fY R;rw[hlen]at this;exact⟨this,trivial⟩
theorem MG(f:Func)(hf:Pr f)(iI:f.blocks.length<=2 ^ 47)(RB:∀b∈f.blocks,b.params.length<=2 ^ 47∧b.ins.length<=2 ^ 47):bw Try.prog 17 [f.enc] (aI (p' f)):=by
 have Pc:=N5 (O:=[.gone,.cells [aI 0]]) (A:=1) (by simp[ak.upto,aw,ae.upto]) f hf iI RB rfl;refine zf true 0 Try.func17 Try.ntmps17 ?_;dsimp only[Tmp,TypeId,ax];refine aA (ah ?_);refine aH 1 0 (.ip none [aI f.name,ay f.blocks]) rfl (by simp[ak.aF]) trivial rfl ?_ ?_;rotate_left;simp -dsimp only[simprocAttr,↓aa,zp]
 ·refine aA (ah ?_);refine aA ?_;refine .inr (.inl ⟨_,_,Pc,.inl (au (zj ?_))⟩);refine ah ?_;refine aA (ah ?_);refine aq ?_;simp -dsimp only[simprocAttr,↓aa,zp,zr,Try.results17]
 exact cw.mp rfl rfl
end Go.Proofs.Ytkhnjeblbiocaaa
namespace Go.Av
theorem RV.Sb{g:G}{sz:Nat}{xs:List ae}{a:Addr}{len cap:Nat}(h:RV g (.aE sz xs .sh) (.slice (some a) len cap)):RV g (.aE sz xs .nn) (.slice (some a) len cap):=by
 cases h with
 | aE cU dz cQ cF hs f hm hr ho=>exact .aE cU dz cQ cF hs f hm hr trivial
theorem cw.R6{O:List ak}{id off len cap sz:Nat}{cs xs:List ae}(fA:O[id]?=some (.cells cs))(cU:∀x∈xs,x.cells.length=sz)(hlen:xs.length=len)(hd:((cs.drop off).take (len*sz)).map ae.bk=ao xs):cw O id (.ms id off len cap) (.aE sz xs .nn):=fun g u l' hg hO he hle h=>by
 have k:=cw.ms fA cU hlen hd g u l' hg hO he hle h;obtain⟨l,o1,h1,h2,_,xy,cF,ez,cQ,eu⟩:=h.jL;subst eu;exact k.Sb
end Go.Av
namespace Go.Proofs.Ytkhnjeblbiocaaa
open Go.Av
theorem KJ(n:Nat)(l:List Bool):aw n (l.map eB):=by
 rw[aY];intro x hx;obtain⟨b,_,rfl⟩:=List.mem_map.1 hx;trivial
theorem Me(n:Nat):(List.replicate n [ae.v (.bool false)]).flatten=(List.replicate n false).map eB:=by
 induction n with
 | zero=>rfl
 | succ n ih=>rw[List.replicate_succ,List.flatten_cons,ih,List.replicate_succ];rfl
theorem Py(l:List Bool):ao (l.map eB)=l.map eB:=by
 induction l with
 | nil=>rfl
 | cons a r ih =>
  simp only[List.map_cons,ao,List.flatMap_cons]at ih ⊢;rw[ih];rfl
theorem Pz(l:List Bool):(l.map eB).map ae.bk=l.map eB:=by
 rw[List.map_map];rfl
theorem Rq(l:List Bool):∀x∈l.map eB,x.cells.length=1:=fun x hx=>by
 obtain⟨b,_,rfl⟩:=List.mem_map.1 hx;rfl
theorem OW{O:List ak}{id:Nat}{l:List Bool}{len cap:Nat}(h:O[id]?=some (.cells (l.map eB)))(hl:l.length=len):cw O id (.ms id 0 len cap) (.aE 1 (l.map eB) .nn) :=
 cw.R6 h (Rq l) (by simpa using hl) (by rw[List.drop_zero,List.take_of_length_le (by simp;omega),Pz,Py])
theorem Oc{l:List Bool}{j:Nat}(h:j<l.length)(b:Bool):aS (l.map eB) j [.v (.bool b)]=(l.set j b).map eB:=by
 rw[GB _ (by simpa using h),List.map_set];rfl
def R8(l:List Bool)(v:Int)(b:Bool):List Bool:=l.set v.toNat b
def Q1(l:List Bool)(vs:List Int):List Bool:=vs.foldl (fun s v=>R8 s v true) l
def OE(i:bE)(now:List Bool):List Bool:=Q1 (R8 now i.to false) i.args
def Qs(l:List bE)(now:List Bool):List Bool:=l.foldr OE now
structure Sr where
 seen:List Bool
 st:List (Int×Int)
 out:List Int
def Lf(f:Func)(b:Int):List Edge:=(aD f b).term.to
def qm(f:Func)(b e:Int):Int:=((Lf f b)[e.toNat]?.getD default).block
def w6(f:Func)(S:Sr):Sr :=
 match S.st with
 | []=>S
 | (b,e)::r =>
  if e=(Lf f b).length then⟨S.seen,r,S.out++[b]⟩
  else if S.seen[(qm f b e).toNat]?.getD false=true then⟨S.seen,(b,e+1)::r,S.out⟩
  else⟨S.seen.set (qm f b e).toNat true,(qm f b e,0)::(b,e+1)::r,S.out⟩
def KD(f:Func):Nat->Sr->Sr
 | 0,S=>S
 | n+1,S=>if S.st.isEmpty then S else KD f n (w6 f S)
def ql(f:Func):Sr:=⟨(List.replicate f.blocks.length false).set 0 true,[(0,0)],[]⟩
def C2(f:Func):List Int:=(KD f 100000 (ql f)).out
structure MV(f:Func)(S:Sr):Prop where
 len:S.seen.length=f.blocks.length
 blk:∀p∈S.st,0<=p.1∧p.1<f.blocks.length∧0<=p.2∧p.2<=(Lf f p.1).length
 few:S.out.length+S.st.length<=S.seen.countP id
 outs:∀b∈S.out,0<=b∧b<f.blocks.length
def Rk:List (Int×Int)->Nat
 | []=>0
 | p::r=>(258-p.2.toNat)+Rk r
def P7(S:Sr):Nat:=300*(S.seen.length-S.seen.countP id)+Rk S.st
structure N9(f:Func):Prop where
 ne:f.blocks≠[]
 few:f.blocks.length<=128
 to:∀b∈f.blocks,b.term.to.length<=257
 db:∀b∈f.blocks,∀e∈b.term.to,1<=e.block∧e.block<f.blocks.length
theorem DC.gr{f:Func}(h:DC f):N9 f :=
 ⟨h.ne,h.few,fun b hb=>Q4 (jE (h.blk b hb).fin),fun b hb e he=>by
  have:=((jE (h.blk b hb).fin).db e he).1;omega⟩
theorem N9.next{f:Func}(h:N9 f){b e:Int}(hb:0<=b∧b<f.blocks.length)(h0:0<=e)(h1:e<(Lf f b).length):∃x,(Lf f b)[e.toNat]?=some x∧x.block=qm f b e∧1<=qm f b e∧qm f b e<f.blocks.length:=by
 have aZ:e.toNat<(Lf f b).length:=by omega
 have hx:(Lf f b)[e.toNat]?=some (Lf f b)[e.toNat]:=List.getElem?_eq_getElem aZ;refine⟨_,hx,by rw[qm,hx];rfl,?_⟩;have:=h.db _ (fh hb.1 hb.2) (Lf f b)[e.toNat] (List.getElem_mem aZ);rw[qm,hx];exact this
theorem Lg{l:List Bool}{k:Nat}(hk:k<l.length)(h:l[k]?.getD false=false):(l.set k true).countP id=l.countP id+1:=by
 induction l generalizing k with
 | nil=>simp at hk
 | cons a r ih =>
  cases k with
  | zero =>
   simp only[List.getElem?_cons_zero,Option.getD_some]at h;subst h;simp
  | succ k =>
   simp only[List.getElem?_cons_succ]at h;have:=ih (by simpa using hk) h;simp only[List.set_cons_succ,List.countP_cons,this];omega
theorem Lt{f:Func}(hg:N9 f){S:Sr}(h:MV f S)(cj:S.st≠[]):MV f (w6 f S)∧P7 (w6 f S)<P7 S:=by
 obtain⟨seen,st,out⟩:=S;cases st with
 | nil=>exact absurd rfl cj
 | cons p r =>
  obtain⟨b,e⟩:=p;obtain⟨h1,h2,h3,h4⟩:=h;simp only at h1 h2 h3 h4;have hp:=h2 (b,e) (by simp);simp only at hp;have m7:(Lf f b).length<=257:=hg.to _ (fh hp.1 hp.2.1);have hc:seen.countP id<=seen.length:=List.countP_le_length;simp only[List.length_cons]at h3;simp only[w6];by_cases he:e=(Lf f b).length
  ·rw[if_pos he];refine⟨⟨h1,fun p hp=>h2 p (by simp[hp]),by simp only[List.length_append,List.length_cons,List.length_nil];omega,fun x hx=>?_⟩,?_⟩
   ·rcases List.mem_append.1 hx with q|q
    ·exact h4 x q
    simp only[List.mem_singleton]at q;subst q;exact⟨hp.1,hp.2.1⟩
   simp only[P7,Rk];omega
  rw[if_neg he];obtain⟨x,hx,Pd,nR,r9⟩:=hg.next ⟨hp.1,hp.2.1⟩ hp.2.2.1 (by omega)
  by_cases hs:seen[(qm f b e).toNat]?.getD false=true
  ·rw[if_pos hs];refine⟨⟨h1,fun p QT=>?_,by simpa using h3,h4⟩,?_⟩
   ·rcases List.mem_cons.1 QT with q|q
    ·subst q;exact⟨hp.1,hp.2.1,by simp only;omega,by simp only;omega⟩
    exact h2 p (by simp[q])
   simp only[P7,Rk];omega
  rw[if_neg hs];have DV:seen[(qm f b e).toNat]?.getD false=false:=by simpa using hs
  have hk:(qm f b e).toNat<seen.length:=by omega
  have eZ:=Lg hk DV;have eJ:(seen.set (qm f b e).toNat true).countP id<=(seen.set (qm f b e).toNat true).length:=List.countP_le_length;rw[List.length_set]at eJ;refine⟨⟨by simpa using h1,fun p QT=>?_,by simp only[List.length_cons,eZ];omega,h4⟩,?_⟩
  ·rcases List.mem_cons.1 QT with q|q
   ·subst q;exact⟨by simp only;omega,r9,by simp,by simp⟩
   rcases List.mem_cons.1 q with q|q
   ·subst q;exact⟨hp.1,hp.2.1,by simp only;omega,by simp only;omega⟩
   exact h2 p (by simp[q])
  simp only[P7,Rk,List.length_set,eZ];omega
theorem LV{f:Func}(hg:N9 f):∀(n:Nat) (S:Sr),MV f S->P7 S<n->MV f (KD f n S)∧(KD f n S).st=[]
 | 0,S,_,h=>by omega
 | n+1,S,h,hw=>by
  simp only[KD];cases dD:S.st with
  | nil=>simpa[dD]using h
  | cons p r =>
   simp only[List.isEmpty_cons,Bool.false_eq_true,if_false];have:=Lt hg h (by rw[dD];simp);exact LV hg n _ this.1 (by omega)
theorem Ld{f:Func}(hg:N9 f):MV f (ql f)∧P7 (ql f)<100000:=by
 have hl:0<f.blocks.length:=by
  cases hb:f.blocks with
  | nil=>exact absurd hb hg.ne
  | cons=>simp
 have wj:=hg.few;have hc:((List.replicate f.blocks.length false).set 0 true).countP id=1:=by
  rw[Lg (by simpa using hl) (by simp[hl])];simp[List.countP_replicate]
 refine⟨⟨by simp[ql],fun p hp=>?_,by simp only[ql,hc];simp,by simp[ql]⟩,?_⟩
 ·simp only[ql,List.mem_singleton]at hp;subst hp;exact⟨by simp,by simp;omega,by simp,by simp⟩
 simp only[P7,ql,hc,List.length_set,List.length_replicate,Rk];simp;omega
def K2:List (Int×Int)->List ae
 | []=>[]
 | p::r=>K2 r++[aI p.1,aI p.2]
theorem Cy:∀l:List (Int×Int),(K2 l).length=l.length*2
 | []=>rfl
 | p::r=>by
  simp only[K2,List.length_append,Cy r,List.length_cons,List.length_nil];omega
theorem L7(n:Nat):∀l:List (Int×Int),aw n (K2 l)
 | []=>trivial
 | p::r=>by
  rw[aY];intro x hx;rcases List.mem_append.1 hx with q|q
  ·exact aY.1 (L7 n r) x q
  simp only[List.mem_cons,List.not_mem_nil,or_false]at q;rcases q with rfl|rfl<;>trivial
structure So where
 S:Sr
 sid:Nat
 zU:Nat
 O:List ak
def LK(O:List ak)(id:Nat):List ae :=
 match O[id]? with
 | some (.cells cs)=>cs
 | _=>[]
def Ls(O:List ak)(zU:Nat)(out:List Int)(b:Int):List ak :=
 if out=[]then(O++[ak.cells [aI b]]).set 1 (.cells [.os O.length 1 1])
 else(O.set zU .gone++[ak.cells ((out++[b]).map aI)]).set 1 (.cells [.os O.length (out.length+1) 1])
def KN(f:Func)(X:So):So :=
 match X.S.st with
 | []=>X
 | (b,e)::r =>
  if e=(Lf f b).length then⟨w6 f X.S,X.sid,X.O.length,Ls X.O X.zU X.S.out b⟩
  else
   let cs:=(LK X.O X.sid).set (r.length*2+1) (aI (e+1));let O1:=X.O.set X.sid (.cells cs)
   if X.S.seen[(qm f b e).toNat]?.getD false=true then⟨w6 f X.S,X.sid,X.zU,O1⟩
   else
    let O2:=O1.set 2 (.cells ((X.S.seen.set (qm f b e).toNat true).map eB))
    ⟨w6 f X.S,O2.length,X.zU,O2.set X.sid .gone++[ak.cells (cs.take ((r.length+1)*2)++[aI (qm f b e),aI 0])]⟩
def KW(f:Func):Nat->So->So
 | 0,X=>X
 | n+1,X=>if X.S.st.isEmpty then X else KW f n (KN f X)
theorem N2(f:Func)(X:So):(KN f X).S=w6 f X.S:=by
 unfold KN;cases dD:X.S.st with
 | nil=>simp[w6,dD]
 | cons p r =>
  simp only;split
  ·rfl
  split<;>rfl
theorem Nz(f:Func):∀(n:Nat) (X:So),(KW f n X).S=KD f n X.S
 | 0,X=>rfl
 | n+1,X=>by
  simp only[KW,KD];split
  ·rfl
  rw[Nz f n,N2]
structure SO(X:So):Prop where
 up:∀o∈X.O,o.upto X.O.length
 out:X.O[1]?=some (.cells [PO X.zU X.S.out])
 outs:X.S.out≠[]->X.O[X.zU]?=some (.cells (X.S.out.map aI))∧X.zU≠X.sid∧2<X.zU
 seen:X.O[2]?=some (.cells (X.S.seen.map eB))
 Uk:∃Lw,X.O[X.sid]?=some (.cells (K2 X.S.st++Lw))
 Uj:2<X.sid
theorem SO.step{f:Func}{X:So}(h:SO X):SO (KN f X):=by
 obtain⟨⟨seen,st,out⟩,sid,zU,O⟩:=X;obtain⟨h1,h2,h3,h4,⟨Lw,h5⟩,h6⟩:=h;simp only at h1 h2 h3 h4 h5 h6;have l1:=I h2;have l2:=I h4;have fe:=I h5;cases st with
 | nil=>exact⟨h1,h2,h3,h4,⟨Lw,h5⟩,h6⟩
 | cons p r =>
  obtain⟨b,e⟩:=p;simp only[KN,w6];by_cases he:e=(Lf f b).length
  ·rw[if_pos he,if_pos he];by_cases ho:out=[]
   ·subst ho;simp only[Ls,if_true,List.nil_append];refine⟨?_,?_,fun _=>⟨?_,by simp only;omega,by simp only;omega⟩,?_,⟨[aI b,aI e]++Lw,?_⟩,h6⟩
    ·have:=bF (n:=O.length+1) (k:=1) (x:=.cells [.os O.length 1 1]) (FH (fun o ho=>ak.cu (by omega) (h1 o ho)) (x:=.cells [aI b]) ⟨trivial,trivial⟩) ⟨show _<_ by omega,trivial⟩;simpa using this
    ·simp only;rw[List.getElem?_set_self (by simp;omega)];rfl
    ·simp only;rw[List.getElem?_set_ne (by omega),List.getElem?_append_right (Nat.le_refl _)];simp
    ·simp only;rw[List.getElem?_set_ne (by omega),List.getElem?_append_left l2];exact h4
    simp only;rw[List.getElem?_set_ne (by omega),List.getElem?_append_left fe,h5];simp[K2]
   obtain⟨k1,k2,k3⟩:=h3 ho;have lo:=I k1;simp only[Ls,if_neg ho];refine⟨?_,?_,fun _=>⟨?_,by simp only;omega,by simp only;omega⟩,?_,⟨[aI b,aI e]++Lw,?_⟩,h6⟩
   ·have:=bF (n:=O.length+1) (k:=1) (x:=.cells [.os O.length (out.length+1) 1]) (FH (bF (k:=zU) (x:=.gone) (fun o ho=>ak.cu (by omega) (h1 o ho)) trivial) (x:=.cells ((out++[b]).map aI)) (az _ _)) ⟨show _<_ by omega,trivial⟩;simpa using this
   ·simp only;rw[List.getElem?_set_self (by simp;omega)];simp[PO]
   ·simp only;rw[List.getElem?_set_ne (by omega),List.getElem?_append_right (by simp)];simp
   ·simp only;rw[List.getElem?_set_ne (by omega),List.getElem?_append_left (by simpa using l2),List.getElem?_set_ne (by omega)];exact h4
   simp only;rw[List.getElem?_set_ne (by omega),List.getElem?_append_left (by simpa using fe),List.getElem?_set_ne (by omega),h5];simp[K2]
  rw[if_neg he,if_neg he];have eZ:(LK O sid).set (r.length*2+1) (aI (e+1))=K2 ((b,e+1)::r)++Lw:=by
   simp only[LK,h5,K2];rw[List.append_assoc,List.set_append_right _ _ (by rw[Cy];omega),Cy,show r.length*2+1-r.length*2=1 by omega];simp
  rw[eZ];have EM:aw O.length Lw:=by
   rw[aY];intro x hx;have:=h1 _ (List.mem_of_getElem? h5);exact aY.1 this x (List.mem_append.2 (.inr hx))
  have ry:aw O.length (K2 ((b,e+1)::r)++Lw):=by
   rw[aY];intro x hx;rcases List.mem_append.1 hx with q|q
   ·exact aY.1 (L7 _ _) x q
   exact aY.1 EM x q
  by_cases hs:seen[(qm f b e).toNat]?.getD false=true
  ·rw[if_pos hs,if_pos hs];refine⟨?_,?_,fun ho=>?_,?_,⟨Lw,?_⟩,h6⟩
   ·have:=bF (n:=O.length) (k:=sid) (x:=.cells (K2 ((b,e+1)::r)++Lw)) h1 ry;simpa using this
   ·simp only;rw[List.getElem?_set_ne (by omega)];exact h2
   ·obtain⟨k1,k2,k3⟩:=h3 ho;refine⟨?_,k2,k3⟩;simp only;rw[List.getElem?_set_ne (fun q=>k2 q.symm)];exact k1
   ·simp only;rw[List.getElem?_set_ne (by omega)];exact h4
   simp only;rw[List.getElem?_set_self fe]
  rw[if_neg hs,if_neg hs]
  skip
  have iz:(K2 ((b,e+1)::r)++Lw).take ((r.length+1)*2)=K2 ((b,e+1)::r):=by
   rw[List.take_append_of_le_length (by rw[Cy];simp),List.take_of_length_le (by rw[Cy];simp)]
  rw[iz];refine⟨?_,?_,fun ho=>?_,?_,⟨[],?_⟩,?_⟩
  ·have a1:=bF (n:=O.length) (k:=sid) (x:=.cells (K2 ((b,e+1)::r)++Lw)) h1 ry;have a2:=bF (k:=2) (x:=.cells ((seen.set (qm f b e).toNat true).map eB)) a1 (KJ _ _);have a3:=bF (k:=sid) (x:=.gone) a2 trivial;have a4:=FH (n:=O.length+1) (x:=.cells (K2 ((b,e+1)::r)++[aI (qm f b e),aI 0])) (fun o ho=>ak.cu (by omega) (a3 o ho)) (by
    show aw _ _;have:=L7 (O.length+1) ((qm f b e,0)::(b,e+1)::r);exact this)
   simpa using a4
  ·simp only;rw[List.getElem?_append_left (by simp;omega),List.getElem?_set_ne (by omega),List.getElem?_set_ne (by omega),List.getElem?_set_ne (by omega)];exact h2
  ·obtain⟨k1,k2,k3⟩:=h3 ho;have lo:=I k1;refine⟨?_,by simp;omega,k3⟩;simp only;rw[List.getElem?_append_left (by simpa using lo),List.getElem?_set_ne (fun q=>k2 q.symm),List.getElem?_set_ne (by omega),List.getElem?_set_ne (fun q=>k2 q.symm)];exact k1
  ·simp only;rw[List.getElem?_append_left (by simpa using l2),List.getElem?_set_ne (by omega),List.getElem?_set_self (by simpa using l2)]
  ·simp only[List.length_set];rw[List.getElem?_append_right (by simp)];simp[K2]
  simp;omega
def E1(f:Func):So:=⟨ql f,3,0,[.gone,.cells [.aE 1 [] .ex],.cells ((ql f).seen.map eB),.cells [aI 0,aI 0]]⟩
theorem Lb(f:Func):SO (E1 f) where
 up:=by
  intro o ho;simp only[E1,List.mem_cons,List.not_mem_nil,or_false]at ho;rcases ho with rfl|rfl|rfl|rfl
  ·trivial
  ·exact⟨⟨trivial,trivial⟩,trivial⟩
  ·exact KJ _ _
  exact⟨trivial,trivial,trivial⟩
 out:=rfl
 outs:=fun h=>absurd rfl h
 seen:=rfl
 Uk:=⟨[],rfl⟩
 Uj:=by simp[E1]
theorem Mm(f:Func)(hg:N9 f) :
  bc Try.prog 87 [.gone,.cells [.aE 1 [] .ex]] [f.enc,.fn (.func 88) [] [.mp 1 0]] (fun r O'=>r=.df []∧O'=(KW f 100000 (E1 f)).O):=by
 have S4:=hg.few;have hl:0<f.blocks.length:=by
  cases hb:f.blocks with
  | nil=>exact absurd hb hg.ne
  | cons=>simp
 obtain⟨N,hN⟩:∃N,N=f.blocks.length:=⟨_,rfl⟩
 obtain⟨F,hF⟩:∃F,F=KW f 100000 (E1 f):=⟨_,rfl⟩
 rw[<-hF];have gT:[ak.gone,ak.cells [ae.aE 1 [] .ex]].length<=F.O.length:=by
  have key:∀(n:Nat) (X:So),SO X->SO (KW f n X):=fun n=>by
   induction n with
   | zero=>exact fun X h=>h
   | succ n ih =>
    intro X h;simp only[KW];split
    ·exact h
    exact ih _ h.step
  have:=I (key 100000 _ (Lb f)).out;rw[<-hF]at this;simp only[List.length_cons,List.length_nil];omega
 refine gb hT true (F.O.length) Try.func87 rfl (by kernel_rfl) (by simp[Try.ntmps87]) (by assumption) ?_;show cc Try.prog _ _ _ ⟨81,_,_⟩;dsimp only[Tmp,TypeId,ax];refine aA (ah ?_);refine aH 2 2 (.ip none [aI f.name,ay f.blocks]) rfl (by simp[ak.aF]) trivial rfl ?_ ?_;rotate_left;simp -dsimp only[simprocAttr,↓aa,zp]
 ·refine bT 2 [(1,.fn (.func 88) [] [.mp 1 0]),(2,.ip none [aI f.name,ay f.blocks])] (by simp) (by omega) [.gone,.cells [.aE 1 [] .ex]] ?_ ?_ ?_ ?_ ?_
  ·rfl
  ·simp[ak.upto,aw,ae.upto,az,Block.ai]
  ·simp[gj,St.get,bu,a7,Go.Av.look,Sub.refl]
  ·simp[ak.upto,aw,ae.upto,az,Block.ai]
  refine aX ?_;simp -dsimp only[simprocAttr,↓aa,zp,Me,<-hN];refine⟨by omega,by omega,?_⟩;refine ah ?_;refine aA ?_;have sS:aS ((List.replicate N false).map eB) 0 [.v (.bool true)]=(ql f).seen.map eB:=by
   rw[GB _ (by simp;omega)];simp only[ql,<-hN,List.map_set];rfl
  refine⟨by omega,by simp;omega,?_⟩;rw[sS];refine ah ?_;refine aK (kT ⟨false,false⟩ hT 1 rfl rfl rfl (by simp) ?_);simp -dsimp only[simprocAttr,↓aa,zp];refine PM hT rfl rfl (by simp) rfl rfl rfl (by simp) rfl (by intro p hp;simp at hp;subst hp;trivial) rfl rfl (by intro x hx;simp at hx;subst hx;rfl) (by simp) (by simp) ?_;simp -dsimp only[simprocAttr,↓aa,zp];refine ah ?_;have RQ:=Ld hg;refine aj (aU (ι:={X:So // SO X∧MV f X.S∧∃n,P7 X.S<n∧F=KW f n X}) (fun X=>⟨81,[(1,.fn (.func 88) [] [.mp 1 0]),(2,.ip none [aI f.name,ay f.blocks]),(4,.ms 2 0 N N),(5,.os X.1.sid X.1.S.st.length 2)],X.1.O⟩) (fun X=>P7 X.1.S) ⟨E1 f,Lb f,RQ.1,100000,RQ.2,hF⟩ ?_ ?_)
  ·refine zq rfl ?_ ?_;simp -dsimp only[simprocAttr,↓aa,zp,zc]
   all_goals first|rfl|exact Sub.refl _
  rintro⟨X,hX,hS,n,hn,Ti⟩;have Re:=hX.step (f:=f);obtain⟨⟨seen,st,out⟩,sid,zU,O⟩:=X;obtain⟨h1,h2,h3,h4,⟨Lw,h5⟩,h6⟩:=id hX;simp only at h1 h2 h3 h4 h5 h6 hn;cases st with
  | nil =>
   refine b8 (ah ?_);refine cE rfl ?_;refine aR ?_;simp -dsimp only[bX,ne_eq,Nat.reduceEqDiff,reduceCtorEq];have TB:F.O=O:=by
    rw[Ti];cases n with
    | zero=>rfl
    | succ n=>rfl
   skip
   simp -dsimp only[simprocAttr,↓aa,zp,zr,Try.results87];rw[TB];exact⟨by simp,by rw[List.take_of_length_le (Nat.le_refl _)];exact h1,trivial,List.take_of_length_le (Nat.le_refl _)⟩
  | cons p r =>
   obtain⟨b,e⟩:=p;have bV:=Lt hg hS (by simp);obtain⟨n,rfl⟩:∃n',n=n'+1:=⟨n-1,by omega⟩
   have Pb:F=KW f n (KN f ⟨⟨seen,(b,e)::r,out⟩,sid,zU,O⟩):=Ti;have Us:=N2 f ⟨⟨seen,(b,e)::r,out⟩,sid,zU,O⟩;have hp:=hS.blk (b,e) (by simp);simp only at hp;have Ua:r.length<=128:=by
    have a1:=hS.few;have a2:seen.countP id<=seen.length:=List.countP_le_length;have a3:=hS.len;simp only[List.length_cons]at a1 a3;omega
   have Cr:((r.length+1:Nat):Int)-1=(r.length:Nat):=by omega
   obtain⟨B,hB⟩:∃B,B=aD f b:=⟨_,rfl⟩
   have S0:=dy hp.1 hp.2.1;rw[<-hB]at S0;have m7:Lf f b=B.term.to:=by rw[hB];rfl
   have Br:(K2 ((b,e)::r)++Lw)[r.length*2]?=some (aI b):=by
    rw[K2,List.append_assoc,List.getElem?_append_right (by rw[Cy];omega),Cy,Nat.sub_self];rfl
   have rZ:(K2 ((b,e)::r)++Lw)[r.length*2+1]?=some (aI e):=by
    rw[K2,List.append_assoc,List.getElem?_append_right (by rw[Cy];omega),Cy,show r.length*2+1-r.length*2=1 by omega];rfl
   obtain⟨cs,eZ⟩:∃cs,cs=K2 ((b,e)::r)++Lw:=⟨_,rfl⟩
   rw[<-eZ]at Br rZ h5;refine b8 (ah ?_);apply aP rfl<;>intro h
   ·refine cA ?_;refine aj ?_;refine aX ?_;simp -dsimp only[simprocAttr,↓aa,zp,Cr]
    repeat(refine⟨by omega,?_⟩)
    refine ah ?_;refine aX ?_;simp -dsimp only[simprocAttr,↓aa,zp,h5,Br,S0]
    repeat(refine⟨by omega,?_⟩)
    refine⟨ob (by kernel_rfl),?_⟩;refine ah ?_;by_cases he:e=(Lf f b).length
    ·have jn:decide (e=(B.term.to.length:Int))=true:=decide_eq_true (by rw[he,m7]);have EX:w6 f ⟨seen,(b,e)::r,out⟩=⟨seen,r,out++[b]⟩:=by simp only[w6];rw[if_pos he]
     have QA:KN f ⟨⟨seen,(b,e)::r,out⟩,sid,zU,O⟩=⟨⟨seen,r,out++[b]⟩,sid,O.length,Ls O zU out b⟩:=by simp only[KN];rw[if_pos he,EX]
     rw[QA]at Re Pb;simp only[EX]at bV;have T3:bc Try.prog 88 O [aI b,.mp 1 0] (fun r' O'=>r'=.df []∧O'=Ls O zU out b):=by
      unfold Ls;by_cases ho:out=[]
      ·rw[if_pos ho];exact Pe h1 (by rw[h2,ho];rfl) b
      rw[if_neg ho];obtain⟨k1,k2,k3⟩:=h3 ho;have a1:=hS.few;have a2:seen.countP id<=seen.length:=List.countP_le_length;have a3:=hS.len;simp only at a1 a3;exact PK h1 (by rw[h2,PO,if_neg ho]) k1 (by omega) (by omega) b
     refine dd ?_;simp -dsimp only[simprocAttr,↓aa,zp,h5,rZ,jn];refine ah ?_;refine cS rfl ?_;refine aX ?_;simp -dsimp only[simprocAttr,↓aa,zp,h5,Br];refine .inr (.inl ⟨_,_,T3,.inl (au (zj ?_))⟩);refine ah ?_;refine aX ?_;simp -dsimp only[simprocAttr,↓aa,zp,Cr]
     repeat(refine⟨by omega,?_⟩)
     refine ah ?_;refine aR ?_;simp -dsimp only[bX,ne_eq,Nat.reduceEqDiff,reduceCtorEq];refine⟨⟨_,Re,bV.1,n,?_,Pb⟩,?_,?_⟩
     ·have:=bV.2;simp only at this hn ⊢;omega
     ·exact bV.2
     refine zq rfl ?_ ?_;simp -dsimp only[simprocAttr,↓aa,zp,zc]
     all_goals rfl
    have jn:decide (e=(B.term.to.length:Int))=false:=decide_eq_false (by rw[<-m7];exact he);obtain⟨x,hx,Pd,nR,r9⟩:=hg.next ⟨hp.1,hp.2.1⟩ hp.2.2.1 (by omega)
    rw[m7]at hx;refine dd ?_;simp -dsimp only[simprocAttr,↓aa,zp,h5,rZ,jn];refine ah ?_;refine cE rfl ?_;refine cA ?_;refine aX ?_;simp -dsimp only[simprocAttr,↓aa,zp,h5,rZ,hx]
    repeat(refine⟨by omega,?_⟩)
    refine ah ?_;obtain⟨j,hj⟩:∃j:Nat,qm f b e=(j:Int):=⟨(qm f b e).toNat,by omega⟩
    have Tg:j<seen.length:=by
     have a3:=hS.len;simp only at a3;omega
    rw[hj]at Pd nR r9;obtain⟨sv,P5⟩:∃sv,seen[j]?=some sv:=⟨seen[j],List.getElem?_eq_getElem Tg⟩
    have RY:(seen.map eB)[j]?=some (.v (.bool sv)):=by rw[List.getElem?_map,P5];rfl
    have eJ:(r.length+1)*2<=cs.length:=by
     rw[eZ,List.length_append,Cy];simp
    obtain⟨Qt,Qd⟩:∃Qt,Qt=cs.set (r.length*2+1) (aI (e+1)):=⟨_,rfl⟩
    have sS:aS cs (r.length*2+1) [.v (.int .i64 (e+1))]=Qt:=by rw[GB _ (by omega),Qd]
    have TV:(r.length+1)*2<=Qt.length:=by rw[Qd,List.length_set];exact eJ
    obtain⟨O1,dW⟩:∃O1,O1=O.set sid (.cells Qt):=⟨_,rfl⟩
    have g5:O1[sid]?=some (.cells Qt):=by rw[dW];exact vz h5
    have g4:O1[2]?=some (.cells (seen.map eB)):=by rw[dW];exact bx h4 (by omega)
    have RC:LK O sid=cs:=by simp only[LK,h5]
    have Tw:(Lf f b).length<=257:=hg.to _ (fh hp.1 hp.2.1);refine aX ?_;simp -dsimp only[simprocAttr,↓aa,zp,h5,rZ]
    repeat(refine⟨by omega,?_⟩)
    refine ah ?_;rw[sS,<-dW];cases sv with
    | true =>
     have EX:w6 f ⟨seen,(b,e)::r,out⟩=⟨seen,(b,e+1)::r,out⟩:=by simp only[w6];rw[if_neg he,hj,Int.toNat_natCast,P5,if_pos (show(some true).getD false=true from rfl)]
     have QA:KN f ⟨⟨seen,(b,e)::r,out⟩,sid,zU,O⟩=⟨⟨seen,(b,e+1)::r,out⟩,sid,zU,O1⟩:=by simp only[KN];rw[if_neg he,EX,RC,hj,Int.toNat_natCast,P5,if_pos (show(some true).getD false=true from rfl),<-Qd,dW]
     rw[QA]at Re Pb;simp only[EX]at bV;refine aX ?_;simp -dsimp only[simprocAttr,↓aa,zp,g4,Pd,Int.toNat_natCast,RY,Nat.mul_one]
     repeat(refine⟨by omega,?_⟩)
     refine ah ?_;refine cE rfl ?_;refine Kx ?_;refine⟨⟨_,Re,bV.1,n,?_,Pb⟩,?_,?_⟩
     ·have:=bV.2;simp only at this hn ⊢;omega
     ·exact bV.2
     refine zq rfl ?_ ?_;simp -dsimp only[simprocAttr,↓aa,zp,zc]
     all_goals rfl
    | false =>
     have EX:w6 f ⟨seen,(b,e)::r,out⟩=⟨seen.set j true,((j:Int),0)::(b,e+1)::r,out⟩:=by simp only[w6];rw[if_neg he,hj,Int.toNat_natCast,P5,if_neg (by simp)]
     obtain⟨O2,rY⟩:∃O2,O2=O1.set 2 (.cells ((seen.set j true).map eB)):=⟨_,rfl⟩
     have c4:O2[sid]?=some (.cells Qt):=by rw[rY];exact bx g5 (by omega)
     have QA:KN f ⟨⟨seen,(b,e)::r,out⟩,sid,zU,O⟩=⟨⟨seen.set j true,((j:Int),0)::(b,e+1)::r,out⟩,O2.length,zU,O2.set sid .gone++[ak.cells (Qt.take ((r.length+1)*2)++[aI j,aI 0])]⟩:=by
      simp only[KN];rw[if_neg he,EX,RC,hj,Int.toNat_natCast,P5,if_neg (by simp),<-Qd,<-dW,<-rY]
     rw[QA]at Re Pb;simp only[EX]at bV;have RX:aS (seen.map eB) j [.v (.bool true)]=(seen.set j true).map eB:=by
      rw[GB _ (by simpa using Tg),List.map_set];rfl
     refine aX ?_;simp -dsimp only[simprocAttr,↓aa,zp,g4,Pd,Int.toNat_natCast,RY,Nat.mul_one]
     repeat(refine⟨by omega,?_⟩)
     refine ah ?_;refine cS rfl ?_;refine aX ?_;simp -dsimp only[simprocAttr,↓aa,zp,g4,Pd,Int.toNat_natCast,Nat.mul_one]
     repeat(refine⟨by omega,?_⟩)
     refine ah ?_;rw[RX,<-rY];refine j1 ?_;simp -dsimp only[simprocAttr,↓aa,zp,c4,Pd]
     repeat(refine⟨by omega,?_⟩)
     refine Jc ?_;refine⟨⟨_,Re,bV.1,n,?_,Pb⟩,?_,?_⟩
     ·have:=bV.2;simp only at this hn ⊢;omega
     ·exact bV.2
     refine zq rfl ?_ ?_;simp -dsimp only[simprocAttr,↓aa,zp,zc]
     all_goals rfl
   exact af h (by omega)
 exact cw.mp rfl rfl
def NF(l:List Int)(i:Nat)(m:List Int):Prop:=m.length=l.length∧∀k,k<l.length->m[k]?=if k<i∨l.length<=k+i then l[l.length-1-k]? else l[k]?
theorem Ot(l:List Int):NF l 0 l:=⟨rfl,fun k hk=>by rw[if_neg (by omega)]⟩
theorem Oq{l m:List Int}{i:Nat}(h:NF l i m)(hi:2*i+1<l.length){a b:Int}(ha:m[i]?=some a)(hb:m[l.length-1-i]?=some b):NF l (i+1) ((m.set i b).set (l.length-1-i) a):=by
 obtain⟨h1,h2⟩:=h;refine⟨by simpa using h1,fun k hk=>?_⟩;have e1:=h2 i (by omega);have e2:=h2 (l.length-1-i) (by omega);rw[if_neg (by omega)]at e1 e2;rw[List.getElem?_set,List.getElem?_set];simp only[List.length_set];by_cases q1:l.length-1-i=k
 ·rw[if_pos q1,if_pos (by omega),if_pos (by omega),<-ha,e1];congr 1;omega
 rw[if_neg q1];by_cases q2:i=k
 ·rw[if_pos q2,if_pos (by omega),if_pos (by omega),<-hb,e2,q2]
 rw[if_neg q2,h2 k hk];by_cases q3:k<i∨l.length<=k+i
 ·rw[if_pos q3,if_pos (by omega)]
 rw[if_neg q3,if_neg (by omega)]
theorem Oo{l m:List Int}{i:Nat}(h:NF l i m)(hi:l.length<=2*i+1):m=l.reverse:=by
 obtain⟨h1,h2⟩:=h;apply List.ext_getElem?;intro k;by_cases hk:k<l.length
 ·rw[h2 k hk,List.getElem?_reverse hk];split
  ·rfl
  congr 1;omega
 rw[List.getElem?_eq_none (by omega),List.getElem?_eq_none (by simp;omega)]
theorem LR{O:List ak}(bC:∀o∈O,o.upto O.length){zU:Nat}{l:List Int}(ho:O[zU]?=some (.cells (l.map aI)))(wo:l.length<=1000) :
  bc Try.prog 89 O [.os zU l.length 1] (fun r O'=>r=.df []∧O'=O.set zU (.cells (l.reverse.map aI))):=by
 have yh:=I ho;have fo:O.set zU (.cells (l.map aI))=O:=kG ho;have Sn:∀x,(O.set zU x)[zU]?=some x:=fun x=>List.getElem?_set_self yh;have iz:∀m:List Int,(O.set zU (.cells (m.map aI))).take O.length=O.set zU (.cells (m.map aI)):=fun m=>cG;have fY:∀m:List Int,∀o∈O.set zU (.cells (m.map aI)),o.upto O.length:=fun m=>bF bC (az _ _);refine zf true O.length Try.func89 Try.ntmps89 ?_;dsimp only[Tmp,TypeId,ax];refine aA ?_
 repeat(refine⟨by omega,?_⟩)
 refine ah ?_;refine aj (aU (ι:={x:Nat×List Int // x.1<=l.length∧NF l x.1 x.2}) (fun x=>⟨28,[(0,.os zU l.length 1),(2,aI x.1.1),(3,aI ((l.length:Int)-1-x.1.1))],O.set zU (.cells (x.1.2.map aI))⟩) (fun x=>l.length-x.1.1) ⟨(0,l),by simp,Ot l⟩ ?_ ?_)
 ·refine zq rfl ?_ ?_;simp -dsimp only[simprocAttr,↓aa,zp,zc];exact fo.symm
 rintro⟨⟨i,m⟩,hi,hr⟩;simp only at hi hr;have uF:=hr.1;refine b8 (ah ?_);apply aP rfl<;>intro h
 ·refine cA ?_;have aZ:2*i+1<l.length:=by
   have:=of_decide_eq_true h;omega
  obtain⟨j,hj⟩:∃j,j=l.length-1-i:=⟨_,rfl⟩
  have IT:(l.length:Int)-1-i=(j:Nat):=by omega
  obtain⟨a,ha⟩:∃a,m[i]?=some a:=⟨m[i]'(by omega),List.getElem?_eq_getElem _⟩
  obtain⟨b,hb⟩:∃b,m[j]?=some b:=⟨m[j]'(by omega),List.getElem?_eq_getElem _⟩
  have Qy:=Oq hr aZ ha (by rw[<-hj];exact hb);rw[<-hj]at Qy;have T5:(m.map aI)[i]?=some (aI a):=by rw[List.getElem?_map,ha];rfl
  have T6:(m.map aI)[j]?=some (aI b):=by rw[List.getElem?_map,hb];rfl
  have yi:aS (m.map aI) i [.v (.int .i64 b)]=(m.set i b).map aI:=by
   rw[GB _ (by simp;omega),List.map_set]
  have T':aS ((m.set i b).map aI) j [.v (.int .i64 a)]=((m.set i b).set j a).map aI:=by
   rw[GB _ (by simp;omega)];simp only[List.map_set]
  refine aK (aj ?_);refine j1 ?_;simp -dsimp only[simprocAttr,↓aa,zp,Sn,IT,T5,T6,Int.toNat_natCast,Nat.mul_one,yi,T',List.set_set,List.length_set];refine⟨by omega,by omega,by omega,by omega,by omega,by omega,?_⟩;refine⟨cm [zU] O.length [.pure,.pure,.pure,.pure,.pure,.pure,.pure,.rd 0,.pure,.pure,.pure,.rd 0,.pure,.wr 1 [0],.pure,.wr 1 [0]] (by simp) (by simp;omega) rfl rfl (by kernel_rfl),bd ?_⟩;simp -dsimp only[bX,ne_eq,Nat.reduceEqDiff,reduceCtorEq];refine dc ?_
  repeat(refine⟨by omega,?_⟩)
  refine fV ?_;refine⟨⟨(i+1,_),by simp only;omega,Qy⟩,by simp;omega,?_⟩;refine zq rfl ?_ ?_;simp -dsimp only[simprocAttr,↓aa,zp,zc]
  ·exact⟨Sub.int (by simp),Sub.int (by omega)⟩
  rfl
 refine aR ?_;simp -dsimp only[bX,ne_eq,Nat.reduceEqDiff,reduceCtorEq];have lK:l.length<=2*i+1:=by
  have:=of_decide_eq_false h;omega
 rw[Oo hr lK]
 skip
 simp -dsimp only[simprocAttr,↓aa,zp,zr,Try.results89,iz,List.length_set];exact⟨fY _,trivial⟩
def o4(f:Func):List Int:=(C2 f).reverse
def Oj(f:Func):ae:=if bo f=0 then .df [a6 (o4 f),aI 0]else .df [a6 [],aI (bo f)]
theorem PY{f:Func}:∀(n:Nat) (S:Sr),(S.st=[]->S.out≠[])->(KD f n S).st=[]->(KD f n S).out≠[]
 | 0,S,h,he=>h he
 | n+1,S,h,he=>by
  simp only[KD]at he ⊢;cases dD:S.st with
  | nil =>
   rw[dD]at he;simp only[List.isEmpty_nil,if_true]at he ⊢;exact h dD
  | cons p r =>
   rw[dD]at he;simp only[List.isEmpty_cons,Bool.false_eq_true,if_false]at he ⊢;refine PY n _ (fun q=>?_) he;obtain⟨b,e⟩:=p;simp only[w6,dD]at q ⊢;split
   ·simp
   rename_i cj;rw[if_neg cj]at q;split at q<;>simp at q
theorem MS{f:Func}:∀(n:Nat) (X:So),SO X->SO (KW f n X)
 | 0,X,h=>h
 | n+1,X,h=>by
  simp only[KW];split
  ·exact h
  exact MS n _ h.step
theorem Lp{f:Func}(hg:N9 f):C2 f≠[]∧(C2 f).length<=128∧∀b∈C2 f,0<=b∧b<f.blocks.length:=by
 have h0:=Ld hg;have h1:=LV hg 100000 _ h0.1 h0.2;have h2:=PY 100000 (ql f) (fun q=>by simp[ql]at q) h1.2;have a1:=h1.1.few;have a2:(KD f 100000 (ql f)).seen.countP id<=(KD f 100000 (ql f)).seen.length:=List.countP_le_length;have a3:=h1.1.len;have a4:=hg.few;exact⟨h2,by unfold C2;omega,h1.1.outs⟩
theorem L9(l:List Int):(l.map aI).map ae.bk=ao (l.map aI):=by
 induction l with
 | nil=>rfl
 | cons a r ih =>
  simp only[List.map_cons,ao,List.flatMap_cons]at ih ⊢;rw[ih];rfl
theorem Ol(f:Func)(bB:f.fit):bw Try.prog 70 [f.enc] (Oj f):=by
 have oF:=lP f bB;unfold Oj;by_cases hc:bo f=0
 ·rw[if_pos hc];rw[hc]at oF;have hg:=(dV bB hc).gr;have EX:=Mm f hg;obtain⟨f1,f2,_⟩:=Lp hg;have Rz:(KW f 100000 (E1 f)).S=KD f 100000 (ql f):=Nz f 100000 (E1 f);have hX:=MS (f:=f) 100000 _ (Lb f);obtain⟨X,SF⟩:∃X,X=KW f 100000 (E1 f):=⟨_,rfl⟩
  rw[<-SF]at EX hX Rz;have KM:X.S.out=C2 f:=by rw[Rz];rfl
  unfold o4;obtain⟨l,hl⟩:∃l,l=C2 f:=⟨_,rfl⟩
  rw[<-hl]at f1 f2 KM ⊢;have h1:=hX.out;rw[KM,PO,if_neg f1]at h1;obtain⟨h2,h3,h4⟩:=hX.outs (by rw[KM];exact f1);rw[KM]at h2;have bC:=hX.up;obtain⟨S,sid,zU,O⟩:=X;simp only at h1 h2 h3 h4 bC EX;have QV:=LR bC h2 (by omega);have Ge:(O.set zU (.cells (l.reverse.map aI)))[1]?=some (.cells [.os zU l.length 1]):=bx h1 (by omega);have HE:(O.set zU (.cells (l.reverse.map aI)))[zU]?=some (.cells (l.reverse.map aI)):=vz h2;refine zf true 0 Try.func70 Try.ntmps70 ?_;dsimp only[Tmp,TypeId,ax];refine aA (ah ?_);refine aH 1 0 (.ip none [aI f.name,ay f.blocks]) rfl (by simp[ak.aF]) trivial rfl ?_ ?_;rotate_left;simp -dsimp only[simprocAttr,↓aa,zp]
  ·refine b8 ?_;refine zi oF ?_;refine ah ?_;refine aA (ah ?_);refine cE rfl ?_;refine cA ?_;refine aA (ah ?_);refine aA ?_;refine .inr (.inl ⟨_,_,EX,.inl (au (zj ?_))⟩);refine ah ?_;refine aX ?_;simp -dsimp only[simprocAttr,↓aa,zp,h1];refine .inr (.inl ⟨_,_,QV,.inl (au (zj ?_))⟩);refine ah ?_;refine aX ?_;simp -dsimp only[simprocAttr,↓aa,zp,Ge];refine ah ?_;refine aH 2 zU (o:=.cells (l.reverse.map aI)) (a6 l.reverse) HE (by simp[ak.aF]) trivial rfl (cw.os (cs:=l.reverse.map aI) HE ?_ ?_ ?_) ?_
   ·intro x hx;obtain⟨c,_,rfl⟩:=List.mem_map.1 hx;rfl
   ·simp
   ·rw[List.drop_zero,List.take_of_length_le (by simp)];exact L9 _
   simp -dsimp only[simprocAttr,↓aa,zp];refine aq ?_;simp -dsimp only[simprocAttr,↓aa,zp,zr,Try.results70];exact⟨⟨az _ _,trivial⟩,trivial,trivial⟩
  exact cw.mp rfl rfl
 rw[if_neg hc];obtain⟨e,he⟩:∃e,e=bo f:=⟨_,rfl⟩
 rw[<-he]at hc oF ⊢;have jn:decide (e=0)=false:=decide_eq_false hc;refine zf true 0 Try.func70 Try.ntmps70 ?_;dsimp only[Tmp,TypeId,ax];refine aA (ah ?_);refine aH 1 0 (.ip none [aI f.name,ay f.blocks]) rfl (by simp[ak.aF]) trivial rfl ?_ ?_;rotate_left;simp -dsimp only[simprocAttr,↓aa,zp]
 ·refine b8 ?_;refine zi oF ?_;refine ah ?_;refine aX ?_;simp -dsimp only[simprocAttr,↓aa,zp,jn];refine ah ?_;refine cS rfl ?_;refine aA (ah ?_);refine aq ?_;simp -dsimp only[simprocAttr,↓aa,zp,zr,Try.results70];simp[aw,ae.upto]
 exact cw.mp rfl rfl

def Ra(f:Func)(a b:Int):Prop:=∃x∈Lf f a,x.block=b
def Qp(f:Func):List (Int×Int)->Prop
 | []=>True
 | [p]=>p.1=0
 | p::q::r=>Ra f q.1 p.1∧p.1≠0∧Qp f (q::r)
theorem Qp.tail{f:Func}{p:Int×Int}{r:List (Int×Int)}(h:Qp f (p::r)):Qp f r:=by
 cases r with
 | nil=>trivial
 | cons q r=>exact h.2.2
theorem Qp.head{f:Func}{b e e':Int}{r:List (Int×Int)}(h:Qp f ((b,e)::r)):Qp f ((b,e')::r):=by
 cases r with
 | nil=>exact h
 | cons q r=>exact h
structure b7(f:Func)(S:Sr):Prop where
 st:Qp f S.st
 out:∀i v,S.out[i]?=some v->(v≠0∧∃a,Ra f a v∧((∃j,i<j∧S.out[j]?=some a)∨∃e,(a,e)∈S.st))∨(v=0∧S.st=[]∧i+1=S.out.length)
theorem b7.step{f:Func}(hg:N9 f){S:Sr}(hS:MV f S)(h:b7 f S):b7 f (w6 f S):=by
 obtain⟨seen,st,out⟩:=S;obtain⟨h1,h2⟩:=h;simp only at h1 h2;cases st with
 | nil=>exact⟨h1,h2⟩
 | cons p r =>
  obtain⟨b,e⟩:=p;have hp:=hS.blk (b,e) (by simp);simp only at hp;have hold:∀i v,out[i]?=some v->v≠0∧∃a,Ra f a v∧((∃j,i<j∧out[j]?=some a)∨∃e',(a,e')∈(b,e)::r):=fun i v hi=>by
   rcases h2 i v hi with q|⟨_,q,_⟩
   ·exact q
   cases q
  simp only[w6];split
  ·refine⟨h1.tail,fun i v hi=>?_⟩;simp only at hi ⊢;by_cases aZ:i<out.length
   ·rw[List.getElem?_append_left aZ]at hi;obtain⟨q0,a,q1,q2⟩:=hold i v hi;refine .inl ⟨q0,a,q1,?_⟩;rcases q2 with⟨j,q2,q3⟩|⟨e',q2⟩
    ·exact .inl ⟨j,q2,by rw[List.getElem?_append_left (I q3)];exact q3⟩
    rcases List.mem_cons.1 q2 with q|q
    ·simp only[Prod.mk.injEq]at q;exact .inl ⟨out.length,aZ,by rw[q.1];simp⟩
    exact .inr ⟨e',q⟩
   have fL:=I hi;simp only[List.length_append,List.length_cons,List.length_nil]at fL;have:i=out.length:=by omega
   subst this;simp at hi;subst hi;cases r with
   | nil=>exact .inr ⟨h1,rfl,by simp⟩
   | cons q r=>exact .inl ⟨h1.2.1,q.1,h1.1,.inr ⟨q.2,by simp⟩⟩
  rename_i he;obtain⟨x,hx,Pd,nR,r9⟩:=hg.next ⟨hp.1,hp.2.1⟩ hp.2.2.1 (by omega)
  split
  ·refine⟨h1.head,fun i v hi=>.inl ?_⟩;obtain⟨q0,a,q1,q2⟩:=hold i v hi;refine⟨q0,a,q1,?_⟩;rcases q2 with q2|⟨e',q2⟩
   ·exact .inl q2
   rcases List.mem_cons.1 q2 with q|q
   ·simp only[Prod.mk.injEq]at q;exact .inr ⟨e+1,by simp[q.1]⟩
   exact .inr ⟨e',by simp[q]⟩
  refine⟨⟨⟨x,List.mem_of_getElem? hx,Pd⟩,by simp only;omega,h1.head⟩,fun i v hi=>.inl ?_⟩;obtain⟨q0,a,q1,q2⟩:=hold i v hi;refine⟨q0,a,q1,?_⟩;rcases q2 with q2|⟨e',q2⟩
  ·exact .inl q2
  rcases List.mem_cons.1 q2 with q|q
  ·simp only[Prod.mk.injEq]at q;exact .inr ⟨e+1,by simp[q.1]⟩
  exact .inr ⟨e',by simp[q]⟩
theorem b7.run{f:Func}(hg:N9 f):∀(n:Nat) (S:Sr),MV f S->b7 f S->b7 f (KD f n S)
 | 0,S,_,h=>h
 | n+1,S,hS,h=>by
  simp only[KD];cases dD:S.st with
  | nil=>simpa[dD]using h
  | cons p r =>
   simp only[List.isEmpty_cons,Bool.false_eq_true,if_false];exact b7.run hg n _ (Lt hg hS (by rw[dD];simp)).1 (h.step hg hS)
theorem b7.start(f:Func):b7 f (ql f):=⟨rfl,fun i v h=>by simp[ql]at h⟩
theorem Nc{f:Func}(hg:N9 f){n:Nat}{v:Int}(h:(o4 f)[n]?=some v):(n=0∧v=0)∨∃a,Ra f a v∧a∈(o4 f).take n:=by
 have h0:=Ld hg;have h1:=LV hg 100000 _ h0.1 h0.2;have hJ:=b7.run hg 100000 _ h0.1 (b7.start f);have hn:=I h;unfold o4 C2 at *;generalize KD f 100000 (ql f)=S at *;have hl:n<S.out.length:=by simpa using hn
 rw[List.getElem?_reverse hl]at h;rcases hJ.out _ _ h with⟨_,a,q1,q2⟩|⟨q1,_,q3⟩
 ·rcases q2 with⟨j,q3,q4⟩|⟨e,q3⟩
  ·refine .inr ⟨a,q1,?_⟩;have hj:=I q4;have:(S.out.reverse)[S.out.length-1-j]?=some a:=by
    rw[List.getElem?_reverse (by omega),<-q4];congr 1;omega
   exact List.mem_of_getElem? (i:=S.out.length-1-j) (by rw[List.getElem?_take,if_pos (by omega)];exact this)
  rw[h1.2]at q3;cases q3
 exact .inl ⟨by omega,q1⟩
structure Nd(f:Func)(S:Sr):Prop where
 cd:(S.out++S.st.map (·.1)).Nodup
 seen:∀v,v∈S.out++S.st.map (·.1)↔(0<=v∧S.seen[v.toNat]?.getD false=true)
 outs:∀v∈S.out,∀x∈Lf f v,S.seen[x.block.toNat]?.getD false=true
 st:∀p∈S.st,∀(j:Nat) x,(j:Int)<p.2->(Lf f p.1)[j]?=some x->S.seen[x.block.toNat]?.getD false=true
theorem K1{l:List Bool}{k j:Nat}(h:l[j]?.getD false=true):(l.set k true)[j]?.getD false=true:=by
 have hj:j<l.length:=by
  refine Classical.byContradiction fun q=>?_;rw[List.getElem?_eq_none (by omega)]at h;cases h
 by_cases e:k=j
 ·subst e;rw[List.getElem?_set_self hj];rfl
 rw[List.getElem?_set_ne e];exact h
theorem Nd.step{f:Func}(hg:N9 f){S:Sr}(hS:MV f S)(h:Nd f S):Nd f (w6 f S):=by
 obtain⟨seen,st,out⟩:=S;obtain⟨h1,h2,h3,h4⟩:=h;simp only at h1 h2 h3 h4;cases st with
 | nil=>exact⟨h1,h2,h3,h4⟩
 | cons p r =>
  obtain⟨b,e⟩:=p;have hp:=hS.blk (b,e) (by simp);simp only at hp;have hlen:=hS.len;simp only at hlen;simp only[w6];split
  ·rename_i he;refine⟨?_,fun v=>?_,fun v hv x hx=>?_,fun q hq=>h4 q (by simp[hq])⟩
   ·simp only[List.append_assoc,List.cons_append,List.nil_append];simpa using h1
   ·rw[<-h2 v];simp only[List.append_assoc,List.cons_append,List.nil_append,List.map_cons]
   simp only at hv ⊢;rcases List.mem_append.1 hv with q|q
   ·exact h3 v q x hx
   rw[List.mem_singleton.1 q]at hx;obtain⟨j,hj⟩:=List.getElem?_of_mem hx;have:=I hj;exact h4 (b,e) (by simp) j x (by simp only;omega) hj
  rename_i he;obtain⟨x,hx,Pd,nR,r9⟩:=hg.next ⟨hp.1,hp.2.1⟩ hp.2.2.1 (by omega)
  split
  ·rename_i hs;refine⟨by simpa using h1,fun v=>by simpa using h2 v,h3,fun q hq j y hj hy=>?_⟩;simp only at hq ⊢;rcases List.mem_cons.1 hq with q'|q'
   ·subst q';simp only at hj hy;by_cases fB:(j:Int)<e
    ·exact h4 (b,e) (by simp) j y fB hy
    have:j=e.toNat:=by omega
    subst this;rw[hx]at hy;simp only[Option.some.injEq]at hy;subst hy;rw[Pd];exact hs
   exact h4 q (by simp[q']) j y hj hy
  rename_i hs;have Rh:qm f b e ∉ out++(b::r.map (·.1)):=fun hm=>by
   have:=(h2 (qm f b e)).1 (by simpa using hm);exact hs this.2
  have hk:(qm f b e).toNat<seen.length:=by omega
  refine⟨?_,fun v=>?_,fun v hv y hy=>K1 (h3 v hv y hy),fun q hq j y hj hy=>?_⟩
  ·simp only[List.map_cons]at h1 ⊢;rw[List.nodup_append]at h1 ⊢;simp only[List.mem_append,not_or]at Rh;refine⟨h1.1,List.nodup_cons.2 ⟨Rh.2,h1.2.1⟩,fun a ha c hc=>?_⟩;rcases List.mem_cons.1 hc with q|q
   ·subst q;exact fun e=>Rh.1 (e ▸ ha)
   exact h1.2.2 a ha c q
  ·simp only[List.map_cons];have HE:=h2 v;simp only[List.map_cons]at HE;by_cases e1:v=qm f b e
   ·subst e1;rw[List.getElem?_set_self hk];simp;omega
   have:v∈out++qm f b e::b::r.map (·.1)↔v∈out++(b::r.map (·.1)):=by
    simp only[List.mem_append,List.mem_cons,e1,false_or]
   rw[this,HE];by_cases h0:0<=v
   ·rw[List.getElem?_set_ne (by omega)]
   simp[h0]
  simp only at hq ⊢;rcases List.mem_cons.1 hq with q'|q'
  ·subst q';simp only at hj;omega
  rcases List.mem_cons.1 q' with q'|q'
  ·subst q';simp only at hj hy;by_cases fB:(j:Int)<e
   ·exact K1 (h4 (b,e) (by simp) j y fB hy)
   have:j=e.toNat:=by omega
   subst this;rw[hx]at hy;simp only[Option.some.injEq]at hy;subst hy;rw[Pd,List.getElem?_set_self hk];rfl
  exact K1 (h4 q (by simp[q']) j y hj hy)
theorem Nd.run{f:Func}(hg:N9 f):∀(n:Nat) (S:Sr),MV f S->Nd f S->Nd f (KD f n S)
 | 0,S,_,h=>h
 | n+1,S,hS,h=>by
  simp only[KD];cases dD:S.st with
  | nil=>simpa[dD]using h
  | cons p r =>
   simp only[List.isEmpty_cons,Bool.false_eq_true,if_false];exact Nd.run hg n _ (Lt hg hS (by rw[dD];simp)).1 (h.step hg hS)
theorem Nd.start{f:Func}(hg:N9 f):Nd f (ql f):=by
 have hl:=List.length_pos_iff.2 hg.ne;refine⟨by simp[ql],fun v=>?_,fun v hv=>by simp[ql]at hv,fun p hp j x hj=>?_⟩
 ·simp only[ql,List.nil_append,List.map_cons,List.map_nil,List.mem_singleton];constructor
  ·intro e;subst e;refine⟨by omega,?_⟩;rw[Int.toNat_zero,List.getElem?_set_self (by simpa using hl)];rfl
  rintro⟨h0,h⟩;refine Classical.byContradiction fun q=>?_;rw[List.getElem?_set_ne (by omega),List.getElem?_replicate]at h;split at h<;>simp at h
 simp only[ql,List.mem_singleton]at hp;subst hp;simp only at hj;omega
theorem KV{l:List Int}{n:Int}:(0<=rD l n↔n∈l)∧(0<=rD l n->l[(rD l n).toNat]?=some n):=by
 unfold rD;have hm:l.findIdx (· == n)<l.length↔n∈l:=by
  rw[List.findIdx_lt_length];simp
 by_cases h:l.findIdx (· == n)<l.length
 ·rw[if_pos h];refine⟨⟨fun _=>hm.1 h,fun _=>by omega⟩,fun _=>?_⟩;have:=List.findIdx_getElem (w:=h);simp only[beq_iff_eq]at this;rw[Int.toNat_natCast,List.getElem?_eq_getElem h,this]
 rw[if_neg h];exact⟨⟨fun q=>absurd q (by omega),fun q=>absurd (hm.2 q) h⟩,fun q=>absurd q (by omega)⟩
def Ml(f:Func)(k:Int):Int:=rD (o4 f) k
structure Ss(f:Func):Prop where
 inj:∀a b,0<=Ml f a->Ml f a=Ml f b->a=b
 zero:Ml f 0=0
 at_:∀(i:Nat) v,(o4 f)[i]?=some v->Ml f v=i
 get:∀v,0<=Ml f v->(o4 f)[(Ml f v).toNat]?=some v
 low:∀v,-1<=Ml f v∧Ml f v<(o4 f).length
 fwd:∀v,1<=Ml f v->∃a,Ra f a v∧0<=Ml f a∧Ml f a<Ml f v
 next:∀a b,0<=Ml f a->Ra f a b->0<=Ml f b
 range:∀v,0<=Ml f v->0<=v∧v<f.blocks.length
 few:(o4 f).length<=128
 pos:0<(o4 f).length
theorem NX{f:Func}(hg:N9 f):Ss f:=by
 obtain⟨g1,g2,g3⟩:=Lp hg;have h0:=Ld hg;have h1:=LV hg 100000 _ h0.1 h0.2;have hN:=Nd.run hg 100000 _ h0.1 (Nd.start hg);have wv:(o4 f).Nodup:=by
  have:=hN.cd;rw[h1.2]at this;simp only[List.map_nil,List.append_nil]at this;unfold o4 List.Nodup;rw[List.pairwise_reverse];exact List.Pairwise.imp (fun h=>Ne.symm h) this
 have jZ:∀v,v∈o4 f↔v∈C2 f:=fun v=>by simp[o4]
 have cj:0<(o4 f).length:=by
  have:o4 f≠[]:=by simpa[o4]using g1
  exact List.length_pos_iff.2 this
 have fS:∀v,0<=Ml f v->(o4 f)[(Ml f v).toNat]?=some v:=fun v hv=>KV.2 hv;have ru:∀(i:Nat) v,(o4 f)[i]?=some v->Ml f v=i:=fun i v hi=>by
  have hm:v∈o4 f:=List.mem_of_getElem? hi;have h2:=fS v (KV.1.2 hm);have h3:0<=Ml f v:=KV.1.2 hm;have:=(List.getElem?_inj (I h2) wv).1 (h2.trans hi.symm);omega
 have GO:∀v,-1<=Ml f v∧Ml f v<(o4 f).length:=fun v=>by
  unfold Ml rD;split
  ·omega
  omega
 refine⟨fun a b ha e=>?_,?_,ru,fS,GO,fun v hv=>?_,fun a b ha e=>?_,fun v hv=>?_,by simpa[o4]using g2,cj⟩
 ·have h2:=fS a ha;have h3:=fS b (by omega);rw[e,h3]at h2;simpa using h2.symm
 ·have:(o4 f)[0]?=some (o4 f)[0]:=List.getElem?_eq_getElem cj;rcases Nc hg this with⟨_,q⟩|⟨a,_,q⟩
  ·have:=ru 0 _ this;rw[q]at this;simpa using this
  simp at q
 ·have h2:=fS v (by omega);rcases Nc hg h2 with⟨q,_⟩|⟨a,q1,q2⟩
  ·omega
  obtain⟨j,hj⟩:=List.getElem?_of_mem q2;rw[List.getElem?_take]at hj;split at hj
  ·have:=ru j a hj;exact⟨a,q1,by omega,by omega⟩
  cases hj
 ·have hm:a∈C2 f:=(jZ a).1 (KV.1.1 ha);obtain⟨x,hx,Pd⟩:=e;have:=hN.outs a hm x hx;rw[Pd]at this;have hb:0<=b:=by
   have Tk:=g3 a hm;have:=hg.db _ (fh Tk.1 Tk.2) x hx;omega
  have h3:=(hN.seen b).2 ⟨hb,this⟩;rw[h1.2]at h3;simp only[List.map_nil,List.append_nil]at h3;exact KV.1.2 ((jZ b).2 h3)
 exact g3 v ((jZ v).1 (KV.1.1 hv))


end Go.Proofs.Ytkhnjeblbiocaaa
namespace Go.Proofs.Ytkhnjeblbiocaaa
open Go.Av Go.Sort
def LB(l:List Int):List Int:=l.mergeSort fun x y=>decide (x<=y)
theorem Lc(l:List Int):(LB l).Perm l:=List.mergeSort_perm _ _
def M3(P:Program)(f:FuncId):Prop:=∀(blk off cap:Nat) (zs:List Int) (w:World),Go.Sort.Holds (Value.int .i64) w blk off zs.toArray->blk<w.heap.size->zs.length<4611686018427387904 ->
 Calls P f #[.slice (some ⟨blk,off,none⟩) zs.length cap] w fun e w' =>
  e=.returned (.tuple #[])∧∃n os,w'=grow (putRow (Value.int .i64) (Sort.ahead w n) blk off (zs.mergeSort fun x y=>decide (x<=y)).toArray) os
theorem N3{P:Program}{f:FuncId}(uy:Go.Av.vr P f)(hc:M3 P f){O:List ak}{id:Nat}{zs:List Int}(ho:O[id]?=some (.cells (zs.map aI)))(hl:zs.length<=1000) :
  bc P f O [.os id zs.length 1] (fun r O'=>r=.df []∧O'=O.set id (.cells ((LB zs).map aI))):=by
 refine⟨uy,fun g vs hg Bw Pc=>?_⟩;subst Bw;obtain⟨h1,h2⟩:=Pc;simp only[List.length_singleton]at h1;have G0:vs[0]?=some (vs[0]'(by omega)):=Array.getElem?_eq_getElem _;obtain⟨l,o,cap,he,gd,Ki,cQ,hb,cF,RZ⟩:=(h2 0 _ _ rfl G0).oN;have Pc:vs = #[.slice (some ⟨l.block,0,none⟩) zs.length cap]:=by
  apply Array.ext
  ·simpa using h1
  intro i Kg EJ;have:i=0:=by omega
  subst this;exact RZ
 subst Pc;obtain⟨arr,t,gQ,dp,hlen,eZ,jY,wq⟩:=hg.row ho he;rw[List.length_map]at hlen;have cn:∀(j:Nat) x,zs[j]?=some x->arr[j]?=some (.int .i64 x)∧kl (.int .i64 x):=fun j x hj=>by
  have QP:=I hj;have IS:arr[j]?=some (arr[j]'(by omega)):=Array.getElem?_eq_getElem _;obtain⟨e,hf⟩:=(eZ j (aI x) _ (by simp[hj]) IS).cq;exact⟨by rw[IS,e],hf⟩
 have hH:Go.Sort.Holds (Value.int .i64) g.w l.block 0 zs.toArray:=fun j hj=>by
  have gY:j<zs.length:=by simpa using hj
  refine⟨?_,by simp[World.frozen?,dp]⟩;rw[show g.w.cell? ⟨l.block,0+j,none⟩=arr[0+j]? from Go.Av.cell_of_row dp (0+j),Nat.zero_add,(cn j _ (List.getElem?_eq_getElem gY)).1];simp[gY]
 refine(hc l.block 0 cap zs g.w hH (a5 dp) (by omega)).mono ?_;rintro e w' ⟨rfl,n,os,JN⟩;have P4:(zs.mergeSort fun x y=>decide (x<=y))=LB zs:=rfl;rw[P4]at JN;have hp:=Lc zs;obtain⟨ss,QW⟩:∃ss,ss=LB zs:=⟨_,rfl⟩
 rw[<-QW]at JN hp ⊢;have o5:=hp.length_eq;have Qc:=a5 dp;have fo:∀k,k<g.w.heap.size->w'.heap[k]?=(g.w.heap.modify l.block (onCells (putCells (Value.int .i64) 0 ss.toArray)))[k]?:=fun k hk=>by
  subst JN;simp only[grow,putRow,mapBlock,Sort.ahead];rw[Array.getElem?_append_left (by simpa using hk)]
 have RW:w'.heap[l.block]?=some (.cells (putCells (Value.int .i64) 0 ss.toArray arr) t (0,0)):=by
  rw[fo _ Qc,Array.getElem?_modify,if_pos rfl,dp];rfl
 have RS:∀k,k<g.w.heap.size->k≠l.block->w'.heap[k]?=g.w.heap[k]?:=fun k hk cj=>by
  rw[fo k hk,Array.getElem?_modify,if_neg (fun q=>cj q.symm)]
 have fX:∀(j:Nat) x,ss[j]?=some x->(putCells (Value.int .i64) 0 ss.toArray arr)[j]?=some (.int .i64 x):=fun j x hj=>by
  have QP:=I hj;have IS:arr[j]?=some (arr[j]'(by omega)):=Array.getElem?_eq_getElem _;simp only[putCells,Array.getElem?_mapIdx,IS,Option.map_some,Nat.zero_add,Nat.zero_le,true_and,Nat.sub_zero,List.size_toArray];rw[if_pos QP];simp[hj]
 have ec:ku g id (.cells (zs.map aI)) (some l) (.cells (ss.map aI)) w' :=
  {obj:=ho
   os:=by rw[JN];rfl
   tape:=by rw[JN];rfl
   output:=by rw[JN];rfl
   size:=by rw[JN];simp[grow,putRow,mapBlock,Sort.ahead]
   block:=fun k hk cj=>RS k hk fun e=>cj l he trivial e.symm
   cell:=fun b off x hx hb=>by
    by_cases e:b=l.block
    ·have:=hb l he trivial e.symm;omega
    rw[kY (RS b (pD hx) e)];exact hx
   place:=fun l1 h1 _=>by
    simp only[Option.some.injEq]at h1;subst h1;exact .inr ⟨l,he,trivial,rfl,Nat.le_refl _⟩
   spare:=fun m h=>by cases h
   plain:=fun _=>⟨by simp[ak.aF],he⟩
   gone:=by simp }
 refine⟨g.br id (some l) (.cells (ss.map aI)) w',.tuple #[],.df [],rfl,rfl,Le.br hg ec,Good.br hg ec ?_ ?_,.df rfl (by simp),rfl,rfl⟩
 ·refine⟨l,_,t,rfl,gQ,RW,by simp[putCells,o5];omega,fun j c u hj hu=>?_,fun c hc=>?_,by simpa[putCells]using wq⟩
  ·rw[List.getElem?_map]at hj;obtain⟨x,hx,rfl⟩:=Option.map_eq_some_iff.1 hj;rw[fX j x hx]at hu;simp only[Option.some.injEq]at hu;subst hu;have hm:x∈zs:=hp.subset (List.mem_of_getElem? hx);obtain⟨i,hi⟩:=List.getElem?_of_mem hm;exact .v (cn i x hi).2
  obtain⟨x,_,rfl⟩:=List.mem_map.1 hc;trivial
 intro l1 h1 _;simp only[Option.some.injEq]at h1;subst h1;rw[JN];simp[grow,putRow,mapBlock,Sort.ahead];omega
end Go.Proofs.Ytkhnjeblbiocaaa
namespace Go.Proofs.Ytkhnjeblbiocaaa
open Go.Av
def La(f:Func):List Int:=LB (o4 f)
theorem Lo{f:Func}{k:Int}:k∈La f↔0<=Ml f k:=by
 unfold La Ml;rw[(Lc _).mem_iff];exact KV.1.symm
theorem PU(f:Func):(La f).length=(o4 f).length:=(Lc _).length_eq
def K'(k:Int)(l:List Int):Defs:=l.map fun p=>(p,(k,0))
def KK(k:Int):Int->List bE->Defs
 | _,[]=>[]
 | n,i::r=>(i.to,(k,n+1))::KK k (n+1) r
def K8(k:Int)(b:Block):Defs:=K' k b.params++KK k 0 b.ins
def KI:Int->List Block->Defs
 | _,[]=>[]
 | k,b::r=>K8 k b++KI (k+1) r
theorem MA{ds:Defs}{v:Int}{p:Int×Int}(h:(dt ds v p).1=0):(dt ds v p).2=ds++[(v,p)]:=by
 unfold dt at h ⊢;split at h
 ·simp at h
 rename_i h1;rw[if_neg h1];split at h
 ·simp at h
 rename_i h2;rw[if_neg h2]
theorem MK(k:Int):∀(l:List Int) (ds:Defs),(dF k ds l).1=0->(dF k ds l).2=ds++K' k l
 | [],ds,_=>by simp[dF,K']
 | p::r,ds,h=>by
  simp only[dF]at h ⊢;split at h
  ·rename_i cj;exact absurd h cj
  rename_i he;rw[if_neg he,MK k r _ h,MA (by simpa using he)];simp[K']
theorem OL(k:Int):∀(l:List bE) (n:Int) (ds:Defs),(la k n ds l).1=0->(la k n ds l).2=ds++KK k n l
 | [],n,ds,_=>by simp[la,KK]
 | i::r,n,ds,h=>by
  simp only[la]at h ⊢;split at h
  ·rename_i cj;exact absurd h cj
  rename_i he;split at h
  ·rename_i hf;exact absurd h hf
  rename_i hf;rw[if_neg he,if_neg hf,OL k r _ _ h,MA (by simpa using he)];simp[KK]
theorem OT{f:Func}{ds:Defs}{k:Int}(h:(fG f ds k).1=0):(fG f ds k).2=ds++K8 k (aD f k):=by
 unfold fG at h ⊢;split at h
 ·rename_i cj;exact absurd h cj
 rename_i hp;split at h
 ·rename_i cj;exact absurd h cj
 rename_i hi;rw[if_neg hp,if_neg hi];simp only;rw[OL k _ _ _ (by simpa using hi),MK k _ _ (by simpa using hp),K8,List.append_assoc]
theorem Mz{f:Func}:∀(n k:Nat) (ds:Defs),k+n=f.blocks.length->(de f n k ds).1=0->(de f n k ds).2=ds++KI k (f.blocks.drop k)
 | 0,k,ds,hk,_=>by
  rw[List.drop_of_length_le (by omega)];simp[de,KI]
 | n+1,k,ds,hk,h=>by
  simp only[de]at h ⊢;split at h
  ·rename_i cj;exact absurd h cj
  rename_i he;rw[if_neg he];have hb:f.blocks[k]?=some f.blocks[k]:=List.getElem?_eq_getElem (by omega);have ih:=Mz n (k+1) (fG f ds k).2 (by omega) h;have e:((k+1:Nat):Int)=(k:Int)+1:=by omega
  rw[e]at ih;rw[ih,OT (by simpa using he),bS hb,KI,List.append_assoc];congr 3;simp[aD,hb]
def Pn(f:Func):Defs:=KI 0 f.blocks
theorem DC.ds{f:Func}(bB:f.fit)(h:bo f=0):(de f f.blocks.length 0 []).2=Pn f∧jv f.blocks.length (Pn f):=by
 have he:(de f f.blocks.length 0 []).1=0:=by
  unfold bo at h;split at h
  ·simp at h
  split at h
  ·simp at h
  split at h
  ·simp at h
  split at h
  ·rename_i h4;exact absurd h h4
  rename_i h4;simpa using h4
 have e:=Mz f.blocks.length 0 [] (by omega) he;rw[List.drop_zero,List.nil_append]at e;have hw:=(kV f.blocks.length 0 [] (.nil _) (by omega) (by simp) he).1;have e':(de f f.blocks.length 0 []).2=Pn f:=e;rw[e']at hw;exact⟨e',hw⟩
theorem Ln{k:Int}{v:Int}{p:Int×Int}:∀(l:List bE) (n:Int),(v,p)∈KK k n l↔∃(j:Nat) (i:bE),l[j]?=some i∧i.to=v∧p=(k,n+j+1)
 | [],n=>by simp[KK]
 | i::r,n=>by
  simp only[KK,List.mem_cons,Prod.mk.injEq];rw[Ln r (n+1)];constructor
  ·rintro(⟨h1,h2⟩|⟨j,x,h1,h2,h3⟩)
   ·exact⟨0,i,rfl,h1.symm,by simpa using h2⟩
   exact⟨j+1,x,h1,h2,by rw[h3];congr 1;omega⟩
  rintro⟨j,x,h1,h2,h3⟩;cases j with
  | zero =>
   simp only[List.getElem?_cons_zero,Option.some.injEq]at h1;subst h1;exact .inl ⟨h2.symm,by simpa using h3⟩
  | succ j=>exact .inr ⟨j,x,h1,h2,by rw[h3];congr 1;omega⟩
theorem Mk{v:Int}{p:Int×Int}:∀(l:List Block) (k:Int),(v,p)∈KI k l↔∃(j:Nat) (b:Block),l[j]?=some b∧(v,p)∈K8 (k+j) b
 | [],k=>by simp[KI]
 | b::r,k=>by
  rw[KI,List.mem_append,Mk r (k+1)];constructor
  ·rintro(h|⟨j,x,h1,h2⟩)
   ·exact⟨0,b,rfl,by simpa using h⟩
   exact⟨j+1,x,h1,by rw[show k+((j+1:Nat):Int)=k+1+j by omega];exact h2⟩
  rintro⟨j,x,h1,h2⟩;cases j with
  | zero =>
   simp only[List.getElem?_cons_zero,Option.some.injEq]at h1;subst h1;exact .inl (by simpa using h2)
  | succ j=>exact .inr ⟨j,x,h1,by rw[show k+((j+1:Nat):Int)=k+1+j by omega]at h2;exact h2⟩
def Qo(f:Func)(v:Int)(p:Int×Int):Prop:=∃(k:Nat) (b:Block),f.blocks[k]?=some b∧p.1=k∧((p.2=0∧v∈b.params)∨∃(j:Nat) (i:bE),b.ins[j]?=some i∧i.to=v∧p.2=j+1)
theorem Qi{f:Func}{v:Int}{p:Int×Int}:(v,p)∈Pn f↔Qo f v p:=by
 obtain⟨p1,p2⟩:=p;rw[Pn,Mk];constructor
 ·rintro⟨k,b,h1,h2⟩;rw[K8,List.mem_append]at h2;rcases h2 with h2|h2
  ·simp only[K',List.mem_map,Prod.mk.injEq]at h2;obtain⟨x,h3,h4,h5,h6⟩:=h2;subst h4;exact⟨k,b,h1,by simp only;omega,.inl ⟨h6.symm,h3⟩⟩
  obtain⟨j,i,h3,h4,h5⟩:=(Ln _ _).1 h2;simp only[Prod.mk.injEq]at h5;exact⟨k,b,h1,by simp only;omega,.inr ⟨j,i,h3,h4,by simp only;omega⟩⟩
 rintro⟨k,b,h1,h2,h3⟩;simp only at h2 h3;subst h2;refine⟨k,b,h1,?_⟩;rw[K8,List.mem_append];rcases h3 with⟨h3,h4⟩|⟨j,i,h3,h4,h5⟩
 ·subst h3;exact .inl (by simpa[K']using h4)
 exact .inr ((Ln _ _).2 ⟨j,i,h3,h4,by subst h5;simp⟩)
theorem Mh(k:Int):∀(l:List bE) (n:Int),(KK k n l).map (·.1)=l.map bE.to
 | [],_=>rfl
 | i::r,n=>by rw[KK,List.map_cons,Mh k r,List.map_cons]
theorem L':∀(l:List Block) (k:Int),(KI k l).map (·.1)=l.flatMap Ci
 | [],_=>rfl
 | b::r,k=>by
  rw[KI,List.map_append,L' r,List.flatMap_cons,K8,List.map_append,Mh,Ci,K',List.map_map];congr 2;exact List.map_id' _
theorem OG(f:Func):(Pn f).map (·.1)=Ce f:=L' _ _
theorem Ob{k:Nat}{S:Ds}{e:Edge}(h:(gL k S e).again=false):gL k S e=S∧((S.at_ e.block.toNat).meet (S.at_ k)).add e.block.toNat=S.at_ e.block.toNat∧S.seen.has e.block.toNat=true:=by
 unfold gL at h ⊢;simp only at h ⊢;split at h
 ·cases h
 rename_i hc;rw[if_neg hc];simp only[ne_eq,not_or,Decidable.not_not,Bool.not_eq_false]at hc;exact⟨rfl,hc⟩
theorem MB{k:Nat}:∀(l:List Edge) {S:Ds},(l.foldl (gL k) S).again=false->l.foldl (gL k) S=S∧∀e∈l,((S.at_ e.block.toNat).meet (S.at_ k)).add e.block.toNat=S.at_ e.block.toNat∧S.seen.has e.block.toNat=true
 | [],S,_=>⟨rfl,by simp⟩
 | e::r,S,h=>by
  rw[List.foldl_cons]at h;have ih:=MB r h;rw[ih.1]at h;have h1:=Ob h;rw[List.foldl_cons,ih.1,h1.1];rw[h1.1]at ih;refine⟨rfl,fun x hx=>?_⟩;rcases List.mem_cons.1 hx with q|q
  ·subst q;exact h1.2
  exact ih.2 x q
theorem MC:∀(l:List Block) (k:Nat) {S:Ds},(kk k S l).again=false->kk k S l=S∧∀(j:Nat) b,l[j]?=some b->S.seen.has (k+j)=true->∀e∈b.term.to,((S.at_ e.block.toNat).meet (S.at_ (k+j))).add e.block.toNat=S.at_ e.block.toNat∧S.seen.has e.block.toNat=true
 | [],k,S,_=>⟨rfl,fun j b h=>by simp at h⟩
 | b::r,k,S,h=>by
  rw[kk]at h;have ih:=MC r (k+1) h;rw[ih.1]at h;have h1:nC k S b=S∧(S.seen.has k=true->∀e∈b.term.to,((S.at_ e.block.toNat).meet (S.at_ k)).add e.block.toNat=S.at_ e.block.toNat∧S.seen.has e.block.toNat=true):=by
   unfold nC at h ⊢;split
   ·rename_i hs;exact⟨rfl,fun q=>by rw[hs]at q;cases q⟩
   rename_i hs;rw[if_neg hs]at h;have:=MB _ h;exact⟨this.1,fun _=>this.2⟩
  rw[kk,ih.1,h1.1];rw[h1.1]at ih;refine⟨rfl,fun j x hj hs=>?_⟩;cases j with
  | zero =>
   simp only[List.getElem?_cons_zero,Option.some.injEq]at hj;subst hj;exact h1.2 hs
  | succ j =>
   rw[show k+(j+1)=k+1+j by omega]at hs ⊢;exact ih.2 j x hj hs
theorem M7{f:Func}(he:∀b∈f.blocks,∀e∈b.term.to,0<=e.block∧e.block.toNat<f.blocks.length):∀(n:Nat) {S:Ds},jS f.blocks.length S->(S.again=true->S.weight<n)->(ig f n S).again=false
 | 0,S,_,h=>by
  cases hs:S.again with
  | false=>exact hs
  | true=>exact absurd (h hs) (by omega)
 | n+1,S,hS,h=>by
  simp only[ig];split
  ·rename_i ha;have hw:=h ha;have hr:=nD f.blocks (k:=0) (S:=⟨S.over,S.seen,false⟩) ⟨hS.few,hS.len,hS.fit,hS.seen,hS.self⟩ he;have I7:(⟨S.over,S.seen,false⟩:Ds).weight=S.weight:=rfl;refine M7 he n hr.1 fun q=>?_;rcases hr.2.2 q with q|q
   ·cases q
   omega
  rename_i ha;simpa using ha
structure Dz(S:Ds):Prop where
 zero:S.at_ 0=Bs.none.add 0
 seen:S.seen.has 0=true
theorem QJ{n k:Nat}{S:Ds}(h:Dz S){e:Edge}(h1:1<=e.block)(h2:e.block.toNat<n)(h3:n<=128):Dz (gL k S e):=by
 unfold gL;simp only;split
 ·refine⟨?_,?_⟩
  ·have:=h.zero;unfold Ds.at_ at this ⊢;simp only;rw[List.getElem?_set_ne (by omega)];exact this
  simp only;rw[Bs.has_add _ _ _ (by omega) (by omega),h.seen];rfl
 exact h
theorem Pv{n k:Nat}(h3:n<=128):∀(l:List Edge) {S:Ds},Dz S->(∀e∈l,1<=e.block∧e.block.toNat<n)->Dz (l.foldl (gL k) S)
 | [],_,h,_=>h
 | e::r,S,h,he=>Pv h3 r (QJ h (he e (by simp)).1 (he e (by simp)).2 h3) fun x hx=>he x (by simp[hx])
theorem Px{n:Nat}(h3:n<=128):∀(l:List Block) {k:Nat} {S:Ds},Dz S->(∀b∈l,∀e∈b.term.to,1<=e.block∧e.block.toNat<n)->Dz (kk k S l)
 | [],_,_,h,_=>h
 | b::r,k,S,h,he=>by
  refine Px h3 r (k:=k+1) ?_ fun x hx=>he x (by simp[hx]);unfold nC;split
  ·exact h
  exact Pv h3 _ h (he b (by simp))
theorem Pw{f:Func}(h3:f.blocks.length<=128)(he:∀b∈f.blocks,∀e∈b.term.to,1<=e.block∧e.block.toNat<f.blocks.length):∀(n:Nat) {S:Ds},Dz S->Dz (ig f n S)
 | 0,_,h=>h
 | n+1,S,h=>by
  simp only[ig];split
  ·exact Pw h3 he n (Px h3 _ (S:=⟨S.over,S.seen,false⟩) ⟨h.zero,h.seen⟩ he)
  exact h
theorem M8{f:Func}:∀(n:Nat) {S:Ds},S.again=true->(ig f n S).again=false->∃T:Ds,ig f n S=kk 0 T f.blocks
 | 0,S,h1,h2=>by
  rw[ig,h1]at h2;cases h2
 | n+1,S,h1,h2=>by
  simp only[ig,h1,if_true]at h2 ⊢;cases hr:(kk 0 ⟨S.over,S.seen,false⟩ f.blocks).again with
  | false=>exact⟨_,rQ hr n⟩
  | true=>exact M8 n hr h2
def Nh(f:Func)(k:Nat):Bs:=(jV f).1[k]?.getD .none
def NZ(f:Func)(k:Nat):Bool:=(jV f).2.has k
structure Ro(f:Func):Prop where
 seen:NZ f 0=true
 zero:∀j,j<128->((Nh f 0).has j=true↔j=0)
 self:∀k,k<f.blocks.length->(Nh f k).has k=true
 step:∀(k:Nat) b,f.blocks[k]?=some b->NZ f k=true->∀e∈b.term.to,NZ f e.block.toNat=true∧∀j,j<128->((Nh f e.block.toNat).has j=true->j=e.block.toNat∨(Nh f k).has j=true)
theorem QK{f:Func}(h0:f.blocks≠[])(h1:f.blocks.length<=128)(he:∀b∈f.blocks,∀e∈b.term.to,1<=e.block∧e.block<f.blocks.length):Ro f:=by
 have m5:∀b∈f.blocks,∀e∈b.term.to,0<=e.block∧e.block.toNat<f.blocks.length:=fun b hb e hx=>by have:=he b hb e hx;omega
 have pE:∀b∈f.blocks,∀e∈b.term.to,1<=e.block∧e.block.toNat<f.blocks.length:=fun b hb e hx=>by have:=he b hb e hx;omega
 have hl:=List.length_pos_iff.2 h0;have hS:=sE h0 h1;have JO:=se hS;have Uf:Dz (jW f):=⟨by unfold Ds.at_ jW;simp only;rw[List.getElem?_set_self (by simpa using hl)];rfl,by show(Bs.none.add 0).has 0=true;decide⟩
 have iR:=M7 m5 20000 hS (fun _=>by omega);have hz:=Pw h1 pE 20000 Uf;obtain⟨T,hT⟩:=M8 20000 rfl iR;have jJ:jS f.blocks.length (ig f 20000 (jW f)):=by
  have key:∀(n:Nat) (S:Ds),jS f.blocks.length S->jS f.blocks.length (ig f n S):=fun n=>by
   induction n with
   | zero=>exact fun S h=>h
   | succ n ih =>
    intro S h;simp only[ig];split
    ·exact ih _ (nD f.blocks (k:=0) (S:=⟨S.over,S.seen,false⟩) ⟨h.few,h.len,h.fit,h.seen,h.self⟩ m5).1
    exact h
  exact key _ _ hS
 have S7:=MC f.blocks 0 (S:=T) (by rw[<-hT];exact iR);have RF:=S7.2;rw[show T=ig f 20000 (jW f) from S7.1.symm.trans hT.symm]at RF;have lF:∀k,Nh f k=(ig f 20000 (jW f)).at_ k:=fun k=>rfl;have QW:∀k,NZ f k=(ig f 20000 (jW f)).seen.has k:=fun k=>rfl;generalize ig f 20000 (jW f)=S at *;refine⟨by rw[QW,hz.seen],fun j hj=>?_,fun k hk=>by rw[lF];exact jJ.self k hk,fun k b hb hs e hx=>?_⟩
 ·rw[lF,hz.zero,Bs.has_add _ _ _ (by omega) hj];have:Bs.none.has j=false:=by unfold Bs.has Bs.none;simp
  simp[this]
 have Eu:=pE b (List.mem_of_getElem? hb) e hx;obtain⟨q1,q2⟩:=RF k b hb (by rw[Nat.zero_add,<-QW];exact hs) e hx;rw[Nat.zero_add]at q1;refine⟨by rw[QW];exact q2,fun j hj q=>?_⟩;rw[lF,<-q1,Bs.has_add _ _ _ (by omega) hj,Bs.qi]at q;rw[lF];simp only[Bool.or_eq_true,Bool.and_eq_true,decide_eq_true_eq]at q;rcases q with q|q
 ·exact .inr q.2
 exact .inl q
theorem Oh{ds:Defs}{v:Int}{p:Int×Int}(h:fC ds v=some p):(v,p)∈ds:=by
 induction ds with
 | nil=>cases h
 | cons e r ih =>
  obtain⟨a,q⟩:=e;simp only[fC]at h;split at h
  ·rename_i e;simp only[Option.some.injEq]at h;rw[e,h];simp
  exact List.mem_cons.2 (.inr (ih h))
def Pp(f:Func)(k:Nat)(n:Int)(v:Int):Prop:=∃p,Qo f v p∧(NZ f k=true->(p.1=k∧p.2<=n)∨(p.1≠k∧(Nh f k).has p.1.toNat=true))
theorem No{f:Func}{k:Nat}{n v:Int}(h:ik (Pn f) (jV f).1 (jV f).2 k n v=true):Pp f k n v:=by
 unfold ik at h;cases hl:fC (Pn f) v with
 | none=>rw[hl]at h;cases h
 | some p =>
  rw[hl]at h;refine⟨p,Qi.1 (Oh hl),fun hs=>?_⟩;have DV:(jV f).2.has k=true:=hs;simp only[DV,Bool.not_true,Bool.or_false,Bool.or_eq_true,Bool.and_eq_true,decide_eq_true_eq,Bool.not_eq_true',decide_eq_false_iff_not]at h;exact h
structure Qr(f:Func):Prop where
 ins:∀(k:Nat) b,f.blocks[k]?=some b->∀(n:Nat) i,b.ins[n]?=some i->∀a∈i.args,Pp f k n a
 arg:∀(k:Nat) b,f.blocks[k]?=some b->b.term.kind≠1->b.term.kind≠4->Pp f k b.ins.length b.term.arg
 args:∀(k:Nat) b,f.blocks[k]?=some b->∀e∈b.term.to,∀a∈e.args,Pp f k b.ins.length a
theorem Mi{ds:Defs}{over:List Bs}{seen:Bs}{k:Nat}:∀(l:List bE) (n:Nat),iJ ds over seen k n l=true->∀(j:Nat) i,l[j]?=some i->∀a∈i.args,ik ds over seen k ((n+j:Nat):Int) a=true
 | [],_,_=>fun j i h=>by simp at h
 | x::r,n,h=>fun j i hj a ha=>by
  simp only[iJ,Bool.and_eq_true,List.all_eq_true]at h;cases j with
  | zero =>
   simp only[List.getElem?_cons_zero,Option.some.injEq]at hj;subst hj;exact h.1 a ha
  | succ j =>
   rw[show n+(j+1)=n+1+j by omega];exact Mi r (n+1) h.2 j i hj a ha
theorem Ma{ds:Defs}{over:List Bs}{seen:Bs}:∀(l:List Block) (k:Nat),gG ds over seen k l=true->∀(j:Nat) b,l[j]?=some b->j4 ds over seen (k+j) b=true
 | [],_,_=>fun j i h=>by simp at h
 | x::r,k,h=>fun j b hj=>by
  simp only[gG,Bool.and_eq_true]at h;cases j with
  | zero =>
   simp only[List.getElem?_cons_zero,Option.some.injEq]at hj;subst hj;exact h.1
  | succ j =>
   rw[show k+(j+1)=k+1+j by omega];exact Ma r (k+1) h.2 j b hj
theorem Q5{f:Func}(h:oh f (Pn f)=0):Qr f:=by
 have ha:gG (Pn f) (jV f).1 (jV f).2 0 f.blocks=true:=by
  unfold oh at h;split at h
  ·assumption
  simp at h
 have hb:∀(k:Nat) b,f.blocks[k]?=some b->j4 (Pn f) (jV f).1 (jV f).2 k b=true:=fun k b hk=>by
  have:=Ma f.blocks 0 ha k b hk
  rwa [Nat.zero_add]at this
 have hu:∀(k:Nat) b,f.blocks[k]?=some b->ma b.term (ik (Pn f) (jV f).1 (jV f).2 k b.ins.length)=true:=fun k b hk=>by
  have:=hb k b hk;simp only[j4,Bool.and_eq_true]at this;exact this.2
 refine⟨fun k b hk n i hn a ha=>?_,fun k b hk h1 h4=>?_,fun k b hk e he a ha=>?_⟩
 ·have:=hb k b hk;simp only[j4,Bool.and_eq_true]at this;have:=Mi b.ins 0 this.1 n i hn a ha;rw[Nat.zero_add]at this;exact No this
 ·have:=hu k b hk;simp only[ma,Bool.and_eq_true,Bool.or_eq_true,decide_eq_true_eq,h1,h4,false_or]at this;exact No this.1
 have:=hu k b hk;simp only[ma,Bool.and_eq_true,List.all_eq_true]at this;exact No (this.2 e he a ha)
structure OB(f:Func):Prop where
 fn:DC f
 Ul:Ro f
 pC:Qr f
 vals:Pr f
 nodup:(Ce f).Nodup
 db:∀b∈f.blocks,∀e∈b.term.to,1<=e.block∧e.block<f.blocks.length
theorem KZ{f:Func}(bB:f.fit)(h:bo f=0):OB f:=by
 have hw:=dV bB h;obtain⟨hd,GA⟩:=DC.ds bB h;have he:∀b∈f.blocks,∀e∈b.term.to,1<=e.block∧e.block<f.blocks.length:=fun b hb e hx=>by
  have:=((jE (hw.blk b hb).fin).db e hx).1;omega
 refine⟨hw,QK hw.ne hw.few he,Q5 (by rw[<-hd];exact hw.pC),fun v hv=>?_,?_,he⟩
 ·rw[<-OG]at hv;obtain⟨e,h1,rfl⟩:=List.mem_map.1 hv;exact GA.range e h1
 rw[<-OG];exact GA.nodup
theorem OB.below{f:Func}(hv:OB f){v:Int}(h:v∈Ce f):0<=v∧v<p' f∧p' f<=4096 :=
 ⟨(hv.vals v h).1,(Lm (Ce f) 0).2 v h,KL _ _ (by omega) fun w hw=>(hv.vals w hw).2⟩
def Li(op:Int):Bool:=decide (op∈[0,1,2,3,4,5,6,7,10,12,17,24,15,20,18])
def Q8(x:Bool)(l:List Int)(w:List Bool):List Bool:=l.foldl (fun w v=>w.set v.toNat x) w
def Q7(l:List bE)(w:List Bool):List Bool:=l.foldl (fun w i=>w.set i.to.toNat (Li i.op)) w
def P8:Nat->List Block->List Bool->List Bool
 | _,[],w=>w
 | k,b::r,w=>P8 (k+1) r (Q7 b.ins (Q8 (decide ((0:Int)<(k:Int))) b.params w))
def Q6(s:List Bool×Bool)(p:Int×Int):List Bool×Bool:=if s.1.getD p.1.toNat false=true∧s.1.getD p.2.toNat false=false then(s.1.set p.1.toNat false,true)else s
def Rl(f:Func)(s:List Bool×Bool)(e:Edge):List Bool×Bool:=((aD f e.block).params.zip e.args).foldl Q6 s
def QF(f:Func)(s:List Bool×Bool)(k:Int):List Bool×Bool:=(aD f k).term.to.foldl (Rl f) s
def QG(f:Func)(w:List Bool):List Bool×Bool:=(La f).foldl (QF f) (w,false)
def LC(f:Func):Nat->List Bool->List Bool
 | 0,w=>w
 | n+1,w=>if(QG f w).2=true then LC f n (QG f w).1 else(QG f w).1
def Po(f:Func):List Bool:=P8 0 f.blocks (List.replicate (p' f).toNat false)
def w5(f:Func):List Bool:=LC f ((p' f).toNat+1) (Po f)
theorem ND(x:Bool):∀(l:List Int) (w:List Bool),(Q8 x l w).length=w.length
 | [],_=>rfl
 | v::r,w=>by
  show(Q8 x r _).length=_;rw[ND x r,List.length_set]
theorem NC:∀(l:List bE) (w:List Bool),(Q7 l w).length=w.length
 | [],_=>rfl
 | v::r,w=>by
  show(Q7 r _).length=_;rw[NC r,List.length_set]
theorem NB:∀(k:Nat) (l:List Block) (w:List Bool),(P8 k l w).length=w.length
 | _,[],_=>rfl
 | k,b::r,w=>by rw[P8,NB,NC,ND]
theorem NA(f:Func):(Po f).length=(p' f).toNat:=by rw[Po,NB,List.length_replicate]
def LG:List Bool->Nat
 | []=>0
 | true::r=>LG r+1
 | false::r=>LG r
theorem NJ:∀{w:List Bool} {j:Nat},w.getD j false=true->LG (w.set j false)+1=LG w
 | [],_,h=>by simp at h
 | a::r,0,h=>by
  simp at h;subst h;rfl
 | a::r,j+1,h=>by
  have ih:=NJ (w:=r) (j:=j) (by simpa using h);rw[List.set_cons_succ];cases a<;>simp only[LG]<;>omega
theorem Mv:∀w:List Bool,LG w<=w.length
 | []=>Nat.le_refl _
 | a::r=>by
  have:=Mv r;cases a<;>simp only[LG,List.length_cons]<;>omega
structure OS(s t:List Bool×Bool):Prop where
 len:t.1.length=s.1.length
 Rb:LG t.1<=LG s.1
 again:s.2=true->t.2=true
 new:t.2=true->s.2=false->LG t.1<LG s.1
 same:t.2=false->t=s
 less:∀j:Nat,s.1.getD j false=false->t.1.getD j false=false
theorem OS.refl(s:List Bool×Bool):OS s s:=⟨rfl,Nat.le_refl _,id,fun h1 h2=>(by rw[h1]at h2;cases h2),fun _=>rfl,fun _ h=>h⟩
theorem OS.trans{s t r:List Bool×Bool}(h:OS s t)(k:OS t r):OS s r where
 len:=k.len.trans h.len
 Rb:=Nat.le_trans k.Rb h.Rb
 again:=fun q=>k.again (h.again q)
 new:=fun h1 h2=>by
  cases ht:t.2 with
  | true=>exact Nat.lt_of_le_of_lt k.Rb (h.new ht h2)
  | false=>exact Nat.lt_of_lt_of_le (k.new h1 ht) h.Rb
 same:=fun q=>by
  have:=k.same q;subst this;exact h.same q
 less:=fun j q=>k.less j (h.less j q)
theorem QE(s:List Bool×Bool)(p:Int×Int):OS s (Q6 s p):=by
 unfold Q6;split
 ·rename_i h;have hc:=NJ h.1;refine⟨by simp,by simp only;omega,fun _=>rfl,fun _ _=>by simp only;omega,fun q=>(by cases q),fun j q=>?_⟩;simp only[List.getD_eq_getElem?_getD]at q ⊢;rw[List.getElem?_set];split
  ·split<;>rfl
  exact q
 exact .refl s
theorem MF{α:Type}{g:List Bool×Bool->α->List Bool×Bool}(h:∀s a,OS s (g s a)):∀(l:List α) (s:List Bool×Bool),OS s (l.foldl g s)
 | [],s=>.refl s
 | a::r,s=>(h s a).trans (MF h r (g s a))
theorem P1(f:Func)(s:List Bool×Bool)(e:Edge):OS s (Rl f s e):=MF QE _ s
theorem P2(f:Func)(s:List Bool×Bool)(k:Int):OS s (QF f s k):=MF (P1 f) _ s
theorem OP(f:Func)(w:List Bool):OS (w,false) (QG f w):=MF (P2 f) _ _
theorem Nl(f:Func):∀(n:Nat) (w:List Bool),(LC f n w).length=w.length
 | 0,_=>rfl
 | n+1,w=>by
  have h:=(OP f w).len;unfold LC;split
  ·rw[Nl f n,h]
  exact h
theorem MU(f:Func):(w5 f).length=(p' f).toNat:=by rw[w5,Nl,NA]
def SZ(f:Func)(w:List Bool)(e:Edge):Prop:=∀p∈(aD f e.block).params.zip e.args,w.getD p.1.toNat false=true->w.getD p.2.toNat false=true
theorem Lr{α:Type}{g:List Bool×Bool->α->List Bool×Bool}(h:∀s a,OS s (g s a)):∀(l:List α) (s:List Bool×Bool),(l.foldl g s).2=false->∀a∈l,g s a=s
 | [],_,_,a,ha=>by cases ha
 | x::r,s,hq,a,ha=>by
  have h1:(g s x).2=false:=by
   cases h2:(g s x).2 with
   | false=>rfl
   | true =>
    have:=(MF h r (g s x)).again h2;rw[List.foldl_cons]at hq;rw[this]at hq;cases hq
  have h3:=(h s x).same h1;rw[List.foldl_cons,h3]at hq;rcases List.mem_cons.1 ha with q|q
  ·rw[q];exact h3
  exact Lr h r s hq a q
theorem Qm{f:Func}{w:List Bool}(h:(QG f w).2=false):(QG f w).1=w∧∀k∈La f,∀e∈(aD f k).term.to,SZ f w e:=by
 refine⟨by rw[(OP f w).same h],fun k hk e he p hp hw=>?_⟩;have h1:=Lr (P2 f) _ _ h k hk;have h2:=Lr (P1 f) _ _ (by show(QF f (w,false) k).2=false;rw[h1]) e he;have h3:=Lr QE _ _ (by show(Rl f (w,false) e).2=false;rw[h2]) p hp;unfold Q6 at h3;split at h3
 ·have:=congrArg Prod.snd h3;cases this
 rename_i hn;cases hx:w.getD p.2.toNat false with
 | true=>rfl
 | false=>exact absurd ⟨hw,hx⟩ hn
theorem L8{f:Func}:∀(n:Nat) (w:List Bool),LG w<n->(∀j:Nat,w.getD j false=false->(LC f n w).getD j false=false)∧∀k∈La f,∀e∈(aD f k).term.to,SZ f (LC f n w) e
 | 0,_,h=>absurd h (Nat.not_lt_zero _)
 | n+1,w,h=>by
  unfold LC;split
  ·rename_i hq;have ht:=OP f w;have hn:=ht.new hq rfl;obtain⟨i1,i2⟩:=L8 n (QG f w).1 (by simp only at hn;omega);exact⟨fun j q=>i1 j (ht.less j q),i2⟩
  rename_i hq;obtain⟨e1,e2⟩:=Qm (f:=f) (w:=w) (by simpa using hq);rw[e1];exact⟨fun _ q=>q,e2⟩
theorem ML{u:bR}{m:Mach}(hm:bG u m)(ho:m.over=false)(hp:¬m.left<1):bG u (m.cR 1)∧(m.cR 1).over=false∧(m.cR 1).short=false∧(m.cR 1).left=m.left-1∧(m.cR 1).frames=m.frames:=by
 have h0:=hm.left;have hd:=hm.depth;have wu:m.cR 1 = { m with left:=m.left-1 }:=by simp[Mach.cR,hp]
 rw[wu];exact⟨⟨fun f hf=>(hm.frames f hf).of_heap (by rfl),fun a ha=>⟨(hm.gk a ha).1,fun v hv=>((hm.gk a ha).2 v hv).of_heap (by rfl)⟩,by simp only;omega,by simp only;omega,hm.out,hm.words,hm.fin,hm.val,hm.done,fun h=>hm.over h⟩,ho,(hm.over ho).2,rfl,rfl⟩
theorem L6{m:Mach}(hp:m.left<1):m.cR 1 = { m with short:=true,over:=true }:=by simp[Mach.cR,hp]
theorem MN{u:bR}(hu:ep u):∀(k:Nat) (m:Mach),bG u m->m.left.toNat+2<=k->(Mach.run u k m).over=true∧(Mach.run u k m).left<=m.left∧(m.over=false->(Mach.run u k m).short=false->(Mach.run u k m).left<=m.left-1)∧((Mach.run u k m).short=false->bG u (Mach.run u k m))
 | 0,m,hm,hk=>by omega
 | k+1,m,hm,hk=>by
  cases lF:m.over with
  | true=>simp[Mach.run,lF,hm]
  | false =>
   have hl:=hm.left;have hd:=hm.depth;simp only[Mach.run,lF,Bool.false_eq_true,if_false];by_cases hp:m.left<1
   ·rw[L6 hp];simp
   obtain⟨q1,q2,q3,q4,q5⟩:=ML hm lF hp;rw[if_neg (by simp[q3])];have nN:(m.cR 1).frames.length+(m.cR 1).left+1<=2 ^ 40:=by rw[q4,q5];omega
   have hs:=bG.step hu q1 q2 nN;have o5:=oP u (m.cR 1) q1 hu q2;have Aj:=hs.left;have ih:=MN hu k _ hs (by omega);refine⟨ih.1,by have:=ih.2.1;omega,fun _ _=>by have:=ih.2.1;omega,ih.2.2.2⟩
namespace Mach
def shift(m:Mach)(c:Int):Mach:={ m with left:=m.left+c }
theorem Nx(m:Mach)(c:Int)(f:Fr):(m.shift c).bf f=(m.bf f).shift c:=rfl
theorem N0(m:Mach)(c:Int)(f:Fr)(v:SV):(m.shift c).leave f v=(m.leave f v).shift c:=by
 unfold leave;show(match m.frames.tail with | []=>_|g::r=>_)=_;cases m.frames.tail<;>rfl
theorem Nw(u:bR)(m:Mach)(c:Int)(f:Fr)(t:Term):(m.shift c).finish u f t=(m.finish u f t).shift c:=by
 unfold finish;split
 ·rfl
 split
 ·rfl
 split
 ·exact N0 ..
 split<;>rfl
theorem Nj(m:Mach)(c n:Int)(h:¬m.left<n)(h':¬m.left+c<n):(m.shift c).cR n=(m.cR n).shift c:=by
 have h1:m.cR n = { m with left:=m.left-n }:=by simp[cR,h]
 have h2:(m.shift c).cR n = { m.shift c with left:=(m.shift c).left-n }:=by simp[cR,shift,h']
 rw[h1,h2];simp only[shift];congr 1;omega
theorem MQ(m:Mach)(c:Int)(size fill:SV)(hs:(m.bt size fill).1.short=false)(hl:0<=(m.bt size fill).1.left+c):(m.shift c).bt size fill=((m.bt size fill).1.shift c,(m.bt size fill).2):=by
 unfold bt at hs hl ⊢;by_cases h1:size.kind≠0
 ·rw[if_pos h1,if_pos h1]
 rw[if_neg h1]at hs hl;rw[if_neg h1,if_neg h1];by_cases h2:size.n<0∨1024<size.n
 ·rw[if_pos h2,if_pos h2]
 rw[if_neg h2]at hs hl;rw[if_neg h2,if_neg h2];by_cases h3:(m.cR size.n).short=true
 ·rw[if_pos h3]at hs;simp only at hs;rw[hs]at h3;cases h3
 rw[if_neg h3]at hl;have h4:¬m.left<size.n:=fun q=>h3 (by simp[cR,q]);have h5:m.cR size.n = { m with left:=m.left-size.n }:=by simp[cR,h4]
 have h7:(m.cR size.n).left=m.left-size.n:=by rw[h5]
 simp only[h7]at hl;rw[Nj m c size.n h4 (by omega)];have h6:¬((m.cR size.n).shift c).short=true:=h3;rw[if_neg h6,if_neg h3];rfl
theorem Nv(m:Mach)(c:Int)(i:bE)(args:List SV)(hs:(m.effect i args).1.short=false)(hl:0<=(m.effect i args).1.left+c):(m.shift c).effect i args=((m.effect i args).1.shift c,(m.effect i args).2):=by
 unfold effect at hs hl ⊢;by_cases sJ:i.op=15
 ·rw[if_pos sJ,if_pos sJ];show(if _ then _ else if m.out.length=1000 then _ else _)=_;split
  ·rfl
  split<;>rfl
 rw[if_neg sJ]at hs hl;rw[if_neg sJ,if_neg sJ];by_cases rX:i.op=16
 ·rw[if_pos rX]at hs hl;rw[if_pos rX,if_pos rX];exact MQ m c _ _ hs hl
 rw[if_neg rX,if_neg rX];by_cases tH:i.op=18
 ·rw[if_pos tH,if_pos tH];split
  ·rfl
  split<;>rfl
 have hh:(m.shift c).heap=m.heap:=rfl;rw[if_neg tH,if_neg tH,hh];by_cases k1:(ca args 0).kind≠3∨(i.op≠17∧(ca args 1).kind≠0)
 ·rw[if_pos k1,if_pos k1]
 rw[if_neg k1,if_neg k1];by_cases k2:i.op=17
 ·rw[if_pos k2,if_pos k2]
 rw[if_neg k2,if_neg k2];by_cases k3:(ca args 1).n<0∨((gR m.heap (ca args 0).arr).length:Int)<=(ca args 1).n
 ·rw[if_pos k3,if_pos k3]
 rw[if_neg k3,if_neg k3];by_cases k4:i.op=19
 ·rw[if_pos k4,if_pos k4]
 rw[if_neg k4,if_neg k4];rfl
theorem MR(m:Mach)(c:Int)(i:bE)(args:List SV)(hs:(m.exec i args).1.short=false)(hl:0<=(m.exec i args).1.left+c):(m.shift c).exec i args=((m.exec i args).1.shift c,(m.exec i args).2):=by
 unfold exec at hs hl ⊢;by_cases h0:i.op=0
 ·rw[if_pos h0,if_pos h0]
 rw[if_neg h0]at hs hl;rw[if_neg h0,if_neg h0];by_cases h1:1<=i.op∧i.op<=7
 ·rw[if_pos h1,if_pos h1];split<;>rfl
 rw[if_neg h1]at hs hl;rw[if_neg h1,if_neg h1];by_cases h8:i.op=8
 ·rw[if_pos h8,if_pos h8]
 rw[if_neg h8]at hs hl;rw[if_neg h8,if_neg h8];by_cases h9:i.op=9
 ·rw[if_pos h9,if_pos h9]
 rw[if_neg h9]at hs hl;rw[if_neg h9,if_neg h9];by_cases rW:i.op=10∨i.op=11∨i.op=12∨i.op=21
 ·rw[if_pos rW,if_pos rW]
 rw[if_neg rW]at hs hl;rw[if_neg rW,if_neg rW];by_cases v7:i.op=22∨i.op=23∨i.op=24
 ·rw[if_pos v7,if_pos v7]
 rw[if_neg v7]at hs hl;rw[if_neg v7,if_neg v7];by_cases gB:i.op=100
 ·rw[if_pos gB,if_pos gB]
 rw[if_neg gB]at hs hl;rw[if_neg gB,if_neg gB];exact Nv m c i args hs hl
theorem LU(f:Fr)(to:Int)(r:Mach×SV×Int):(settle f to r).short=r.1.short∧(settle f to r).left=r.1.left:=by
 unfold settle;split<;>exact⟨rfl,rfl⟩
theorem Ny(f:Fr)(to:Int)(r:Mach×SV×Int)(c:Int):settle f to (r.1.shift c,r.2)=(settle f to r).shift c:=by
 unfold settle;simp only;split<;>rfl
theorem Ox(u:bR)(m:Mach)(c:Int)(hs:(m.step u).short=false)(hl:0<=(m.step u).left+c):(m.shift c).step u=(m.step u).shift c:=by
 unfold step at hs hl ⊢;show(match m.frames with | []=>m.shift c|f::_=>_)=_;cases hf:m.frames with
 | nil=>rfl
 | cons f r =>
  rw[hf]at hs hl;simp only at hs hl ⊢;cases hi:(aD (aL u f.fn) f.blk).ins[f.pos]? with
  | none =>
   simp only;exact Nw u m c f _
  | some i =>
   rw[hi]at hs hl;simp only at hs hl ⊢;rw[Nx];generalize m.bf { f with pos:=f.pos+1 }=m' at *;unfold act at hs hl ⊢;by_cases nj:i.op=13
   ·simp only[nj,if_true];rfl
   by_cases oE:i.op=14
   ·rw[if_neg nj,if_pos oE]at hs hl ⊢;rw[if_neg nj,if_pos oE];split<;>rfl
   rw[if_neg nj,if_neg oE]at hs hl ⊢;rw[if_neg nj,if_neg oE];have q:=LU { f with pos:=f.pos+1 } i.to (m'.exec i (bN f.vals i.args));rw[q.1]at hs;rw[q.2]at hl;rw[MR m' c i _ hs hl,Ny]
end Mach
theorem KR{u:bR}{m:Mach}(h:m.over=true)(k:Nat):Mach.run u k m=m:=by
 cases k with
 | zero=>rfl
 | succ k=>simp[Mach.run,h]
theorem Ni{u:bR}(hu:ep u)(c:Int):∀(k:Nat) (m:Mach),bG u m->m.left.toNat+2<=k->(Mach.run u k m).short=false->0<=(Mach.run u k m).left+c->∀j,k<=j∨(m.left+c).toNat+2<=j->Mach.run u j (m.shift c)=(Mach.run u k m).shift c
 | 0,m,hm,hk,_,_,j,hj=>by omega
 | k+1,m,hm,hk,hs,hl,j,hj=>by
  cases lF:m.over with
  | true =>
   have h1:(m.shift c).over=true:=lF;rw[KR lF,KR h1]
  | false =>
   have EN:=hm.left;have hd:=hm.depth;have bz:Mach.run u (k+1) m=if(m.cR 1).short then m.cR 1 else Mach.run u k (Mach.step u (m.cR 1)):=by simp[Mach.run,lF]
   rw[bz]at hs hl ⊢;by_cases hp:m.left<1
   ·rw[L6 hp]at hs;simp at hs
   obtain⟨q1,q2,q3,q4,q5⟩:=ML hm lF hp;rw[if_neg (by simp[q3])]at hs hl ⊢;have nN:(m.cR 1).frames.length+(m.cR 1).left+1<=2 ^ 40:=by rw[q4,q5];omega
   have dD:=bG.step hu q1 q2 nN;have o5:=oP u (m.cR 1) q1 hu q2;have Aj:=dD.left;have hr:=MN hu k _ dD (by omega);obtain⟨j,rfl⟩:∃j',j=j'+1:=⟨j-1,by omega⟩
   have P4:(Mach.step u (m.cR 1)).short=false:=by
    cases hx:(Mach.step u (m.cR 1)).short with
    | false=>rfl
    | true =>
     have ho:(Mach.step u (m.cR 1)).over=true:=by
      cases hy:(Mach.step u (m.cR 1)).over with
      | true=>rfl
      | false=>rw[(dD.over hy).2]at hx;cases hx
     rw[KR ho,hx]at hs;cases hs
   have h1:Mach.run u (j+1) (m.shift c)=if((m.shift c).cR 1).short then(m.shift c).cR 1 else Mach.run u j (Mach.step u ((m.shift c).cR 1)):=by
    have:(m.shift c).over=false:=lF;simp[Mach.run,this]
   have hle:=hr.2.1;rw[h1,Mach.Nj m c 1 hp (by omega)];have h2:¬((m.cR 1).shift c).short=true:=by
    show ¬(m.cR 1).short=true;rw[q3];simp
   rw[if_neg h2,Mach.Ox u (m.cR 1) c P4 (by omega)];exact Ni hu c k _ dD (by omega) hs hl j (by omega)
end Go.Proofs.Ytkhnjeblbiocaaa
namespace Go.Proofs.Ytkhnjeblbiocaaa
open Go.Av
theorem LM(es:List (Int×SV))(k j:Int)(v:SV):cZ (cK es k v) j=if k=j then v else cZ es j:=by
 unfold cZ;induction es with
 | nil =>
  simp only[cK,gq];split<;>rfl
 | cons p r ih =>
  obtain⟨a,x⟩:=p;simp only[cK];by_cases h:a=k
  ·rw[if_pos h];subst h;simp only[gq];split<;>rfl
  rw[if_neg h];simp only[gq];by_cases h2:a=j
  ·rw[if_pos h2,if_pos h2,if_neg (fun q=>h (by rw[h2,q]))]
  rw[if_neg h2,if_neg h2];exact ih
def VR(D:Int->Prop)(s:Int->Int)(es jl:List (Int×SV)):Prop:=∀k,D k->cZ jl (s k)=cZ es k
section
variable {D:Int->Prop} {s:Int->Int}
end
namespace Mach
def put(m:Mach)(fs:List Fr)(l:Int):Mach:={ m with frames:=fs,left:=l }
theorem Mt(m:Mach)(fs:List Fr)(size fill:SV):({ m with frames:=fs }:Mach).bt size fill=({ (m.bt size fill).1 with frames:=fs },(m.bt size fill).2):=by
 unfold bt;by_cases h1:size.kind≠0
 ·rw[if_pos h1,if_pos h1]
 rw[if_neg h1,if_neg h1];by_cases h2:size.n<0∨1024<size.n
 ·rw[if_pos h2,if_pos h2]
 rw[if_neg h2,if_neg h2];have e:({ m with frames:=fs }:Mach).cR size.n = { m.cR size.n with frames:=fs }:=by
  unfold cR;by_cases h3:m.left<size.n
  ·rw[if_pos h3,if_pos h3]
  rw[if_neg h3,if_neg h3]
 rw[e];by_cases h4:(m.cR size.n).short=true
 ·rw[if_pos h4,if_pos h4]
 rw[if_neg h4,if_neg h4]
theorem MY(m:Mach)(fs:List Fr)(i:bE)(args:List SV):({ m with frames:=fs }:Mach).effect i args=({ (m.effect i args).1 with frames:=fs },(m.effect i args).2):=by
 unfold effect;by_cases sJ:i.op=15
 ·rw[if_pos sJ,if_pos sJ];show(if _ then _ else if m.out.length=1000 then _ else _)=_;split
  ·rfl
  split<;>rfl
 rw[if_neg sJ,if_neg sJ];by_cases rX:i.op=16
 ·rw[if_pos rX,if_pos rX];exact Mt m fs _ _
 rw[if_neg rX,if_neg rX];by_cases tH:i.op=18
 ·rw[if_pos tH,if_pos tH];split
  ·rfl
  split<;>rfl
 rw[if_neg tH,if_neg tH];by_cases k1:(ca args 0).kind≠3∨(i.op≠17∧(ca args 1).kind≠0)
 ·rw[if_pos k1,if_pos k1]
 rw[if_neg k1,if_neg k1];by_cases k2:i.op=17
 ·rw[if_pos k2,if_pos k2]
 rw[if_neg k2,if_neg k2];show(if(ca args 1).n<0∨((gR m.heap (ca args 0).arr).length:Int)<=(ca args 1).n then _ else _)=_;by_cases k3:(ca args 1).n<0∨((gR m.heap (ca args 0).arr).length:Int)<=(ca args 1).n
 ·rw[if_pos k3,if_pos k3]
 rw[if_neg k3,if_neg k3];by_cases k4:i.op=19
 ·rw[if_pos k4,if_pos k4]
 rw[if_neg k4,if_neg k4]
theorem NN(m:Mach)(fs:List Fr)(i:bE)(args:List SV):({ m with frames:=fs }:Mach).exec i args=({ (m.exec i args).1 with frames:=fs },(m.exec i args).2):=by
 unfold exec;by_cases h0:i.op=0
 ·rw[if_pos h0,if_pos h0]
 rw[if_neg h0,if_neg h0];by_cases h1:1<=i.op∧i.op<=7
 ·rw[if_pos h1,if_pos h1];split<;>rfl
 rw[if_neg h1,if_neg h1];by_cases h8:i.op=8
 ·rw[if_pos h8,if_pos h8]
 rw[if_neg h8,if_neg h8];by_cases h9:i.op=9
 ·rw[if_pos h9,if_pos h9]
 rw[if_neg h9,if_neg h9];by_cases rW:i.op=10∨i.op=11∨i.op=12∨i.op=21
 ·rw[if_pos rW,if_pos rW]
 rw[if_neg rW,if_neg rW];by_cases v7:i.op=22∨i.op=23∨i.op=24
 ·rw[if_pos v7,if_pos v7]
 rw[if_neg v7,if_neg v7];by_cases gB:i.op=100
 ·rw[if_pos gB,if_pos gB]
 rw[if_neg gB,if_neg gB];exact MY m fs i args
theorem PT(m:Mach)(fs:List Fr)(l:Int)(i:bE)(args:List SV)(hs:(m.exec i args).1.short=false)(h0:0<=(m.exec i args).1.left)(hl:m.left<=l) :
  (m.put fs l).exec i args=((m.exec i args).1.put fs (l-(m.left-(m.exec i args).1.left)),(m.exec i args).2):=by
 have e:m.put fs l = { m.shift (l-m.left)with frames:=fs }:=by
  unfold put shift;simp only[Mach.mk.injEq,true_and,and_true];omega
 rw[e,NN,MR m _ i args hs (by omega)];unfold put shift;simp only[Prod.mk.injEq,Mach.mk.injEq,true_and,and_true];omega
inductive Steps(u:bR):Nat->Mach->Mach->Prop
 | refl (m:Mach):Steps u 0 m m
 | cons {n:Nat} {m m':Mach}:m.over=false->m.short=false->1<=m.left->Steps u n (step u { m with left:=m.left-1 }) m'->Steps u (n+1) m m'
theorem LQ{m:Mach}(h:1<=m.left):m.cR 1 = { m with left:=m.left-1 }:=by
 unfold cR;rw[if_neg (by omega)]
theorem Steps.trans{u:bR}{a b:Nat}{m m' lg:Mach}(h:Steps u a m m')(k:Steps u b m' lg):Steps u (a+b) m lg:=by
 induction h with
 | refl m=>rw[Nat.zero_add];exact k
 | cons h1 h2 h3 _ ih =>
  rw[Nat.add_right_comm];exact .cons h1 h2 h3 (ih k)
theorem Steps.run{u:bR}{n:Nat}{m m':Mach}(h:Steps u n m m')(k:Nat):Mach.run u (n+k) m=Mach.run u k m':=by
 induction h with
 | refl m=>rw[Nat.zero_add]
 | cons h1 h2 h3 _ ih =>
  rw[Nat.add_right_comm];simp only[Mach.run];rw[if_neg (by rw[h1];simp),LQ h3,if_neg (by simp only;rw[h2];simp)];exact ih
theorem Steps.before{u:bR}{n:Nat}{m m':Mach}(h:Steps u n m m'):∀k,k<n->(Mach.run u k m).over=false:=by
 induction h with
 | refl m=>intro k hk;omega
 | cons h1 h2 h3 _ ih =>
  intro k hk;cases k with
  | zero=>exact h1
  | succ k =>
   simp only[Mach.run];rw[if_neg (by rw[h1];simp),LQ h3,if_neg (by simp only;rw[h2];simp)];exact ih k (by omega)
end Mach
section
variable (u v:bR) (s:Int->Int) (D L:Int->Int->Prop) (β:Int->Int->Int) (pre:Int->Int->List bE)
structure FR(f f':Fr):Prop where
 ids:f'.bP=f.bP∧f'.di=f.di∧f'.fn=f.fn
 fn:0<=f.fn∧f.fn<u.fns.length
 live:L f.fn f.blk
 blk:f'.blk=β f.fn f.blk
 pos:f'.pos=(pre f.fn f.blk).length+f.pos
 vals:VR (D f.fn) s f.vals f'.vals
def Tv(f f':Fr):List Fr->Prop
 | []=>True
 | g::_=>f'.to=s f.to∧D g.fn f.to
def SY:List Fr->List Fr->Prop
 | [],[]=>True
 | f::r,f'::r'=>FR u s D L β pre f f'∧Tv s D f f' r∧SY r r'
 | _,_=>False
def Rel(c d:Int)(m m':Mach):Prop:=∃fs l,m'=m.put fs l∧SY u s D L β pre m.frames fs∧c*m.left<=l∧l<=m.left+d
end
section
variable {u v:bR} {s:Int->Int} {D L:Int->Int->Prop} {β:Int->Int->Int} {pre:Int->Int->List bE} {c d:Int}
theorem PN{c x l a:Int}(hc:1<=c)(h:c*x<=l)(ha:0<=a):c*(x-a)<=l-a:=by
 have h1:c*(x-a)=c*x-c*a:=Int.mul_sub ..;have h2:1*a<=c*a:=Int.mul_le_mul_of_nonneg_right hc ha;omega
theorem Ow(E:Mach)(E2:SV×Int)(f f':Fr)(fs:List Fr)(to Tt y:Int):Mach.settle f' Tt (E.put fs y,E2)=(Mach.settle f to (E,E2)).put ({ f' with vals:=cK f'.vals Tt E2.1 }::fs.tail) y:=by
 unfold Mach.settle;simp only;split<;>rfl
theorem LA(E:Mach)(E2:SV×Int)(f:Fr)(to:Int):(Mach.settle f to (E,E2)).frames = { f with vals:=cK f.vals to E2.1 }::E.frames.tail∧(Mach.settle f to (E,E2)).left=E.left:=by
 unfold Mach.settle;simp only;split<;>exact⟨rfl,rfl⟩
end
end Go.Proofs.Ytkhnjeblbiocaaa
namespace Go.Proofs.Ytkhnjeblbiocaaa
open Go.Av

structure Se(f:Func):Prop where
 few:f.blocks.length<=128
 params:∀b∈f.blocks,b.params.length<=4096
 ins:∀b∈f.blocks,b.ins.length<=1024
 QB:∀b∈f.blocks,∀i∈b.ins,i.args.length<=16
 cases:∀b∈f.blocks,b.term.cases.length<=256
 to:∀b∈f.blocks,b.term.to.length<=257
 Qu:∀b∈f.blocks,∀e∈b.term.to,e.args.length<=4096
def Nf(id:Nat)(bs:List Block):ae:=if bs=[]then .aE 7 [] .ex else .os id bs.length 7

end Go.Proofs.Ytkhnjeblbiocaaa
namespace Go.Av

end Go.Av
namespace Go.Proofs.Ytkhnjeblbiocaaa
open Go.Av

end Go.Proofs.Ytkhnjeblbiocaaa
namespace Go.Proofs.Ytkhnjeblbiocaaa
open Go.Av
section
variable {f:Func}
end
end Go.Proofs.Ytkhnjeblbiocaaa
namespace Go.Proofs.Ytkhnjeblbiocaaa
open Go.Av

end Go.Proofs.Ytkhnjeblbiocaaa
namespace Go.Proofs.Ytkhnjeblbiocaaa
open Go.Av
section
variable {f:Func}
end
end Go.Proofs.Ytkhnjeblbiocaaa
namespace Go.Proofs.Ytkhnjeblbiocaaa
open Go.Av
theorem Lj{u:bR}(h:dr u=0):u.fns.length≠0∧u.fns.length<=256∧within u.main 0 ((u.fns.length:Int)-1)=true∧(∀f∈u.fns,bo f=0)∧(aD (aL u u.main) 0).params.length=0∧gv u u.fns=0:=by
 unfold dr at h;split at h
 ·simp at h
 rename_i h1;split at h
 ·simp at h
 rename_i h2;split at h
 ·simp at h
 rename_i h3;obtain⟨h4,h5⟩:=hZ h;split at h5
 ·simp at h5
 rename_i h6;exact⟨h1,by omega,by simpa using h3,k8 h4,by omega,h5⟩
section
variable {u:bR} (bB:u.fit) (hc:dr u=0)
include bB hc
end
end Go.Proofs.Ytkhnjeblbiocaaa
namespace Go.Proofs.Ytkhnjeblbiocaaa
open Go.Av


end Go.Proofs.Ytkhnjeblbiocaaa
namespace Go.Proofs.Ytkhnjeblbiocaaa
open Go.Av
section
variable {f:Func}
end
end Go.Proofs.Ytkhnjeblbiocaaa
namespace Go.Proofs.Ytkhnjeblbiocaaa
open Go.Av
theorem K3{f:Func}{k:Nat}{n v:Int}(h:Pp f k n v):v∈Ce f:=by
 obtain⟨p,⟨k',b,h1,h2,h3⟩,_⟩:=h;refine List.mem_flatMap.2 ⟨b,List.mem_of_getElem? h1,?_⟩;rcases h3 with⟨_,q⟩|⟨j,i,q1,q2,q3⟩
 ·exact List.mem_append_left _ q
 exact List.mem_append_right _ (List.mem_map.2 ⟨i,List.mem_of_getElem? q1,q2⟩)
section
variable {f g:Func} {s:Int->Int} {β:Nat->Nat} {pre:Nat->List bE}
end
end Go.Proofs.Ytkhnjeblbiocaaa
namespace Go.Proofs.Ytkhnjeblbiocaaa
open Go.Av
section
variable {u:bR} (bB:u.fit) (hc:dr u=0)
include bB hc
end
section
variable {u:bR} (bB:u.fit) (hc:dr u=0)
include bB hc
end
theorem LY(f:Func):0<=p' f:=(Lm (Ce f) 0).1
section
variable {u:bR} (bB:u.fit) (hc:dr u=0)
include bB hc
end
end Go.Proofs.Ytkhnjeblbiocaaa
namespace Go.Proofs.Ytkhnjeblbiocaaa
open Go.Av
def w7:Nat->List Block->List (Int×Bool)
 | _,[]=>[]
 | k,b::r=>b.params.map (fun v=>(v,decide ((0:Int)<(k:Int))))++b.ins.map (fun i=>(i.to,Li i.op))++w7 (k+1) r
def KH(w:List Bool)(l:List (Int×Bool)):List Bool:=l.foldl (fun w p=>w.set p.1.toNat p.2) w
theorem MO(w:List Bool)(a b:List (Int×Bool)):KH w (a++b)=KH (KH w a) b:=by unfold KH;rw[List.foldl_append]
theorem Nk:∀(k:Nat) (l:List Block) (w:List Bool),P8 k l w=KH w (w7 k l)
 | _,[],_=>rfl
 | k,b::r,w=>by
  rw[P8,w7,MO,MO,Nk (k+1) r];have h1:KH w (b.params.map (fun v=>(v,decide ((0:Int)<(k:Int)))))=Q8 (decide ((0:Int)<(k:Int))) b.params w:=by unfold KH Q8;rw[List.foldl_map]
  have h2:∀w,KH w (b.ins.map (fun i=>(i.to,Li i.op)))=Q7 b.ins w:=fun w=>by unfold KH Q7;rw[List.foldl_map]
  rw[h1,h2]
theorem Mo:∀(k:Nat) (l:List Block),(w7 k l).map Prod.fst=l.flatMap Ci
 | _,[]=>rfl
 | k,b::r=>by
  rw[w7,List.map_append,List.map_append,Mo (k+1) r,List.flatMap_cons];simp[Ci,List.map_map,Function.comp_def]
theorem LS:∀(l:List (Int×Bool)) (w:List Bool) (j:Nat),(∀p∈l,p.1.toNat≠j)->(KH w l).getD j false=w.getD j false
 | [],_,_,_=>rfl
 | p::r,w,j,h=>by
  have ih:=LS r (w.set p.1.toNat p.2) j fun q hq=>h q (List.mem_cons_of_mem _ hq);show(KH (w.set p.1.toNat p.2) r).getD j false=_;rw[ih];simp only[List.getD_eq_getElem?_getD];rw[List.getElem?_set_ne (h p List.mem_cons_self)]
theorem MP:∀(l:List (Int×Bool)) (w:List Bool),(l.map Prod.fst).Nodup->(∀p∈l,0<=p.1∧p.1.toNat<w.length)->∀p∈l,(KH w l).getD p.1.toNat false=p.2
 | [],_,_,_,p,hp=>by cases hp
 | q::r,w,hn,hb,p,hp=>by
  rw[List.map_cons,List.nodup_cons]at hn;show(KH (w.set q.1.toNat q.2) r).getD p.1.toNat false=_;rcases List.mem_cons.1 hp with e|e
  ·subst e;have h0:=hb p List.mem_cons_self;rw[LS]
   ·simp only[List.getD_eq_getElem?_getD];rw[List.getElem?_set_self h0.2];rfl
   intro q hq e;have h1:=hb q (List.mem_cons_of_mem _ hq);apply hn.1;rw[show p.1=q.1 by omega];exact List.mem_map.2 ⟨q,hq,rfl⟩
  exact MP r _ hn.2 (fun x hx=>by
   have:=hb x (List.mem_cons_of_mem _ hx);rw[List.length_set];exact this) p e
theorem Mq:∀(k:Nat) (l:List Block) (j:Nat) b,l[j]?=some b->∀v∈b.params,(v,decide ((0:Int)<((k+j:Nat):Int)))∈w7 k l
 | _,[],j,b,h,_,_=>by simp at h
 | k,c::r,0,b,h,v,hv=>by
  simp only[List.getElem?_cons_zero,Option.some.injEq]at h;subst h;rw[w7];exact List.mem_append_left _ (List.mem_append_left _ (List.mem_map.2 ⟨v,hv,rfl⟩))
 | k,c::r,j+1,b,h,v,hv=>by
  have:=Mq (k+1) r j b (by simpa using h) v hv;rw[w7,show k+(j+1)=k+1+j by omega];exact List.mem_append_right _ this
theorem Mp:∀(k:Nat) (l:List Block) b,b∈l->∀i∈b.ins,(i.to,Li i.op)∈w7 k l
 | _,[],b,h,_,_=>by cases h
 | k,c::r,b,h,i,hi=>by
  rw[w7];rcases List.mem_cons.1 h with e|e
  ·subst e;exact List.mem_append_left _ (List.mem_append_right _ (List.mem_map.2 ⟨i,hi,rfl⟩))
  exact List.mem_append_right _ (Mp (k+1) r b e i hi)
def Pm(f:Func)(v:Int):Prop:=v∈Ce f∧(w5 f).getD v.toNat false=true
theorem N7{f:Func}(hv:OB f){v:Int}(h:Pm f v):(v,true)∈w7 0 f.blocks∧∀x,(v,x)∈w7 0 f.blocks->x=true:=by
 have hk:=(L8 (f:=f) ((p' f).toNat+1) (Po f) (by have:=Mv (Po f);rw[NA]at this;omega)).1 v.toNat
 have h0:(Po f).getD v.toNat false=true:=by
  cases q:(Po f).getD v.toNat false with
  | true=>rfl
  | false =>
   have:=hk q;rw[show LC f ((p' f).toNat+1) (Po f)=w5 f from rfl,h.2]at this;cases this
 unfold Po at h0;rw[Nk]at h0;have hf:=Mo 0 f.blocks;have hg:=MP (w7 0 f.blocks) (List.replicate (p' f).toNat false) (by rw[hf];exact hv.nodup) (fun p hp=>by
  have hm:p.1∈Ce f:=by
   show p.1∈f.blocks.flatMap Ci;rw[<-hf];exact List.mem_map.2 ⟨p,hp,rfl⟩
  have:=hv.below hm;rw[List.length_replicate];omega)
 obtain⟨p,hp,H3⟩:∃p∈w7 0 f.blocks,p.1=v:=by
  have hm:v∈(w7 0 f.blocks).map Prod.fst:=by rw[hf];exact h.1
  obtain⟨p,hp,e⟩:=List.mem_map.1 hm;exact⟨p,hp,e⟩
 have h1:∀x,(v,x)∈w7 0 f.blocks->x=true:=fun x hx=>by
  have:=hg (v,x) hx;simp only at this;rw[<-this];exact h0
 refine⟨?_,h1⟩;have h2:=h1 p.2 (by rw[<-H3];exact hp);rw[<-h2,<-H3];exact hp
theorem N8{f:Func}(hv:OB f){v:Int}(hm:v∈(aD f 0).params):¬Pm f v:=fun h=>by
 have hl:=List.length_pos_iff.2 hv.fn.ne;have:=(N7 hv h).2 _ (Mq 0 f.blocks 0 _ (dy (f:=f) (k:=0) (by omega) (by omega)) v hm);simp at this
theorem OQ{f:Func}(hv:OB f){b:Block}(hb:b∈f.blocks){i:bE}(hi:i∈b.ins)(h:Pm f i.to):Li i.op=true:=(N7 hv h).2 _ (Mp 0 f.blocks b hb i hi)
theorem P3{f:Func}(hv:OB f){k:Int}(hk:k∈La f){e:Edge}(he:e∈(aD f k).term.to){p a:Int}(hp:(p,a)∈(aD f e.block).params.zip e.args)(h:Pm f p):Pm f a:=by
 have hw:=(L8 (f:=f) ((p' f).toNat+1) (Po f) (by have:=Mv (Po f);rw[NA]at this;omega)).2 k hk e he (p,a) hp h.2;have hr:=(NX hv.fn.gr).range k (Lo.1 hk);exact⟨K3 (hv.pC.args k.toNat _ (dy hr.1 hr.2) e he a (List.of_mem_zip hp).2),hw⟩
end Go.Proofs.Ytkhnjeblbiocaaa
namespace Go.Proofs.Ytkhnjeblbiocaaa
open Go.Av
section
variable (u v:bR) (D:Int->Int->Prop) (pre post:Int->Int->List bE) (c:Int) (b6:Int->Int->List (Int×SV)->Prop)
def VS(D:Int->Prop)(es jl:List (Int×SV)):Prop:=∀k,D k->cZ jl k=cZ es k
structure Rm(fn b:Int):Prop where
 ins:(aD (aL v fn) b).ins=pre fn b++((aD (aL u fn) b).ins++post fn b)
 vals:∀i∈(aD (aL u fn) b).ins,D fn i.to∧∀a∈i.args,D fn a
 ve:(aD (aL u fn) b).term.kind=4->post fn b=[]∧(aD (aL v fn) b).term.kind=4∧(aD (aL v fn) b).term.n=(aD (aL u fn) b).term.n
 ret:(aD (aL u fn) b).term.kind=0->post fn b=[]∧(aD (aL v fn) b).term.kind=0∧(aD (aL v fn) b).term.arg=(aD (aL u fn) b).term.arg∧D fn (aD (aL u fn) b).term.arg
 bad:(aD (aL u fn) b).term.kind≠0->(aD (aL u fn) b).term.kind≠1->(aD (aL u fn) b).term.kind≠4->post fn b=[]∧(aD (aL v fn) b).term.kind=(aD (aL u fn) b).term.kind∧(aD (aL v fn) b).term.arg=(aD (aL u fn) b).term.arg∧D fn (aD (aL u fn) b).term.arg
def Qq(t:Term)(es:List (Int×SV))(e:Edge):Prop:=(t.kind=1∧t.to[0]?=some e)∨(t.kind≠0∧t.kind≠1∧t.kind≠4∧(cZ es t.arg).kind=0∧t.to[dP t (cZ es t.arg).n]?=some e)
def Way(fn b:Int):Prop:=∀(es jl:List (Int×SV)) (e:Edge),VS (D fn) es jl->b6 fn b es->Qq (aD (aL u fn) b).term es e->∃(n:Nat) (P':List (Int×SV)),1<=n∧(n:Int)<=c ∧
 VS (D fn) (cH es (aD (aL u fn) e.block).params (bN es e.args)) P'∧(0<=e.block∧e.block<(aL u fn).blocks.length) ∧
 ∀(m:Mach) (f':Fr) (r':List Fr) (l:Int),m.over=false->m.short=false->(n:Int)<=l->f'.fn=fn->f'.blk=b->f'.pos=(pre fn b).length+(aD (aL u fn) b).ins.length->f'.vals=jl ->
  Mach.Steps v n (m.put (f'::r') l) (m.put ({ f' with blk:=e.block,pos:=(pre fn e.block).length,vals:=P' }::r') (l-n))
structure M4:Prop where
 len:v.fns.length=u.fns.length
 main:v.main=u.main
 zero:∀fn:Int,0<=fn->fn<u.fns.length->pre fn 0=[]∧(aD (aL v fn) 0).params=(aD (aL u fn) 0).params
 Rp:∀fn b:Int,0<=fn->fn<u.fns.length->0<=b->b<(aL u fn).blocks.length->Rm u v D pre post fn b
 ways:∀fn b:Int,0<=fn->fn<u.fns.length->0<=b->b<(aL u fn).blocks.length->Way u v D pre c b6 fn b
structure Sd(f f':Fr):Prop where
 ids:f'.bP=f.bP∧f'.di=f.di∧f'.fn=f.fn
 blk:f'.blk=f.blk
 pos:f'.pos=(pre f.fn f.blk).length+f.pos
 vals:VS (D f.fn) f.vals f'.vals
def Pq(f f':Fr):List Fr->Prop
 | []=>True
 | g::_=>f'.to=f.to∧D g.fn f.to
def Ms:List Fr->List Fr->Prop
 | [],[]=>True
 | f::r,f'::r'=>Sd D pre f f'∧Pq D f f' r∧Ms r r'
 | _,_=>False
def My(m m':Mach):Prop:=∃fs l,m'=m.put fs l∧Ms D pre m.frames fs∧c*m.left<=l
end
section
variable {u v:bR} {D:Int->Int->Prop} {pre post:Int->Int->List bE} {c:Int} {b6:Int->Int->List (Int×SV)->Prop}
theorem VS.put{D:Int->Prop}{es jl:List (Int×SV)}(h:VS D es jl)(k:Int)(x:SV):VS D (cK es k x) (cK jl k x):=fun j hj=>by
 rw[LM,LM];split
 ·rfl
 exact h j hj
theorem VS.bind{D:Int->Prop}:∀(ps:List Int) (l:List SV) {es jl:List (Int×SV)},VS D es jl->VS D (cH es ps l) (cH jl ps l)
 | [],_,_,_,h=>by simpa[cH]using h
 | _::_,[],_,_,h=>by simpa[cH]using h
 | p::ps,a::l,_,_,h=>by
  rw[cH,cH];exact VS.bind ps l (h.put p a)
theorem VS.take{D:Int->Prop}{es jl:List (Int×SV)}(h:VS D es jl){l:List Int}(hl:∀a∈l,D a):bN jl l=bN es l:=by
 unfold bN;exact List.map_congr_left fun a ha=>h a (hl a ha)
theorem Ms.cons{f:Fr}{r:List Fr}{fs:List Fr}(h:Ms D pre (f::r) fs):∃f' r',fs=f'::r'∧Sd D pre f f'∧Pq D f f' r∧Ms D pre r r':=by
 cases fs with
 | nil=>exact False.elim h
 | cons f' r'=>exact⟨f',r',rfl,h.1,h.2.1,h.2.2⟩
theorem MD(T:M4 u v D pre post c b6){m:Mach}{Sg:List Fr}{y:Int}{g:Fr}{r:List Fr}(hm:m.frames=g::r)(hR:Ms D pre m.frames Sg)(l1:c*m.left<=y)
  {fn:Int} (jr:0<=fn∧fn<u.fns.length) (args:List SV) {to:Int} (ht:D g.fn to):My D pre c (m.enter u fn args to) ((m.put Sg y).enter v fn args to):=by
 obtain⟨z1,z2⟩:=T.zero fn jr.1 jr.2;refine⟨⟨m.next+1,m.next,fn,0,0,to,cH [] (aD (aL u fn) 0).params args⟩::Sg,y,?_,?_,l1⟩
 ·unfold Mach.enter;rw[z2];rfl
 show Sd D pre _ _∧Pq D _ _ m.frames∧Ms D pre m.frames Sg;refine⟨⟨⟨rfl,rfl,rfl⟩,rfl,by rw[z1];rfl,fun _ _=>rfl⟩,?_,hR⟩;rw[hm];exact⟨rfl,ht⟩
theorem Og{m:Mach}{f f':Fr}{r r':List Fr}{y:Int}(hm:m.frames=f::r)(hT:Pq D f f' r)(hR:Ms D pre r r')(l1:c*m.left<=y)(x:SV):My D pre c (m.leave f x) ((m.put (f'::r') y).leave f' x):=by
 unfold Mach.leave;rw[hm];simp only[List.tail_cons,Mach.put];cases r with
 | nil =>
  cases r' with
  | nil=>exact⟨[],y,rfl,trivial,l1⟩
  | cons g' r'=>exact False.elim hR
 | cons g r =>
  obtain⟨g',r2,rfl,hG,SB,TC⟩:=hR.cons;obtain⟨t1,t2⟩:=hT;simp only;refine⟨{ g' with vals:=cK g'.vals f'.to x }::r2,y,rfl,⟨⟨hG.ids,hG.blk,hG.pos,?_⟩,by cases r<;>exact SB,TC⟩,l1⟩;show VS (D g.fn) (cK g.vals f.to x) (cK g'.vals f'.to x);rw[t1];exact hG.vals.put _ x
theorem Ql(u:bR){m:Mach}{f:Fr}{r:List Fr}(h:m.frames=f::r):Mach.step u m=match (aD (aL u f.fn) f.blk).ins[f.pos]? with
  | none=>m.finish u f (aD (aL u f.fn) f.blk).term
  | some i=>(m.bf { f with pos:=f.pos+1 }).act u { f with pos:=f.pos+1 } i (bN f.vals i.args):=by
 unfold Mach.step;rw[h];rfl
theorem Pl(T:M4 u v D pre post c b6)(hu:ep u)(hc:1<=c){m m':Mach}(hm:bG u m)(ho:m.over=false)(h1:1<=m.left)(hs:(Mach.step u { m with left:=m.left-1 }).short=false)
  (hI:∀f∈m.frames,b6 f.fn f.blk f.vals) (hr:My D pre c m m') :
  ∃n lg,Mach.Steps v (n+1) m' lg∧My D pre c (Mach.step u { m with left:=m.left-1 }) lg:=by
 obtain⟨fs,l,rfl,Cj,l1⟩:=hr;obtain⟨cj,iy⟩:=hm.over ho;have eJ:1*m.left<=c*m.left:=Int.mul_le_mul_of_nonneg_right hc (by omega);have eZ:c*(m.left-1)=c*m.left-c:=by rw[Int.mul_sub,Int.mul_one]
 have Ey:c*1<=c*m.left:=Int.mul_le_mul_of_nonneg_left h1 (by omega);have one:∀{lg},My D pre c (Mach.step u { m with left:=m.left-1 }) lg->Mach.step v (({ m with left:=m.left-1 }:Mach).put fs (l-1))=lg->∃n lg,Mach.Steps v (n+1) (m.put fs l) lg∧My D pre c (Mach.step u { m with left:=m.left-1 }) lg:=fun {lg} hR e=>⟨0,lg,.cons ho iy (by show 1<=l;omega) (by
  have:Mach.step v { m.put fs l with left:=(m.put fs l).left-1 }=lg:=e;rw[this];exact .refl _),hR⟩
 have lL:bG u { m with left:=m.left-1 }:=by
  have:=(ML hm ho (by omega)).1
  rwa [Mach.LQ h1]at this
 obtain⟨f,r,dh⟩:∃f r,m.frames=f::r:=by
  cases hq:m.frames with
  | nil=>exact absurd hq cj
  | cons f r=>exact⟨f,r,rfl⟩
 rw[dh]at Cj;obtain⟨f',r',rfl,hF,hT,hR⟩:=Cj.cons;have Mw:=lL.frames f (by show f∈m.frames;rw[dh];simp);have hb:=hu.blocks _ (fN Mw.fn.1 Mw.fn.2) _ (fh Mw.blk.1 Mw.blk.2);have hB:=T.Rp f.fn f.blk Mw.fn.1 Mw.fn.2 Mw.blk.1 Mw.blk.2;have hW:=T.ways f.fn f.blk Mw.fn.1 Mw.fn.2 Mw.blk.1 Mw.blk.2;have QO:(aD (aL v f'.fn) f'.blk).ins=pre f.fn f.blk++((aD (aL u f.fn) f.blk).ins++post f.fn f.blk):=by rw[hF.ids.2.2,hF.blk];exact hB.ins
 have fS:(aD (aL v f'.fn) f'.blk).ins[f'.pos]?=((aD (aL u f.fn) f.blk).ins++post f.fn f.blk)[f.pos]?:=by
  rw[QO,hF.pos,List.getElem?_append_right (by omega),Nat.add_sub_cancel_left]
 have bV:=Ql u (m:={ m with left:=m.left-1 }) dh;have tm:Mach.step v (({ m with left:=m.left-1 }:Mach).put (f'::r') (l-1))=match (aD (aL v f'.fn) f'.blk).ins[f'.pos]? with
   | none=>(({ m with left:=m.left-1 }:Mach).put (f'::r') (l-1)).finish v f' (aD (aL v f'.fn) f'.blk).term
   | some i=>((({ m with left:=m.left-1 }:Mach).put (f'::r') (l-1)).bf { f' with pos:=f'.pos+1 }).act v { f' with pos:=f'.pos+1 } i (bN f'.vals i.args):=rfl
 cases hi:(aD (aL u f.fn) f.blk).ins[f.pos]? with
 | none =>
  rw[hi]at bV;simp only at bV;have lV:f.pos=(aD (aL u f.fn) f.blk).ins.length:=by
   have h2:=List.getElem?_eq_none_iff.1 hi;have h3:=Mw.pos;omega
  have iR:post f.fn f.blk=[]->(aD (aL v f'.fn) f'.blk).ins[f'.pos]?=none:=fun q=>by
   rw[fS,q,List.append_nil];exact hi
  have along:∀e,Qq (aD (aL u f.fn) f.blk).term f.vals e->Mach.step u { m with left:=m.left-1 }=({ m with left:=m.left-1 }:Mach).follow u f e->∃n lg,Mach.Steps v (n+1) (m.put (f'::r') l) lg∧My D pre c (Mach.step u { m with left:=m.left-1 }) lg:=fun e Ub QW=>by
   obtain⟨n,P',n1,n2,n3,n4,n5⟩:=hW f.vals f'.vals e hF.vals (hI f (by rw[dh];exact List.mem_cons_self)) Ub;have dD:=n5 m f' r' l ho iy (by omega) hF.ids.2.2 hF.blk (by rw[hF.pos,lV]) rfl;refine⟨n-1,_,by rw[show n-1+1=n by omega];exact dD,?_⟩;rw[QW];refine⟨{ f' with blk:=e.block,pos:=(pre f.fn e.block).length,vals:=P' }::r',l-n,rfl,?_,by show c*(m.left-1)<=_;omega⟩;show Ms D pre (({ m with left:=m.left-1 }:Mach).follow u f e).frames _;have dU:(({ m with left:=m.left-1 }:Mach).follow u f e).frames = { f with blk:=e.block,pos:=0,vals:=cH f.vals (aD (aL u f.fn) e.block).params (bN f.vals e.args) }::r:=by
    show _::m.frames.tail=_;rw[dh];rfl
   rw[dU];exact⟨⟨hF.ids,rfl,rfl,n3⟩,by cases r<;>exact hT,hR⟩
  unfold Mach.finish at bV;by_cases q4:(aD (aL u f.fn) f.blk).term.kind=4
  ·rw[if_pos q4]at bV;obtain⟨p1,p2,p3⟩:=hB.ve q4;rw[iR p1]at tm;simp only at tm;rw[hF.ids.2.2,hF.blk]at tm;unfold Mach.finish at tm;rw[if_pos p2,p3]at tm;refine one ?_ tm;rw[bV];exact⟨f'::r',l-1,rfl,by show Ms D pre m.frames _;rw[dh];exact⟨hF,hT,hR⟩,by show c*(m.left-1)<=_;omega⟩
  rw[if_neg q4]at bV;by_cases q1:(aD (aL u f.fn) f.blk).term.kind=1
  ·rw[if_pos q1]at bV;have hl:=hb.term.rE q1;obtain⟨e,he⟩:∃e,(aD (aL u f.fn) f.blk).term.to[0]?=some e:=⟨(aD (aL u f.fn) f.blk).term.to[0]'(by omega),List.getElem?_eq_getElem _⟩
   rw[he]at bV;exact along e (.inl ⟨q1,he⟩) bV
  rw[if_neg q1]at bV;by_cases q0:(aD (aL u f.fn) f.blk).term.kind=0
  ·rw[if_pos q0]at bV;obtain⟨p1,p2,p3,p4⟩:=hB.ret q0;rw[iR p1]at tm;simp only at tm;rw[hF.ids.2.2,hF.blk]at tm;unfold Mach.finish at tm;rw[if_neg (by omega),if_neg (by omega),if_pos p2,p3,hF.vals _ p4]at tm;refine one ?_ tm;rw[bV];exact Og (m:={ m with left:=m.left-1 }) dh hT hR (by show c*(m.left-1)<=_;omega) _
  rw[if_neg q0]at bV;by_cases qk:(cZ f.vals (aD (aL u f.fn) f.blk).term.arg).kind≠0
  ·rw[if_pos qk]at bV;obtain⟨p1,p2,p3,p4⟩:=hB.bad q0 q1 q4;rw[iR p1]at tm;simp only at tm;rw[hF.ids.2.2,hF.blk]at tm;unfold Mach.finish at tm;rw[if_neg (by omega),if_neg (by omega),if_neg (by omega),p3,hF.vals _ p4,if_pos qk]at tm;refine one ?_ tm;rw[bV];exact⟨f'::r',l-1,rfl,by show Ms D pre m.frames _;rw[dh];exact⟨hF,hT,hR⟩,by show c*(m.left-1)<=_;omega⟩
  rw[if_neg qk]at bV;obtain⟨e,he⟩:=mi hb.term q0 q1 q4 (cZ f.vals (aD (aL u f.fn) f.blk).term.arg).n;rw[he]at bV;exact along e (.inr ⟨q0,q1,q4,by omega,he⟩) bV
 | some i =>
  rw[hi]at bV;simp only at bV;have Rg:=List.mem_of_getElem? hi;have rz:=hb.ins i Rg;have aZ:=I hi;obtain⟨d1,d2⟩:=hB.vals i Rg;have dY:bN f'.vals i.args=bN f.vals i.args:=hF.vals.take d2;rw[fS,List.getElem?_append_left aZ,hi]at tm;simp only at tm;rw[dY]at tm;suffices h:My D pre c (Mach.step u { m with left:=m.left-1 }) (Mach.step v (({ m with left:=m.left-1 }:Mach).put (f'::r') (l-1))) from one h rfl;have e1:({ m with left:=m.left-1 }:Mach).left=m.left-1:=rfl;have k1:c*({ m with left:=m.left-1 }:Mach).left<=l-1:=by rw[e1];omega
  have k0:0<=({ m with left:=m.left-1 }:Mach).left:=by rw[e1];omega
  have wx:({ m with left:=m.left-1 }:Mach).frames≠[]:=cj;have Ch:({ m with left:=m.left-1 }:Mach).frames=f::r:=dh;rw[bV]at hs ⊢;rw[tm];clear bV tm one hI e1;generalize ({ m with left:=m.left-1 }:Mach)=M at *;generalize l-1=y at *;have kr:kf u M { f with pos:=f.pos+1 }:=⟨Mw.fn,Mw.blk,aZ,Mw.vals⟩
  have wi:kf u (M.bf { f with pos:=f.pos+1 }) { f with pos:=f.pos+1 }:=kr.of_heap (by rfl);have SA:=lL.bf wx kr;have ha:=kI wi.vals i.args;have km:=kH f.vals i.args;have Ru:Sd D pre { f with pos:=f.pos+1 } { f' with pos:=f'.pos+1 }:=⟨hF.ids,hF.blk,by show f'.pos+1=_+(f.pos+1);rw[hF.pos];rfl,hF.vals⟩
  have oG:(M.bf { f with pos:=f.pos+1 }).frames = { f with pos:=f.pos+1 }::r:=by
   show _::M.frames.tail=_;rw[Ch];rfl
  have e2:(M.put (f'::r') y).bf { f' with pos:=f'.pos+1 }=(M.bf { f with pos:=f.pos+1 }).put ({ f' with pos:=f'.pos+1 }::r') y:=rfl;rw[e2];have SB:Pq D { f with pos:=f.pos+1 } { f' with pos:=f'.pos+1 } r:=by cases r<;>exact hT
  have Qa:Ms D pre (M.bf { f with pos:=f.pos+1 }).frames ({ f' with pos:=f'.pos+1 }::r'):=by
   rw[oG];exact⟨Ru,SB,hR⟩
  have Ts:c*(M.bf { f with pos:=f.pos+1 }).left<=y:=k1;have Ud:(({ f with pos:=f.pos+1 }:Fr)).vals=f.vals:=rfl;rw[Ud]at ha;unfold Mach.act at hs ⊢;by_cases nj:i.op=13
  ·rw[if_pos nj,if_pos nj];obtain⟨c1,c2,c3⟩:=rz.call nj;exact MD T oG Qa Ts ⟨c1,c2⟩ _ d1
  rw[if_neg nj]at hs;rw[if_neg nj,if_neg nj];by_cases oE:i.op=14
  ·rw[if_pos oE,if_pos oE];by_cases wm:(ca (bN f.vals i.args) 0).kind=2
   ·have jr:=SV.Wf.fn (gH ha 0) wm;obtain⟨z1,z2⟩:=T.zero _ jr.1 jr.2;rw[z2];by_cases yV:(ca (bN f.vals i.args) 0).kind=2∧(aD (aL u (ca (bN f.vals i.args) 0).n) 0).params.length=(bN f.vals i.args).length
    ·rw[if_pos yV,if_pos yV];exact MD T oG Qa Ts jr _ d1
    rw[if_neg yV,if_neg yV];exact⟨_,y,rfl,Qa,k1⟩
   rw[if_neg (fun q=>wm q.1),if_neg (fun q=>wm q.1)];exact⟨_,y,rfl,Qa,k1⟩
  rw[if_neg oE]at hs;rw[if_neg oE,if_neg oE];have hx:=nG SA rz km ha;have P4:=(Mach.LU { f with pos:=f.pos+1 } i.to ((M.bf { f with pos:=f.pos+1 }).exec i (bN f.vals i.args))).1;rw[P4]at hs;have uF:(M.bf { f with pos:=f.pos+1 }).left<=y:=by
   have:1*M.left<=c*M.left:=Int.mul_le_mul_of_nonneg_right hc k0;show M.left<=y;omega
  rw[Mach.PT _ _ _ _ _ hs hx.left.1 uF];generalize (M.bf { f with pos:=f.pos+1 }).exec i (bN f.vals i.args)=X at *;obtain⟨E,E2⟩:=X;have R3:E.frames = { f with pos:=f.pos+1 }::r:=by
   rw[<-oG];exact hx.frames
  have Al:E.left<=M.left:=hx.left.2;obtain⟨w1,w2⟩:=LA E E2 { f with pos:=f.pos+1 } i.to;refine⟨_,_,Ow E E2 { f with pos:=f.pos+1 } _ _ i.to _ _,?_,?_⟩
  ·rw[w1,R3];refine⟨⟨Ru.ids,Ru.blk,Ru.pos,Ru.vals.put _ _⟩,by cases r<;>exact hT,hR⟩
  rw[w2];have:=PN hc k1 (a:=M.left-E.left) (by omega);rw[show M.left-(M.left-E.left)=E.left by omega]at this;exact this
end
end Go.Proofs.Ytkhnjeblbiocaaa
namespace Go.Proofs.Ytkhnjeblbiocaaa
open Go.Av
section
variable {u v:bR} {D:Int->Int->Prop} {pre post:Int->Int->List bE} {c:Int} {b6:Int->Int->List (Int×SV)->Prop}
structure OD(u:bR)(b6:Int->Int->List (Int×SV)->Prop)(J:Mach->Prop):Prop where
 start:∀F,J ((Mach.start F).enter u u.main [] 0)
 step:∀m,bG u m->m.over=false->1<=m.left->J m->J (Mach.step u { m with left:=m.left-1 })
 use:∀m,J m->∀f∈m.frames,b6 f.fn f.blk f.vals
theorem NY(T:M4 u v D pre post c b6){J:Mach->Prop}(hJ:OD u b6 J)(hu:ep u)(hc:1<=c):∀(k:Nat) (m m':Mach),bG u m->My D pre c m m'->(Mach.run u k m).short=false->J m->∃n lg,Mach.Steps v n m' lg∧My D pre c (Mach.run u k m) lg
 | 0,m,m',hm,hr,hs,h5=>⟨0,m',.refl _,hr⟩
 | k+1,m,m',hm,hr,hs,h5=>by
  cases ho:m.over with
  | true =>
   rw[KR ho]at hs ⊢;exact⟨0,m',.refl _,hr⟩
  | false =>
   have bz:Mach.run u (k+1) m=if(m.cR 1).short then m.cR 1 else Mach.run u k (Mach.step u (m.cR 1)):=by simp[Mach.run,ho]
   rw[bz]at hs ⊢;by_cases hp:m.left<1
   ·rw[L6 hp]at hs;simp at hs
   obtain⟨q1,q2,q3,q4,q5⟩:=ML hm ho hp;rw[if_neg (by simp[q3])]at hs ⊢;have nN:(m.cR 1).frames.length+(m.cR 1).left+1<=2 ^ 40:=by
    have:=hm.depth;rw[q4,q5];omega
   have dD:=bG.step hu q1 q2 nN;have P4:(Mach.step u (m.cR 1)).short=false:=by
    cases hx:(Mach.step u (m.cR 1)).short with
    | false=>rfl
    | true =>
     have ho:(Mach.step u (m.cR 1)).over=true:=by
      cases hy:(Mach.step u (m.cR 1)).over with
      | true=>rfl
      | false=>rw[(dD.over hy).2]at hx;cases hx
     rw[KR ho,hx]at hs;cases hs
   rw[Mach.LQ (by omega)]at dD P4 hs ⊢;obtain⟨n,m1,s1,s2⟩:=Pl T hu hc hm ho (by omega) P4 (hJ.use m h5) hr;obtain⟨n2,m2,s3,s4⟩:=NY T hJ hu hc k _ m1 dD s2 hs (hJ.step m hm ho (by omega) h5);exact⟨n+1+n2,m2,s1.trans s3,s4⟩
theorem Pk{u:bR}(hu:ep u){fuel:Int}(h0:0<=fuel)(h1:fuel<=2 ^ 39):bG u ((Mach.start fuel).enter u u.main [] 0):=by
 have hs:bG u { Mach.start fuel with over:=true } :=
  ⟨by simp[Mach.start],by simp[Mach.start],h0,by simp[Mach.start];omega,by simp[Mach.start],by simp[Mach.start],by simp[Mach.start],by simp[Mach.start,fp],by simp[Mach.start],by simp⟩
 have h:=hs.enter hu (by simp) (by simp[Mach.start];omega) hu.main (args:=[]) (by simp) 0;exact⟨fun f hf=>(h.frames f hf).of_heap (by rfl),fun a ha=>by simp[Mach.start,Mach.enter]at ha,h.left,h.depth,h.out,h.words,h.fin,h.val,h.done,fun _=>⟨by simp[Mach.enter],rfl⟩⟩
theorem Nu(T:M4 u v D pre post c b6){J:Mach->Prop}(hJ:OD u b6 J)(hu:ep u)(hv:ep v)(hc:1<=c){F G:Int}(hF:0<=F∧F<=1000000)(hG:G<=2 ^ 39)(gQ:c*F<=G)(he:(bm u F).e=0) :
  (bm v G).e=0∧(bm v G).out=(bm u F).out∧(bm v G).fin=(bm u F).fin∧(bm v G).val=(bm u F).val:=by
 have TT:1*F<=c*F:=Int.mul_le_mul_of_nonneg_right hc hF.1;obtain⟨z1,z2⟩:=T.zero u.main hu.main.1 hu.main.2;have Tn:=l8 hu (fuel:=F) hF.1 hF.2;have P5:=Pk hv (fuel:=G) (by omega) hG;have QX:My D pre c ((Mach.start F).enter u u.main [] 0) ((Mach.start G).enter v v.main [] 0):=by
  refine⟨[⟨5,4,u.main,0,0,0,cH [] (aD (aL u u.main) 0).params []⟩],G,?_,⟨⟨⟨rfl,rfl,rfl⟩,rfl,by rw[z1];rfl,fun _ _=>rfl⟩,trivial,trivial⟩,gQ⟩;rw[T.main];unfold Mach.enter;rw[z2];rfl
 unfold bm at he ⊢;simp only at he ⊢;have SP:=MN hu (F.toNat+2) _ Tn (by simp[Mach.enter,Mach.start]);have pA:=MN hv (G.toNat+2) _ P5 (by simp[Mach.enter,Mach.start]);have SR:=fun h=>NY T hJ hu hc (F.toNat+2) _ _ Tn QX h (hJ.start F);generalize Mach.run u (F.toNat+2) ((Mach.start F).enter u u.main [] 0)=E at *;cases hs:E.short with
 | true =>
  rw[hs]at he;simp at he
 | false =>
  obtain⟨n1,m1,S,fs,l,lL,_,_⟩:=SR hs;have hle:n1<=G.toNat+2:=Classical.byContradiction fun q=>by
   have:=S.before (G.toNat+2) (by omega);rw[pA.1]at this;cases this
  have iR:Mach.run v (G.toNat+2) ((Mach.start G).enter v v.main [] 0)=m1:=by
   have:=S.run (G.toNat+2-n1);rw[show n1+(G.toNat+2-n1)=G.toNat+2 by omega]at this;rw[this];exact KR (by rw[lL];exact SP.1) _
  have b2:m1.short=false:=by rw[lL];exact hs
  rw[iR,b2];simp only[Bool.false_eq_true,if_false];rw[lL];exact⟨trivial,rfl,rfl,rfl⟩
theorem M0(T:M4 u v D pre post c b6){J:Mach->Prop}(hJ:OD u b6 J)(hu:ep u)(hv:ep v)(hc:1<=c){F G:Int}(hF:0<=F∧F<=1000000)(hG:0<=G∧G<=1000000)(TT:c*F<=2 ^ 38)(he:(bm u F).e=0) :
  (bm v G).e=13∨((bm v G).e=0∧(bm v G).out=(bm u F).out∧(bm v G).fin=(bm u F).fin∧(bm v G).val=(bm u F).val):=by
 have TU:0<=c*F:=Int.mul_nonneg (by omega) hF.1;obtain⟨H,hH⟩:∃H,H=c*F+G:=⟨_,rfl⟩
 have hR:=Nu T hJ hu hv hc (G:=H) hF (by omega) (by omega) he;generalize bm u F=A at *;have P5:=l8 hv (fuel:=G) hG.1 hG.2;have pA:=MN hv (G.toNat+2) _ P5 (by simp[Mach.enter,Mach.start]);cases hs:(Mach.run v (G.toNat+2) ((Mach.start G).enter v v.main [] 0)).short with
 | true =>
  refine .inl ?_;unfold bm;simp only;rw[hs];rfl
 | false =>
  refine .inr ?_;have hl:0<=(Mach.run v (G.toNat+2) ((Mach.start G).enter v v.main [] 0)).left:=(pA.2.2.2 hs).left;have iy:=Ni hv (H-G) (G.toNat+2) _ P5 (Nat.le_refl _) hs (by omega) (H.toNat+2) (.inl (by omega));have e0:((Mach.start G).enter v v.main [] 0).shift (H-G)=(Mach.start H).enter v v.main [] 0:=by
   unfold Mach.shift Mach.enter Mach.start;simp only[Mach.mk.injEq,true_and,and_true];omega
  rw[e0]at iy;unfold bm at hR ⊢;simp only at hR ⊢;rw[iy]at hR;have P4:((Mach.run v (G.toNat+2) ((Mach.start G).enter v v.main [] 0)).shift (H-G)).short=false:=hs;rw[P4]at hR;rw[hs];simp only[Bool.false_eq_true,if_false]at hR ⊢;exact hR
end
end Go.Proofs.Ytkhnjeblbiocaaa
namespace Go.Proofs.Ytkhnjeblbiocaaa
open Go.Av
def KY(f:Func)(es:List (Int×SV)):Prop:=∀p,Pm f p->(cZ es p).kind=0
theorem KY.put{f:Func}{es:List (Int×SV)}(h:KY f es){k:Int}{x:SV}(hx:Pm f k->x.kind=0):KY f (cK es k x):=fun p hp=>by
 rw[LM];split
 ·rename_i e;subst e;exact hx hp
 exact h p hp
theorem KY.bind{f:Func}:∀(ps:List Int) (l:List SV) {es:List (Int×SV)},KY f es->(∀x∈ps.zip l,Pm f x.1->x.2.kind=0)->KY f (cH es ps l)
 | [],_,_,h,_=>by simpa[cH]using h
 | _::_,[],_,h,_=>by simpa[cH]using h
 | p::ps,a::l,es,h,hx=>by
  rw[cH];exact KY.bind ps l (h.put fun q=>hx (p,a) (by simp) q) fun x hm=>hx x (by simp[hm])
theorem KY.Rr{f:Func}(hv:OB f){es:List (Int×SV)}(h:KY f es){k:Int}(hk:k∈La f){e:Edge}(he:e∈(aD f k).term.to):KY f (cH es (aD f e.block).params (bN es e.args)):=by
 refine h.bind _ _ fun x hx hw=>?_;unfold bN at hx;rw[List.zip_map_right]at hx;obtain⟨⟨p,a⟩,ET,rfl⟩:=List.mem_map.1 hx;exact h a (P3 hv hk he ET hw)
theorem PV{f:Func}(hv:OB f){k:Int}(hk:k∈La f){e:Edge}(he:e∈(aD f k).term.to):e.block∈La f:=by
 have H2:=NX hv.fn.gr;have h1:=Lo.1 hk;exact Lo.2 (H2.next k e.block h1 ⟨e,he,rfl⟩)
structure WF(u:bR)(f:Fr):Prop where
 fn:0<=f.fn∧f.fn<u.fns.length
 blk:f.blk∈La (aL u f.fn)
 vals:KY (aL u f.fn) f.vals
def Sv(u:bR)(f:Fr):List Fr->Prop
 | []=>True
 | g::_=>¬Pm (aL u g.fn) f.to
def LW(u:bR):List Fr->Prop
 | []=>True
 | f::r=>WF u f∧Sv u f r∧LW u r
theorem LW.mem{u:bR}:∀{l:List Fr},LW u l->∀f∈l,WF u f
 | [],_,_,h=>by cases h
 | g::r,h,f,hf=>by
  rcases List.mem_cons.1 hf with e|e
  ·rw[e];exact h.1
  exact LW.mem h.2.2 f e
theorem O6{u:bR}{m:Mach}{i:bE}{args:List SV}(h:∀v∈args,fW u m v)(hn:Li i.op=true):(m.exec i args).2.1.kind=0:=by
 have hz:(SV.zero).kind=0:=rfl;have hw:∀n,(SV.word n).kind=0:=fun _=>rfl;have h0:=gH h 0;unfold Li at hn;have hm:=of_decide_eq_true hn;simp only[List.mem_cons,List.not_mem_nil,or_false]at hm;unfold Mach.exec;split
 ·rfl
 split
 ·split
  ·rfl
  unfold dk
  repeat' split
  all_goals rfl
 split
 ·omega
 split
 ·omega
 split
 ·unfold c8;split
  ·omega
  split
  ·rfl
  split
  ·rfl
  split
  ·rfl
  omega
 split
 ·unfold dn;split
  ·omega
  split
  ·split
   ·rfl
   rename_i q;simp only[not_or,Decidable.not_not]at q;show(ca (ca args 0).list i.n.toNat).kind=0;unfold ca;cases hk:(args[0]?.getD SV.zero).list[i.n.toNat]? with
   | none=>rfl
   | some x=>exact SV.Wf.vec h0 q.1 x (List.mem_of_getElem? hk)
  omega
 split
 ·omega
 unfold Mach.effect;split
 ·split
  ·rfl
  split<;>rfl
 split
 ·omega
 split
 ·split
  ·rfl
  split<;>rfl
 split
 ·rfl
 split
 ·rfl
 split
 ·rfl
 split
 ·omega
 rfl
section
variable {u:bR} (hV:∀f∈u.fns,OB f)
include hV
theorem LW.enter{m:Mach}(h:LW u m.frames){fn:Int}(hf:0<=fn∧fn<u.fns.length)(args:List SV){to:Int}(ht:match m.frames with | []=>True|g::_=>¬Pm (aL u g.fn) to):LW u (m.enter u fn args to).frames:=by
 have hv:=hV _ (fN hf.1 hf.2);refine⟨⟨hf,?_,?_⟩,?_,h⟩
 ·have H2:=NX hv.fn.gr;exact Lo.2 (by show 0<=Ml _ 0;rw[H2.zero];exact Int.le_refl 0)
 ·refine KY.bind _ _ (fun p _=>rfl) fun x hx hw=>?_;exact absurd hw (N8 hv (List.of_mem_zip (a:=x.1) (b:=x.2) hx).1)
 show Sv u _ m.frames;unfold Sv;exact ht
theorem LW.follow{m:Mach}{f:Fr}{r:List Fr}(hm:m.frames=f::r)(h:LW u m.frames){e:Edge}(he:e∈(aD (aL u f.fn) f.blk).term.to):LW u (m.follow u f e).frames:=by
 rw[hm]at h;have hv:=hV _ (fN h.1.fn.1 h.1.fn.2);show LW u (_::m.frames.tail);rw[hm];refine⟨⟨h.1.fn,PV hv h.1.blk he,h.1.vals.Rr hv h.1.blk he⟩,?_,h.2.2⟩;have:=h.2.1;cases r<;>exact this
theorem LW.leave{m:Mach}{f:Fr}{r:List Fr}(hm:m.frames=f::r)(h:LW u m.frames)(x:SV):LW u (m.leave f x).frames:=by
 rw[hm]at h;unfold Mach.leave;rw[hm];simp only[List.tail_cons];cases r with
 | nil=>exact trivial
 | cons g r =>
  obtain⟨_,h1,h2,h3,h4⟩:=h;refine⟨⟨h2.fn,h2.blk,h2.vals.put fun q=>absurd q h1⟩,?_,h4⟩;cases r<;>exact h3
theorem LW.step(hu:ep u){m:Mach}(hm:bG u m)(ho:m.over=false)(h1:1<=m.left)(h:LW u m.frames):LW u (Mach.step u { m with left:=m.left-1 }).frames:=by
 obtain⟨cj,iy⟩:=hm.over ho;have lL:bG u { m with left:=m.left-1 }:=by
  have:=(ML hm ho (by omega)).1
  rwa [Mach.LQ h1]at this
 have wx:({ m with left:=m.left-1 }:Mach).frames≠[]:=cj;have hW:LW u ({ m with left:=m.left-1 }:Mach).frames:=h;generalize ({ m with left:=m.left-1 }:Mach)=M at *;clear hm ho h1 h cj iy;cases dh:M.frames with
 | nil=>exact absurd dh wx
 | cons f r =>
  have Mw:=lL.frames f (by rw[dh];simp);have Bv:=fN Mw.fn.1 Mw.fn.2;have jc:=fh Mw.blk.1 Mw.blk.2;have hb:=hu.blocks _ Bv _ jc;have hv:=hV _ Bv;have PC:=hW;rw[dh]at PC;unfold Mach.step;rw[dh];simp only;cases hi:(aD (aL u f.fn) f.blk).ins[f.pos]? with
  | none =>
   simp only;unfold Mach.finish;by_cases q4:(aD (aL u f.fn) f.blk).term.kind=4
   ·rw[if_pos q4];exact hW
   rw[if_neg q4];by_cases q1:(aD (aL u f.fn) f.blk).term.kind=1
   ·rw[if_pos q1];have hl:=hb.term.rE q1;obtain⟨e,he⟩:∃e,(aD (aL u f.fn) f.blk).term.to[0]?=some e:=⟨(aD (aL u f.fn) f.blk).term.to[0]'(by omega),List.getElem?_eq_getElem _⟩
    rw[he];exact LW.follow hV dh hW (List.mem_of_getElem? he)
   rw[if_neg q1];by_cases q0:(aD (aL u f.fn) f.blk).term.kind=0
   ·rw[if_pos q0];exact LW.leave hV dh hW _
   rw[if_neg q0];by_cases qk:(cZ f.vals (aD (aL u f.fn) f.blk).term.arg).kind≠0
   ·rw[if_pos qk];exact hW
   rw[if_neg qk];obtain⟨e,he⟩:=mi hb.term q0 q1 q4 (cZ f.vals (aD (aL u f.fn) f.blk).term.arg).n;rw[he];exact LW.follow hV dh hW (List.mem_of_getElem? he)
  | some i =>
   simp only;have Rg:=List.mem_of_getElem? hi;have rz:=hb.ins i Rg;have aZ:=I hi;have kr:kf u M { f with pos:=f.pos+1 }:=⟨Mw.fn,Mw.blk,aZ,Mw.vals⟩
   have wi:kf u (M.bf { f with pos:=f.pos+1 }) { f with pos:=f.pos+1 }:=kr.of_heap (by rfl);have SA:=lL.bf wx kr;have ha:∀v∈bN f.vals i.args,fW u (M.bf { f with pos:=f.pos+1 }) v:=kI wi.vals i.args;have km:=kH f.vals i.args;have oG:(M.bf { f with pos:=f.pos+1 }).frames = { f with pos:=f.pos+1 }::r:=by
    show _::M.frames.tail=_;rw[dh];rfl
   have SD:LW u (M.bf { f with pos:=f.pos+1 }).frames:=by
    rw[oG];exact⟨⟨PC.1.fn,PC.1.blk,PC.1.vals⟩,by cases r<;>exact PC.2.1,PC.2.2⟩
   have Rh:Li i.op=false->¬Pm (aL u f.fn) i.to:=fun q w=>by
    rw[OQ hv jc Rg w]at q;cases q
   unfold Mach.act;by_cases nj:i.op=13
   ·rw[if_pos nj];obtain⟨c1,c2,c3⟩:=rz.call nj;exact LW.enter hV SD ⟨c1,c2⟩ _ (by rw[oG];exact Rh (by rw[nj];rfl))
   rw[if_neg nj];by_cases oE:i.op=14
   ·rw[if_pos oE];split
    ·rename_i q;have jr:=SV.Wf.fn (gH ha 0) q.1;exact LW.enter hV SD jr _ (by rw[oG];exact Rh (by rw[oE];rfl))
    exact SD
   rw[if_neg oE];have hx:=nG SA rz km ha;have hk:=O6 (m:=M.bf { f with pos:=f.pos+1 }) (i:=i) ha;generalize (M.bf { f with pos:=f.pos+1 }).exec i (bN f.vals i.args)=X at *;obtain⟨E,E2⟩:=X;have R3:E.frames = { f with pos:=f.pos+1 }::r:=by
    rw[<-oG];exact hx.frames
   rw[(LA E E2 { f with pos:=f.pos+1 } i.to).1,R3];exact⟨⟨PC.1.fn,PC.1.blk,PC.1.vals.put fun w=>hk (OQ hv jc Rg w)⟩,by cases r<;>exact PC.2.1,PC.2.2⟩
theorem NQ(hu:ep u):OD u (fun fn b es=>b∈La (aL u fn)∧KY (aL u fn) es) (fun m=>LW u m.frames) where
 start:=fun F=>LW.enter hV (m:=Mach.start F) trivial hu.main [] trivial
 step:=fun m hm ho h1 h=>LW.step hV hu hm ho h1 h
 use:=fun m h f hf=>⟨(h.mem f hf).blk,(h.mem f hf).vals⟩
end
end Go.Proofs.Ytkhnjeblbiocaaa
namespace Go.Proofs.Ytkhnjeblbiocaaa
open Go.Av
def KO(w:List Bool):Int->List Int->List bE
 | _,[]=>[]
 | n,p::r=>if w.getD p.toNat false=true then⟨n,1,0,[p,p]⟩::KO w (n+1) r else KO w n r
def LH(w:List Bool):Int->List Block->List Block
 | _,[]=>[]
 | n,b::r=>⟨b.params,KO w n b.params++b.ins,b.term⟩::LH w (n+(KO w n b.params).length) r
def NS(f:Func):Func:=⟨f.name,LH (w5 f) (p' f) f.blocks⟩
def L5(u:bR):bR:=⟨u.fns.map NS,u.main⟩
theorem KS(w:List Bool):∀(n:Int) (l:List Int),(KO w n l).length<=l.length
 | _,[]=>Nat.le_refl _
 | n,p::r=>by
  unfold KO;have h1:=KS w (n+1) r;have h2:=KS w n r;split<;>simp only[List.length_cons]<;>omega
theorem Lu(w:List Bool):∀(n:Int) (l:List Int),∀i∈KO w n l,(n<=i.to∧i.to<n+l.length)∧i.op=1∧i.n=0∧∃p∈l,i.args=[p,p]∧w.getD p.toNat false=true
 | _,[],i,h=>by cases h
 | n,p::r,i,h=>by
  unfold KO at h;rw[List.length_cons];split at h
  ·rename_i hp;rcases List.mem_cons.1 h with e|e
   ·subst e;exact⟨⟨by simp only;omega,by simp only;omega⟩,rfl,rfl,p,List.mem_cons_self,rfl,hp⟩
   obtain⟨h1,h2,h3,q,h4,h5⟩:=Lu w (n+1) r i e;exact⟨⟨by omega,by omega⟩,h2,h3,q,List.mem_cons_of_mem _ h4,h5⟩
  obtain⟨h1,h2,h3,q,h4,h5⟩:=Lu w n r i h;exact⟨⟨by omega,by omega⟩,h2,h3,q,List.mem_cons_of_mem _ h4,h5⟩
theorem LN(w:List Bool):∀(n:Int) (l:List Block),(LH w n l).length=l.length
 | _,[]=>rfl
 | n,b::r=>by rw[LH,List.length_cons,LN w _ r,List.length_cons]
theorem Nr(w:List Bool):∀(n:Int) (l:List Block) (k:Nat) b,l[k]?=some b->(∀c∈l,c.params.length<=4096)->∃m:Int,n<=m∧m<=n+4096*k∧(LH w n l)[k]?=some ⟨b.params,KO w m b.params++b.ins,b.term⟩
 | _,[],k,b,h,_=>by simp at h
 | n,c::r,0,b,h,_=>by
  simp only[List.getElem?_cons_zero,Option.some.injEq]at h;subst h;exact⟨n,by omega,by omega,rfl⟩
 | n,c::r,k+1,b,h,hc=>by
  obtain⟨m,h1,h2,h3⟩:=Nr w (n+(KO w n c.params).length) r k b (by simpa using h) fun c hm=>hc c (List.mem_cons_of_mem _ hm);have h4:=KS w n c.params;have h5:=hc c List.mem_cons_self;exact⟨m,by omega,by omega,by rw[LH,List.getElem?_cons_succ];exact h3⟩
theorem Q0{f:Func}(hv:OB f){k:Int}(h0:0<=k)(h1:k<f.blocks.length):∃m:Int,p' f<=m∧m<=p' f+4096*128∧aD (NS f) k=⟨(aD f k).params,KO (w5 f) m (aD f k).params++(aD f k).ins,(aD f k).term⟩:=by
 have wj:=hv.fn.few;obtain⟨m,q1,q2,q3⟩:=Nr (w5 f) (p' f) f.blocks k.toNat _ (dy h0 h1) fun c hc=>by have:=(hv.fn.blk c hc).few;omega
 refine⟨m,q1,by omega,?_⟩;show(LH (w5 f) (p' f) f.blocks)[k.toNat]?.getD default=_;rw[q3];rfl
theorem ON{u:bR}(bB:u.fit)(hc:dr u=0):(L5 u).fit:=by
 refine⟨bB.1,by show(u.fns.map NS).length<=_;rw[List.length_map];exact bB.2.1,fun g hg=>?_⟩;obtain⟨f,hf,rfl⟩:=List.mem_map.1 hg;have dU:=bB.2.2 f hf;have hv:=KZ dU ((Lj hc).2.2.2.1 f hf);have wj:=hv.fn.few;have dh:p' f<=4096:=KL (Ce f) 0 (by omega) fun v FT=>(hv.vals v FT).2;have Ux:=LY f;refine⟨dU.1,by show(LH _ _ _).length<=_;rw[LN];exact dU.2.1,fun c yU=>?_⟩;obtain⟨k,hk⟩:=List.mem_iff_getElem?.1 yU;have DL:=I hk;rw[show(NS f).blocks=LH (w5 f) (p' f) f.blocks from rfl,LN]at DL;have S9:f.blocks[k]?=some f.blocks[k]:=List.getElem?_eq_getElem DL;obtain⟨m,q1,q2,q3⟩:=Nr (w5 f) (p' f) f.blocks k _ S9 fun c hc=>by have:=(hv.fn.blk c hc).few;omega
 generalize f.blocks[k]=b at *;rw[show(NS f).blocks=LH (w5 f) (p' f) f.blocks from rfl,q3]at hk;simp only[Option.some.injEq]at hk;subst hk;have jc:=List.mem_of_getElem? S9;obtain⟨b1,b2,b3,b4,b5⟩:=dU.2.2 b jc;have TO:=(hv.fn.blk b jc).few;have hl:=KS (w5 f) m b.params;refine⟨b1,b2,by simp only[List.length_append];omega,fun i hi=>?_,b5⟩;rcases List.mem_append.1 hi with e|e
 ·obtain⟨h1,h2,h3,p,h4,h5,_⟩:=Lu _ _ _ i e;have hp:=b1 p h4;refine⟨⟨by omega,by omega⟩,⟨by omega,by omega⟩,⟨by omega,by omega⟩,fun a ha=>?_,by rw[h5];simp⟩;rw[h5]at ha;simp only[List.mem_cons,List.not_mem_nil,or_false,or_self]at ha;rw[ha];exact hp
 exact b4 i e
theorem Lz{D:Int->Prop}{es:List (Int×SV)} :
  ∀(M:List bE),(∀i∈M,¬D i.to∧i.op=1∧∃p,D p∧i.args=[p,p]∧(cZ es p).kind=0)->∀{K6:List (Int×SV)},VS D es K6 ->
   ∃KX,VS D es KX∧∀{v:bR} {fn b:Int} {m:Mach},m.over=false->m.short=false->∀{f':Fr} {r':List Fr},f'.fn=fn->f'.blk=b->∀(A B:List bE),(aD (aL v fn) b).ins=A++(M++B)->∀l:Int,(M.length:Int)<=l ->
    Mach.Steps v M.length (m.put ({ f' with pos:=A.length,vals:=K6 }::r') l) (m.put ({ f' with pos:=A.length+M.length,vals:=KX }::r') (l-M.length))
 | [],_,K6,hv=>⟨K6,hv,fun {v fn b m} _ _ {f' r'} _ _ _ _ _ l _=>by
   have:l-(([]:List bE).length:Int)=l:=by simp
   rw[this];exact .refl _⟩
 | i::M,hM,K6,hv=>by
  obtain⟨q1,q2,p,q3,q4,q5⟩:=hM i List.mem_cons_self;have hp:(cZ K6 p).kind=0:=by rw[hv p q3];exact q5
  obtain⟨x,hx⟩:∃x,x=(SV.word (ji ((cZ K6 p).n+(cZ K6 p).n))):=⟨_,rfl⟩
  have sT:VS D es (cK K6 i.to x):=fun k hk=>by
   rw[LM,if_neg (fun e=>q1 (by rw[e];exact hk))];exact hv k hk
  obtain⟨KX,e1,e2⟩:=Lz M (fun j hj=>hM j (List.mem_cons_of_mem _ hj)) sT;refine⟨KX,e1,fun {v fn b m} ho hs {f' r'} h1 h2 A B hi l hl=>?_⟩;have EJ:(aD (aL v fn) b).ins=(A++[i])++(M++B):=by rw[hi];simp
  rw[List.length_cons]at hl;have e3:=e2 (r':=r') ho hs h1 h2 (A++[i]) B EJ (l-1) (by omega);rw[List.length_append,List.length_singleton]at e3;have dD:Mach.step v { m.put ({ f' with pos:=A.length,vals:=K6 }::r') l with left:=l-1 }=m.put ({ f' with pos:=A.length+1,vals:=cK K6 i.to x }::r') (l-1):=by
   unfold Mach.step Mach.put;simp only;rw[h1,h2,hi,List.getElem?_append_right (Nat.le_refl _),Nat.sub_self];simp only[List.cons_append,List.getElem?_cons_zero];unfold Mach.act;rw[if_neg (by omega),if_neg (by omega)];unfold Mach.exec;rw[if_neg (by omega),if_pos (by omega),q4,q2];have ha:jw (bN K6 [p,p]) 0=true:=by simp[jw,bN,hp]
   rw[ha];rw[hx];rfl
  rw[show l-((i::M).length:Int)=l-1-M.length by rw[List.length_cons];omega,show A.length+(i::M).length=A.length+1+M.length by rw[List.length_cons];omega];refine .cons ho hs (by show 1<=l;omega) ?_;show Mach.Steps v M.length (Mach.step v { m.put ({ f' with pos:=A.length,vals:=K6 }::r') l with left:=l-1 }) _;rw[dD];exact e3
def KE(u:bR)(fn b:Int):List bE:=(aD (aL (L5 u) fn) b).ins.take ((aD (aL (L5 u) fn) b).ins.length-(aD (aL u fn) b).ins.length)
section
variable {u:bR} (hV:∀f∈u.fns,OB f)
include hV
omit hV in
theorem QC{fn:Int}(h0:0<=fn)(h1:fn<u.fns.length):aL (L5 u) fn=NS (aL u fn):=by
 show(u.fns.map NS)[fn.toNat]?.getD default=_;rw[List.getElem?_map,jm h0 h1];rfl
theorem LO{fn b:Int}(h0:0<=fn)(h1:fn<u.fns.length)(h2:0<=b)(h3:b<(aL u fn).blocks.length) :
  (aD (aL (L5 u) fn) b).params=(aD (aL u fn) b).params∧(aD (aL (L5 u) fn) b).term=(aD (aL u fn) b).term∧(aD (aL (L5 u) fn) b).ins=KE u fn b++(aD (aL u fn) b).ins ∧
  (KE u fn b).length<=4096∧∀i∈KE u fn b,i.to ∉ Ce (aL u fn)∧i.op=1∧∃p∈(aD (aL u fn) b).params,i.args=[p,p]∧Pm (aL u fn) p:=by
 have hv:=hV _ (fN h0 h1);have jc:=fh h2 h3;obtain⟨m,q1,q2,q3⟩:=Q0 hv h2 h3;have hp:KE u fn b=KO (w5 (aL u fn)) m (aD (aL u fn) b).params:=by
  unfold KE;rw[QC h0 h1,q3];simp only[List.length_append];rw[Nat.add_sub_cancel,List.take_left]
 rw[hp,QC h0 h1,q3];have hl:=KS (w5 (aL u fn)) m (aD (aL u fn) b).params;have wj:=(hv.fn.blk _ jc).few;refine⟨rfl,rfl,rfl,by omega,fun i hi=>?_⟩;obtain⟨h1,h2,_,p,h4,h5,h6⟩:=Lu _ _ _ i hi;refine⟨fun hm=>?_,h2,p,h4,h5,List.mem_flatMap.2 ⟨_,jc,List.mem_append_left _ h4⟩,h6⟩;have:=hv.below hm;omega
theorem R5:M4 u (L5 u) (fun fn v=>v∈Ce (aL u fn)) (KE u) (fun _ _=>[]) 4097 (fun fn b es=>b∈La (aL u fn)∧KY (aL u fn) es) where
 len:=by show(u.fns.map NS).length=_;rw[List.length_map]
 main:=rfl
 zero:=fun fn h0 h1=>by
  have hv:=hV _ (fN h0 h1);obtain⟨p1,p2,p3,p4,p5⟩:=LO hV h0 h1 (b:=0) (by omega) (by have:=List.length_pos_iff.2 hv.fn.ne;omega);refine⟨?_,p1⟩;cases hq:KE u fn 0 with
  | nil=>rfl
  | cons i r =>
   obtain⟨_,_,p,h4,_,h6⟩:=p5 i (by rw[hq];exact List.mem_cons_self);exact absurd h6 (N8 hv h4)
 Rp:=fun fn b h0 h1 h2 h3=>by
  have hv:=hV _ (fN h0 h1);have jc:=fh h2 h3;obtain⟨p1,p2,p3,p4,p5⟩:=LO hV h0 h1 h2 h3;have Pa:(aD (aL u fn) b).term.kind≠1->(aD (aL u fn) b).term.kind≠4->(aD (aL u fn) b).term.arg∈Ce (aL u fn):=fun q1 q4=>K3 (hv.pC.arg b.toNat _ (dy h2 h3) q1 q4);refine⟨by rw[p3,List.append_nil],fun i hi=>⟨List.mem_flatMap.2 ⟨_,jc,List.mem_append_right _ (List.mem_map.2 ⟨i,hi,rfl⟩)⟩,fun a ha=>?_⟩,fun q=>?_,fun q=>?_,fun q0 q1 q4=>?_⟩
  ·obtain⟨n,hn⟩:=List.mem_iff_getElem?.1 hi;exact K3 (hv.pC.ins b.toNat _ (dy h2 h3) n i hn a ha)
  ·rw[p2];exact⟨rfl,q,rfl⟩
  ·rw[p2];exact⟨rfl,q,rfl,Pa (by omega) (by omega)⟩
  rw[p2];exact⟨rfl,rfl,rfl,Pa q1 q4⟩
 ways:=fun fn b h0 h1 h2 h3=>by
  have hv:=hV _ (fN h0 h1);have jc:=fh h2 h3;obtain⟨p1,p2,p3,p4,p5⟩:=LO hV h0 h1 h2 h3;intro es jl e Pc hI ht;have Rf:e∈(aD (aL u fn) b).term.to:=by
   rcases ht with⟨_,q⟩|⟨_,_,_,_,q⟩<;>exact List.mem_of_getElem? q
  have Tc:=hv.db _ jc e Rf;obtain⟨r1,r2,r3,r4,j0⟩:=LO hV h0 h1 (b:=e.block) (by omega) Tc.2;have Tb:∀a∈e.args,a∈Ce (aL u fn):=fun a ha=>K3 (hv.pC.args b.toNat _ (dy h2 h3) e Rf a ha);have hW:=hI.2.Rr hv hI.1 Rf;have R1:VS (fun v=>v∈Ce (aL u fn)) (cH es (aD (aL u fn) e.block).params (bN es e.args)) (cH jl (aD (aL u fn) e.block).params (bN es e.args)):=VS.bind _ _ Pc;obtain⟨Rs,RE⟩:∃Rs,Rs=cH jl (aD (aL u fn) e.block).params (bN es e.args):=⟨_,rfl⟩
  rw[<-RE]at R1;have Pa:(aD (aL u fn) b).term.kind≠1->(aD (aL u fn) b).term.kind≠4->cZ jl (aD (aL u fn) b).term.arg=cZ es (aD (aL u fn) b).term.arg:=fun q1 q4=>Pc _ (K3 (hv.pC.arg b.toNat _ (dy h2 h3) q1 q4));have j9:∃KX,VS (fun v=>v∈Ce (aL u fn)) (cH es (aD (aL u fn) e.block).params (bN es e.args)) KX∧∀(m:Mach) (f':Fr) (r':List Fr) (l:Int),m.over=false->m.short=false->((KE u fn e.block).length:Int)<=l->f'.fn=fn ->
    Mach.Steps (L5 u) (KE u fn e.block).length (m.put ({ f' with blk:=e.block,pos:=0,vals:=Rs }::r') l) (m.put ({ f' with blk:=e.block,pos:=(KE u fn e.block).length,vals:=KX }::r') (l-(KE u fn e.block).length)):=by
   have hM:∀i∈KE u fn e.block,¬i.to∈Ce (aL u fn)∧i.op=1∧∃p,p∈Ce (aL u fn)∧i.args=[p,p]∧(cZ (cH es (aD (aL u fn) e.block).params (bN es e.args)) p).kind=0:=fun i hi=>by
    obtain⟨t1,t2,p,_,t4,t5⟩:=j0 i hi;exact⟨t1,t2,p,t5.1,t4,hW p t5⟩
   obtain⟨KX,e1,e2⟩:=Lz (KE u fn e.block) hM R1;refine⟨KX,e1,fun m f' r' l ho hs hl hf=>?_⟩;have:=e2 (v:=L5 u) (fn:=fn) (b:=e.block) (m:=m) ho hs (f':={ f' with blk:=e.block }) (r':=r') hf rfl [] (aD (aL u fn) e.block).ins r3 l hl;rw[List.length_nil,Nat.zero_add]at this;exact this
  obtain⟨KX,e1,e2⟩:=j9;refine⟨(KE u fn e.block).length+1,KX,by omega,by omega,e1,⟨by omega,Tc.2⟩,fun m f' r' l ho hs hl hf yc lV To=>?_⟩;have dD:Mach.step (L5 u) { m.put (f'::r') l with left:=l-1 }=m.put ({ f' with blk:=e.block,pos:=0,vals:=Rs }::r') (l-1):=by
   obtain⟨bP,di,QL,blk,pos,to,vals⟩:=f';simp only at hf yc lV To;subst hf yc To;unfold Mach.step Mach.put;simp only;rw[p3,lV,List.getElem?_append_right (by omega),Nat.add_sub_cancel_left,List.getElem?_eq_none (Nat.le_refl _)];simp only;have RG:∀(M:Mach),M.frames=⟨bP,di,QL,blk,(KE u QL blk).length+(aD (aL u QL) blk).ins.length,to,vals⟩::r'->M.follow (L5 u) ⟨bP,di,QL,blk,(KE u QL blk).length+(aD (aL u QL) blk).ins.length,to,vals⟩ e = { M with frames:=⟨bP,di,QL,e.block,0,to,Rs⟩::r' }:=fun M hM=>by
    unfold Mach.follow Mach.bf;rw[hM,r1,Pc.take Tb,RE];rfl
   unfold Mach.finish;rw[p2];rcases ht with⟨k1,k2⟩|⟨k0,k1,k4,mC,k2⟩
   ·rw[if_neg (by omega),if_pos k1,k2];exact RG _ rfl
   rw[if_neg k4,if_neg k1,if_neg k0,Pa k1 k4,if_neg (by omega),k2];exact RG _ rfl
  refine .cons ho hs (by show 1<=l;omega) ?_;show Mach.Steps (L5 u) _ (Mach.step (L5 u) { m.put (f'::r') l with left:=l-1 }) _;rw[dD];have:=e2 m f' r' (l-1) ho hs (by omega) hf;rw[show l-(((KE u fn e.block).length+1:Nat):Int)=l-1-(KE u fn e.block).length by omega];exact this
end
theorem N6{u:bR}(bB:u.fit)(hc:dr u=0)(B9:dr (L5 u)=0)(he:(bm u 1000).e=0) :
  (bm (L5 u) 1000000).e=13∨((bm (L5 u) 1000000).e=0∧(bm (L5 u) 1000000).out=(bm u 1000).out∧(bm (L5 u) 1000000).fin=(bm u 1000).fin∧(bm (L5 u) 1000000).val=(bm u 1000).val):=by
 have hV:∀f∈u.fns,OB f:=fun f hf=>KZ (bB.2.2 f hf) ((Lj hc).2.2.2.1 f hf);have hu:=pJ bB hc;exact M0 (R5 hV) (NQ hV hu) hu (pJ (ON bB hc) B9) (by omega) (by omega) (by omega) (by omega) he
end Go.Proofs.Ytkhnjeblbiocaaa
namespace Go.Proofs.Ytkhnjeblbiocaaa
open Go.Av
inductive OC where
 | val (a:ae)
 | row (id sz n:Nat) (cs:List OC)
def Sf:List ae->ae
 | [x]=>x
 | l=>.agg l
def OI:Nat->Nat->List ae->List ae
 | 0,_,_=>[]
 | n+1,sz,l=>Sf (l.take sz)::OI n sz (l.drop sz)
def OC.raw:OC->ae
 | .val a=>a
 | .row id sz n _=>.os id n sz
mutual
def OC.told:OC->ae
 | .val a=>a
 | .row _ sz n cs=>.aE sz (OI n sz (Cq cs)) .sh
def Cq:List OC->List ae
 | []=>[]
 | c::r=>c.told::Cq r
end
mutual
def OC.own:OC->List (Nat×List ae)
 | .val _=>[]
 | .row id _ _ cs=>(id,cs.map OC.raw)::KG cs
def KG:List OC->List (Nat×List ae)
 | []=>[]
 | c::r=>c.own++KG r
end
mutual
def OC.wf:OC->Prop
 | .val a=>a.scalar∧a.bk=a
 | .row _ sz n cs=>cs.length=n*sz∧Q9 cs
def Q9:List OC->Prop
 | []=>True
 | c::r=>c.wf∧Q9 r
end
theorem K5:∀cs:List OC,Cq cs=cs.map OC.told
 | []=>rfl
 | c::r=>by rw[Cq,K5 r];rfl
theorem Mx:∀cs:List OC,Q9 cs↔∀c∈cs,c.wf
 | []=>by simp[Q9]
 | c::r=>by
  rw[Q9,Mx r];simp
theorem On{c:OC}(h:c.wf):c.raw.scalar:=by
 cases c with
 | val a=>exact h.1
 | row=>trivial
theorem N4{c:OC}(h:c.wf):c.told.scalar:=by
 cases c with
 | val a=>exact h.1
 | row=>unfold OC.told;trivial
theorem Oz{c:OC}(h:c.wf):c.told.bk=c.told:=by
 cases c with
 | val a=>exact h.2
 | row=>unfold OC.told;rfl
theorem OZ:∀{l:List ae},(∀x∈l,x.scalar)->(Sf l).cells=l
 | [],_=>rfl
 | [x],h=>by
  have:=h x (by simp);unfold Sf;cases x<;>first|rfl|exact absurd this (by simp[ae.scalar])
 | x::y::r,_=>rfl
theorem OJ:∀(n sz:Nat) (l:List ae),(OI n sz l).length=n
 | 0,_,_=>rfl
 | n+1,sz,l=>by rw[OI,List.length_cons,OJ]
theorem Nb:∀(n sz:Nat) {l:List ae},l.length=n*sz->(∀x∈l,x.scalar)->ao (OI n sz l)=l∧∀x∈OI n sz l,x.cells.length=sz
 | 0,sz,l,h,_=>by
  rw[Nat.zero_mul]at h;rw[List.length_eq_zero_iff.1 h];exact⟨rfl,fun x hx=>by cases hx⟩
 | n+1,sz,l,h,hs=>by
  rw[Nat.add_mul,Nat.one_mul]at h;obtain⟨i1,i2⟩:=Nb n sz (l:=l.drop sz) (by rw[List.length_drop];omega) (fun x hx=>hs x (List.mem_of_mem_drop hx));have he:=OZ (l:=l.take sz) (fun x hx=>hs x (List.mem_of_mem_take hx));refine⟨?_,fun x hx=>?_⟩
  ·show(Sf (l.take sz)).cells++ao (OI n sz (l.drop sz))=l;rw[he,i1,List.take_append_drop]
  rcases List.mem_cons.1 hx with q|q
  ·rw[q,he,List.length_take];omega
  exact i2 x q
def Su(O:List ak)(L:List (Nat×List ae)):Prop:=∀p∈L,O[p.1]?=some (.cells p.2)
section
variable {P:Program} {kb:Nat} {c:Code} {Q:dR->St->Prop} {n:Nat} {ba:List (Nat×ae)}
theorem Lq(X:Nat)(todo:List OC)(done:List ae)(O:List ak)(hX:O[X]?=some (.cells (done++todo.map OC.raw)))(hd:∀d∈done,d.scalar)(hw:Q9 todo)(ho:Su O (KG todo))(hn:(X::(KG todo).map Prod.fst).Nodup)
  (h:∀O',O'.length=O.length->O'[X]?=some (.cells (done++Cq todo))->(∀k,k ∉ X::(KG todo).map Prod.fst->O'[k]?=O[k]?)->cc P kb c Q ⟨n,ba,O'⟩):cc P kb c Q ⟨n,ba,O⟩:=by
 match todo with
 | []=>exact h O rfl (by rw[Cq];exact hX) fun _ _=>rfl
 | .val a::r =>
  have jI:(X::(KG r).map Prod.fst).Nodup:=by simpa[KG,OC.own]using hn
  refine Lq X r (done++[a]) O ?_ (fun d IK=>?_) hw.2 (by simpa[KG,OC.own]using ho) jI fun O' h1 h2 h3=>h O' h1 ?_ ?_
  ·rw[hX,List.append_assoc];rfl
  ·rcases List.mem_append.1 IK with q|q
   ·exact hd d q
   rw[List.mem_singleton.1 q];exact hw.1.1
  ·rw[h2,List.append_assoc];rfl
  intro k hk;exact h3 k (by simpa[KG,OC.own]using hk)
 | .row id sz m cs::r =>
  obtain⟨⟨w1,w2⟩,w3⟩:=hw;have e1:KG (.row id sz m cs::r)=(id,cs.map OC.raw)::(KG cs++KG r):=by rw[KG,OC.own];rfl
  rw[e1]at ho hn h;have fA:=ho (id,cs.map OC.raw) List.mem_cons_self;simp only[List.map_cons,List.map_append,List.nodup_cons,List.mem_cons,List.mem_append,not_or,List.nodup_append]at hn;obtain⟨⟨x1,x2,x3⟩,⟨i1,i2⟩,n1,n2,n3⟩:=hn;refine Lq id cs [] O (by simpa using fA) (fun d hd=>by cases hd) w2 (fun p hp=>ho p (List.mem_cons_of_mem _ (List.mem_append_left _ hp))) (List.nodup_cons.2 ⟨i1,n1⟩) fun O1 l1 a1 k1=>?_;rw[List.nil_append]at a1;have Sm:O1[X]?=some (.cells (done++.os id m sz::r.map OC.raw)):=by
   rw[k1 X (by simp only[List.mem_cons,not_or];exact⟨x1,x2⟩),hX];rfl
  have Ta:=(Mx cs).1 w2;have T9:=(Mx r).1 w3;have iq:(Cq cs).length=m*sz:=by rw[K5,List.length_map,w1]
  obtain⟨g1,g2⟩:=Nb m sz iq (fun x hx=>by
   rw[K5]at hx;obtain⟨y,hy,rfl⟩:=List.mem_map.1 hx;exact N4 (Ta y hy))
  have iy:(Cq cs).map ae.bk=Cq cs:=by
   rw[K5,List.map_map];exact List.map_congr_left fun y hy=>Oz (Ta y hy)
  refine kh id a1 (by simp[ak.aF]) trivial ba (fun s z hz=>⟨z,hz,.refl z⟩) X x1 (done++.os id m sz::r.map OC.raw) (done++.aE sz (OI m sz (Cq cs)) .sh::r.map OC.raw) Sm (by simp) (fun d IK=>?_) (fun j a d ha IK=>?_) ?_
  ·rcases List.mem_append.1 IK with q|q
   ·exact hd d q
   rcases List.mem_cons.1 q with q|q
   ·subst q;trivial
   obtain⟨y,hy,rfl⟩:=List.mem_map.1 q;exact On (T9 y hy)
  ·by_cases hj:j<done.length
   ·rw[List.getElem?_append_left hj]at ha IK;rw[ha]at IK;simp only[Option.some.injEq]at IK;exact IK ▸ cw.refl _
   rw[List.getElem?_append_right (by omega)]at ha IK;cases oH:j-done.length with
   | zero =>
    rw[oH]at ha IK;simp only[List.getElem?_cons_zero,Option.some.injEq]at ha IK;subst ha;subst IK;exact cw.os (cs:=Cq cs) a1 g2 (OJ m sz _) (by rw[List.drop_zero,List.take_of_length_le (by omega),iy,g1])
   | succ j' =>
    rw[oH]at ha IK;simp only[List.getElem?_cons_succ]at ha IK;rw[ha]at IK;simp only[Option.some.injEq]at IK;exact IK ▸ cw.refl _
  have uE:((O1.set id .gone).set X (.cells (done++.aE sz (OI m sz (Cq cs)) .sh::r.map OC.raw))).length=O.length:=by rw[List.length_set,List.length_set,l1]
  refine Lq X r (done++[.aE sz (OI m sz (Cq cs)) .sh]) _ ?_ (fun d IK=>?_) w3 (fun p hp=>?_) (List.nodup_cons.2 ⟨x3,n2⟩) fun O' h1 h2 h3=>h O' (by rw[h1,uE]) ?_ ?_
  ·rw[List.getElem?_set_self (by rw[List.length_set];exact I Sm),List.append_assoc];rfl
  ·rcases List.mem_append.1 IK with q|q
   ·exact hd d q
   rw[List.mem_singleton.1 q];trivial
  ·have QT:p.1∈(KG r).map Prod.fst:=List.mem_map.2 ⟨p,hp,rfl⟩;have q1:p.1≠X:=fun q=>x3 (q ▸ QT);have q2:p.1≠id:=fun q=>i2 (q ▸ QT);have q3:p.1 ∉ (KG cs).map Prod.fst:=fun q=>n3 _ q _ QT rfl;rw[List.getElem?_set_ne (Ne.symm q1),List.getElem?_set_ne (Ne.symm q2),k1 p.1 (by simp only[List.mem_cons,not_or];exact⟨q2,q3⟩)];exact ho p (List.mem_cons_of_mem _ (List.mem_append_right _ hp))
  ·rw[h2,List.append_assoc,Cq,OC.told];rfl
  intro k hk;simp only[List.map_cons,List.map_append,List.mem_cons,List.mem_append,not_or]at hk;obtain⟨z1,z2,z3,z4⟩:=hk;rw[h3 k (by simp only[List.mem_cons,not_or];exact⟨z1,z4⟩),List.getElem?_set_ne (Ne.symm z1),List.getElem?_set_ne (Ne.symm z2),k1 k (by simp only[List.mem_cons,not_or];exact⟨z2,z3⟩)]
termination_by SizeOf.sizeOf todo
end
end Go.Proofs.Ytkhnjeblbiocaaa
namespace Go.Proofs.Ytkhnjeblbiocaaa
open Go.Av
theorem Np:∀{xs:List ae} {sz:Nat},2<=sz->(∀x∈xs,x=.agg x.cells∧x.cells.length=sz)->OI xs.length sz (ao xs)=xs
 | [],sz,_,_=>rfl
 | x::r,sz,h2,h=>by
  obtain⟨h1,h3⟩:=h x List.mem_cons_self;have ih:=Np (xs:=r) h2 fun y hy=>h y (List.mem_cons_of_mem _ hy);have e:ao (x::r)=x.cells++ao r:=rfl;rw[e,List.length_cons,OI,List.take_append_of_le_length (by omega),List.take_of_length_le (by omega),List.drop_append_of_le_length (by omega),List.drop_of_length_le (by omega),List.nil_append,ih];congr 1
  conv=>rhs;rw[h1]
  generalize x.cells=l at *
  match l,h3 with
  | [],h=>simp at h;omega
  | [y],h=>simp at h;omega
  | y::z::r,_=>rfl
theorem Od(l:List Block):OI l.length 7 (ao (l.map Block.enc))=l.map Block.enc:=by
 have:=Np (xs:=l.map Block.enc) (sz:=7) (by omega) fun x hx=>by
  obtain⟨b,_,rfl⟩:=List.mem_map.1 hx;exact⟨rfl,rfl⟩
 rwa [List.length_map]at this
theorem O9(l:List Func):OI l.length 2 (ao (l.map Func.enc))=l.map Func.enc:=by
 have:=Np (xs:=l.map Func.enc) (sz:=2) (by omega) fun x hx=>by
  obtain⟨b,_,rfl⟩:=List.mem_map.1 hx;exact⟨rfl,rfl⟩
 rwa [List.length_map]at this
theorem NV(l:List ae):(l.map OC.val).map OC.raw=l:=by
 rw[List.map_map];exact List.map_id l
theorem Ns(l:List ae):Cq (l.map OC.val)=l:=by
 rw[K5,List.map_map];have:(OC.told ∘ OC.val)=id:=by
  funext a
  show OC.told (.val a)=a;rw[OC.told]
 rw[this,List.map_id]
theorem Mj:∀l:List ae,KG (l.map OC.val)=[]
 | []=>by rw[List.map_nil,KG]
 | a::r=>by rw[List.map_cons,KG,OC.own,Mj r];rfl
def K0:List Nat->List Func->List OC
 | b::bs,f::fs=>.val (aI f.name)::.row b 7 f.blocks.length ((ao (f.blocks.map Block.enc)).map .val)::K0 bs fs
 | _,_=>[]
theorem M':∀{bs:List Nat} {fs:List Func},bs.length=fs.length->Cq (K0 bs fs)=ao (fs.map Func.enc)
 | [],[],_=>by unfold K0;rw[Cq];rfl
 | b::bs,f::fs,h=>by
  have ih:=M' (bs:=bs) (fs:=fs) (by simpa using h);rw[K0,Cq,Cq,ih,OC.told,OC.told,Ns,Od];rfl
 | [],y::fs,h=>by simp at h
 | x::bs,[],h=>by simp at h
def K4:List Nat->List Func->List (Nat×List ae)
 | b::bs,f::fs=>(b,ao (f.blocks.map Block.enc))::K4 bs fs
 | _,_=>[]
theorem NL:∀(bs:List Nat) (fs:List Func),KG (K0 bs fs)=K4 bs fs
 | b::bs,f::fs=>by
  rw[K0,KG,KG,OC.own,OC.own,NV,Mj,NL bs fs,K4];rfl
 | [],_=>by unfold K0 K4;rw[KG]
 | _::_,[]=>by unfold K0 K4;rw[KG]
theorem Na:∀{bs:List Nat} {fs:List Func} {p:Nat×List ae},p∈K4 bs fs->∃(j:Nat) (f:Func),bs[j]?=some p.1∧fs[j]?=some f∧p.2=ao (f.blocks.map Block.enc)
 | b::bs,f::fs,p,h=>by
  rw[K4]at h;rcases List.mem_cons.1 h with q|q
  ·subst q;exact⟨0,f,rfl,rfl,rfl⟩
  obtain⟨j,g,h1,h2,h3⟩:=Na q;exact⟨j+1,g,h1,h2,h3⟩
 | [],_,p,h=>by unfold K4 at h;cases h
 | _::_,[],p,h=>by unfold K4 at h;cases h
theorem LX:∀{bs:List Nat} {fs:List Func},bs.length=fs.length->(K4 bs fs).map Prod.fst=bs
 | [],[],_=>by unfold K4;rfl
 | b::bs,f::fs,h=>by
  rw[K4,List.map_cons,LX (by simpa using h)]
 | [],y::fs,h=>by simp at h
 | x::bs,[],h=>by simp at h
theorem OH:∀{bs:List Nat} {fs:List Func},Q9 (K0 bs fs)
 | b::bs,f::fs=>by
  rw[K0];refine⟨⟨trivial,rfl⟩,⟨?_,(Mx _).2 fun c hc=>?_⟩,OH⟩
  ·rw[List.length_map,bO (sz:=7) (fun x hx=>by obtain⟨p,_,rfl⟩:=List.mem_map.1 hx;rfl),List.length_map]
  obtain⟨a,ha,rfl⟩:=List.mem_map.1 hc;simp only[ao,List.mem_flatMap,List.mem_map]at ha;obtain⟨_,⟨p,hp,rfl⟩,ha⟩:=ha;simp only[Block.enc,ae.cells,List.mem_cons,List.not_mem_nil,or_false]at ha;rcases ha with rfl|rfl|rfl|rfl|rfl|rfl|rfl<;>exact⟨trivial,rfl⟩
 | [],_=>by unfold K0;trivial
 | _::_,[]=>by unfold K0;trivial
theorem NK:∀{bs:List Nat} {fs:List Func},bs.length=fs.length->(K0 bs fs).length=fs.length*2
 | [],[],_=>by unfold K0;rfl
 | b::bs,f::fs,h=>by
  rw[K0,List.length_cons,List.length_cons,NK (by simpa using h),List.length_cons];omega
 | [],y::fs,h=>by simp at h
 | x::bs,[],h=>by simp at h
theorem Ps{P:Program}{kb:Nat}{c:Code}{Q:dR->St->Prop}{n:Nat}{ba:List (Nat×ae)}{O:List ak}(X bP:Nat)(bids:List Nat)(fs:List Func)(main:Int)(hl:bids.length=fs.length)(hX:O[X]?=some (.cells [.os bP fs.length 2,aI main]))(hf:O[bP]?=some (.cells ((K0 bids fs).map OC.raw)))
  (TW:bP≠X) (hn:bids.Nodup) (hb:∀(j b:Nat) f,bids[j]?=some b->fs[j]?=some f->b≠X∧b≠bP∧O[b]?=some (.cells (ao (f.blocks.map Block.enc))))
  (h:∀O',O'.length=O.length->O'[X]?=some (.cells [a9 fs,aI main])->(∀k,k≠X->k≠bP->k ∉ bids->O'[k]?=O[k]?)->cc P kb c Q ⟨n,ba,O'⟩):cc P kb c Q ⟨n,ba,O⟩:=by
 have ho:KG [OC.row bP 2 fs.length (K0 bids fs),.val (aI main)]=(bP,(K0 bids fs).map OC.raw)::K4 bids fs:=by
  rw[KG,KG,KG,OC.own,OC.own,NL];simp
 have jZ:∀b∈bids,b≠X∧b≠bP:=fun b yc=>by
  obtain⟨j,hj⟩:=List.mem_iff_getElem?.1 yc;have QP:=I hj;have IN:fs[j]?=some (fs[j]'(by omega)):=List.getElem?_eq_getElem _;have:=hb j b _ hj IN;exact⟨this.1,this.2.1⟩
 refine Lq X [OC.row bP 2 fs.length (K0 bids fs),.val (aI main)] [] O ?_ (fun d hd=>by cases hd) ⟨⟨NK hl,OH⟩,⟨trivial,rfl⟩,trivial⟩ ?_ ?_ fun O' h1 h2 h3=>h O' h1 ?_ fun k k1 k2 k3=>h3 k ?_
 ·rw[hX];rfl
 ·rw[ho];intro p hp;rcases List.mem_cons.1 hp with q|q
  ·subst q;exact hf
  obtain⟨j,f,p1,p2,p3⟩:=Na q;rw[p3];exact(hb j p.1 f p1 p2).2.2
 ·rw[ho,List.map_cons,LX hl];refine List.nodup_cons.2 ⟨fun q=>?_,List.nodup_cons.2 ⟨fun q=>(jZ _ q).2 rfl,hn⟩⟩;rcases List.mem_cons.1 q with q|q
  ·exact TW q.symm
  exact(jZ _ q).1 rfl
 ·rw[h2,Cq,Cq,Cq,OC.told,OC.told,M' hl,O9];rfl
 rw[ho,List.map_cons,LX hl];simp only[List.mem_cons,not_or];exact⟨k1,k2,k3⟩
end Go.Proofs.Ytkhnjeblbiocaaa
namespace Go.Av
inductive PR(π:List Nat)(k:Nat):ae->ae->Prop
 | same {x:ae} (h:x.upto k):PR π k x x
 | os {a b n sz:Nat} (h:π[b]?=some a):PR π k (.os a n sz) (.os b n sz)
inductive OR(π:List Nat)(k:Nat):ak->ak->Prop
 | same {o:ak} (h:o.upto k):OR π k o o
 | cells {cs ds:List ae} (hl:ds.length=cs.length) (hs:∀d∈ds,d.scalar) (h:∀(j:Nat) (c d:ae),cs[j]?=some c->ds[j]?=some d->PR π k c d):OR π k (.cells cs) (.cells ds)
structure Ren(O O':List ak)(π:List Nat)(k:Nat):Prop where
 len:O'.length=π.length
 Ui:k<=π.length
 low:∀i:Nat,i<k->π[i]?=some i
 inj:∀i j a:Nat,π[i]?=some a->π[j]?=some a->i=j
 obj:∀i a:Nat,π[i]?=some a->∃o o',O[a]?=some o∧O'[i]?=some o'∧OR π k o o'
def MH(g:G)(π:List Nat)(O':List ak):G:=⟨g.w,g.fr,π.map fun a=>(g.env[a]?).getD none,O'⟩
theorem OR.live{π:List Nat}{k:Nat}{o o':ak}(h:OR π k o o'):(o'.live↔o.live)∧(o'.aF↔o.aF):=by
 cases h with
 | same=>exact⟨Iff.rfl,Iff.rfl⟩
 | cells=>exact⟨Iff.rfl,Iff.rfl⟩
theorem OR.spare{π:List Nat}{k:Nat}{o:ak}{m:Nat}(h:OR π k o (.spare m)):o=.spare m:=by
 cases h with
 | same=>rfl
theorem OR.Q3{π:List Nat}{k:Nat}{o:ak}{m:Nat}(h:OR π k (.spare m) o):o=.spare m:=by
 cases h with
 | same=>rfl
section
variable {g:G} {O':List ak} {π:List Nat} {k:Nat}
theorem xb{i a:Nat}(h:π[i]?=some a):(MH g π O').env[i]?=some ((g.env[a]?).getD none):=by
 show(π.map _)[i]?=_;rw[List.getElem?_map,h];rfl
theorem KP(hr:Ren g.objs O' π k){i:Nat}{o':ak}(h:O'[i]?=some o'):∃a o,π[i]?=some a∧g.objs[a]?=some o∧OR π k o o':=by
 have hl:=I h;rw[hr.len]at hl;have ha:π[i]?=some (π[i]'hl):=List.getElem?_eq_getElem _;obtain⟨o,o2,h1,h2,h3⟩:=hr.obj i _ ha;rw[h]at h2;simp only[Option.some.injEq]at h2;subst h2;exact⟨_,o,ha,h1,h3⟩
theorem KU{a:Nat}{l:Loc}(h:(g.env[a]?).getD none=some l):g.env[a]?=some (some l):=by
 cases he:g.env[a]? with
 | none=>rw[he]at h;cases h
 | some e=>rw[he]at h;simp only[Option.getD_some]at h;rw[h]
theorem NO(hr:Ren g.objs O' π k){b off:Nat}(h:iM (MH g π O') b off):iM g b off:=by
 obtain⟨id,l,o',h1,h2,h3,h4,h5⟩:=h;obtain⟨a,o,a1,a2,a3⟩:=KP hr h2;rw[xb a1]at h1;simp only[Option.some.injEq]at h1;exact⟨a,l,o,KU h1,a2,a3.live.1.1 h3,h4,h5⟩
theorem O8(hr:Ren g.objs O' π k){b:Nat}(h:fM (MH g π O') b):fM g b:=by
 obtain⟨id,l,o',h1,h2,h3,h4⟩:=h;obtain⟨a,o,a1,a2,a3⟩:=KP hr h2;rw[xb a1]at h1;simp only[Option.some.injEq]at h1;exact⟨a,l,o,KU h1,a2,a3.live.1.1 h3,h4⟩
theorem LZ(hr:Ren g.objs O' π k){b off:Nat}(h:jT (MH g π O') b off):jT g b off:=h.imp id (NO hr)
theorem Cx(hg:Good g)(hr:Ren g.objs O' π k){i:Nat}(hi:i<k):(MH g π O').env[i]?=g.env[i]?∧∃o o',g.objs[i]?=some o∧O'[i]?=some o'∧OR π k o o':=by
 have hp:=hr.low i hi;obtain⟨o,o',h1,h2,h3⟩:=hr.obj i i hp;refine⟨?_,o,o',h1,h2,h3⟩;rw[xb hp];have aZ:=I h1;rw[<-hg.len]at aZ;have he:g.env[i]?=some (g.env[i]'aZ):=List.getElem?_eq_getElem _;rw[he];rfl
theorem OO(hg:Good g)(hr:Ren g.objs O' π k){id:Nat}(fA:id<k){a:Addr}{sz len cap:Nat}(ho:oS g (.tok id) a sz len cap):oS (MH g π O') (.tok id) a sz len cap:=by
 obtain⟨e1,o,o',e2,e3,e4⟩:=Cx hg hr fA;obtain⟨q1,q2⟩:=ho;refine⟨by have:=I e3;exact this,fun m fm=>?_⟩;have JH:O'[id]?=some (.spare m):=fm;rw[e3]at JH;simp only[Option.some.injEq]at JH;subst JH;rw[e4.spare]at e2;obtain⟨r1,r2⟩:=q2 m e2;refine⟨r1,fun e=>(r2 e).imp (fun h=>h) ?_⟩;rintro⟨l,arr,t,p1,p2,p3,p4,p5⟩;exact⟨l,arr,t,e1.trans p1,p2,p3,p4,p5⟩
theorem Ou(hg:Good g)(hr:Ren g.objs O' π k){x:ae}{u:Value}(h:RV g x u)(hb:x.upto k):RV (MH g π O') x u:=by
 induction h with
 | v hx=>exact .v hx
 | agg hl dz _ ih =>
  simp only[ae.upto,aY]at hb;exact .agg hl dz fun i c u a b=>ih i c u a b (hb c (List.mem_of_getElem? a))
 | nil ho tK =>
  simp only[ae.upto]at hb;refine .nil (fun id e=>?_) tK;subst e;obtain⟨_,o,o',e2,e3,e4⟩:=Cx hg hr (i:=id) hb.2;exact I e3
 | aE cU dz cQ cF hs f hm wC ho ih =>
  rename_i sz xs o a cap;simp only[ae.upto,aY]at hb;refine .aE cU dz cQ cF hs f (fun j c hj=>⟨(hm j c hj).1,fun q=>(hm j c hj).2 (LZ hr q)⟩) (fun j c hj=>ih j c hj ?_) ?_
  ·have hc:=List.mem_of_getElem? hj;simp only[ao,List.mem_flatMap]at hc;obtain⟨x,hx,hc⟩:=hc;have:=hb.1 x hx;cases x with
   | agg cs =>
    simp only[ae.upto,aY]at this;exact this c hc
   | _=>simp only[ae.cells,List.mem_singleton]at hc;subst hc;exact this
  cases o with
  | sh=>trivial
  | nn=>trivial
  | ex=>exact ho
  | loc a=>exact ho
  | tok id=>exact OO hg hr hb.2 ho
 | ip ha dz f hm _ ih =>
  simp only[ae.upto,aY]at hb;exact .ip ha dz f (fun j c hj=>⟨(hm j c hj).1,fun q=>(hm j c hj).2 (LZ hr q)⟩) fun j c hj=>ih j c hj (hb c (List.mem_of_getElem? hj))
 | mp he ho hn =>
  obtain⟨e1,o,o',e2,e3,e4⟩:=Cx hg hr hb;rw[ho]at e2;simp only[Option.some.injEq]at e2;subst e2;exact .mp (e1.trans he) e3 fun q=>hn (e4.live.2.1 q)
 | ms he ho hn hc lJ cF =>
  obtain⟨e1,o,o',e2,e3,e4⟩:=Cx hg hr hb;rw[ho]at e2;simp only[Option.some.injEq]at e2;subst e2;exact .ms (e1.trans he) e3 (fun q=>hn (e4.live.2.1 q)) hc lJ cF
 | os he ho hn hc lJ cF =>
  obtain⟨e1,o,o',e2,e3,e4⟩:=Cx hg hr hb;rw[ho]at e2;simp only[Option.some.injEq]at e2;subst e2;exact .os (e1.trans he) e3 (fun q=>hn (e4.live.2.1 q)) hc lJ cF
 | raw tK ho=>exact .raw tK (OO hg hr hb ho)
 | mm he ho hn =>
  obtain⟨e1,o,o',e2,e3,e4⟩:=Cx hg hr hb;rw[ho]at e2;simp only[Option.some.injEq]at e2;subst e2;exact .mm (e1.trans he) e3 fun q=>hn (e4.live.2.1 q)
 | im hh jI hl hk rA _ ih =>
  simp only[ae.upto,kK]at hb;exact .im hh (fun off q=>jI off (LZ hr q)) hl hk rA fun i e kx a b=>ih i e kx a b (hb kx (List.mem_of_getElem? b))
 | fn hl q8 _ _ ih xE =>
  simp only[ae.upto,aY]at hb;exact .fn hl q8 (fun i c u a b=>ih i c u a b (hb.1 c (List.mem_of_getElem? a))) fun i c u a b=>xE i c u a b (hb.2 c (List.mem_of_getElem? a))
 | df hl _ ih =>
  simp only[ae.upto,aY]at hb;exact .df hl fun i c u a b=>ih i c u a b (hb c (List.mem_of_getElem? a))
theorem Om(hg:Good g)(hr:Ren g.objs O' π k){x y:ae}{u:Value}(h:RV g x u)(hp:PR π k x y):RV (MH g π O') y u:=by
 cases hp with
 | same hb=>exact Ou hg hr h hb
 | os hb =>
  obtain⟨l,o,cap,h1,h2,h3,h4,h5,h6,rfl⟩:=h.oN;obtain⟨o1,o',e1,e2,e3⟩:=hr.obj _ _ hb;rw[h2]at e1;simp only[Option.some.injEq]at e1;subst e1;exact .os (by rw[xb hb,h1];rfl) e2 (fun q=>h3 (e3.live.2.1 q)) h4 h5 h6
theorem PA(hg:Good g)(hr:Ren g.objs O' π k):Good (MH g π O') where
 frlt:=hg.frlt
 fk:=fun id l o h1 h2 h3=>by
  obtain⟨a,o1,a1,a2,a3⟩:=KP hr h2;rw[xb a1]at h1;simp only[Option.some.injEq]at h1;exact hg.fk a l o1 (KU h1) a2 (a3.live.1.1 h3)
 len:=by
  show(π.map _).length=O'.length;rw[List.length_map,hr.len]
 loc:=fun id l o h1 h2 h3=>by
  obtain⟨a,o1,a1,a2,a3⟩:=KP hr h2;rw[xb a1]at h1;simp only[Option.some.injEq]at h1;exact hg.loc a l o1 (KU h1) a2 (a3.live.1.1 h3)
 apart:=fun id kD l l' o o' h1 h2 h3 k1 k2 k3 hb=>by
  obtain⟨a,o1,a1,a2,a3⟩:=KP hr h2;obtain⟨b,o2,b1,b2,b3⟩:=KP hr k2;rw[xb a1]at h1;rw[xb b1]at k1;simp only[Option.some.injEq]at h1 k1;have:=hg.apart a b l l' o1 o2 (KU h1) a2 (a3.live.1.1 h3) (KU k1) b2 (b3.live.1.1 k3) hb;subst this;exact hr.inj id kD a a1 b1
 cells:=fun id cs h=>by
  obtain⟨a,o,a1,a2,a3⟩:=KP hr h;cases a3 with
  | same hb =>
   obtain⟨l,arr,t,e1,e0,e2,e3,e4,e5,e6⟩:=hg.cells a cs a2;simp only[ak.upto,aY]at hb;exact⟨l,arr,t,by rw[xb a1,e1];rfl,e0,e2,e3,fun j c u p q=>Ou hg hr (e4 j c u p q) (hb c (List.mem_of_getElem? p)),e5,e6⟩
  | cells hl hs hp =>
   rename_i Sw;obtain⟨l,arr,t,e1,e0,e2,e3,e4,e5,e6⟩:=hg.cells a Sw a2;refine⟨l,arr,t,by rw[xb a1,e1];rfl,e0,e2,by omega,fun j c u p q=>?_,hs,e6⟩;have hj:=I p;have h0:Sw[j]?=some (Sw[j]'(by omega)):=List.getElem?_eq_getElem _;exact Om hg hr (e4 j _ u h0 q) (hp j _ c h0 p)
 spare:=fun id m l h1 h2=>by
  obtain⟨a,o,a1,a2,a3⟩:=KP hr h1;rw[xb a1]at h2;simp only[Option.some.injEq]at h2;rw[a3.spare]at a2;exact hg.spare a m l a2 (KU h2)
 map:=fun id kt es h=>by
  obtain⟨a,o,a1,a2,a3⟩:=KP hr h;cases a3 with
  | same hb =>
   obtain⟨l,arr,clk,e1,e0,e2,e3,e6,e4⟩:=hg.map a kt es a2;simp only[ak.upto,kK]at hb;exact⟨l,arr,clk,by rw[xb a1,e1];rfl,e0,e2,e3,e6,fun i e kx p q=>⟨(e4 i e kx p q).1,(e4 i e kx p q).2.1,Ou hg hr (e4 i e kx p q).2.2 (hb kx (List.mem_of_getElem? q))⟩⟩
theorem QZ{g0:G}(hg:Good g)(hr:Ren g.objs O' π k)(h:Le g0 g)(hk:g0.objs.length<=k):Le g0 (MH g π O') where
 os:=h.os
 tape:=h.tape
 output:=h.output
 fr:=h.fr
 size:=h.size
 block:=fun i hi hh=>⟨(h.block i hi hh).1,fun q=>(h.block i hi hh).2 (O8 hr q)⟩
 cell:=fun b off x hx hh=>⟨(h.cell b off x hx hh).1,fun q=>(h.cell b off x hx hh).2 (NO hr q)⟩
 len:=by
  have:=hr.len;have:=hr.Ui;show _<=O'.length;omega
 spare:=fun id m hm=>by
  have aZ:=I hm;obtain⟨_,o,o',e2,e3,e4⟩:=Cx hg hr (i:=id) (by omega);rcases h.spare id m hm with⟨m',q1,q2⟩|⟨o2,q1,q2⟩
  ·rw[q1]at e2;simp only[Option.some.injEq]at e2;subst e2;have e5:=e4.Q3;subst e5;exact .inl ⟨m',e3,q2⟩
  rw[q1]at e2;simp only[Option.some.injEq]at e2;subst e2;exact .inr ⟨o',e3,fun q=>q2 (e4.live.2.1 q)⟩
 plain:=fun id o ho hs=>by
  have aZ:=I ho;obtain⟨e1,o1,o',e2,e3,e4⟩:=Cx hg hr (i:=id) (by omega);obtain⟨⟨o2,q1,q2⟩,q3⟩:=h.plain id o ho hs;rw[q1]at e2;simp only[Option.some.injEq]at e2;subst e2;exact⟨⟨o',e3,fun q=>q2 (e4.live.2.1 q)⟩,e1.trans q3⟩
 gone:=fun id ho=>by
  have aZ:=I ho;obtain⟨_,o1,o',e2,e3,e4⟩:=Cx hg hr (i:=id) (by omega);rw[h.gone id ho]at e2;simp only[Option.some.injEq]at e2;subst e2;cases e4 with
  | same=>exact e3
 tok:=fun id m hm fm=>by
  have aZ:=I hm;obtain⟨e1,o1,o',e2,e3,e4⟩:=Cx hg hr (i:=id) (by omega);have JH:O'[id]?=some (.spare m):=fm;rw[e3]at JH;simp only[Option.some.injEq]at JH;subst JH;rw[e4.spare]at e2;obtain⟨q1,q2⟩:=h.tok id m hm e2;exact⟨e1.trans q1,q2⟩
end
def RR(π:List Nat)(k:Nat)(r r':ae):Prop:=PR π k r r'∨∃cs ds,r=.agg cs∧r'=.agg ds∧ds.length=cs.length∧(∀d∈ds,d.scalar)∧∀(j:Nat) (c d:ae),cs[j]?=some c->ds[j]?=some d->PR π k c d
theorem OX{P:Program}{f:FuncId}{O:List ak}{args:List ae}{R R':ae->List ak->Prop}(h:bc P f O args R)(hR:∀r O1,R r O1->∃r' O' π,Ren O1 O' π O.length∧RR π O.length r r'∧R' r' O'):bc P f O args R' :=
 ⟨h.1,fun g vs hg ho ha=>(h.2 g vs hg ho ha).mono fun _ _ ⟨g',v,r,h1,h2,h3,h4,h5,h6⟩=>by
  obtain⟨r',O',π,q1,q2,q3⟩:=hR _ _ h6;refine⟨MH g' π O',v,r',h1,h2,QZ h4 q1 h3 (by rw[ho];exact Nat.le_refl _),PA h4 q1,?_,q3⟩;rcases q2 with q|⟨cs,ds,rfl,rfl,e1,e2,e3⟩
  ·exact Om h4 q1 h5 q
  obtain⟨us,rfl,u1,u2,u3⟩:=h5.sl;refine .agg (by omega) e2 fun i d u hd hu=>?_;have hi:=I hd;have hc:cs[i]?=some (cs[i]'(by omega)):=List.getElem?_eq_getElem _;exact Om h4 q1 (u3 i _ u hc hu) (e3 i _ d hc hd)⟩
end Go.Av
namespace Go.Av
theorem RV.Qk{g:G}(hg:Good g){xs:List ae}{sz cap:Nat}{arr:Array Value}{t:TypeId}(cU:∀x∈xs,x.cells.length=sz)(dz:∀c∈ao xs,c.scalar)(cF:xs.length<=2 ^ 62)(cQ:xs.length<=cap)(hc:cap*sz<=arr.size)
  (hr:∀(j:Nat) (c:ae) (u:Value),(ao xs)[j]?=some c->arr[j]?=some u->RV g c u):RV (g.push (.cells arr t)) (.aE sz xs .sh) (.slice (some ⟨g.w.heap.size,0,none⟩) xs.length cap):=by
 have hle:=Le.push g hg (.cells arr t);have hl:=bO cU;have px:xs.length*sz<=cap*sz:=Nat.mul_le_mul_right _ cQ;refine .aE cU (fun x hx c hc=>dz c (by simp only[ao,List.mem_flatMap];exact⟨x,hx,hc⟩)) cQ cF (fun _=>rfl) (fun j=>arr.getD j undef) (fun j c hj=>?_) (fun j c hj=>?_) trivial
 ·have aZ:=I hj;rw[hl]at aZ;refine⟨?_,?_⟩
  ·simp only[G.cell,G.push,Nat.zero_add];rw[cell_of_row (dq _ _)];simp[Array.getD_eq_getD_getElem?,show j<arr.size by omega]
  rintro(hf|⟨id,l,o,h1,h2,h3,h4,_⟩)
  ·have fg:g.fr g.w.heap.size (0+j):=hf;have:=hg.frlt _ _ fg;omega
  have:=hg.loc id l o h1 h2 h3;have Jf:l.block=g.w.heap.size:=h4;omega
 have aZ:=I hj;rw[hl]at aZ;exact(hr j c _ hj (by simp[Array.getD_eq_getD_getElem?,show j<arr.size by omega])).mono hle
theorem J0{P:Program}{aW:eo}(hT:cb P aW){o:Oper}{σ:St}{t e:TypeId}{x y:Operand}{ti te:cr}{sz:Nat}{xs ys:List ae}{ow:kP}
  (ho:o.op=.call ⟨.builtin .append,#[x,y],#[t,t]⟩) (hd:∀d,o.dst=some d->d<σ.n) (ht:aW t=some ti) (aT:ti.desc=.slice e) (he:aW e=some te) (cU:te.size=sz) (hx:σ.ev x=some (.aE sz xs .ex)) (hy:σ.ev y=some (.aE sz ys ow))
  (hlen:xs.length+ys.length<=2 ^ 62) (hb:(xs.length+ys.length)*te.bytes<=2 ^ 47) :
  Cert P o σ (.aE sz (xs++ys.map ae.share) .sh) .pure :=
 Cert.gu hd fun base fE a g bM h _=>by
  have hg:=bM.good;have hu:=bI hT ht aT;subst cU;have fJ:=h x (by simp[ho,Op.operands,Call.operands]) _ hx;have nU:=h y (by simp[ho,Op.operands,Call.operands]) _ hy;obtain⟨tG,jB,eN,ex,yk,vm,Ak,yl,uL,uM⟩:=fJ.eA (P:=P);obtain⟨Ed,vF,news,ey,ra,rb,qz,vo,sU,mI⟩:=nU.eA (P:=P);obtain⟨⟨i,z,h1,h2,h3,h4,h5,h6,h7,h8,h9⟩,_⟩:=hT e te he;have lT:jB=xs.length:=by
   rcases fJ.eT with⟨q1,q2⟩|⟨ad,cap,f,q1,_,_,_,_,_,_,_,q2⟩
   ·rw[ex]at q1;cases q2;simp at q1;simp[q1]
   rw[ex]at q1;simp only[Value.slice.injEq]at q1;rw[q1.2.2];exact q2
  subst lT;have cv:=cz (P:=P) ho a g.w;simp only[builtin,List.map_toArray,List.map_cons,List.map_nil]at cv;by_cases hn:ys.length=0
  ·have D4:ys=[]:=List.length_eq_zero_iff.1 hn;subst D4;have lB:news=[]:=by
    have:news.length=0:=by simpa using mI
    exact List.length_eq_zero_iff.1 this
   subst lB;have bz:(Builtin.append_ #[t,t] o.type #[a.eval x,a.eval y]).run P g.w=.ok (a.eval x) g.w:=by
    rw[ex];cases tG with
    | none =>
     have Cu:xs=[]:=by
      rcases fJ.eT with⟨_,q2⟩|⟨ad,cap,f,q1,_⟩
      ·exact q2
      rw[ex]at q1;simp at q1
     subst Cu;have q:=rb g.w rfl;simp only[List.length_nil]at q;simp[Builtin.append_,run_underlying hu,Go.sizeOf,typeInfo,h1,ra,h2,q]
    | some ad =>
     have:=e9 (P:=P) g.w g.w t o.type e i hu h1 ad xs.length xs.length 0 (a.eval y) [] (fun w=>by simpa using ra w) (by rw[h2];simpa using rb g.w rfl) (by omega) (by simp[storeCells]);simpa using this
   refine⟨a.eval x,g,.inl (by rw[cv];simp[bz]),Le.refl _,hg,rfl,?_⟩;simp only[List.map_nil,List.append_nil];exact fJ.bk
  have bz:=eF (P:=P) g.w t o.type e i z hu h1 h4 tG xs.length xs.length ys.length (a.eval y) eN news ra (by rw[h2];exact rb g.w.drew rfl) (by rw[h2,<-ex];exact vm g.w.drew rfl) (by omega) hlen (by rw[h3];exact hb);rw[<-ex]at bz;obtain⟨cap,cQ⟩:∃cap,cap=grownCap g.w (xs.length+ys.length) xs.length e:=⟨_,rfl⟩
  obtain⟨rest,cP⟩:∃rest,rest=Builtin.zeroCells z.cells (cap-(xs.length+ys.length)):=⟨_,rfl⟩
  have lK:=grownCap_ge g.w (xs.length+ys.length) xs.length e;rw[<-cQ]at bz lK;rw[<-cP]at bz;have pG:rest.size=(cap-(xs.length+ys.length))*te.size:=by rw[cP,size_zeroCells,h5,h6]
  obtain⟨arr,eY⟩:∃arr,arr=eN.toArray++news.toArray++rest:=⟨_,rfl⟩
  rw[<-eY]at bz;have j7:=hg.heap (w':=g.w.drew) rfl rfl rfl rfl;have jG:=Le.heap (g:=g) (w':=g.w.drew) rfl rfl rfl rfl;obtain⟨g1,gP⟩:∃g1:G,g1=⟨g.w.drew,g.fr,g.env,g.objs⟩:=⟨_,rfl⟩
  rw[<-gP]at j7 jG;have nT:g1.w=g.w.drew:=by rw[gP]
  have kO:g1.objs=g.objs:=by rw[gP]
  have hle:=jG.trans (Le.push g1 j7 (.cells arr e));refine⟨.slice (some ⟨g.w.heap.size,0,none⟩) (xs.length+ys.length) cap,g1.push (.cells arr e),.inl ?_,hle,j7.push _,?_,?_⟩
  ·rw[cv];simp[bz,G.push,nT]
  ·show g1.objs=_;rw[kO];rfl
  have gC:(xs++ys.map ae.share).length=xs.length+ys.length:=by simp
  have gO:=Ak.append qz.iF;rw[<-cI]at gO;have eJ:(ao (xs++ys.map ae.share)).length=(xs.length+ys.length)*te.size:=by
   rw[bO (sz:=te.size) (fun x hx=>by
    rcases List.mem_append.1 hx with q|q
    ·exact yl x q
    exact dM vo x q),gC]
  have cU:∀x∈xs++ys.map ae.share,x.cells.length=te.size:=fun x hx=>by
   rcases List.mem_append.1 hx with q|q
   ·exact yl x q
   exact dM vo x q
  have dz:∀c∈ao (xs++ys.map ae.share),c.scalar:=fun c hc=>by
   rw[cI]at hc;rcases List.mem_append.1 hc with q|q
   ·exact uL c q
   exact dB sU c q
  have:=RV.Qk j7 (t:=e) (arr:=arr) (cap:=cap) cU dz (by rw[gC];exact hlen) (by rw[gC];exact lK) (by
    rw[eY];simp only[Array.size_append,List.size_toArray,uM,mI,pG,<-Nat.add_mul];rw[show xs.length+ys.length+(cap-(xs.length+ys.length))=cap by omega];exact Nat.le_refl _) (fun j c u hj hu=>by
    have aZ:=I hj;rw[eJ]at aZ;rw[eY]at hu;have oI:=cV hu (by simp only[List.size_toArray,uM,mI,<-Nat.add_mul];exact aZ);exact(gO.2 j c u hj (by simpa using oI)).mono jG)
  rw[gC,nT]at this;exact this
end Go.Av
namespace Go.Proofs.Ytkhnjeblbiocaaa
open Go.Av

theorem PJ{l:List bE}{j:Nat}{i:bE}(h:l[j]?=some i):(l.take (j+1)).map bE.enc=(l.take j).map bE.enc++[i.enc]:=by
 rw[List.take_add_one,h,List.map_append];rfl
theorem PQ(O:List ak)(C0:List ae):(O++[ak.cells C0]++[ak.spare 0]).set O.length (.cells (C0.set 1 (.aE 4 [] (.tok (O++[ak.cells C0]).length))))=O++[.cells (C0.set 1 (.aE 4 [] (.tok (O.length+1)))),.spare 0]:=by simp
abbrev MW(id:Nat)(b:Block)(l:List ae)(t:ae):List ae:=[a6 b.params,.aE 4 l (.tok id),aI b.term.kind,aI b.term.arg,aI b.term.n,a6 b.term.cases,t]
abbrev LJ(id:Nat)(b:Block)(l:List bE)(t:ae):List ae:=[a6 b.params,.aE 4 (l.map bE.enc) (.tok id),aI b.term.kind,aI b.term.arg,aI b.term.n,a6 b.term.cases,t]
end Go.Proofs.Ytkhnjeblbiocaaa
namespace Go.Av
def Mr(P:Program)(all:List Oper)(k:Nat)(σ:St)(ks:List Kind)(R:St->List Kind->Prop):Prop :=
 ∃(ρ:St) (o7:List Kind),o7.length+k=all.length∧eR P all.toArray ((o7.zipIdx k).map fun p=>(p.2,p.1)) σ ρ∧R ρ (ks++o7)
theorem Mr.fin{P:Program}{all:List Oper}{k:Nat}{σ:St}{ks:List Kind}{R:St->List Kind->Prop}(hk:k=all.length)(h:R σ ks):Mr P all k σ ks R :=
 ⟨σ,[],by simpa using hk,gz.refl σ,by simpa using h⟩
theorem Mr.op{P:Program}{all:List Oper}{k:Nat}{σ:St}{ks:List Kind}{R:St->List Kind->Prop}{o:Oper}{x:ae}{m:Mode}(ho:all[k]?=some o)(hg:o.guard=none)(hc:Cert P o σ x m)
  (h:Mr P all (k+1) ⟨σ.n,nc o.dst x σ.ba,m.post σ.objs⟩ (ks++[m.kind]) R):Mr P all k σ ks R:=by
 obtain⟨ρ,o7,h1,h2,h3⟩:=h;refine⟨ρ,m.kind::o7,by simp only[List.length_cons];omega,?_,by simpa using h3⟩;rw[List.zipIdx_cons,List.map_cons];exact⟨_,⟨o,by simpa using ho,.inl ⟨by simp[dg,hg],x,m,hc,rfl,rfl⟩⟩,h2⟩
theorem M5{P:Program}{ops:Array Oper}:∀{l1 l2:List (Nat×Kind)} {σ τ ρ:St},eR P ops l1 σ τ->eR P ops l2 τ ρ->eR P ops (l1++l2) σ ρ
 | [],_,_,_,_,h1,h2=>h2.same h1.symm
 | _::_,_,_,_,_,⟨fE,h,h1⟩,h2=>⟨fE,h,M5 h1 h2⟩
theorem M6{P:Program}{ops all:Array Oper}{k:Nat}(hk:∀i o,ops[i]?=some o->all[k+i]?=some o)(hg:∀o∈all.toList,o.guard=none):∀{l:List (Nat×Kind)} {σ τ:St},eR P ops l σ τ->eR P all (l.map fun p=>(k+p.1,p.2)) σ τ
 | [],_,_,h=>h
 | (i,q)::r,_,_,h=>by
  obtain⟨fE,⟨o,ho,h1⟩,h2⟩:=h;refine⟨fE,⟨o,hk i o ho,?_⟩,M6 hk hg h2⟩;have ic:=hk i o ho;have Bw:o.guard=none:=hg o (by
   rw[<-Array.getElem?_toList]at ic;exact List.mem_of_getElem? ic)
  have w1:∀(a:Array Oper) (σ:St),dg a o σ=some true:=fun a σ=>by simp[dg,Bw]
  rcases h1 with⟨_,h1⟩|⟨h1,_⟩
  ·exact .inl ⟨w1 _ _,h1⟩
  rw[w1]at h1;cases h1
theorem Mr.QD{P:Program}{aW:eo}(md:Md)(hT:cb P aW){all l1:List Oper}{k:Nat}{σ:St}{ks:List Kind}{R:St->List Kind->Prop}(n:Nat)(h1:(all.drop k).take n=l1)(hn:l1.length=n)(hg:∀o∈all,o.guard=none)
  (h:eV P aW md l1 0 [] σ [] fun τ sa=>Mr P all (k+n) τ (ks++sa.reverse) R):Mr P all k σ ks R:=by
 obtain⟨τ,sa,c1,n1,ρ,D5,h3,c2,hR⟩:=ee (all:=l1.toArray) hT l1 0 [] σ [] (fun j=>by simp) (fun j t hj=>by simp[ib]at hj) h;have hl:k+n<=all.length:=by
  have:l1.length<=all.length-k:=by rw[<-h1,List.length_take,List.length_drop];omega
  by_cases hz:n=0
  ·omega
  omega
 have d1:=M6 (all:=all.toArray) (k:=k) (fun i o hi=>by
  have fL:l1[i]?=some o:=by simpa using hi
  rw[<-h1,List.getElem?_take]at fL;split at fL
  ·rw[List.getElem?_drop]at fL;simpa using fL
  cases fL) (by simpa using hg) c1
 refine⟨ρ,sa++D5,by rw[List.length_append];omega,?_,by simpa using hR⟩;rw[List.zipIdx_append,List.map_append];have e1:(sa.zipIdx k).map (fun p=>(p.2,p.1))=((sa.zipIdx 0).map fun p=>(p.2,p.1)).map fun p=>(k+p.1,p.2):=by
  apply List.ext_getElem?;intro i;simp only[List.getElem?_map,List.getElem?_zipIdx];cases sa[i]?<;>simp
 rw[e1];refine M5 d1 ?_;rw[show k+sa.length=k+n by omega];exact c2
theorem K7{P:Program}{kb:Nat}(hm:P.follows .mixedOrders=true){id:Nat}{l:List Oper}{draw:Bool}{Q:dR->St->Prop}{σ:St}
  (h:Mr P l 0 σ [] fun τ ks=>gy draw (fun _=>eH l.toArray ks)∧At τ (Q .norm)):cc P kb (.region id l.toArray draw) Q σ:=by
 obtain⟨τ,ks,h1,h2,h3,h4⟩:=h;intro base a g hb hr;have mu:eR P l.toArray ((List.range l.toArray.size).map fun i=>(i,ks.getD i .write)) σ τ:=by
  have e:(ks.zipIdx 0).map (fun p=>(p.2,p.1))=(List.range l.toArray.size).map fun i=>(i,ks.getD i .write):=by
   apply List.ext_getElem?;intro i;simp only[List.getElem?_map];have hlen:ks.length=l.toArray.size:=by simpa using h1
   by_cases hi:i<l.toArray.size
   ·have fL:i<ks.length:=by omega
    rw[List.getElem?_range hi];simp[fL]
   rw[List.getElem?_eq_none (by simp only[List.length_zipIdx];omega),List.getElem?_eq_none (by simp only[List.length_range];omega)];rfl
  rw[<-e];exact h2
 cases draw with
 | false=>exact kq mu hr fun a g wC=>⟨g,τ,rfl,wC,h4⟩
 | true =>
  have hB:=h3 rfl;simp only[List.nil_append]at hB;exact lE hm hB mu hr fun a g wC=>⟨g,τ,rfl,wC,h4⟩
end Go.Av
namespace Go.Proofs.Ytkhnjeblbiocaaa
open Go.Av
structure Rn(O0:List ak)(X:Nat)(f:Func)(l:List Block)(bW:Nat)(O:List ak):Prop where
 up:∀o∈O,o.upto O.length
 len:X<O.length
 je:∀i,i<X->O[i]?=O0[i]?
 out:O[X]?=some (.cells [aI f.name,Nf bW l])
 blk:l≠[]->X<bW∧O[bW]?=some (.cells (ao (l.map Block.enc)))
theorem Rn.snoc{O0:List ak}{X:Nat}{f:Func}{l:List Block}{bW:Nat}{O:List ak}(h:Rn O0 X f l bW O)(b:Block){O4:List ak}(hl:O.length<=O4.length)(bC:∀o∈O4,o.upto O4.length)(hk:∀i,i<X->O4[i]?=O[i]?){cs ar:List ae}
  (hc:cs=ao ((l++[b]).map Block.enc)) (ha:ar=[aI f.name,.os O4.length (l.length+1) 7]):Rn O0 X f (l++[b]) O4.length ((O4++[ak.cells cs]).set X (.cells ar)):=by
 have hX:=h.len;subst hc;subst ha;have ry:∀n,aw n (ao ((l++[b]).map Block.enc)):=fun n=>by
  rw[aY];intro c hc;simp only[ao,List.mem_flatMap,List.mem_map]at hc;obtain⟨_,⟨p,hp,rfl⟩,hc⟩:=hc;have:=p.aN n;simp only[Block.enc,ae.upto,aY]at this;exact this c hc
 exact {
  up:=fun o ho=>by
   rw[List.length_set,List.length_append,List.length_singleton];rcases List.mem_or_eq_of_mem_set ho with q|q
   ·rcases List.mem_append.1 q with q|q
    ·exact ak.cu (by omega) (bC o q)
    rw[List.mem_singleton]at q;subst q;exact ry _
   subst q;exact⟨trivial,show O4.length<O4.length+1 by omega,trivial⟩
  len:=by rw[List.length_set,List.length_append];omega
  je:=fun i hi=>by
   rw[List.getElem?_set_ne (by omega),List.getElem?_append_left (by omega),hk i hi,h.je i hi]
  out:=by
   rw[List.getElem?_set_self (by rw[List.length_append];omega)];unfold Nf;rw[if_neg (by simp),List.length_append];rfl
  blk:=fun _=>by
   refine⟨by omega,?_⟩;rw[List.getElem?_set_ne (by omega),List.getElem?_append_right (Nat.le_refl _),Nat.sub_self];rfl }
def Tu(O0:List ak)(f:Func)(r:ae)(O:List ak):Prop:=∃bW,r=.agg [aI f.name,.os bW f.blocks.length 7]∧(∀i,i<O0.length->O[i]?=O0[i]?)∧O0.length<=bW∧O[bW]?=some (.cells (ao (f.blocks.map Block.enc)))
abbrev NH(id:Nat)(b:Block)(l:List ae):List ae:=[a6 b.params,.aE 4 (b.ins.map bE.enc) (.tok (id+1)),aI b.term.kind,aI b.term.arg,aI b.term.n,a6 b.term.cases,.aE 2 l (.tok (id+2))]
theorem OY{l:List Edge}{j:Nat}{i:Edge}(h:l[j]?=some i):(l.take (j+1)).map Edge.enc=(l.take j).map Edge.enc++[i.enc]:=by
 rw[List.take_add_one,h,List.map_append];rfl
theorem Oa(f:Func)(hs:Se f)(cj:f.blocks≠[])(O0:List ak)(bC:∀o∈O0,o.upto O0.length):bc Try.prog 35 O0 [f.enc] (Tu O0 f):=by
 obtain⟨N,hN⟩:∃N,N=f.blocks.length:=⟨_,rfl⟩
 have hn:=hs.few;rw[<-hN]at hn;refine M9 hT Try.func35 rfl (by kernel_rfl) (by simp[Try.ntmps35]) ?_;show cc Try.prog _ _ _ ⟨87,_,_⟩;dsimp only[Tmp,TypeId,ax];refine aA (ah ?_);show cc Try.prog _ _ _ ⟨_,_,O0++[.cells [aI f.name,ay f.blocks],.cells [aI 0,.aE 7 [] .ex]]⟩;refine bY 1 0 ([aI f.name,ay f.blocks]) rfl rfl (by rfl) ?_;simp -dsimp only[simprocAttr,↓aa,zp];refine aA (ah ?_);refine dd ?_;simp -dsimp only[simprocAttr,↓aa,zp,<-hN];refine ah ?_;have hB:∀o∈O0++[ak.gone,.cells [aI 0,.aE 7 [] .ex],.cells [aI f.name,.aE 7 [] .ex]],o.upto (O0++[ak.gone,.cells [aI 0,.aE 7 [] .ex],.cells [aI f.name,.aE 7 [] .ex]]).length:=fun o ho=>by
  rw[List.length_append];rcases List.mem_append.1 ho with q|q
  ·exact ak.cu (by simp) (bC o q)
  simp only[List.mem_cons,List.not_mem_nil,or_false]at q;rcases q with rfl|rfl|rfl
  ·trivial
  ·exact⟨trivial,⟨trivial,trivial⟩,trivial⟩
  exact⟨trivial,⟨trivial,trivial⟩,trivial⟩
 show cc Try.prog _ _ _ ⟨_,_,O0++[.gone,.cells [aI 0,.aE 7 [] .ex],.cells [aI f.name,.aE 7 [] .ex]]⟩;have Ty:(O0++[ak.gone,.cells [aI 0,.aE 7 [] .ex],.cells [aI f.name,.aE 7 [] .ex]]).length=O0.length+3:=by simp
 have Sy:∀i,i<O0.length->(O0++[ak.gone,.cells [aI 0,.aE 7 [] .ex],.cells [aI f.name,.aE 7 [] .ex]])[i]?=O0[i]?:=fun i hi=>List.getElem?_append_left hi;have Sz:(O0++[ak.gone,.cells [aI 0,.aE 7 [] .ex],.cells [aI f.name,.aE 7 [] .ex]])[O0.length+1]?=some (.cells [aI 0,.aE 7 [] .ex]):=by
  rw[List.getElem?_append_right (by omega),show O0.length+1-O0.length=1 by omega];rfl
 have Rc:(O0++[ak.gone,.cells [aI 0,.aE 7 [] .ex],.cells [aI f.name,.aE 7 [] .ex]])[O0.length+2]?=some (.cells [aI f.name,.aE 7 [] .ex]):=by
  rw[List.getElem?_append_right (by omega),show O0.length+2-O0.length=2 by omega];rfl
 generalize O0++[ak.gone,.cells [aI 0,.aE 7 [] .ex],.cells [aI f.name,.aE 7 [] .ex]]=B at *;have DH:Rn B (O0.length+2) f (f.blocks.take 0) 0 B:=⟨hB,by omega,fun _ _=>rfl,Rc,fun q=>absurd rfl q⟩
 refine aj (aU (ι:={X:Nat×Nat×List ak // X.1<=N∧Rn B (O0.length+2) f (f.blocks.take X.1) X.2.1 X.2.2}) (fun X=>⟨87,[(1,.ip none [aI f.name,ay f.blocks]),(2,.mp (O0.length+1) 0),(3,.mp (O0.length+2) 0),(15,ay f.blocks),(16,aI N),(17,aI X.1.1)],X.1.2.2⟩) (fun X=>N-X.1.1) ⟨(0,0,B),by simp,DH⟩ ?_ ?_)
 ·refine zq rfl ?_ ?_;simp -dsimp only[simprocAttr,↓aa,zp,zc]
  all_goals rfl
 rintro⟨⟨k,bW,O⟩,hk,hS⟩;simp only at hk hS;refine aA (ah ?_);apply gW rfl<;>intro h
 ·refine cA ?_;have aZ:k<N:=by simpa using h
  obtain⟨b,hb⟩:∃b,f.blocks[k]?=some b:=⟨f.blocks[k]'(by omega),List.getElem?_eq_getElem _⟩
  have jc:=List.mem_of_getElem? hb;have iz:f.blocks.take (k+1)=f.blocks.take k++[b]:=by rw[List.take_add_one,hb];rfl
  have Of:(f.blocks.take k).length=k:=by rw[List.length_take];omega
  have RB:=hs.params b jc;have TP:=hs.ins b jc;have TN:=hs.QB b jc;have IH:=hs.cases b jc;have Uw:=hs.to b jc;have zX:=hs.Qu b jc;have hX:=hS.len;have Qw:=hS.up;refine aK (aj ?_);refine aX ?_;simp -dsimp only[simprocAttr,↓aa,zp,hb];refine ah ?_;refine aO 5 ([a6 b.params,bD b.ins,aI b.term.kind,aI b.term.arg,aI b.term.n,a6 b.term.cases,aJ b.term.to]) [(1,.ip none [aI f.name,ay f.blocks]),(2,.mp (O0.length+1) 0),(3,.mp (O0.length+2) 0),(15,ay f.blocks),(16,aI N),(17,aI k),(5,.ip none [a6 b.params,bD b.ins,aI b.term.kind,aI b.term.arg,aI b.term.n,a6 b.term.cases,aJ b.term.to])] (by simp[bu,a7,Go.Av.look]) (by rfl) (by omega) (by simp[bu,a7,Go.Av.look]) ?_ ?_ ?_
  ·exact Qw
  ·simp[ae.upto,aw,az,Edge.ai,bE.ai,Block.ai];omega
  refine aK (K7 hm (Mr.QD ⟨false,false⟩ hT 3 rfl rfl (by simp) ?_));simp -dsimp only[simprocAttr,↓aa,zp];refine Mr.op rfl rfl (J0 hT rfl (by simp) Fg rfl Hd rfl rfl rfl (by simp;omega) (by simp;omega)) ?_;simp -dsimp only[simprocAttr,↓aa,zp];refine Mr.QD ⟨false,false⟩ hT 5 rfl rfl (by simp) ?_;simp -dsimp only[simprocAttr,↓aa,zp];refine Mr.fin rfl ⟨ob (by kernel_rfl),?_⟩;refine ah ?_;refine gS O.length 1 (sz:=4) (xs:=[]) (gF _ _) rfl ?_;show cc Try.prog _ _ _ ⟨_,_,(O++[ak.cells [a6 b.params,.aE 4 [] .ex,aI b.term.kind,aI b.term.arg,aI b.term.n,a6 b.term.cases,aJ b.term.to]]++[ak.spare 0]).set O.length (.cells ([a6 b.params,.aE 4 [] .ex,aI b.term.kind,aI b.term.arg,aI b.term.n,a6 b.term.cases,aJ b.term.to].set 1 (.aE 4 [] (.tok (O++[ak.cells [a6 b.params,.aE 4 [] .ex,aI b.term.kind,aI b.term.arg,aI b.term.n,a6 b.term.cases,aJ b.term.to]]).length))))⟩;rw[PQ];show cc Try.prog _ _ _ ⟨_,_,O++[ak.cells (LJ (O.length+1) b (b.ins.take 0) (aJ b.term.to)),.spare 0]⟩;have Uq:∀(X:List ak) o,o∈O++X->o∈O∨o∈X:=fun X o ho=>List.mem_append.1 ho;refine b8 (ah ?_)
  refine aj (aU (ι:={j:Nat // j<=b.ins.length}) (fun j=>⟨87,[(1,.ip none [aI f.name,ay f.blocks]),(2,.mp (O0.length+1) 0),(3,.mp (O0.length+2) 0),(15,ay f.blocks),(16,aI N),(17,aI k),(5,.ip none [a6 b.params,bD b.ins,aI b.term.kind,aI b.term.arg,aI b.term.n,a6 b.term.cases,aJ b.term.to]),(6,.mp O.length 0),(29,bD b.ins),(30,aI b.ins.length),(31,aI j.1)],O++[ak.cells (LJ (O.length+1) b (b.ins.take j.1) (aJ b.term.to)),.spare j.1]⟩) (fun j=>b.ins.length-j.1) ⟨0,by omega⟩ ?_ ?_)
  ·refine zq rfl ?_ ?_;simp -dsimp only[simprocAttr,↓aa,zp,zc]
   all_goals rfl
  rintro⟨j,hj⟩;refine aA (ah ?_);apply gW rfl<;>intro h
  ·refine cA ?_;have nQ:j<b.ins.length:=by simpa using h
   obtain⟨i,hi⟩:∃i,b.ins[j]?=some i:=⟨b.ins[j],by simp[nQ]⟩
   have Uy:=TN i (List.mem_of_getElem? hi);have iq:((b.ins.take j).map bE.enc).length=j:=by rw[List.length_map,List.length_take];omega
   have SL:=PJ hi;refine aK (aj ?_);refine aX ?_;simp -dsimp only[simprocAttr,↓aa,zp,hi];refine ah ?_;refine aK (K7 hm (Mr.QD ⟨false,false⟩ hT 3 rfl rfl (by simp) ?_));simp -dsimp only[simprocAttr,↓aa,zp];refine Mr.op rfl rfl (J0 hT rfl (by simp) Fg rfl Hd rfl rfl rfl (by simp;omega) (by simp;omega)) ?_;simp -dsimp only[simprocAttr,↓aa,zp];refine Mr.QD ⟨false,false⟩ hT 2 rfl rfl (by simp) ?_;simp -dsimp only[simprocAttr,↓aa,zp];refine Mr.fin rfl ?_;refine ah ?_;show cc Try.prog _ _ _ ⟨_,_,O++[ak.cells (LJ (O.length+1) b (b.ins.take j) (aJ b.term.to)),.spare j,.cells [aI i.to,aI i.op,aI i.n,a6 i.args]]⟩;refine bY 8 2 ([aI i.to,aI i.op,aI i.n,a6 i.args]) rfl rfl (by rfl) ?_;simp -dsimp only[simprocAttr,↓aa,zp];refine BH 2 ([.cells (LJ (O.length+1) b (b.ins.take j) (aJ b.term.to)),.spare j]) [(1,.ip none [aI f.name,ay f.blocks]),(2,.mp (O0.length+1) 0),(3,.mp (O0.length+2) 0),(15,ay f.blocks),(16,aI N),(17,aI k),(5,.ip none [a6 b.params,bD b.ins,aI b.term.kind,aI b.term.arg,aI b.term.n,a6 b.term.cases,aJ b.term.to]),(6,.mp O.length 0),(29,bD b.ins),(30,aI b.ins.length),(31,aI j),(8,.ip none [aI i.to,aI i.op,aI i.n,a6 i.args])] rfl (by simp) (by omega) (by simp[bu,a7,Go.Av.look]) ?_ ?_ ?_ ?_
   ·exact fun o ho=>ak.cu (by omega) (Qw o ho)
   ·simp[ak.upto,LJ,aw,ae.upto,az,bE.ai,Edge.ai];rw[<-List.map_take];exact bE.ai _ _
   ·simp[ae.upto,aw,az,Edge.ai,bE.ai,Block.ai];omega
   refine j1 ?_;simp -dsimp only[simprocAttr,↓aa,zp,iq]
   repeat(refine⟨by omega,?_⟩)
   refine ah ?_;refine dc ?_
   repeat(refine⟨by omega,?_⟩)
   refine fV ?_;refine⟨⟨j+1,nQ⟩,by simp;omega,?_⟩;dsimp only[LJ,MW];rw[SL];refine zq rfl ?_ ?_;simp -dsimp only[simprocAttr,↓aa,zp,zc]
   ·exact Sub.int (by simp)
   rfl
  refine aR ?_;simp -dsimp only[bX,ne_eq,Nat.reduceEqDiff,reduceCtorEq];have QP:b.ins.length<=j:=by
   have:=of_decide_eq_false h;omega
  rw[List.take_of_length_le QP];refine aK (K7 hm (Mr.QD ⟨false,false⟩ hT 4 rfl rfl (by simp) ?_));simp -dsimp only[simprocAttr,↓aa,zp,LJ];refine Mr.op rfl rfl (J0 hT rfl (by simp) Fg rfl Hd rfl rfl rfl (by simp;omega) (by simp;omega)) ?_;simp -dsimp only[simprocAttr,↓aa,zp,LJ];refine Mr.QD ⟨false,false⟩ hT 3 rfl rfl (by simp) ?_;simp -dsimp only[simprocAttr,↓aa,zp,LJ];refine Mr.fin rfl ?_;refine ah ?_;refine aX ?_;simp -dsimp only[simprocAttr,↓aa,zp,LJ];refine ah ?_;refine Mb (cs:=LJ (O.length+1) b b.ins (.v (.slice none 0 0))) O.length (LJ (O.length+1) b b.ins (.aE 2 [] .ex)) (by rw[xn];rfl) rfl (fun d hd=>?_) (fun j c d hc hd=>?_) ?_
  ·simp only[LJ,MW,List.mem_cons,List.not_mem_nil,or_false]at hd;rcases hd with rfl|rfl|rfl|rfl|rfl|rfl|rfl<;>trivial
  ·match j,hc,hd with
   | 0,hc,hd=>exact Sub.of_eq (by simpa[LJ,MW]using hc.symm.trans hd)
   | 1,hc,hd=>exact Sub.of_eq (by simpa[LJ,MW]using hc.symm.trans hd)
   | 2,hc,hd=>exact Sub.of_eq (by simpa[LJ,MW]using hc.symm.trans hd)
   | 3,hc,hd=>exact Sub.of_eq (by simpa[LJ,MW]using hc.symm.trans hd)
   | 4,hc,hd=>exact Sub.of_eq (by simpa[LJ,MW]using hc.symm.trans hd)
   | 5,hc,hd=>exact Sub.of_eq (by simpa[LJ,MW]using hc.symm.trans hd)
   | 6,hc,hd =>
    simp only[LJ,MW,List.getElem?_cons_succ,List.getElem?_cons_zero,Option.some.injEq]at hc hd;subst hc;subst hd;exact Sub.Qj 2
   | j+7,hc,hd=>simp at hc
  show cc Try.prog _ _ _ ⟨_,_,(O++[ak.cells (LJ (O.length+1) b b.ins (.v (.slice none 0 0))),.spare j]).set O.length (.cells (LJ (O.length+1) b b.ins (.aE 2 [] .ex)))⟩;rw[AJ,AL];refine gS O.length 6 (sz:=2) (xs:=[]) (xn.trans rfl) rfl ?_;have iw:(O++[ak.cells (LJ (O.length+1) b b.ins (.aE 2 [] .ex)),.spare j]++[ak.spare 0]).set O.length (.cells ((LJ (O.length+1) b b.ins (.aE 2 [] .ex)).set 6 (.aE 2 [] (.tok (O++[ak.cells (LJ (O.length+1) b b.ins (.aE 2 [] .ex)),.spare j]).length))))=O++[ak.cells (NH O.length b []),.spare j,.spare 0]:=by
   simp[NH,LJ,MW]
  show cc Try.prog _ _ _ ⟨_,_,(O++[ak.cells (LJ (O.length+1) b b.ins (.aE 2 [] .ex)),.spare j]++[ak.spare 0]).set O.length (.cells ((LJ (O.length+1) b b.ins (.aE 2 [] .ex)).set 6 (.aE 2 [] (.tok (O++[ak.cells (LJ (O.length+1) b b.ins (.aE 2 [] .ex)),.spare j]).length))))⟩;rw[iw];show cc Try.prog _ _ _ ⟨_,_,O++[ak.cells (NH O.length b ((b.term.to.take 0).map Edge.enc)),.spare j,.spare 0]⟩;refine b8 (ah ?_);refine aj (aU (ι:={z:Nat // z<=b.term.to.length}) (fun z=>⟨87,[(1,.ip none [aI f.name,ay f.blocks]),(2,.mp (O0.length+1) 0),(3,.mp (O0.length+2) 0),(15,ay f.blocks),(16,aI N),(17,aI k),(5,.ip none [a6 b.params,bD b.ins,aI b.term.kind,aI b.term.arg,aI b.term.n,a6 b.term.cases,aJ b.term.to]),(6,.mp O.length 0),(58,aJ b.term.to),(59,aI b.term.to.length),(60,aI z.1)],O++[ak.cells (NH O.length b ((b.term.to.take z.1).map Edge.enc)),.spare j,.spare z.1]⟩) (fun z=>b.term.to.length-z.1) ⟨0,by omega⟩ ?_ ?_)
  ·refine zq rfl ?_ ?_;simp -dsimp only[simprocAttr,↓aa,zp,zc]
   all_goals rfl
  rintro⟨z,hz⟩;refine aA (ah ?_);apply gW rfl<;>intro h
  ·refine cA ?_;have qt:z<b.term.to.length:=by simpa using h
   obtain⟨e,he⟩:∃e,b.term.to[z]?=some e:=⟨b.term.to[z],by simp[qt]⟩
   have Tb:=zX e (List.mem_of_getElem? he);have iq:((b.term.to.take z).map Edge.enc).length=z:=by rw[List.length_map,List.length_take];omega
   have SL:=OY he;have TF:∀n,aw n ((b.term.to.take z).map Edge.enc):=fun n=>Edge.ai n _;generalize (b.term.to.take z).map Edge.enc=T at *;refine aK (aj ?_);refine aX ?_;simp -dsimp only[simprocAttr,↓aa,zp,he];refine ah ?_;show cc Try.prog _ _ _ ⟨_,_,O++[ak.cells (NH O.length b T),.spare j,.spare z,.cells [aI e.block,a6 e.args]]⟩;refine bY 10 3 ([aI e.block,a6 e.args]) rfl rfl (by rfl) ?_;simp -dsimp only[simprocAttr,↓aa,zp];refine BH 3 ([.cells (NH O.length b T),.spare j,.spare z]) [(1,.ip none [aI f.name,ay f.blocks]),(2,.mp (O0.length+1) 0),(3,.mp (O0.length+2) 0),(15,ay f.blocks),(16,aI N),(17,aI k),(5,.ip none [a6 b.params,bD b.ins,aI b.term.kind,aI b.term.arg,aI b.term.n,a6 b.term.cases,aJ b.term.to]),(6,.mp O.length 0),(58,aJ b.term.to),(59,aI b.term.to.length),(60,aI z),(10,.ip none [aI e.block,a6 e.args])] rfl (by simp) (by omega) (by simp[bu,a7,Go.Av.look]) ?_ ?_ ?_ ?_
   ·exact fun o ho=>ak.cu (by omega) (Qw o ho)
   ·simp[ak.upto,NH,aw,ae.upto,az,bE.ai,Edge.ai,TF]
   ·simp[ae.upto,aw,az,Edge.ai,bE.ai,Block.ai];omega
   refine K7 hm (Mr.QD ⟨false,false⟩ hT 8 rfl rfl (by simp) ?_);simp -dsimp only[simprocAttr,↓aa,zp,NH];refine Mr.op rfl rfl (J0 hT rfl (by simp) Fg rfl Hd rfl rfl rfl (by simp;omega) (by simp;omega)) ?_;simp -dsimp only[simprocAttr,↓aa,zp,NH];refine Mr.QD ⟨false,false⟩ hT 6 rfl rfl (by simp) ?_;simp -dsimp only[simprocAttr,↓aa,zp,NH,iq]
   repeat(refine⟨by omega,?_⟩)
   refine Mr.fin rfl ⟨ob (by kernel_rfl),?_⟩;refine ah ?_;refine dc ?_
   repeat(refine⟨by omega,?_⟩)
   refine fV ?_;refine⟨⟨z+1,qt⟩,by simp;omega,?_⟩;dsimp only[NH];rw[SL];refine zq rfl ?_ ?_;simp -dsimp only[simprocAttr,↓aa,zp,zc]
   ·exact Sub.int (by simp)
   rfl
  refine aR ?_;simp -dsimp only[bX,ne_eq,Nat.reduceEqDiff,reduceCtorEq];have sV:b.term.to.length<=z:=by
   have:=of_decide_eq_false h;omega
  rw[List.take_of_length_le sV];have KM:=hS.out;have ry:∀n,O.length+2<n->aw n (NH O.length b (b.term.to.map Edge.enc)):=fun n hn=>⟨⟨az _ _,trivial⟩,⟨bE.ai _ _,show O.length+1<n by omega⟩,trivial,trivial,trivial,⟨az _ _,trivial⟩,⟨Edge.ai _ _,hn⟩,trivial⟩
  have uJ:∀o∈O++[ak.cells (NH O.length b (b.term.to.map Edge.enc)),.spare j,.spare z],o.upto (O.length+3):=fun o ho=>by
   rcases List.mem_append.1 ho with q|q
   ·exact ak.cu (by omega) (Qw o q)
   simp only[List.mem_cons,List.not_mem_nil,or_false]at q;rcases q with rfl|rfl|rfl
   ·exact ry _ (by omega)
   ·trivial
   trivial
  obtain⟨O3,Gh⟩:∃O3,O3=O++[ak.cells (NH O.length b (b.term.to.map Edge.enc)),.spare j,.spare z]:=⟨_,rfl⟩
  rw[<-Gh]at uJ;have PB:O3.length=O.length+3:=by rw[Gh];simp
  have lA:∀i,i<O.length->O3[i]?=O[i]?:=fun i hi=>by rw[Gh,List.getElem?_append_left hi]
  have cn:O3[O.length]?=some (.cells (NH O.length b (b.term.to.map Edge.enc))):=by rw[Gh,List.getElem?_append_right (Nat.le_refl _),Nat.sub_self];rfl
  have QR:=lA (O0.length+2) hX;rw[KM]at QR;rw[<-Gh];rw[<-PB]at uJ;clear Gh;by_cases mP:f.blocks.take k=[]
  ·have lU:Nf bW (f.blocks.take k)=.aE 7 [] .ex:=if_pos mP;rw[lU]at QR;have QS:∀X,(O3++X)[O0.length+2]?=some (.cells [aI f.name,.aE 7 [] .ex]):=fun X=>bJ QR;refine FW ?_;simp -dsimp only[simprocAttr,↓aa,zp,cn,NH,QR,QS,KF,KQ]
   repeat(refine⟨by omega,?_⟩)
   refine⟨trivial,?_⟩;refine ah ?_;have fX:=hS.snoc b (O4:=O3) (by omega) uJ (fun i hi=>lA i (by omega)) (cs:=b.enc.cells) (ar:=[aI f.name,.os O3.length 1 7]) (by rw[mP];rfl) (by rw[mP];rfl);show cc Try.prog _ _ _ ⟨_,_,(O3++[ak.cells b.enc.cells]).set (O0.length+2) (.cells [aI f.name,.os O3.length 1 7])⟩;rw[<-iz]at fX;generalize (O3++[ak.cells b.enc.cells]).set (O0.length+2) (.cells [aI f.name,.os O3.length 1 7])=O7 at *;refine dc ?_
   repeat(refine⟨by omega,?_⟩)
   refine fV ?_;refine⟨⟨(k+1,O3.length,O7),aZ,fX⟩,by simp;omega,?_⟩;refine zq rfl ?_ ?_;simp -dsimp only[simprocAttr,↓aa,zp,zc]
   ·exact Sub.int (by simp)
   rfl
  obtain⟨b1,b2⟩:=hS.blk mP;have iI:=I b2;have b3:=lA bW iI;rw[b2]at b3;have lU:Nf bW (f.blocks.take k)=.os bW k 7:=by
   unfold Nf;rw[if_neg mP,Of]
  rw[lU]at QR;have QS:∀X,(O3.set bW .gone++X)[O0.length+2]?=some (.cells [aI f.name,.os bW k 7]):=fun X=>bJ (bx QR (by omega));have SI:(ao ((f.blocks.take k).map Block.enc)).length=k*7:=by
   rw[bO (sz:=7) (fun x hx=>by obtain⟨p,_,rfl⟩:=List.mem_map.1 hx;rfl),List.length_map,Of]
  have v8:(ao ((f.blocks.take k).map Block.enc)).take (k*7)=ao ((f.blocks.take k).map Block.enc):=List.take_of_length_le (by omega);refine j1 ?_;simp -dsimp only[simprocAttr,↓aa,zp,cn,NH,QR,QS,b3,v8,SI,KF,KQ]
  repeat(refine⟨by omega,?_⟩)
  refine⟨trivial,?_⟩;refine ah ?_;have fX:=hS.snoc b (O4:=O3.set bW .gone) (by rw[List.length_set];omega) (by rw[List.length_set];exact bF uJ trivial) (fun i hi=>by rw[List.getElem?_set_ne (by omega)];exact lA i (by omega)) (cs:=ao ((f.blocks.take k).map Block.enc)++b.enc.cells) (ar:=[aI f.name,.os O3.length (k+1) 7]) (by rw[List.map_append,cI];rfl) (by rw[List.length_set,Of]);rw[<-iz,List.length_set]at fX;show cc Try.prog _ _ _ ⟨_,_,(O3.set bW .gone++[ak.cells (ao ((f.blocks.take k).map Block.enc)++b.enc.cells)]).set (O0.length+2) (.cells [aI f.name,.os O3.length (k+1) 7])⟩;generalize (O3.set bW .gone++[ak.cells (ao ((f.blocks.take k).map Block.enc)++b.enc.cells)]).set (O0.length+2) (.cells [aI f.name,.os O3.length (k+1) 7])=O7 at *;refine dc ?_
  repeat(refine⟨by omega,?_⟩)
  refine fV ?_;refine⟨⟨(k+1,O3.length,O7),aZ,fX⟩,by simp;omega,?_⟩;refine zq rfl ?_ ?_;simp -dsimp only[simprocAttr,↓aa,zp,zc]
  ·exact Sub.int (by simp)
  rfl
 refine aR ?_;simp -dsimp only[bX,ne_eq,Nat.reduceEqDiff,reduceCtorEq];have SM:k=N:=by
  have:=of_decide_eq_false h;omega
 subst SM;rw[List.take_of_length_le (by omega)]at hS;have KM:=hS.out;have Oe:=hS.je (O0.length+1) (by omega);rw[Sz]at Oe;have lU:Nf bW f.blocks=.os bW f.blocks.length 7:=if_neg cj;rw[lU]at KM;obtain⟨b1,b2⟩:=hS.blk cj;have uH:=I Oe;have PI:(O.set (O0.length+1) (.cells [aI f.name,.os bW f.blocks.length 7]))[O0.length+1]?=some (.cells [aI f.name,.os bW f.blocks.length 7]):=List.getElem?_set_self uH;refine aX ?_;simp -dsimp only[simprocAttr,↓aa,zp,KM,Oe];refine ah ?_;refine aq ?_;simp -dsimp only[simprocAttr,↓aa,zp,N',Try.results35,cX,fv,eC,cL,cf,cy,PI];refine⟨bW,rfl,fun i hi=>?_,by omega,?_⟩
 ·rw[List.getElem?_set_ne (by omega),hS.je i (by omega),Sy i hi]
 rw[List.getElem?_set_ne (by omega)];exact b2
theorem OU(f:Func)(hs:Se f)(cj:f.blocks≠[])(O0:List ak)(bC:∀o∈O0,o.upto O0.length) :
  bc Try.prog 35 O0 [f.enc] (fun r O=>r=.agg [aI f.name,.os O0.length f.blocks.length 7]∧O=O0++[.cells (ao (f.blocks.map Block.enc))]):=by
 refine OX (Oa f hs cj O0 bC) fun r O hR=>?_;obtain⟨bW,hr,hk,hb,hO⟩:=hR;have Gr:∀n,aw n (ao (f.blocks.map Block.enc)):=fun n=>by
  rw[aY];intro c hc;simp only[ao,List.mem_flatMap,List.mem_map]at hc;obtain⟨_,⟨p,hp,rfl⟩,hc⟩:=hc;have:=p.aN n;simp only[Block.enc,ae.upto,aY]at this;exact this c hc
 have Tr:∀i:Nat,i<O0.length->(List.range O0.length++[bW])[i]?=some i:=fun i hi=>by
  rw[List.getElem?_append_left (by simpa using hi),List.getElem?_range hi]
 have R4:(List.range O0.length++[bW])[O0.length]?=some bW:=by
  rw[List.getElem?_append_right (by simp),List.length_range,Nat.sub_self];rfl
 have PD:∀(i a:Nat),(List.range O0.length++[bW])[i]?=some a->(i<O0.length∧a=i)∨(i=O0.length∧a=bW):=fun i a h=>by
  have hl:=I h;simp only[List.length_append,List.length_range,List.length_singleton]at hl;by_cases hi:i<O0.length
  ·rw[Tr i hi]at h;simp only[Option.some.injEq]at h;exact .inl ⟨hi,h.symm⟩
  have:i=O0.length:=by omega
  subst this;rw[R4]at h;simp only[Option.some.injEq]at h;exact .inr ⟨rfl,h.symm⟩
 refine⟨.agg [aI f.name,.os O0.length f.blocks.length 7],O0++[.cells (ao (f.blocks.map Block.enc))],List.range O0.length++[bW],⟨by simp,by simp,Tr,fun i j a h1 h2=>?_,fun i a h=>?_⟩,.inr ⟨_,_,hr,rfl,rfl,fun d hd=>?_,fun j c d hc hd=>?_⟩,rfl,rfl⟩
 ·rcases PD i a h1 with⟨p1,p2⟩|⟨p1,p2⟩<;>rcases PD j a h2 with⟨q1,q2⟩|⟨q1,q2⟩<;>omega
 ·rcases PD i a h with⟨p1,p2⟩|⟨p1,p2⟩
  ·subst p2;have ho:O0[a]?=some (O0[a]'p1):=List.getElem?_eq_getElem _;exact⟨_,_,by rw[hk a p1,ho],by rw[List.getElem?_append_left p1,ho],.same (bC _ (List.getElem_mem _))⟩
  subst p1;subst p2;exact⟨_,_,hO,by rw[List.getElem?_append_right (Nat.le_refl _),Nat.sub_self];rfl,.same (Gr _)⟩
 ·simp only[List.mem_cons,List.not_mem_nil,or_false]at hd;rcases hd with rfl|rfl<;>trivial
 match j,hc,hd with
 | 0,hc,hd =>
  simp only[List.getElem?_cons_zero,Option.some.injEq]at hc hd;subst hc;subst hd;exact .same trivial
 | 1,hc,hd =>
  simp only[List.getElem?_cons_succ,List.getElem?_cons_zero,Option.some.injEq]at hc hd;subst hc;subst hd;exact .os R4
 | j+2,hc,hd=>simp at hc
def Ng(id:Nat)(l:List Func):ae:=if l=[]then .aE 2 [] .ex else .os id l.length 2
def qh:List Nat->List Func->List ae
 | b::bs,f::fs=>aI f.name::.os b f.blocks.length 7::qh bs fs
 | _,_=>[]
theorem K9:∀{bs:List Nat} {fs:List Func} (b:Nat) (f:Func),bs.length=fs.length->qh (bs++[b]) (fs++[f])=qh bs fs++[aI f.name,.os b f.blocks.length 7]
 | [],[],_,_,_=>rfl
 | x::bs,y::fs,b,f,h=>by
  have:=K9 (bs:=bs) (fs:=fs) b f (by simpa using h);simp only[List.cons_append,qh,this]
 | [],y::fs,_,_,h=>by simp at h
 | x::bs,[],_,_,h=>by simp at h
theorem Ll:∀{bs:List Nat} {fs:List Func},bs.length=fs.length->(qh bs fs).length=fs.length*2
 | [],[],_=>rfl
 | x::bs,y::fs,h=>by
  have:=Ll (bs:=bs) (fs:=fs) (by simpa using h);simp only[qh,List.length_cons,this];omega
 | [],y::fs,h=>by simp at h
 | x::bs,[],h=>by simp at h
theorem LL{n:Nat}:∀{bs:List Nat} {fs:List Func},(∀b∈bs,b<n)->aw n (qh bs fs)
 | [],_,_=>by unfold qh;trivial
 | x::bs,[],_=>by unfold qh;trivial
 | x::bs,y::fs,h=>⟨trivial,h x List.mem_cons_self,LL fun b hb=>h b (List.mem_cons_of_mem _ hb)⟩
theorem Lx(n:Nat)(l:List Block):aw n (ao (l.map Block.enc)):=by
 rw[aY];intro c hc;simp only[ao,List.mem_flatMap,List.mem_map]at hc;obtain⟨_,⟨p,hp,rfl⟩,hc⟩:=hc;have:=p.aN n;simp only[Block.enc,ae.upto,aY]at this;exact this c hc
structure QH(B:List ak)(X:Nat)(main:Int)(l:List Func)(bP:Nat)(bids:List Nat)(O:List ak):Prop where
 up:∀o∈O,o.upto O.length
 len:X<O.length
 je:∀i,i<X->O[i]?=B[i]?
 out:O[X]?=some (.cells [Ng bP l,aI main])
 fns:l≠[]->X<bP∧O[bP]?=some (.cells (qh bids l))
 bl:bids.length=l.length
 own:∀(j b:Nat) f,bids[j]?=some b->l[j]?=some f->X<b∧b≠bP∧O[b]?=some (.cells (ao (f.blocks.map Block.enc)))
 cd:bids.Nodup
theorem QH.lt{B:List ak}{X:Nat}{main:Int}{l:List Func}{bP:Nat}{bids:List Nat}{O:List ak}(h:QH B X main l bP bids O):∀b∈bids,b<O.length:=fun b hb=>by
 obtain⟨j,hj⟩:=List.mem_iff_getElem?.1 hb;have hl:=I hj;have hf:l[j]?=some (l[j]'(by have:=h.bl;omega)):=List.getElem?_eq_getElem _;exact I (h.own j b _ hj hf).2.2
theorem QH.snoc{B:List ak}{X:Nat}{main:Int}{l:List Func}{bP:Nat}{bids:List Nat}{O:List ak}(h:QH B X main l bP bids O)(f:Func){O4:List ak}(hl:O4.length=O.length+1)(bC:∀o∈O4,o.upto O4.length)(hk:∀i,i<O.length->(l≠[]->i≠bP)->O4[i]?=O[i]?)
  (hb:O4[O.length]?=some (.cells (ao (f.blocks.map Block.enc)))) {cs ar:List ae} (hc:cs=qh (bids++[O.length]) (l++[f])) (ha:ar=[.os O4.length (l.length+1) 2,aI main]):QH B X main (l++[f]) O4.length (bids++[O.length]) ((O4++[ak.cells cs]).set X (.cells ar)):=by
 have hX:=h.len;subst hc;subst ha;have Qc:=h.lt;exact {
  up:=fun o ho=>by
   rw[List.length_set,List.length_append,List.length_singleton];rcases List.mem_or_eq_of_mem_set ho with q|q
   ·rcases List.mem_append.1 q with q|q
    ·exact ak.cu (by omega) (bC o q)
    rw[List.mem_singleton]at q;subst q;refine LL fun b hb=>?_;rcases List.mem_append.1 hb with q|q
    ·have:=Qc b q;omega
    rw[List.mem_singleton.1 q];omega
   subst q;exact⟨show O4.length<O4.length+1 by omega,trivial,trivial⟩
  len:=by rw[List.length_set,List.length_append];omega
  je:=fun i hi=>by
   rw[List.getElem?_set_ne (by omega),List.getElem?_append_left (by omega),hk i (by omega) (fun q=>by have:=(h.fns q).1;omega),h.je i hi]
  out:=by
   rw[List.getElem?_set_self (by rw[List.length_append];omega)];unfold Ng;rw[if_neg (by simp),List.length_append];rfl
  fns:=fun _=>by
   refine⟨by omega,?_⟩;rw[List.getElem?_set_ne (by omega),List.getElem?_append_right (Nat.le_refl _),Nat.sub_self];rfl
  bl:=by rw[List.length_append,List.length_append,h.bl];rfl
  own:=fun j b g h1 h2=>by
   have iI:=h.bl;by_cases hj:j<bids.length
   ·rw[List.getElem?_append_left hj]at h1;rw[List.getElem?_append_left (by omega)]at h2;obtain⟨q1,q2,q3⟩:=h.own j b g h1 h2;have q4:=I q3;exact⟨q1,by omega,by rw[List.getElem?_set_ne (by omega),List.getElem?_append_left (by omega),hk b q4 (fun _=>q2),q3]⟩
   rw[List.getElem?_append_right (by omega)]at h1;rw[List.getElem?_append_right (by omega)]at h2;have T0:=I h1;simp only[List.length_singleton]at T0;have e1:j-bids.length=0:=by omega
   have e2:j-l.length=0:=by omega
   rw[e1]at h1;rw[e2]at h2;simp only[List.getElem?_cons_zero,Option.some.injEq]at h1 h2;subst h1;subst h2;exact⟨hX,by omega,by rw[List.getElem?_set_ne (by omega),List.getElem?_append_left (by omega),hb]⟩
  cd:=by
   rw[List.nodup_append];refine⟨h.cd,by simp,fun a ha b hb q=>?_⟩;rw[List.mem_singleton]at hb;have:=Qc a ha;omega }
def SX(O0:List ak)(u:bR)(r:ae)(O:List ak):Prop:=∃bP bids,r=.agg [.os bP u.fns.length 2,aI u.main]∧(∀i,i<O0.length->O[i]?=O0[i]?)∧(∀o∈O,o.upto O.length)∧O0.length<=bP∧O[bP]?=some (.cells (qh bids u.fns))∧bids.length=u.fns.length∧bids.Nodup ∧
 ∀(j b:Nat) f,bids[j]?=some b->u.fns[j]?=some f->O0.length<=b∧b≠bP∧O[b]?=some (.cells (ao (f.blocks.map Block.enc)))
theorem OV(u:bR)(cj:u.fns≠[])(wj:u.fns.length<=256)(hF:∀f∈u.fns,Se f∧f.blocks≠[]):bc Try.prog 13 [.gone,.gone] [u.enc] (SX [.gone,.gone] u):=by
 obtain⟨N,hN⟩:∃N,N=u.fns.length:=⟨_,rfl⟩
 refine M9 hT Try.func13 rfl (by kernel_rfl) (by simp[Try.ntmps13]) ?_;show cc Try.prog _ _ _ ⟨25,_,_⟩;dsimp only[Tmp,TypeId,ax];refine aA (ah ?_);refine aH 1 2 (.ip none [a9 u.fns,aI u.main]) rfl (by simp[ak.aF]) trivial rfl ?_ ?_;rotate_left;simp -dsimp only[simprocAttr,↓aa,zp];rotate_left
 ·exact cw.mp rfl rfl
 refine aA (ah ?_);refine dd ?_;simp -dsimp only[simprocAttr,↓aa,zp,<-hN];refine ah ?_;have hB:∀o∈[ak.gone,ak.gone,ak.gone,.cells [.aE 2 [] .ex,aI 0],.cells [.aE 2 [] .ex,aI u.main]],o.upto [ak.gone,ak.gone,ak.gone,.cells [.aE 2 [] .ex,aI 0],.cells [.aE 2 [] .ex,aI u.main]].length:=fun o ho=>by
  simp only[List.mem_cons,List.not_mem_nil,or_false]at ho;rcases ho with rfl|rfl|rfl|rfl|rfl
  ·trivial
  ·trivial
  ·trivial
  ·exact⟨⟨trivial,trivial⟩,trivial,trivial⟩
  exact⟨⟨trivial,trivial⟩,trivial,trivial⟩
 show cc Try.prog _ _ _ ⟨_,_,[ak.gone,ak.gone,ak.gone,.cells [.aE 2 [] .ex,aI 0],.cells [.aE 2 [] .ex,aI u.main]]⟩;have Ty:([ak.gone,ak.gone,ak.gone,.cells [.aE 2 [] .ex,aI 0],.cells [.aE 2 [] .ex,aI u.main]]).length=5:=by simp
 have Sy:∀i,i<2->([ak.gone,ak.gone,ak.gone,.cells [.aE 2 [] .ex,aI 0],.cells [.aE 2 [] .ex,aI u.main]])[i]?=([.gone,.gone]:List ak)[i]?:=fun i hi=>by
  match i,hi with
  | 0,_=>rfl
  | 1,_=>rfl
 have Sz:([ak.gone,ak.gone,ak.gone,.cells [.aE 2 [] .ex,aI 0],.cells [.aE 2 [] .ex,aI u.main]])[3]?=some (.cells [.aE 2 [] .ex,aI 0]):=rfl;have Rc:([ak.gone,ak.gone,ak.gone,.cells [.aE 2 [] .ex,aI 0],.cells [.aE 2 [] .ex,aI u.main]])[4]?=some (.cells [.aE 2 [] .ex,aI u.main]):=rfl;generalize [ak.gone,ak.gone,ak.gone,.cells [.aE 2 [] .ex,aI 0],.cells [.aE 2 [] .ex,aI u.main]]=B at *;have DH:QH B (4) u.main (u.fns.take 0) 0 [] B:=⟨hB,by omega,fun _ _=>rfl,Rc,fun q=>absurd rfl q,rfl,fun j b f h=>by simp at h,List.nodup_nil⟩
 refine aj (aU (ι:={X:Nat×Nat×List Nat×List ak // X.1<=N∧QH B (4) u.main (u.fns.take X.1) X.2.1 X.2.2.1 X.2.2.2}) (fun X=>⟨25,[(1,.ip none [a9 u.fns,aI u.main]),(2,.mp (3) 0),(3,.mp (4) 0),(10,a9 u.fns),(11,aI N),(12,aI X.1.1)],X.1.2.2.2⟩) (fun X=>N-X.1.1) ⟨(0,0,[],B),by simp,DH⟩ ?_ ?_)
 ·refine zq rfl ?_ ?_;simp -dsimp only[simprocAttr,↓aa,zp,zc]
  all_goals rfl
 rintro⟨⟨k,bP,bids,O⟩,hk,hS⟩;simp only at hk hS;refine aA (ah ?_);apply gW rfl<;>intro h
 ·refine cA ?_;have aZ:k<N:=by simpa using h
  obtain⟨f,hf⟩:∃f,u.fns[k]?=some f:=⟨u.fns[k]'(by omega),List.getElem?_eq_getElem _⟩
  obtain⟨yZ,Kh⟩:=hF f (List.mem_of_getElem? hf);have iz:u.fns.take (k+1)=u.fns.take k++[f]:=by rw[List.take_add_one,hf];rfl
  have Of:(u.fns.take k).length=k:=by rw[List.length_take];omega
  have hX:=hS.len;have Qw:=hS.up;have RD:=OU f yZ Kh O Qw;have KM:=hS.out;have iI:=hS.bl;unfold Func.enc at RD;refine aK (aj ?_);refine aX ?_;simp -dsimp only[simprocAttr,↓aa,zp,hf];refine ah ?_;refine aO 5 ([aI f.name,ay f.blocks]) [(1,.ip none [a9 u.fns,aI u.main]),(2,.mp (3) 0),(3,.mp (4) 0),(10,a9 u.fns),(11,aI N),(12,aI k),(5,.ip none [aI f.name,ay f.blocks])] (by simp[bu,a7,Go.Av.look]) (by rfl) (by omega) (by simp[bu,a7,Go.Av.look]) ?_ ?_ ?_
  ·exact Qw
  ·simp[ae.upto,aw,az,Func.ai,Block.ai];omega
  have Qb:(O++[ak.cells (ao (f.blocks.map Block.enc))]).length=O.length+1:=by simp
  have eL:∀o∈O++[ak.cells (ao (f.blocks.map Block.enc))],o.upto (O.length+1):=fun o ho=>by
   rcases List.mem_append.1 ho with q|q
   ·exact ak.cu (by omega) (Qw o q)
   rw[List.mem_singleton.1 q];exact Lx _ _
  have DL:∀i,i<O.length->(O++[ak.cells (ao (f.blocks.map Block.enc))])[i]?=O[i]?:=fun i hi=>List.getElem?_append_left hi;have Eu:(O++[ak.cells (ao (f.blocks.map Block.enc))])[O.length]?=some (.cells (ao (f.blocks.map Block.enc))):=gF _ _;have kO:=(DL _ hX).trans KM;by_cases mP:u.fns.take k=[]
  ·have lU:Ng bP (u.fns.take k)=.aE 2 [] .ex:=if_pos mP;rw[lU]at KM kO;have QQ:∀X,(O++[ak.cells (ao (f.blocks.map Block.enc))]++X)[4]?=some (.cells [.aE 2 [] .ex,aI u.main]):=fun X=>bJ kO;refine FW ?_;simp -dsimp only[simprocAttr,↓aa,zp,KM];refine .inr (.inl ⟨_,_,RD,.inr ⟨5,[],fun i hi _=>DL i (by omega),au ?_⟩⟩);generalize O++[ak.cells (ao (f.blocks.map Block.enc))]=O1 at *;simp -dsimp only[simprocAttr,↓aa,zp,KM,kO,QQ,KF,KQ]
   repeat(refine⟨by omega,?_⟩)
   refine⟨trivial,?_⟩;refine⟨ob (by kernel_rfl),?_⟩;refine ah ?_;have fX:=hS.snoc f (O4:=O1) Qb (by rw[Qb];exact eL) (fun i hi _=>DL i hi) Eu (cs:=[aI f.name,.os O.length f.blocks.length 7]) (ar:=[.os O1.length 1 2,aI u.main]) (by rw[K9 _ _ iI];have:bids=[]:=List.length_eq_zero_iff.1 (by rw[iI,mP];rfl);rw[this];rfl) (by rw[mP];rfl);show cc Try.prog _ _ _ ⟨_,_,(O1++[ak.cells [aI f.name,.os O.length f.blocks.length 7]]).set (4) (.cells [.os O1.length 1 2,aI u.main])⟩;rw[<-iz]at fX;generalize (O1++[ak.cells [aI f.name,.os O.length f.blocks.length 7]]).set (4) (.cells [.os O1.length 1 2,aI u.main])=O7 at *;refine dc ?_
   repeat(refine⟨by omega,?_⟩)
   refine fV ?_;refine⟨⟨(k+1,O1.length,bids++[O.length],O7),aZ,fX⟩,by simp;omega,?_⟩;refine zq rfl ?_ ?_;simp -dsimp only[simprocAttr,↓aa,zp,zc]
   ·exact Sub.int (by simp)
   rfl
  obtain⟨b1,b2⟩:=hS.fns mP;have gK:=I b2;have b3:=(DL _ gK).trans b2;have lU:Ng bP (u.fns.take k)=.os bP k 2:=by
   unfold Ng;rw[if_neg mP,Of]
  rw[lU]at KM kO;have eJ:(qh bids (u.fns.take k)).length=k*2:=by rw[Ll iI,Of]
  have v8:(qh bids (u.fns.take k)).take (k*2)=qh bids (u.fns.take k):=List.take_of_length_le (by omega);refine j1 ?_;simp -dsimp only[simprocAttr,↓aa,zp,KM];refine .inr (.inl ⟨_,_,RD,.inr ⟨5,[],fun i hi _=>DL i (by omega),au ?_⟩⟩);generalize O++[ak.cells (ao (f.blocks.map Block.enc))]=O1 at *;have QQ:∀X,(O1.set bP .gone++X)[4]?=some (.cells [.os bP k 2,aI u.main]):=fun X=>bJ (bx kO (by omega));simp -dsimp only[simprocAttr,↓aa,zp,KM,kO,QQ,b3,v8,eJ,KF,KQ]
  repeat(refine⟨by omega,?_⟩)
  refine⟨trivial,?_⟩;refine⟨ob (by kernel_rfl),?_⟩;refine ah ?_;have fX:=hS.snoc f (O4:=O1.set bP .gone) (by rw[List.length_set];exact Qb) (by rw[List.length_set,Qb];exact bF eL trivial) (fun i hi hq=>by rw[List.getElem?_set_ne (Ne.symm (hq mP))];exact DL i hi) (by rw[List.getElem?_set_ne (by omega)];exact Eu) (cs:=qh bids (u.fns.take k)++[aI f.name,.os O.length f.blocks.length 7]) (ar:=[.os O1.length (k+1) 2,aI u.main]) (K9 _ _ iI).symm (by rw[List.length_set,Of]);rw[<-iz,List.length_set]at fX;show cc Try.prog _ _ _ ⟨_,_,(O1.set bP .gone++[ak.cells (qh bids (u.fns.take k)++[aI f.name,.os O.length f.blocks.length 7])]).set (4) (.cells [.os O1.length (k+1) 2,aI u.main])⟩;generalize (O1.set bP .gone++[ak.cells (qh bids (u.fns.take k)++[aI f.name,.os O.length f.blocks.length 7])]).set (4) (.cells [.os O1.length (k+1) 2,aI u.main])=O7 at *;refine dc ?_
  repeat(refine⟨by omega,?_⟩)
  refine fV ?_;refine⟨⟨(k+1,O1.length,bids++[O.length],O7),aZ,fX⟩,by simp;omega,?_⟩;refine zq rfl ?_ ?_;simp -dsimp only[simprocAttr,↓aa,zp,zc]
  ·exact Sub.int (by simp)
  rfl
 refine aR ?_;simp -dsimp only[bX,ne_eq,Nat.reduceEqDiff,reduceCtorEq];have SM:k=N:=by
  have:=of_decide_eq_false h;omega
 subst SM;rw[List.take_of_length_le (by omega)]at hS;have KM:=hS.out;have Oe:=hS.je (3) (by omega);rw[Sz]at Oe;have lU:Ng bP u.fns=.os bP u.fns.length 2:=if_neg cj;rw[lU]at KM;obtain⟨b1,b2⟩:=hS.fns cj;have gK:=I b2;have uH:=I Oe;have PI:(O.set (3) (.cells [.os bP u.fns.length 2,aI u.main]))[3]?=some (.cells [.os bP u.fns.length 2,aI u.main]):=List.getElem?_set_self uH;refine aX ?_;simp -dsimp only[simprocAttr,↓aa,zp,KM,Oe];refine ah ?_;refine aq ?_;simp -dsimp only[simprocAttr,↓aa,zp,N',Try.results13,cX,fv,eC,cL,cf,cy,PI];refine⟨bP,bids,rfl,fun i hi=>?_,?_,by show 2<=bP;omega,?_,hS.bl,hS.cd,fun j b f h1 h2=>?_⟩
 ·have hi:i<2:=hi;rw[List.getElem?_set_ne (by omega),hS.je i (by omega),Sy i hi]
 ·rw[List.length_set];exact bF hS.up ⟨gK,trivial,trivial⟩
 ·rw[List.getElem?_set_ne (by omega)];exact b2
 obtain⟨q1,q2,q3⟩:=hS.own j b f h1 h2;exact⟨by show 2<=b;omega,q2,by rw[List.getElem?_set_ne (by omega)];exact q3⟩
def LP:List Block->Nat
 | []=>0
 | b::r=>b.ins.length+1+LP r
def Ly:List Func->Nat
 | []=>0
 | f::r=>LP f.blocks+Ly r
def PW(u:bR):Bool:=decide ((Ly u.fns:Int)<=400)&&decide ((u.fns.length:Int)<=8)
theorem NT:∀{l:List Block} {c:Nat},(∀b∈l,b.ins.length<=c)->LP l<=l.length*(c+1)
 | [],c,_=>Nat.zero_le _
 | b::r,c,h=>by
  have:=NT (l:=r) (c:=c) fun x hx=>h x (List.mem_cons_of_mem _ hx);have:=h b List.mem_cons_self;simp only[LP,List.length_cons];rw[Nat.add_mul];omega
theorem NU:∀{l:List Func} {c:Nat},(∀f∈l,LP f.blocks<=c)->Ly l<=l.length*c
 | [],c,_=>Nat.zero_le _
 | f::r,c,h=>by
  have:=NU (l:=r) (c:=c) fun x hx=>h x (List.mem_cons_of_mem _ hx);have:=h f List.mem_cons_self;simp only[Ly,List.length_cons];rw[Nat.add_mul];omega
theorem N1(u:bR)(hl:u.fns.length<=256)(hb:∀f∈u.fns,f.blocks.length<=128∧∀b∈f.blocks,b.ins.length<=1024):bw Try.prog 19 [u.enc] (.v (.bool (PW u))):=by
 have hB:∀f∈u.fns,LP f.blocks<=131200:=fun f hf=>by
  have:=NT (l:=f.blocks) (c:=1024) (hb f hf).2;have:=(hb f hf).1;have:f.blocks.length*(1024+1)<=128*(1024+1):=Nat.mul_le_mul_right _ this;omega
 have hF:Ly u.fns<=33587200:=by
  have:=NU hB;have:u.fns.length*131200<=256*131200:=Nat.mul_le_mul_right _ hl;omega
 obtain⟨R,hR⟩:∃R,R=Ly u.fns:=⟨_,rfl⟩
 unfold PW;rw[<-hR]at hF ⊢;refine zf true 0 Try.func19 Try.ntmps19 ?_;dsimp only[Tmp,TypeId,ax];refine aA (ah ?_);refine aH 1 0 (.ip none [a9 u.fns,aI u.main]) rfl (by simp[ak.aF]) trivial rfl ?_ ?_;rotate_left;simp -dsimp only[simprocAttr,↓aa,zp]
 ·refine aA (ah ?_);refine b8 (ah ?_);refine aj (aU (ι:={x:Nat×Nat // x.1<=u.fns.length∧R=x.2+Ly (u.fns.drop x.1)}) (fun x=>⟨38,[(1,.ip none [a9 u.fns,aI u.main]),(3,aI x.1.2),(9,a9 u.fns),(10,aI u.fns.length),(11,aI x.1.1)],[.gone]⟩) (fun x=>u.fns.length-x.1.1) ⟨(0,0),by omega,by simp[hR]⟩ ?_ ?_)
  ·refine zq rfl ?_ ?_;simp -dsimp only[simprocAttr,↓aa,zp,zc]
   all_goals rfl
  rintro⟨⟨k,n⟩,hk,hn⟩;simp only at hk hn;refine aA (ah ?_);apply gW rfl<;>intro h
  ·refine cA ?_;have aZ:k<u.fns.length:=by simpa using h
   obtain⟨f,hf⟩:∃f,u.fns[k]?=some f:=⟨u.fns[k],by simp[aZ]⟩
   rw[bS hf]at hn;simp only[Ly]at hn;obtain⟨Kf,TY⟩:=hb f (List.mem_of_getElem? hf);refine aK (aj ?_);refine aX ?_;simp -dsimp only[simprocAttr,↓aa,zp,hf];refine ah ?_;refine aH 5 1 (.ip none [aI f.name,ay f.blocks]) rfl (by simp[ak.aF]) trivial rfl ?_ ?_;rotate_left;simp -dsimp only[simprocAttr,↓aa,zp]
   ·refine bT 1 [(1,.ip none [a9 u.fns,aI u.main]),(3,aI n),(9,a9 u.fns),(10,aI u.fns.length),(11,aI k),(5,.ip none [aI f.name,ay f.blocks])] (by simp) (by omega) [.gone] ?_ ?_ ?_ ?_ ?_
    ·rfl
    ·simp[ak.upto,aw,ae.upto,az,Func.ai,Block.ai]
    ·simp[gj,St.get,bu,a7,Go.Av.look,Sub.refl]
    ·simp[ak.upto,aw,ae.upto,az,Func.ai,Block.ai]
    refine aA (ah ?_);refine aj (aU (ι:={y:Nat×Nat // y.1<=f.blocks.length∧R=y.2+LP (f.blocks.drop y.1)+Ly (u.fns.drop (k+1))}) (fun y=>⟨38,[(1,.ip none [a9 u.fns,aI u.main]),(3,aI y.1.2),(9,a9 u.fns),(10,aI u.fns.length),(11,aI k),(16,ay f.blocks),(17,aI f.blocks.length),(18,aI y.1.1)],[.gone]⟩) (fun y=>f.blocks.length-y.1.1) ⟨(0,n),by omega,by simp only[List.drop_zero];omega⟩ ?_ ?_)
    ·refine zq rfl ?_ ?_;simp -dsimp only[simprocAttr,↓aa,zp,zc]
     all_goals rfl
    rintro⟨⟨j,m⟩,hj,hm⟩;simp only at hj hm;refine aA (ah ?_);apply gW rfl<;>intro h
    ·refine cA ?_;have nQ:j<f.blocks.length:=by simpa using h
     obtain⟨b,hb⟩:∃b,f.blocks[j]?=some b:=⟨f.blocks[j],by simp[nQ]⟩
     have TP:=TY b (List.mem_of_getElem? hb);rw[bS hb]at hm;simp only[LP]at hm;refine aK (aj ?_);refine aX ?_;simp -dsimp only[simprocAttr,↓aa,zp,hb];refine ah ?_;refine aH 7 1 (.ip none [a6 b.params,bD b.ins,aI b.term.kind,aI b.term.arg,aI b.term.n,a6 b.term.cases,aJ b.term.to]) rfl (by simp[ak.aF]) trivial rfl ?_ ?_;rotate_left;simp -dsimp only[simprocAttr,↓aa,zp]
     ·refine bT 1 [(1,.ip none [a9 u.fns,aI u.main]),(3,aI m),(9,a9 u.fns),(10,aI u.fns.length),(11,aI k),(16,ay f.blocks),(17,aI f.blocks.length),(18,aI j),(7,.ip none [a6 b.params,bD b.ins,aI b.term.kind,aI b.term.arg,aI b.term.n,a6 b.term.cases,aJ b.term.to])] (by simp) (by omega) [.gone] ?_ ?_ ?_ ?_ ?_
      ·rfl
      ·simp[ak.upto,aw,ae.upto,az,Func.ai,Block.ai,Edge.ai,bE.ai]
      ·simp[gj,St.get,bu,a7,Go.Av.look,Sub.refl]
      ·simp[ak.upto,aw,ae.upto,az,Func.ai,Block.ai,Edge.ai,bE.ai]
      refine dc ?_
      repeat(refine⟨by omega,?_⟩)
      refine ah ?_;refine dc ?_
      repeat(refine⟨by omega,?_⟩)
      refine fV ?_;refine⟨⟨(j+1,m+(b.ins.length+1)),nQ,by simp only;omega⟩,by simp;omega,?_⟩;refine zq rfl ?_ ?_;simp -dsimp only[simprocAttr,↓aa,zp,zc]
      ·exact⟨Sub.int (by simp),Sub.int (by simp)⟩
      rfl
     exact cw.mp rfl rfl
    refine aR ?_;simp -dsimp only[bX,ne_eq,Nat.reduceEqDiff,reduceCtorEq];have oH:j=f.blocks.length:=by simp at h;omega
    subst oH;rw[List.drop_length]at hm;simp only[LP]at hm;refine dc ?_
    repeat(refine⟨by omega,?_⟩)
    refine fV ?_;refine⟨⟨(k+1,m),aZ,by simp only;omega⟩,by simp;omega,?_⟩;refine zq rfl ?_ ?_;simp -dsimp only[simprocAttr,↓aa,zp,zc]
    ·exact Sub.int (by simp)
    rfl
   exact cw.mp rfl rfl
  refine aR ?_;simp -dsimp only[bX,ne_eq,Nat.reduceEqDiff,reduceCtorEq];have gT:k=u.fns.length:=by simp at h;omega
  subst gT;rw[List.drop_length]at hn;simp only[Ly]at hn;have TE:R=n:=by omega
  subst TE;cases h1:decide ((R:Int)<=400)
  ·refine aX ?_;simp -dsimp only[simprocAttr,↓aa,zp,h1];refine ah ?_;refine aq ?_;simp -dsimp only[simprocAttr,↓aa,zp,zr,Try.results19]
  refine aX ?_;simp -dsimp only[simprocAttr,↓aa,zp,h1];refine ah ?_;refine aq ?_;simp -dsimp only[simprocAttr,↓aa,zp,zr,Try.results19]
 exact cw.mp rfl rfl
theorem Sa(u:bR)(bB:u.fit)(n:Int)(h:(runM u n).e=0∧(runM u n).fin≠5):bw Try.prog 30 [u.enc,aI n] (.df [BW (runM u n).out (runM u n).fin (runM u n).val,aI (runM u n).n,.v (.bool true)]):=by
 have bz:=u6 u bB n;generalize runM u n=A at *;obtain⟨out,fin,val,k,e⟩:=A;obtain⟨h1,h2⟩:=h;simp only at h1 h2;subst h1;unfold BB.enc at bz;have d1:decide (fin=5)=false:=decide_eq_false h2;refine zf true 0 Try.func30 Try.ntmps30 ?_;dsimp only[Tmp,TypeId,ax];refine aA (ah ?_);refine aA ?_;refine zi bz ?_;refine ah ?_;refine aH 7 2 (.ip none [.aE 1 (out.map aI) .sh,aI fin,aI val]) rfl (by simp[ak.aF]) trivial rfl ?_ ?_;rotate_left;simp -dsimp only[simprocAttr,↓aa,zp]
 ·refine aX ?_;simp -dsimp only[simprocAttr,↓aa,zp,d1,decide_true];refine⟨ob (by kernel_rfl),?_⟩;refine ah ?_;refine aq ?_;simp -dsimp only[simprocAttr,↓aa,zp,zr,Try.results30];simp[aw,ae.upto,az]
 exact cw.mp rfl rfl
theorem R9(u:bR)(bB:u.fit)(n:Int)(h:¬((runM u n).e=0∧(runM u n).fin≠5)):∃(r:List Int×Int×Int) (m:Int),bw Try.prog 30 [u.enc,aI n] (.df [BW r.1 r.2.1 r.2.2,aI m,.v (.bool false)]):=by
 have bz:=u6 u bB n;generalize runM u n=A at *;obtain⟨out,fin,val,k,e⟩:=A;simp only at h;refine⟨(out,fin,val),k,?_⟩;unfold BB.enc at bz;simp only at bz ⊢;by_cases h1:e=0
 ·have d0:decide (e=0)=true:=decide_eq_true h1;have d1:decide (fin=5)=true:=decide_eq_true (Classical.byContradiction fun q=>h ⟨h1,q⟩);refine zf true 0 Try.func30 Try.ntmps30 ?_;dsimp only[Tmp,TypeId,ax];refine aA (ah ?_);refine aA ?_;refine zi bz ?_;refine ah ?_;refine aH 7 2 (.ip none [.aE 1 (out.map aI) .sh,aI fin,aI val]) rfl (by simp[ak.aF]) trivial rfl ?_ ?_;rotate_left;simp -dsimp only[simprocAttr,↓aa,zp]
  ·refine aX ?_;simp -dsimp only[simprocAttr,↓aa,zp,d0,d1];refine⟨ob (by kernel_rfl),?_⟩;refine ah ?_;refine aq ?_;simp -dsimp only[simprocAttr,↓aa,zp,zr,Try.results30];simp[aw,ae.upto,az]
  exact cw.mp rfl rfl
 have d0:decide (e=0)=false:=decide_eq_false h1;refine zf true 0 Try.func30 Try.ntmps30 ?_;dsimp only[Tmp,TypeId,ax];refine aA (ah ?_);refine aA ?_;refine zi bz ?_;refine ah ?_;refine aH 7 2 (.ip none [.aE 1 (out.map aI) .sh,aI fin,aI val]) rfl (by simp[ak.aF]) trivial rfl ?_ ?_;rotate_left;simp -dsimp only[simprocAttr,↓aa,zp]
 ·refine aX ?_;simp -dsimp only[simprocAttr,↓aa,zp,d0];refine⟨ob (by kernel_rfl),?_⟩;refine ah ?_;refine aq ?_;simp -dsimp only[simprocAttr,↓aa,zp,zr,Try.results30];simp[aw,ae.upto,az]
 exact cw.mp rfl rfl
theorem SW{f:Func}(bB:f.fit)(hc:bo f=0):Se f:=by
 have hw:=dV bB hc;have hg:=hw.gr;have pz:∀b∈f.blocks,b.params.length<=4096:=fun b hb=>by
  have:=(hw.blk b hb).few;omega
 exact {
  few:=hw.few
  params:=pz
  ins:=hw.ins
  QB:=fun b hb i hi=>(nK ((hw.blk b hb).uu i hi)).len
  cases:=fun b hb=>(jE (hw.blk b hb).fin).cases
  to:=fun b hb=>hg.to b hb
  Qu:=fun b hb e he=>by
   have h1:=(jE (hw.blk b hb).fin).db e he;rw[h1.2];have hr:=hg.db b hb e he;have hx:f.blocks[e.block.toNat]?=some (f.blocks[e.block.toNat]'(by omega)):=List.getElem?_eq_getElem _;have:aD f e.block=f.blocks[e.block.toNat]'(by omega):=by simp[aD,hx]
   rw[this];exact pz _ (List.getElem_mem _) }

theorem ME:∀{bids:List Nat} {fs:List Func} {m b:Nat} {f:Func},bids[m]?=some b->fs[m]?=some f->(qh bids fs)[m*2+1]?=some (.os b f.blocks.length 7)
 | x::bs,a::r,0,b,f,h1,h2=>by
  simp only[List.getElem?_cons_zero,Option.some.injEq]at h1 h2;subst h1;subst h2;rfl
 | x::bs,a::r,m+1,b,f,h1,h2=>by
  have:=ME (bids:=bs) (fs:=r) (m:=m) (by simpa using h1) (by simpa using h2);rw[qh,show(m+1)*2+1=m*2+1+1+1 by omega,List.getElem?_cons_succ,List.getElem?_cons_succ,this]
 | [],_,_,_,_,h1,_=>by simp at h1
 | _::_,[],_,_,_,_,h2=>by simp at h2
theorem PZ{O:List ak}(h0:O[0]?=some .gone)(h1:O[1]?=some .gone):O.take 2=[.gone,.gone]:=by
 match O,h0,h1 with
 | [],h0,_=>simp at h0
 | [a],_,h1=>simp at h1
 | a::b::r,h0,h1 =>
  simp only[List.getElem?_cons_zero,List.getElem?_cons_succ,Option.some.injEq]at h0 h1;subst h0 h1;rfl
theorem Pu(L:List Block):∀x∈L.map Block.enc,x.cells.length=7:=fun x hx=>by
 obtain⟨b,_,rfl⟩:=List.mem_map.1 hx;rfl
theorem P9{L:List Block}{k:Nat}{c:Block}(h:L[k]?=some c):(ao (L.map Block.enc))[k*7]?=some (a6 c.params)∧(ao (L.map Block.enc))[k*7+1]?=some (bD c.ins):=by
 have hx:(L.map Block.enc)[k]?=some c.enc:=by rw[List.getElem?_map,h];rfl
 exact⟨j5 (Pu L) (j:=0) hx rfl,j5 (Pu L) (j:=1) hx rfl⟩
theorem OF:∀{L:List Block} {k:Nat} {c:Block} (is:List bE),L[k]?=some c->(ao (L.map Block.enc)).set (k*7+1) (bD is)=ao ((L.set k ⟨c.params,is,c.term⟩).map Block.enc)
 | [],k,c,is,h=>by simp at h
 | b::r,0,c,is,h=>by
  simp only[List.getElem?_cons_zero,Option.some.injEq]at h;subst h;rfl
 | b::r,k+1,c,is,h=>by
  have ih:=OF (L:=r) (k:=k) is (by simpa using h);rw[List.set_cons_succ,List.map_cons,List.map_cons,show(k+1)*7+1=k*7+1+1+1+1+1+1+1+1 by omega];have e:ao (b.enc::r.map Block.enc)=a6 b.params::bD b.ins::aI b.term.kind::aI b.term.arg::aI b.term.n::a6 b.term.cases::aJ b.term.to::ao (r.map Block.enc):=rfl;have e2:∀X:List Block,ao (b.enc::X.map Block.enc)=a6 b.params::bD b.ins::aI b.term.kind::aI b.term.arg::aI b.term.n::a6 b.term.cases::aJ b.term.to::ao (X.map Block.enc):=fun _=>rfl;rw[e,e2,<-ih];rfl
theorem Pt{O:List ak}{L:List Block}{k:Nat}{c:Block}{is:List bE}{M:Nat}(h:L[k]?=some c)(j:Nat)(x y:ae)(hx:((ao (L.map Block.enc)).set (k*7+1) (.aE 4 (is.map bE.enc) (.tok M)))[j]?=some x)
  (hy:(ao ((L.set k ⟨c.params,is,c.term⟩).map Block.enc))[j]?=some y):Sub O x y:=by
 rw[<-OF is h]at hy;rw[List.getElem?_set]at hx hy;split at hx
 ·rename_i e;rw[if_pos e]at hy;split at hx
  ·rename_i hl;rw[if_pos hl]at hy;simp only[Option.some.injEq]at hx hy;subst hx hy;exact fun _ _ _ k=>k.js
  cases hx
 rename_i e;rw[if_neg e]at hy;exact Sub.of_eq (Option.some.inj (hx.symm.trans hy))
theorem Mf:∀{bids:List Nat} {fs:List Func} {m b:Nat} {f:Func},bids[m]?=some b->fs[m]?=some f->((qh bids fs).drop (m*2)).take 2=[aI f.name,.os b f.blocks.length 7]
 | x::bs,a::r,0,b,f,h1,h2=>by
  simp only[List.getElem?_cons_zero,Option.some.injEq]at h1 h2;subst h1;subst h2;rfl
 | x::bs,a::r,m+1,b,f,h1,h2=>by
  have:=Mf (bids:=bs) (fs:=r) (m:=m) (by simpa using h1) (by simpa using h2);rw[qh,show(m+1)*2=m*2+1+1 by omega,List.drop_succ_cons,List.drop_succ_cons,this]
 | [],_,_,_,_,h1,_=>by simp at h1
 | _::_,[],_,_,_,_,h2=>by simp at h2
theorem Ph{α:Type}{L:List α}{k:Nat}{x:α}(h:L[k]?=some x):L.set k x=L:=by
 apply List.ext_getElem?;intro i;rw[List.getElem?_set];split
 ·rename_i e;subst e;rw[if_pos (I h),h]
 rfl
theorem PS{α:Type}(g:α->α){L:List α}{k:Nat}{x:α}(h:L[k]?=some x):((L.take k).map g++L.drop k).set k (g x)=(L.take (k+1)).map g++L.drop (k+1):=by
 have hl:=I h;have h1:((L.take k).map g).length=k:=by rw[List.length_map,List.length_take];omega
 rw[List.set_append_right _ _ (by omega),h1,Nat.sub_self,bS h,List.set_cons_zero,List.take_add_one,h,List.map_append,List.append_assoc];rfl
structure QI(X bP:Nat)(main:Int)(bids:List Nat)(fns L:List Func)(O:List ak):Prop where
 up:∀o∈O,o.upto O.length
 u:O[X]?=some (.cells [.os bP fns.length 2,aI main])
 fs:O[bP]?=some (.cells (qh bids fns))
 bl:bids.length=fns.length
 len:L.length=fns.length
 own:∀(j b:Nat) f,bids[j]?=some b->L[j]?=some f->b≠X∧b≠bP∧O[b]?=some (.cells (ao (f.blocks.map Block.enc)))
 cd:bids.Nodup
 c5:bP≠X
theorem QI.set{X bP:Nat}{main:Int}{bids:List Nat}{fns L:List Func}{O:List ak}(h:QI X bP main bids fns L O){j b:Nat}(hb:bids[j]?=some b)(g:Func):QI X bP main bids fns (L.set j g) (O.set b (.cells (ao (g.blocks.map Block.enc)))):=by
 have Th:=I hb;have nQ:j<L.length:=by rw[h.len,<-h.bl];exact Th
 obtain⟨q1,q2,q3⟩:=h.own j b _ hb (List.getElem?_eq_getElem nQ);have iI:=I q3;exact {
  up:=fun o ho=>by
   rw[List.length_set];have hu:(ak.cells (ao (g.blocks.map Block.enc))).upto O.length:=Lx _ _;exact bF h.up hu o ho
  u:=by rw[List.getElem?_set_ne q1];exact h.u
  fs:=by rw[List.getElem?_set_ne q2];exact h.fs
  bl:=h.bl
  len:=by rw[List.length_set];exact h.len
  own:=fun i c f h1 h2=>by
   by_cases e:i=j
   ·subst e;rw[hb]at h1;rw[List.getElem?_set_self nQ]at h2;simp only[Option.some.injEq]at h1 h2;subst h1 h2;exact⟨q1,q2,List.getElem?_set_self iI⟩
   rw[List.getElem?_set_ne (Ne.symm e)]at h2;obtain⟨p1,p2,p3⟩:=h.own i c f h1 h2;refine⟨p1,p2,?_⟩;rw[List.getElem?_set_ne]
   ·exact p3
   intro e2;subst e2;rw[<-h1]at hb;exact e ((List.getElem?_inj Th h.cd).1 hb).symm
  cd:=h.cd
  c5:=h.c5 }
theorem NM:∀{bids:List Nat} {fs gs:List Func},bids.length=fs.length->gs.length=fs.length->(∀(j:Nat) f g,fs[j]?=some f->gs[j]?=some g->g.name=f.name∧g.blocks.length=f.blocks.length)->(K0 bids gs).map OC.raw=qh bids fs
 | [],[],[],_,_,_=>rfl
 | [],[],_::_,_,h,_=>by simp at h
 | [],_::_,_,h,_,_=>by simp at h
 | _::_,[],_,h,_,_=>by simp at h
 | _::_,_::_,[],_,h,_=>by simp at h
 | b::bs,f::fs,g::gs,h1,h2,h3=>by
  obtain⟨e1,e2⟩:=h3 0 f g rfl rfl;have ih:=NM (bids:=bs) (fs:=fs) (gs:=gs) (by simpa using h1) (by simpa using h2) fun j a c q1 q2=>h3 (j+1) a c (by simpa using q1) (by simpa using q2);rw[K0,qh,List.map_cons,List.map_cons,ih,<-e1,<-e2];rfl
theorem LD(bs:List Block):(ao (bs.map Block.enc)).length=bs.length*7:=by
 induction bs with
 | nil=>rfl
 | cons b r ih =>
  have e:ao ((b::r).map Block.enc)=b.enc.cells++ao (r.map Block.enc):=rfl;have hb:b.enc.cells.length=7:=rfl;rw[e,List.length_append,ih,hb,List.length_cons];omega
theorem MX(bs:List Block):∀d∈ao (bs.map Block.enc),d.scalar:=by
 induction bs with
 | nil=>intro d hd;cases hd
 | cons b r ih =>
  intro d hd;have e:ao ((b::r).map Block.enc)=b.enc.cells++ao (r.map Block.enc):=rfl;rw[e]at hd;rcases List.mem_append.1 hd with q|q
  ·simp only[Block.enc,ae.cells,List.mem_cons,List.not_mem_nil,or_false]at q;rcases q with rfl|rfl|rfl|rfl|rfl|rfl|rfl<;>trivial
  exact ih d q
theorem NW{op c:Int}(h:decide (op=c)=true)(hc:Li c=true):Li op=true:=by rw[of_decide_eq_true h];exact hc
theorem Nt(op:Int):bw Try.prog 56 [aI op] (.v (.bool (Li op))):=by
 refine zf true 0 Try.func56 Try.ntmps56 ?_;dsimp only[Tmp,TypeId,ax];refine aA (ah ?_);refine b8 (ah ?_);refine aj ?_;refine b8 (ah ?_);refine aP rfl (fun h=>?_) (fun n0=>?_);rotate_left;refine aA (ah ?_);refine aP rfl (fun h=>?_) (fun n1=>?_);rotate_left;refine aA (ah ?_);refine aP rfl (fun h=>?_) (fun n2=>?_);rotate_left;refine aA (ah ?_);refine aP rfl (fun h=>?_) (fun n3=>?_);rotate_left;refine aA (ah ?_);refine aP rfl (fun h=>?_) (fun n4=>?_);rotate_left;refine aA (ah ?_);refine aP rfl (fun h=>?_) (fun n5=>?_);rotate_left;refine aA (ah ?_);refine aP rfl (fun h=>?_) (fun m3=>?_);rotate_left;refine aA (ah ?_);refine aP rfl (fun h=>?_) (fun m4=>?_);rotate_left;refine aA (ah ?_);refine aP rfl (fun h=>?_) (fun n8=>?_);rotate_left;refine aA (ah ?_);refine aP rfl (fun h=>?_) (fun n9=>?_);rotate_left;refine aA (ah ?_);refine aP rfl (fun h=>?_) (fun Uz=>?_);rotate_left;refine aA (ah ?_);refine aP rfl (fun h=>?_) (fun JV=>?_);rotate_left;refine aA (ah ?_);refine aP rfl (fun h=>?_) (fun UA=>?_);rotate_left;refine aA (ah ?_);refine aP rfl (fun h=>?_) (fun UB=>?_);rotate_left;refine dc (ah ?_);apply aP rfl<;>intro h
 ·have hn:Li op=true:=NW h rfl;refine aA (ah ?_);refine aq ?_;simp -dsimp only[simprocAttr,↓aa,zp,zr,Try.results56,hn]
 ·have hn:Li op=false:=by
   unfold Li;simp only[List.mem_cons,List.not_mem_nil,or_false,decide_eq_false_iff_not]at *;omega
  refine jR ?_;refine aA (ah ?_);refine aq ?_;simp -dsimp only[simprocAttr,↓aa,zp,zr,Try.results56,hn]
 all_goals
  have hn:Li op=true:=NW h rfl;refine cA ?_;simp only[h];refine cS rfl ?_;refine aA (ah ?_);refine aq ?_;simp -dsimp only[simprocAttr,↓aa,zp,zr,Try.results56,hn]
end Go.Proofs.Ytkhnjeblbiocaaa
