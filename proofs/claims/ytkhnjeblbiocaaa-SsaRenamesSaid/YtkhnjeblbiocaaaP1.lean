/-
  Texts bound together by a program of mine: YtkhnjeblbiocaaaPum, YtkhnjeblbiocaaaPj, YtkhnjeblbiocaaaPwf, YtkhnjeblbiocaaaPwg, YtkhnjeblbiocaaaPwm, YtkhnjeblbiocaaaPf, YtkhnjeblbiocaaaT48, YtkhnjeblbiocaaaPc, YtkhnjeblbiocaaaT41, YtkhnjeblbiocaaaT43, YtkhnjeblbiocaaaPg, YtkhnjeblbiocaaaPk, YtkhnjeblbiocaaaPun, YtkhnjeblbiocaaaPwn, YtkhnjeblbiocaaaPwo, YtkhnjeblbiocaaaPwp, YtkhnjeblbiocaaaPy, YtkhnjeblbiocaaaPz, YtkhnjeblbiocaaaPwa, YtkhnjeblbiocaaaPus, YtkhnjeblbiocaaaPuo, YtkhnjeblbiocaaaT44, YtkhnjeblbiocaaaT45, YtkhnjeblbiocaaaT46, YtkhnjeblbiocaaaT54, YtkhnjeblbiocaaaPl, YtkhnjeblbiocaaaPdb, YtkhnjeblbiocaaaPdc, YtkhnjeblbiocaaaPdd, YtkhnjeblbiocaaaPua, YtkhnjeblbiocaaaPub, YtkhnjeblbiocaaaPuq, YtkhnjeblbiocaaaPut, YtkhnjeblbiocaaaPuu, YtkhnjeblbiocaaaPuv, YtkhnjeblbiocaaaPwb, YtkhnjeblbiocaaaPur, YtkhnjeblbiocaaaPux, YtkhnjeblbiocaaaPva, YtkhnjeblbiocaaaPwd, YtkhnjeblbiocaaaPwe, YtkhnjeblbiocaaaPwq, YtkhnjeblbiocaaaPwh, YtakdmelemfnmdaaAvv, YtkhnjeblbiocaaaPwl, YtkhnjeblbiocaaaT121, YtkhnjeblbiocaaaT122, YtkhnjeblbiocaaaT134, YtkhnjeblbiocaaaT137, YtkhnjeblbiocaaaT141, YtkhnjeblbiocaaaT142, YtkhnjeblbiocaaaT135, YtkhnjeblbiocaaaT143, YtkhnjeblbiocaaaT63, YtkhnjeblbiocaaaT144, YtkhnjeblbiocaaaPwr.
-/
import Derived.Test.YtkhnjeblbiocaaaJ4
import Derived.Sort.Grow
set_option linter.all false
set_option maxRecDepth 100000
set_option maxHeartbeats 4000000

namespace Go.Av

def RetAll(tab:Tab)(rv:List ResultVar)(R:AVal→List AObj→Prop):AEx→St→Prop
 | .exit _,_=>False
 | _,σ=>on (retVals tab σ rv) fun rs=>R (mkRet rs) σ.objs
theorem ecall_all{P:Program}{tab:Tab}(hT:TabOK P tab){f:FuncId}{fn:Func}{c:Code}{O:List AObj}{args:List AVal}{R:AVal→List AObj→Prop}(hf:P.funcs[f]?=some fn)(hb:fn.body=some c)
  (hname : (fn.name == "runtime.NumGoroutine") = false) (hn : args.length ≤ fn.ntmps) (h : AWP P O.length c (RetAll tab fn.results.toList R) ⟨fn.ntmps, slotsOf 0 args, O⟩) : ECall P f O args R := by
 refine⟨⟨fn,hf,hname,by simp [hb]⟩,fun g vs hg ho ha=>?_⟩
 refine calls_of_wp hf hb ?_
 have hrel:Rel g ⟨fn.ntmps,slotsOf 0 args,O⟩ { tmps:=vs++Array.replicate (fn.ntmps - vs.size) undef,defers:=[] } g:={
  le:=Le.refl g
  good:=hg
  objs:=ho
  size:=by
   have:=ha.1
   simp only [Array.size_append,Array.size_replicate]
   omega
  defers:=rfl
  slot:=fun s x hx=>by
   obtain⟨_,h1⟩:=look_slotsOf args 0 s x hx
   simp only [Nat.sub_zero] at h1
   have hlt:=lt_of_getElem? h1
   have hlt':s<vs.size:=by rw [ha.1];exact hlt
   refine⟨vs[s],?_,ha.2 s x _ h1 (by simp [hlt'])⟩
   simp only
   rw [Array.getElem?_append,if_pos hlt']
   simp [hlt'] }
 refine wp_mono (h g _ g (by rw [ho];exact Nat.le_refl _) hrel) fun e a w hp=>?_
 have key:∀g' σ',g'.w=w→Rel g σ' a g'→(on (retVals tab σ' fn.results.toList) fun rs=>R (Av.mkRet rs) σ'.objs) →
   a.defers=[]∧∃v,(results fn a.tmps).run P w=.ok v w∧∃g' v' r,Ending.returned v=.returned v'∧g'.w=w∧Le g g'∧Good g'∧RV g' r v'∧R r g'.objs:=by
  intro g' σ' hw hr hq
  subst hw
  obtain⟨rs,hrs,h4⟩:=on_elim hq
  obtain⟨us,q1,q2⟩:=retVals_spec hT hr hrs
  have hO:g'.objs=σ'.objs:=hr.objs
  refine⟨hr.defers,(if h:us.toArray.size=1 then us.toArray[0] else .tuple us.toArray),?_,g',_,_,rfl,rfl,hr.le,hr.good,RV.mkRet q2,by rw [hO];exact h4⟩
  have hm:fn.results.mapM (retSem a)=Functor.map List.toArray (fn.results.toList.mapM (retSem a)):=Array.mapM_eq_mapM_toList
  have hres:results fn a.tmps=(do
   let vs ←fn.results.mapM (retSem a)
   pure (if h:vs.size=1 then vs[0] else .tuple vs)):=rfl
  rw [hres,hm]
  simp only [Sem.run_bind,Sem.run_map,q1,Result.andThen_ok,Sem.run_pure]
 cases e with
 | normal =>
  obtain⟨g',σ',h1,h2,h3⟩:=hp
  exact key g' σ' h1 h2 h3
 | ret =>
  obtain⟨g',σ',h1,h2,h3⟩:=hp
  exact key g' σ' h1 h2 h3
 | exit id =>
  obtain⟨g',σ',h1,h2,h3⟩:=hp
  exact h3.elim
 | goto l=>exact hp.elim
 | panic c=>exact hp.elim
 | outgrown=>exact hp.elim

theorem awp_retell2{P:Program}{kb:Nat}{c:Code}{Q:AEx→St→Prop}{n:Nat}{slots:List (Nat×AVal)}{O:List AObj}(k:Nat){cs:List AVal}(ds:List AVal)(hok:O[k]?=some (.cells cs))(hl:ds.length=cs.length)(hsc:∀d∈ds,d.scalar)
  (hs:∀(j:Nat) (c d:AVal),cs[j]?=some c→ds[j]?=some d→Sub O c d) (h:AWP P kb c Q ⟨n,slots,O.set k (.cells ds)⟩):AWP P kb c Q ⟨n,slots,O⟩ :=
 AWP.weaken h fun base a g hb hr=>by
  have hO:g.objs=O:=hr.objs
  have hok':g.objs[k]?=some (.cells cs):=by rw [hO];exact hok
  obtain⟨l,arr,t,e1,e2,e3,e4,e5,e6⟩:=hr.good.cells k cs hok'
  have ht:Turns g k (.cells cs) (some l) (.cells ds) g.w:={
   obj:=hok'
   os:=rfl
   tape:=rfl
   output:=rfl
   size:=Nat.le_refl _
   block:=fun _ _ _=>rfl
   cell:=fun b off x hx _=>hx
   place:=fun l1 h1 _=>by
    simp only [Option.some.injEq] at h1
    subst h1
    exact .inr ⟨l,e1,trivial,rfl,Nat.le_refl _⟩
   spare:=fun m h=>by cases h
   plain:=fun _=>⟨by simp [AObj.isSpare],e1⟩
   gone:=by simp }
  have hle:=Le.turn hr.good ht
  have hgood:=Good.turn hr.good ht ⟨l,arr,t,rfl,e2,e3,by omega,fun j d u hd hu=>by
   have hlt:=lt_of_getElem? hd
   have hc:cs[j]?=some cs[j]:=List.getElem?_eq_getElem (by omega)
   exact(hs j _ d hc hd g u hO (e5 j _ u hc hu)).mono hle,hsc,e6.2⟩ (fun l1 h1 _=>by
    simp only [Option.some.injEq] at h1
    subst h1
    exact lt_of_getElem?' e3)
  refine⟨g.turn k (some l) (.cells ds) g.w,rfl,{ le:=hr.le.trans hle,good:=hgood,objs:=by simp [G.turn,hO],size:=hr.size,defers:=hr.defers,slot:=fun s y hy=>?_ }⟩
  have hy':(St.mk n slots O).get s=some y:=hy
  obtain⟨u,h3,h4⟩:=hr.slot s y hy'
  exact⟨u,h3,h4.mono hle⟩
theorem Sub.nil_lst{O:List AObj}(sz:Nat):Sub O (.v (.slice none 0 0)) (.lst sz [] .ex):=fun g u _ h=>by
 obtain⟨e,_⟩:=h.v_inv
 rw [e]
 exact .nil (fun id q=>by cases q) (by simp)
theorem cert_buildSlice_os{P:Program}{tab:Tab}(hT:TabOK P tab){o:Oper}{σ:St}{t e:TypeId}{len:Nat}{parts:Array (Nat×Operand)}{ti te:TInfo}{ps:List (Nat×AVal)}{xs:List AVal}
  (ho:o.op=.buildSlice t len parts) (hd:∀d,o.dst=some d→d<σ.n) (ht:tab t=some ti) (hdesc:ti.desc=.slice e) (he:tab e=some te) (hpos:0<te.size) (hev:σ.evParts parts.toList=some ps) (hfl:∀p∈ps,p.2.flat)
  (hseq:seqParts 0 ps=some xs) (hlen:xs.length=len) (hsz:∀x∈xs,x.cells.length=te.size) (hsm:len * te.size≤2 ^ 24) (hz:len≠0):Cert P o σ (.os σ.objs.length len te.size) (.write (σ.objs++[.cells (cellsAll xs)])) :=
 Cert.ofRun hd fun base σ' a g hrel h ho'=>by
  have hO:g.objs=σ.objs:=ho'.resolve_left (by simp)
  have hg:=hrel.good
  have hpr:=evParts_rel (a:=a) (g:=g) (fun x hx y hy=>h x (by simpa [ho,Op.operands] using hx) y hy) hev hfl
  have hu:=slice_desc hT ht hdesc
  obtain⟨⟨i,z,h1,h2,h3,h4,h5,h6,h7,h8,h9⟩,_⟩:=hT e te he
  have hps:=seqParts_eq hseq
  have hsc:∀x∈xs,∀c∈x.cells,c.scalar:=by
   have aux:∀{ps:List (Nat×AVal)} {vs:List (Nat×Value)},PRel g ps vs→∀p∈ps,∀c∈p.2.cells,c.scalar:=by
    intro ps vs hr
    induction hr with
    | nil=>intro p hp;cases hp
    | cons hx hf r ih =>
     intro p hp
     rcases List.mem_cons.1 hp with hp | hp
     ·subst hp
      exact hx.cells_scalar hf
     exact ih p hp
   intro x hx c hc
   have hmem:∃k,(k,x)∈ps:=by
    obtain⟨k,hk⟩:=List.getElem?_of_mem hx
    refine⟨0+k,?_⟩
    rw [hps,List.mem_map]
    refine⟨(x,0+k),?_,rfl⟩
    rw [List.mem_iff_getElem?]
    exact⟨k,by simp [hk]⟩
   obtain⟨k,hk⟩:=hmem
   exact aux hpr _ hk c hc
  have hne:¬len * i.size=0:=by
   rw [h2]
   intro e0
   rcases Nat.mul_eq_zero.1 e0 with q | q<;>omega
  obtain⟨zs,hzs⟩:∃zs:Array Value,zs=(Array.range (len * i.size)).map (z.cells[· % z.cells.size]!):=⟨_,rfl⟩
  have hzsz:zs.size=len * te.size:=by rw [hzs];simp [h2]
  obtain⟨zc,hzc,hzr,hzl⟩:∃zc:List AVal,(∀c∈zc,c.scalar)∧RVs g zc zs∧zc.length=len * te.size:=by
   refine⟨(List.range (len * te.size)).map fun j=>te.zero.getD (j % te.size) (.v (.bool false)),fun c hc=>?_,⟨by simp [hzsz],fun j c u hj hju=>?_⟩,by simp⟩
   ·rw [List.mem_map] at hc
    obtain⟨j,_,e⟩:=hc
    subst e
    have hlt:j % te.size<te.zero.length:=by rw [h6];exact Nat.mod_lt _ hpos
    rw [List.getD_eq_getElem?_getD,List.getElem?_eq_getElem hlt]
    exact h9 _ (List.getElem_mem hlt)
   have hj':=lt_of_getElem? hj
   simp only [List.length_map,List.length_range] at hj'
   rw [List.getElem?_map,List.getElem?_range hj'] at hj
   simp only [Option.map_some,Option.some.injEq] at hj
   subst hj
   have hlt:j % te.size<te.zero.length:=by rw [h6];exact Nat.mod_lt _ hpos
   have hlt':j % te.size<z.cells.size:=by rw [h5];exact hlt
   rw [hzs] at hju
   simp only [Array.getElem?_map,h2,Array.getElem?_range,if_pos hj',Option.map_some,Option.some.injEq] at hju
   subst hju
   rw [List.getD_eq_getElem?_getD,List.getElem?_eq_getElem hlt]
   refine h8 g (j % te.size) _ _ (List.getElem?_eq_getElem hlt) ?_
   rw [h5,h6]
   simp [hlt']
  have hfill:∃cs',fillA (fun i=>some (i * te.size,te.size)) zc ps=some cs':=by
   have aux:∀(ys:List AVal) (k:Nat) (cs:List AVal),(∀y∈ys,y.cells.length=te.size)→(k+ys.length) * te.size≤cs.length→∃cs',fillA (fun i=>some (i * te.size,te.size)) cs ((ys.zipIdx k).map fun p=>(p.2,p.1))=some cs':=by
    intro ys
    induction ys with
    | nil=>intro k cs _ _;exact⟨cs,rfl⟩
    | cons y ys ih =>
     intro k cs hy hl
     simp only [List.zipIdx_cons,List.map_cons,fillA]
     simp only [List.length_cons] at hl
     have hk1:(k+1) * te.size=k * te.size+te.size:=Nat.succ_mul k te.size
     have hmono:(k+1) * te.size≤(k+(ys.length+1)) * te.size:=Nat.mul_le_mul_right _ (by omega)
     have hc:y.cells.length=te.size∧k * te.size+te.size≤cs.length:=⟨hy y (by simp),by omega⟩
     rw [if_pos hc]
     refine ih (k+1) _ (fun z hz=>hy z (List.mem_cons_of_mem _ hz)) ?_
     rw [splice_length (by omega),show k+1+ys.length=k+(ys.length+1) by omega]
     exact hl
   rw [hps]
   exact aux xs 0 zc hsz (by rw [hzl,hlen,Nat.zero_add];exact Nat.le_refl _)
  obtain⟨cs',hcs'⟩:=hfill
  obtain⟨arr',q1,q2,_⟩:=fill_spec (fun i=>some (i * te.size,te.size)) hpr hzr hcs'
  obtain⟨e1,_⟩:=fillA_seq xs 0 zc cs' (by rw [←hps];exact hcs') (by rw [hzl,hlen,Nat.zero_add];exact Nat.le_refl _)
  have e2:cs'=cellsAll xs:=by
   rw [e1]
   simp only [Nat.zero_mul,List.take_zero,List.nil_append,Nat.zero_add]
   rw [List.drop_of_length_le (by rw [hzl,hlen];omega),List.append_nil]
  subst e2
  have hrun:(Instr.buildSlice t len (parts.map fun(i,x)=>(i,a.eval x))).run P g.w=.ok (.slice (some ⟨g.w.heap.size,0,none⟩) len len) (g.w.alloc (.cells arr' e)):=by
   have hbig:¬len * i.size > 2 ^ 24:=by rw [h2];omega
   rw [hzs,←h2] at q1
   have q1':Instr.fill (fun i_1=>some (i_1 * i.size,i.size)) ((Array.range (len * i.size)).map (z.cells[· % z.cells.size]!)) (parts.map fun(i,x)=>(i,a.eval x)).toList=some arr':=by
    rw [Array.toList_map]
    exact q1
   simp only [Instr.buildSlice,run_underlying hu,Go.sizeOf,typeInfo,Go.zeroValue,Sem.run_bind,run_program,Result.andThen_ok,h1,Sem.run_pure,Go.newRow]
   rw [if_neg hbig,if_neg hne]
   simp only [Sem.run_bind,Sem.run_pure,Result.andThen_ok,run_program,h1,h4,q1',run_newObj]
   rfl
  have hle:=Le.alloc hg (.cells arr' e) 0 (.cells (cellsAll xs))
  have hsize:arr'.size=len * te.size:=by
   rw [q2.1,←hlen]
   have:∀ys:List AVal,(∀y∈ys,y.cells.length=te.size)→(cellsAll ys).length=ys.length * te.size:=fun ys=>by
    induction ys with
    | nil=>intro _;simp [cellsAll]
    | cons y ys ih =>
     intro hy
     have h1:=ih fun z hz=>hy z (by simp [hz])
     have h2:=hy y (by simp)
     simp only [cellsAll,List.flatMap_cons,List.length_append,List.length_cons] at h1 ⊢
     rw [h1,h2,Nat.succ_mul]
     omega
   exact this xs hsz
  have hscA:∀c∈cellsAll xs,c.scalar:=fun c hc=>by
   simp only [cellsAll,List.mem_flatMap] at hc
   obtain⟨x,hx,hc⟩:=hc
   exact hsc x hx c hc
  refine⟨.slice (some ⟨g.w.heap.size,0,none⟩) len len,g.alloc (.cells arr' e) 0 (.cells (cellsAll xs)),.inl (by simp [execOp,ho,hrun,G.alloc]),hle,Good.alloc hg _ 0 _ (.inr rfl) ⟨_,e,rfl,by rw [q2.1];exact Nat.le_refl _,(q2.mono hle).2,hscA⟩,by simp [G.alloc,hO,Mode.post],?_⟩
  rw [←hO]
  exact .os (l:=⟨g.w.heap.size,0,arr'.size⟩) (env_new hg) objs_new (by simp [AObj.isSpare]) (Nat.le_refl _) (by rw [hsize];exact Nat.le_refl _) (by
   have:len≤len * te.size:=Nat.le_mul_of_pos_right _ hpos
   omega)
theorem FSub.os{O:List AObj}{id len sz:Nat}{cs xs:List AVal}(hid:O[id]?=some (.cells cs))(hsz:∀x∈xs,x.cells.length=sz)(hlen:xs.length=len)(hd:((cs.drop 0).take (len * sz)).map AVal.shareCell=cellsAll xs):FSub O id (.os id len sz) (.lst sz xs .sh):=fun g u l' hg hO he hle h=>by
 obtain⟨l,o1,cap',h1,h2,_,hlc,_,hmax,eu⟩:=h.os_inv
 subst eu
 rw [he] at h1
 simp only [Option.some.injEq] at h1
 subst h1
 have hid':g.objs[id]?=some (.cells cs):=by rw [hO];exact hid
 obtain⟨arr,t',hlo,hrow,hal,hcs,hcsc,_⟩:=hg.row hid' he
 subst hlen
 have key:∀(j:Nat) (c:AVal),(cellsAll xs)[j]?=some c→∃c',cs[0+j]?=some c'∧c'.shareCell=c:=fun j c hj=>by
  rw [←hd,List.getElem?_map,Option.map_eq_some_iff] at hj
  obtain⟨c',hj,e⟩:=hj
  have:=take_get hj
  rw [List.getElem?_drop] at this
  exact⟨c',this,e⟩
 refine .lst hsz (fun x hx c hc=>?_) hlc hmax (fun _=>rfl) (fun j=>arr.getD (0+j) undef) (fun j c hj=>?_) (fun j c hj=>?_) trivial
 ·have hmem:c∈cellsAll xs:=by
   simp only [cellsAll,List.mem_flatMap]
   exact⟨x,hx,hc⟩
  obtain⟨j,hj⟩:=List.getElem?_of_mem hmem
  obtain⟨c',hj',e⟩:=key j c hj
  subst e
  exact AVal.scalar_shareCell (hcsc c' (List.mem_of_getElem? hj'))
 ·obtain⟨c',hj',e⟩:=key j c hj
  have hlt:=lt_of_getElem? hj'
  refine⟨?_,freeze_own hg he hid' trivial _⟩
  show g.w.cell? _=_
  simp only
  rw [cell_of_row hrow]
  simp [Array.getD_eq_getD_getElem?,show j<arr.size by omega]
 obtain⟨c',hj',e⟩:=key j c hj
 have hlt:=lt_of_getElem? hj'
 subst e
 exact((hcs _ c' _ hj' (by simp [Array.getD_eq_getD_getElem?,show j<arr.size by omega])).mono hle).shareCell
theorem midOp_os{P:Program}{tab:Tab}{md:Md}(hT:TabOK P tab){o:Oper}{l2:List Oper}{Q:AEx→St→Prop}{σ:St}{t e:TypeId}{len d:Nat}{parts:Array (Nat×Operand)}{ti te:TInfo}{ps:List (Nat×AVal)}{xs:List AVal}
  (ho:o.op=.buildSlice t len parts) (hdst:o.dst=some d) (hd:d<σ.n) (ht:tab t=some ti) (hdesc:ti.desc=.slice e) (he:tab e=some te) (hpos:0<te.size) (hev:σ.evParts parts.toList=some ps) (hfl:∀p∈ps,p.2.flat)
  (hseq:seqParts 0 ps=some xs) (hlen:xs.length=len) (hsz:∀x∈xs,x.cells.length=te.size) (hsm:len * te.size≤2 ^ 24) (hz:len≠0)
  (h:vcOps P tab md l2 0 [] ⟨σ.n,putO o.dst (.os σ.objs.length len te.size) σ.slots,σ.objs++[.cells (cellsAll xs)]⟩ [] fun ρ _=>At ρ (Q .norm)):MidOp P tab md o l2 Q σ :=
 ⟨_,_,cert_buildSlice_os hT ho (fun d' e=>by rw [hdst] at e;cases e;exact hd) ht hdesc he hpos hev hfl hseq hlen hsz hsm hz,h⟩
end Go.Av
namespace Go.Proofs.Ytkhnjeblbiocaaa
open Go.Av
inductive OC where
 | val (a:AVal)
 | row (id sz n:Nat) (cs:List OC)
def elt:List AVal→AVal
 | [x]=>x
 | l=>.agg l
def grp:Nat→Nat→List AVal→List AVal
 | 0,_,_=>[]
 | n+1,sz,l=>elt (l.take sz)::grp n sz (l.drop sz)
def OC.raw:OC→AVal
 | .val a=>a
 | .row id sz n _=>.os id n sz
mutual
def OC.told:OC→AVal
 | .val a=>a
 | .row _ sz n cs=>.lst sz (grp n sz (toldL cs)) .sh
def toldL:List OC→List AVal
 | []=>[]
 | c::r=>c.told::toldL r
end
mutual
def OC.own:OC→List (Nat×List AVal)
 | .val _=>[]
 | .row id _ _ cs=>(id,cs.map OC.raw)::ownL cs
def ownL:List OC→List (Nat×List AVal)
 | []=>[]
 | c::r=>c.own++ownL r
end
mutual
def OC.wf:OC→Prop
 | .val a=>a.scalar∧a.shareCell=a
 | .row _ sz n cs=>cs.length=n * sz∧wfL cs
def wfL:List OC→Prop
 | []=>True
 | c::r=>c.wf∧wfL r
end
theorem toldL_map:∀cs:List OC,toldL cs=cs.map OC.told
 | []=>rfl
 | c::r=>by rw [toldL,toldL_map r];rfl
theorem ownL_map:∀cs:List OC,ownL cs=cs.flatMap OC.own
 | []=>rfl
 | c::r=>by rw [ownL,ownL_map r];rfl
theorem wfL_iff:∀cs:List OC,wfL cs↔∀c∈cs,c.wf
 | []=>by simp [wfL]
 | c::r=>by
  rw [wfL,wfL_iff r]
  simp
theorem raw_scalar{c:OC}(h:c.wf):c.raw.scalar:=by
 cases c with
 | val a=>exact h.1
 | row=>trivial
theorem told_scalar{c:OC}(h:c.wf):c.told.scalar:=by
 cases c with
 | val a=>exact h.1
 | row=>unfold OC.told;trivial
theorem told_share{c:OC}(h:c.wf):c.told.shareCell=c.told:=by
 cases c with
 | val a=>exact h.2
 | row=>unfold OC.told;rfl
theorem elt_cells:∀{l:List AVal},(∀x∈l,x.scalar)→(elt l).cells=l
 | [],_=>rfl
 | [x],h=>by
  have:=h x (by simp)
  unfold elt
  cases x<;>first | rfl | exact absurd this (by simp [AVal.scalar])
 | x::y::r,_=>rfl
theorem grp_len:∀(n sz:Nat) (l:List AVal),(grp n sz l).length=n
 | 0,_,_=>rfl
 | n+1,sz,l=>by rw [grp,List.length_cons,grp_len]
theorem grp_cells:∀(n sz:Nat) {l:List AVal},l.length=n * sz→(∀x∈l,x.scalar)→cellsAll (grp n sz l)=l∧∀x∈grp n sz l,x.cells.length=sz
 | 0,sz,l,h,_=>by
  rw [Nat.zero_mul] at h
  rw [List.length_eq_zero_iff.1 h]
  exact⟨rfl,fun x hx=>by cases hx⟩
 | n+1,sz,l,h,hs=>by
  rw [Nat.add_mul,Nat.one_mul] at h
  obtain⟨i1,i2⟩:=grp_cells n sz (l:=l.drop sz) (by rw [List.length_drop];omega) (fun x hx=>hs x (List.mem_of_mem_drop hx))
  have he:=elt_cells (l:=l.take sz) (fun x hx=>hs x (List.mem_of_mem_take hx))
  refine⟨?_,fun x hx=>?_⟩
  ·show(elt (l.take sz)).cells++cellsAll (grp n sz (l.drop sz))=l
   rw [he,i1,List.take_append_drop]
  rcases List.mem_cons.1 hx with q | q
  ·rw [q,he,List.length_take]
   omega
  exact i2 x q
def Owns(O:List AObj)(L:List (Nat×List AVal)):Prop:=∀p∈L,O[p.1]?=some (.cells p.2)
theorem Owns.of_same{O O':List AObj}{L:List (Nat×List AVal)}(h:Owns O L)(hs:∀p∈L,O'[p.1]?=O[p.1]?):Owns O' L:=fun p hp=>by rw [hs p hp,h p hp]
section
variable {P:Program} {kb:Nat} {c:Code} {Q:AEx→St→Prop} {n:Nat} {slots:List (Nat×AVal)}
theorem awp_tellL(X:Nat)(todo:List OC)(done:List AVal)(O:List AObj)(hX:O[X]?=some (.cells (done++todo.map OC.raw)))(hd:∀d∈done,d.scalar)(hw:wfL todo)(ho:Owns O (ownL todo))(hn:(X::(ownL todo).map Prod.fst).Nodup)
  (h:∀O',O'.length=O.length→O'[X]?=some (.cells (done++toldL todo))→(∀k,k ∉ X::(ownL todo).map Prod.fst→O'[k]?=O[k]?)→AWP P kb c Q ⟨n,slots,O'⟩):AWP P kb c Q ⟨n,slots,O⟩:=by
 match todo with
 | []=>exact h O rfl (by rw [toldL];exact hX) fun _ _=>rfl
 | .val a::r =>
  have hn':(X::(ownL r).map Prod.fst).Nodup:=by simpa [ownL,OC.own] using hn
  refine awp_tellL X r (done++[a]) O ?_ (fun d hd'=>?_) hw.2 (by simpa [ownL,OC.own] using ho) hn' fun O' h1 h2 h3=>h O' h1 ?_ ?_
  ·rw [hX,List.append_assoc]
   rfl
  ·rcases List.mem_append.1 hd' with q | q
   ·exact hd d q
   rw [List.mem_singleton.1 q]
   exact hw.1.1
  ·rw [h2,List.append_assoc]
   rfl
  intro k hk
  exact h3 k (by simpa [ownL,OC.own] using hk)
 | .row id sz m cs::r =>
  obtain⟨⟨w1,w2⟩,w3⟩:=hw
  have e1:ownL (.row id sz m cs::r)=(id,cs.map OC.raw)::(ownL cs++ownL r):=by rw [ownL,OC.own];rfl
  rw [e1] at ho hn h
  have hid:=ho (id,cs.map OC.raw) List.mem_cons_self
  simp only [List.map_cons,List.map_append,List.nodup_cons,List.mem_cons,List.mem_append,not_or,List.nodup_append] at hn
  obtain⟨⟨x1,x2,x3⟩,⟨i1,i2⟩,n1,n2,n3⟩:=hn
  refine awp_tellL id cs [] O (by simpa using hid) (fun d hd=>by cases hd) w2 (fun p hp=>ho p (List.mem_cons_of_mem _ (List.mem_append_left _ hp))) (List.nodup_cons.2 ⟨i1,n1⟩) fun O1 l1 a1 k1=>?_
  rw [List.nil_append] at a1
  have hX1:O1[X]?=some (.cells (done++.os id m sz::r.map OC.raw)):=by
   rw [k1 X (by simp only [List.mem_cons,not_or];exact⟨x1,x2⟩),hX]
   rfl
  have hcw:=(wfL_iff cs).1 w2
  have hrw:=(wfL_iff r).1 w3
  have htl:(toldL cs).length=m * sz:=by rw [toldL_map,List.length_map,w1]
  obtain⟨g1,g2⟩:=grp_cells m sz htl (fun x hx=>by
   rw [toldL_map] at hx
   obtain⟨y,hy,rfl⟩:=List.mem_map.1 hx
   exact told_scalar (hcw y hy))
  have hsh:(toldL cs).map AVal.shareCell=toldL cs:=by
   rw [toldL_map,List.map_map]
   exact List.map_congr_left fun y hy=>told_share (hcw y hy)
  refine awp_freeze_in id a1 (by simp [AObj.isSpare]) trivial slots (fun s z hz=>⟨z,hz,.refl z⟩) X x1 (done++.os id m sz::r.map OC.raw) (done++.lst sz (grp m sz (toldL cs)) .sh::r.map OC.raw) hX1 (by simp) (fun d hd'=>?_) (fun j a d ha hd'=>?_) ?_
  ·rcases List.mem_append.1 hd' with q | q
   ·exact hd d q
   rcases List.mem_cons.1 q with q | q
   ·subst q;trivial
   obtain⟨y,hy,rfl⟩:=List.mem_map.1 q
   exact raw_scalar (hrw y hy)
  ·by_cases hj:j<done.length
   ·rw [List.getElem?_append_left hj] at ha hd'
    rw [ha] at hd'
    simp only [Option.some.injEq] at hd'
    exact hd' ▸ FSub.refl _
   rw [List.getElem?_append_right (by omega)] at ha hd'
   cases hjj:j - done.length with
   | zero =>
    rw [hjj] at ha hd'
    simp only [List.getElem?_cons_zero,Option.some.injEq] at ha hd'
    subst ha
    subst hd'
    exact FSub.os (cs:=toldL cs) a1 g2 (grp_len m sz _) (by rw [List.drop_zero,List.take_of_length_le (by omega),hsh,g1])
   | succ j' =>
    rw [hjj] at ha hd'
    simp only [List.getElem?_cons_succ] at ha hd'
    rw [ha] at hd'
    simp only [Option.some.injEq] at hd'
    exact hd' ▸ FSub.refl _
  have hl2:((O1.set id .gone).set X (.cells (done++.lst sz (grp m sz (toldL cs)) .sh::r.map OC.raw))).length=O.length:=by rw [List.length_set,List.length_set,l1]
  refine awp_tellL X r (done++[.lst sz (grp m sz (toldL cs)) .sh]) _ ?_ (fun d hd'=>?_) w3 (fun p hp=>?_) (List.nodup_cons.2 ⟨x3,n2⟩) fun O' h1 h2 h3=>h O' (by rw [h1,hl2]) ?_ ?_
  ·rw [List.getElem?_set_self (by rw [List.length_set];exact lt_of_getElem? hX1),List.append_assoc]
   rfl
  ·rcases List.mem_append.1 hd' with q | q
   ·exact hd d q
   rw [List.mem_singleton.1 q]
   trivial
  ·have hpm:p.1∈(ownL r).map Prod.fst:=List.mem_map.2 ⟨p,hp,rfl⟩
   have q1:p.1≠X:=fun q=>x3 (q ▸ hpm)
   have q2:p.1≠id:=fun q=>i2 (q ▸ hpm)
   have q3:p.1 ∉ (ownL cs).map Prod.fst:=fun q=>n3 _ q _ hpm rfl
   rw [List.getElem?_set_ne (Ne.symm q1),List.getElem?_set_ne (Ne.symm q2),k1 p.1 (by simp only [List.mem_cons,not_or];exact⟨q2,q3⟩)]
   exact ho p (List.mem_cons_of_mem _ (List.mem_append_right _ hp))
  ·rw [h2,List.append_assoc,toldL,OC.told]
   rfl
  intro k hk
  simp only [List.map_cons,List.map_append,List.mem_cons,List.mem_append,not_or] at hk
  obtain⟨z1,z2,z3,z4⟩:=hk
  rw [h3 k (by simp only [List.mem_cons,not_or];exact⟨z1,z4⟩),List.getElem?_set_ne (Ne.symm z1),List.getElem?_set_ne (Ne.symm z2),k1 k (by simp only [List.mem_cons,not_or];exact⟨z2,z3⟩)]
termination_by SizeOf.sizeOf todo
end
end Go.Proofs.Ytkhnjeblbiocaaa
namespace Go.Av
inductive PR(π:List Nat)(k:Nat):AVal→AVal→Prop
 | same {x:AVal} (h:x.upto k):PR π k x x
 | os {a b n sz:Nat} (h:π[b]?=some a):PR π k (.os a n sz) (.os b n sz)
inductive OR(π:List Nat)(k:Nat):AObj→AObj→Prop
 | same {o:AObj} (h:o.upto k):OR π k o o
 | cells {cs ds:List AVal} (hl:ds.length=cs.length) (hs:∀d∈ds,d.scalar) (h:∀(j:Nat) (c d:AVal),cs[j]?=some c→ds[j]?=some d→PR π k c d):OR π k (.cells cs) (.cells ds)
structure Ren(O O':List AObj)(π:List Nat)(k:Nat):Prop where
 len:O'.length=π.length
 kle:k≤π.length
 low:∀i:Nat,i<k→π[i]?=some i
 inj:∀i j a:Nat,π[i]?=some a→π[j]?=some a→i=j
 obj:∀i a:Nat,π[i]?=some a→∃o o',O[a]?=some o∧O'[i]?=some o'∧OR π k o o'
def gren(g:G)(π:List Nat)(O':List AObj):G:=⟨g.w,g.fr,π.map fun a=>(g.env[a]?).getD none,O'⟩
theorem OR.live{π:List Nat}{k:Nat}{o o':AObj}(h:OR π k o o'):(o'.live↔o.live)∧(o'.isSpare↔o.isSpare):=by
 cases h with
 | same=>exact⟨Iff.rfl,Iff.rfl⟩
 | cells=>exact⟨Iff.rfl,Iff.rfl⟩
theorem OR.spare{π:List Nat}{k:Nat}{o:AObj}{m:Nat}(h:OR π k o (.spare m)):o=.spare m:=by
 cases h with
 | same=>rfl
theorem OR.spare'{π:List Nat}{k:Nat}{o:AObj}{m:Nat}(h:OR π k (.spare m) o):o=.spare m:=by
 cases h with
 | same=>rfl
section
variable {g:G} {O':List AObj} {π:List Nat} {k:Nat}
theorem gren_env{i a:Nat}(h:π[i]?=some a):(gren g π O').env[i]?=some ((g.env[a]?).getD none):=by
 show(π.map _)[i]?=_
 rw [List.getElem?_map,h]
 rfl
theorem gren_at(hr:Ren g.objs O' π k){i:Nat}{o':AObj}(h:O'[i]?=some o'):∃a o,π[i]?=some a∧g.objs[a]?=some o∧OR π k o o':=by
 have hl:=lt_of_getElem? h
 rw [hr.len] at hl
 have ha:π[i]?=some (π[i]'hl):=List.getElem?_eq_getElem _
 obtain⟨o,o2,h1,h2,h3⟩:=hr.obj i _ ha
 rw [h] at h2
 simp only [Option.some.injEq] at h2
 subst h2
 exact⟨_,o,ha,h1,h3⟩
theorem gren_loc{a:Nat}{l:Loc}(h:(g.env[a]?).getD none=some l):g.env[a]?=some (some l):=by
 cases he:g.env[a]? with
 | none=>rw [he] at h;cases h
 | some e=>rw [he] at h;simp only [Option.getD_some] at h;rw [h]
theorem gren_own(hr:Ren g.objs O' π k){b off:Nat}(h:OwnL (gren g π O') b off):OwnL g b off:=by
 obtain⟨id,l,o',h1,h2,h3,h4,h5⟩:=h
 obtain⟨a,o,a1,a2,a3⟩:=gren_at hr h2
 rw [gren_env a1] at h1
 simp only [Option.some.injEq] at h1
 exact⟨a,l,o,gren_loc h1,a2,a3.live.1.1 h3,h4,h5⟩
theorem gren_ownB(hr:Ren g.objs O' π k){b:Nat}(h:OwnLB (gren g π O') b):OwnLB g b:=by
 obtain⟨id,l,o',h1,h2,h3,h4⟩:=h
 obtain⟨a,o,a1,a2,a3⟩:=gren_at hr h2
 rw [gren_env a1] at h1
 simp only [Option.some.injEq] at h1
 exact⟨a,l,o,gren_loc h1,a2,a3.live.1.1 h3,h4⟩
theorem gren_ownC(hr:Ren g.objs O' π k){b off:Nat}(h:OwnC (gren g π O') b off):OwnC g b off:=h.imp id (gren_own hr)
theorem gren_low(hg:Good g)(hr:Ren g.objs O' π k){i:Nat}(hi:i<k):(gren g π O').env[i]?=g.env[i]?∧∃o o',g.objs[i]?=some o∧O'[i]?=some o'∧OR π k o o':=by
 have hp:=hr.low i hi
 obtain⟨o,o',h1,h2,h3⟩:=hr.obj i i hp
 refine⟨?_,o,o',h1,h2,h3⟩
 rw [gren_env hp]
 have hlt:=lt_of_getElem? h1
 rw [←hg.len] at hlt
 have he:g.env[i]?=some (g.env[i]'hlt):=List.getElem?_eq_getElem _
 rw [he]
 rfl
theorem own_ren(hg:Good g)(hr:Ren g.objs O' π k){id:Nat}(hid:id<k){a:Addr}{sz len cap:Nat}(ho:OwnOK g (.tok id) a sz len cap):OwnOK (gren g π O') (.tok id) a sz len cap:=by
 obtain⟨e1,o,o',e2,e3,e4⟩:=gren_low hg hr hid
 obtain⟨q1,q2⟩:=ho
 refine⟨by have:=lt_of_getElem? e3;exact this,fun m hm'=>?_⟩
 have hm2:O'[id]?=some (.spare m):=hm'
 rw [e3] at hm2
 simp only [Option.some.injEq] at hm2
 subst hm2
 rw [e4.spare] at e2
 obtain⟨r1,r2⟩:=q2 m e2
 refine⟨r1,fun e=>(r2 e).imp (fun h=>h) ?_⟩
 rintro⟨l,arr,t,p1,p2,p3,p4,p5⟩
 exact⟨l,arr,t,e1.trans p1,p2,p3,p4,p5⟩
theorem rv_ren(hg:Good g)(hr:Ren g.objs O' π k){x:AVal}{u:Value}(h:RV g x u)(hb:x.upto k):RV (gren g π O') x u:=by
 induction h with
 | v hx=>exact .v hx
 | agg hl hsc _ ih =>
  simp only [AVal.upto,uptoL_iff] at hb
  exact .agg hl hsc fun i c u a b=>ih i c u a b (hb c (List.mem_of_getElem? a))
 | nil ho hnn =>
  simp only [AVal.upto] at hb
  refine .nil (fun id e=>?_) hnn
  subst e
  obtain⟨_,o,o',e2,e3,e4⟩:=gren_low hg hr (i:=id) hb.2
  exact lt_of_getElem? e3
 | lst hsz hsc hcap hmax hs f hm hr' ho ih =>
  rename_i sz xs o a cap
  simp only [AVal.upto,uptoL_iff] at hb
  refine .lst hsz hsc hcap hmax hs f (fun j c hj=>⟨(hm j c hj).1,fun q=>(hm j c hj).2 (gren_ownC hr q)⟩) (fun j c hj=>ih j c hj ?_) ?_
  ·have hc:=List.mem_of_getElem? hj
   simp only [cellsAll,List.mem_flatMap] at hc
   obtain⟨x,hx,hc⟩:=hc
   have:=hb.1 x hx
   cases x with
   | agg cs =>
    simp only [AVal.upto,uptoL_iff] at this
    exact this c hc
   | _=>simp only [AVal.cells,List.mem_singleton] at hc;subst hc;exact this
  cases o with
  | sh=>trivial
  | nn=>trivial
  | ex=>exact ho
  | loc a=>exact ho
  | tok id=>exact own_ren hg hr hb.2 ho
 | ip ha hsc f hm _ ih =>
  simp only [AVal.upto,uptoL_iff] at hb
  exact .ip ha hsc f (fun j c hj=>⟨(hm j c hj).1,fun q=>(hm j c hj).2 (gren_ownC hr q)⟩) fun j c hj=>ih j c hj (hb c (List.mem_of_getElem? hj))
 | mp he ho hn =>
  obtain⟨e1,o,o',e2,e3,e4⟩:=gren_low hg hr hb
  rw [ho] at e2
  simp only [Option.some.injEq] at e2
  subst e2
  exact .mp (e1.trans he) e3 fun q=>hn (e4.live.2.1 q)
 | ms he ho hn hc hc' hmax =>
  obtain⟨e1,o,o',e2,e3,e4⟩:=gren_low hg hr hb
  rw [ho] at e2
  simp only [Option.some.injEq] at e2
  subst e2
  exact .ms (e1.trans he) e3 (fun q=>hn (e4.live.2.1 q)) hc hc' hmax
 | os he ho hn hc hc' hmax =>
  obtain⟨e1,o,o',e2,e3,e4⟩:=gren_low hg hr hb
  rw [ho] at e2
  simp only [Option.some.injEq] at e2
  subst e2
  exact .os (e1.trans he) e3 (fun q=>hn (e4.live.2.1 q)) hc hc' hmax
 | raw hnn ho=>exact .raw hnn (own_ren hg hr hb ho)
 | mm he ho hn =>
  obtain⟨e1,o,o',e2,e3,e4⟩:=gren_low hg hr hb
  rw [ho] at e2
  simp only [Option.some.injEq] at e2
  subst e2
  exact .mm (e1.trans he) e3 fun q=>hn (e4.live.2.1 q)
 | im hh hn' hl hk hkt _ ih =>
  simp only [AVal.upto,uptoE_iff] at hb
  exact .im hh (fun off q=>hn' off (gren_ownC hr q)) hl hk hkt fun i e kx a b=>ih i e kx a b (hb kx (List.mem_of_getElem? b))
 | fn hl hl' _ _ ih ih' =>
  simp only [AVal.upto,uptoL_iff] at hb
  exact .fn hl hl' (fun i c u a b=>ih i c u a b (hb.1 c (List.mem_of_getElem? a))) fun i c u a b=>ih' i c u a b (hb.2 c (List.mem_of_getElem? a))
 | tup hl _ ih =>
  simp only [AVal.upto,uptoL_iff] at hb
  exact .tup hl fun i c u a b=>ih i c u a b (hb c (List.mem_of_getElem? a))
theorem pr_ren(hg:Good g)(hr:Ren g.objs O' π k){x y:AVal}{u:Value}(h:RV g x u)(hp:PR π k x y):RV (gren g π O') y u:=by
 cases hp with
 | same hb=>exact rv_ren hg hr h hb
 | os hb =>
  obtain⟨l,o,cap,h1,h2,h3,h4,h5,h6,rfl⟩:=h.os_inv
  obtain⟨o1,o',e1,e2,e3⟩:=hr.obj _ _ hb
  rw [h2] at e1
  simp only [Option.some.injEq] at e1
  subst e1
  exact .os (by rw [gren_env hb,h1];rfl) e2 (fun q=>h3 (e3.live.2.1 q)) h4 h5 h6
theorem good_ren(hg:Good g)(hr:Ren g.objs O' π k):Good (gren g π O') where
 frlt:=hg.frlt
 frown:=fun id l o h1 h2 h3=>by
  obtain⟨a,o1,a1,a2,a3⟩:=gren_at hr h2
  rw [gren_env a1] at h1
  simp only [Option.some.injEq] at h1
  exact hg.frown a l o1 (gren_loc h1) a2 (a3.live.1.1 h3)
 len:=by
  show(π.map _).length=O'.length
  rw [List.length_map,hr.len]
 loc:=fun id l o h1 h2 h3=>by
  obtain⟨a,o1,a1,a2,a3⟩:=gren_at hr h2
  rw [gren_env a1] at h1
  simp only [Option.some.injEq] at h1
  exact hg.loc a l o1 (gren_loc h1) a2 (a3.live.1.1 h3)
 apart:=fun id id' l l' o o' h1 h2 h3 k1 k2 k3 hb=>by
  obtain⟨a,o1,a1,a2,a3⟩:=gren_at hr h2
  obtain⟨b,o2,b1,b2,b3⟩:=gren_at hr k2
  rw [gren_env a1] at h1
  rw [gren_env b1] at k1
  simp only [Option.some.injEq] at h1 k1
  have:=hg.apart a b l l' o1 o2 (gren_loc h1) a2 (a3.live.1.1 h3) (gren_loc k1) b2 (b3.live.1.1 k3) hb
  subst this
  exact hr.inj id id' a a1 b1
 cells:=fun id cs h=>by
  obtain⟨a,o,a1,a2,a3⟩:=gren_at hr h
  cases a3 with
  | same hb =>
   obtain⟨l,arr,t,e1,e0,e2,e3,e4,e5,e6⟩:=hg.cells a cs a2
   simp only [AObj.upto,uptoL_iff] at hb
   exact⟨l,arr,t,by rw [gren_env a1,e1];rfl,e0,e2,e3,fun j c u p q=>rv_ren hg hr (e4 j c u p q) (hb c (List.mem_of_getElem? p)),e5,e6⟩
  | cells hl hs hp =>
   rename_i cs0
   obtain⟨l,arr,t,e1,e0,e2,e3,e4,e5,e6⟩:=hg.cells a cs0 a2
   refine⟨l,arr,t,by rw [gren_env a1,e1];rfl,e0,e2,by omega,fun j c u p q=>?_,hs,e6⟩
   have hj:=lt_of_getElem? p
   have h0:cs0[j]?=some (cs0[j]'(by omega)):=List.getElem?_eq_getElem _
   exact pr_ren hg hr (e4 j _ u h0 q) (hp j _ c h0 p)
 spare:=fun id m l h1 h2=>by
  obtain⟨a,o,a1,a2,a3⟩:=gren_at hr h1
  rw [gren_env a1] at h2
  simp only [Option.some.injEq] at h2
  rw [a3.spare] at a2
  exact hg.spare a m l a2 (gren_loc h2)
 map:=fun id kt es h=>by
  obtain⟨a,o,a1,a2,a3⟩:=gren_at hr h
  cases a3 with
  | same hb =>
   obtain⟨l,arr,clk,e1,e0,e2,e3,e6,e4⟩:=hg.map a kt es a2
   simp only [AObj.upto,uptoE_iff] at hb
   exact⟨l,arr,clk,by rw [gren_env a1,e1];rfl,e0,e2,e3,e6,fun i e kx p q=>⟨(e4 i e kx p q).1,(e4 i e kx p q).2.1,rv_ren hg hr (e4 i e kx p q).2.2 (hb kx (List.mem_of_getElem? q))⟩⟩
theorem le_ren{g0:G}(hg:Good g)(hr:Ren g.objs O' π k)(h:Le g0 g)(hk:g0.objs.length≤k):Le g0 (gren g π O') where
 os:=h.os
 tape:=h.tape
 output:=h.output
 fr:=h.fr
 size:=h.size
 block:=fun i hi hh=>⟨(h.block i hi hh).1,fun q=>(h.block i hi hh).2 (gren_ownB hr q)⟩
 cell:=fun b off x hx hh=>⟨(h.cell b off x hx hh).1,fun q=>(h.cell b off x hx hh).2 (gren_own hr q)⟩
 len:=by
  have:=hr.len
  have:=hr.kle
  show _≤O'.length
  omega
 spare:=fun id m hm=>by
  have hlt:=lt_of_getElem? hm
  obtain⟨_,o,o',e2,e3,e4⟩:=gren_low hg hr (i:=id) (by omega)
  rcases h.spare id m hm with⟨m',q1,q2⟩ | ⟨o2,q1,q2⟩
  ·rw [q1] at e2
   simp only [Option.some.injEq] at e2
   subst e2
   have e5:=e4.spare'
   subst e5
   exact .inl ⟨m',e3,q2⟩
  rw [q1] at e2
  simp only [Option.some.injEq] at e2
  subst e2
  exact .inr ⟨o',e3,fun q=>q2 (e4.live.2.1 q)⟩
 plain:=fun id o ho hs=>by
  have hlt:=lt_of_getElem? ho
  obtain⟨e1,o1,o',e2,e3,e4⟩:=gren_low hg hr (i:=id) (by omega)
  obtain⟨⟨o2,q1,q2⟩,q3⟩:=h.plain id o ho hs
  rw [q1] at e2
  simp only [Option.some.injEq] at e2
  subst e2
  exact⟨⟨o',e3,fun q=>q2 (e4.live.2.1 q)⟩,e1.trans q3⟩
 gone:=fun id ho=>by
  have hlt:=lt_of_getElem? ho
  obtain⟨_,o1,o',e2,e3,e4⟩:=gren_low hg hr (i:=id) (by omega)
  rw [h.gone id ho] at e2
  simp only [Option.some.injEq] at e2
  subst e2
  cases e4 with
  | same=>exact e3
 tok:=fun id m hm hm'=>by
  have hlt:=lt_of_getElem? hm
  obtain⟨e1,o1,o',e2,e3,e4⟩:=gren_low hg hr (i:=id) (by omega)
  have hm2:O'[id]?=some (.spare m):=hm'
  rw [e3] at hm2
  simp only [Option.some.injEq] at hm2
  subst hm2
  rw [e4.spare] at e2
  obtain⟨q1,q2⟩:=h.tok id m hm e2
  exact⟨e1.trans q1,q2⟩
end
def RR(π:List Nat)(k:Nat)(r r':AVal):Prop:=PR π k r r'∨∃cs ds,r=.agg cs∧r'=.agg ds∧ds.length=cs.length∧(∀d∈ds,d.scalar)∧∀(j:Nat) (c d:AVal),cs[j]?=some c→ds[j]?=some d→PR π k c d
theorem ecall_ren{P:Program}{f:FuncId}{O:List AObj}{args:List AVal}{R R':AVal→List AObj→Prop}(h:ECall P f O args R)(hR:∀r O1,R r O1→∃r' O' π,Ren O1 O' π O.length∧RR π O.length r r'∧R' r' O'):ECall P f O args R' :=
 ⟨h.1,fun g vs hg ho ha=>(h.2 g vs hg ho ha).mono fun _ _ ⟨g',v,r,h1,h2,h3,h4,h5,h6⟩=>by
  obtain⟨r',O',π,q1,q2,q3⟩:=hR _ _ h6
  refine⟨gren g' π O',v,r',h1,h2,le_ren h4 q1 h3 (by rw [ho];exact Nat.le_refl _),good_ren h4 q1,?_,q3⟩
  rcases q2 with q | ⟨cs,ds,rfl,rfl,e1,e2,e3⟩
  ·exact pr_ren h4 q1 h5 q
  obtain⟨us,rfl,u1,u2,u3⟩:=h5.agg_inv
  refine .agg (by omega) e2 fun i d u hd hu=>?_
  have hi:=lt_of_getElem? hd
  have hc:cs[i]?=some (cs[i]'(by omega)):=List.getElem?_eq_getElem _
  exact pr_ren h4 q1 (u3 i _ u hc hu) (e3 i _ d hc hd)⟩
end Go.Av
namespace Go.Proofs.Ytkhnjeblbiocaaa
open Go.Av
mutual
def OC.lab:Nat→OC→OC
 | _,.val a=>.val a
 | n,.row _ sz m cs=>.row n sz m (labL (n+1) cs)
def labL:Nat→List OC→List OC
 | _,[]=>[]
 | n,c::r=>c.lab n::labL (n+c.own.length) r
end
mutual
theorem lab_len:∀(n:Nat) (c:OC),(c.lab n).own.length=c.own.length
 | n,.val a=>by unfold OC.lab;rfl
 | n,.row id sz m cs=>by
  rw [OC.lab,OC.own,OC.own,List.length_cons,List.length_cons,labL_len]
theorem labL_len:∀(n:Nat) (cs:List OC),(ownL (labL n cs)).length=(ownL cs).length
 | n,[]=>by rw [labL]
 | n,c::r=>by rw [labL,ownL,ownL,List.length_append,List.length_append,lab_len n c,labL_len _ r]
end
theorem labL_size:∀(n:Nat) (cs:List OC),(labL n cs).length=cs.length
 | n,[]=>by rw [labL]
 | n,c::r=>by rw [labL,List.length_cons,List.length_cons,labL_size]
mutual
theorem lab_ids:∀(n:Nat) (c:OC),(c.lab n).own.map Prod.fst=List.range' n c.own.length
 | n,.val a=>by rw [OC.lab,OC.own];rfl
 | n,.row id sz m cs=>by
  rw [OC.lab,OC.own,OC.own,List.map_cons,List.length_cons,labL_ids,List.range'_succ]
theorem labL_ids:∀(n:Nat) (cs:List OC),(ownL (labL n cs)).map Prod.fst=List.range' n (ownL cs).length
 | n,[]=>by rw [labL,ownL];rfl
 | n,c::r=>by
  rw [labL,ownL,ownL,List.map_append,lab_ids n c,labL_ids _ r,List.length_append,List.range'_append_1]
end
mutual
theorem lab_lab:∀(n m:Nat) (c:OC),(c.lab m).lab n=c.lab n
 | n,m,.val a=>by unfold OC.lab;rfl
 | n,m,.row id sz k cs=>by rw [OC.lab,OC.lab,OC.lab,labL_labL]
theorem labL_labL:∀(n m:Nat) (cs:List OC),labL n (labL m cs)=labL n cs
 | n,m,[]=>by rw [labL]
 | n,m,c::r=>by rw [labL,labL,labL,lab_lab n m c,lab_len,labL_labL]
end
mutual
def OC.fit(k:Nat):OC→Prop
 | .val a=>a.scalar∧a.shareCell=a∧a.upto k
 | .row _ sz n cs=>cs.length=n * sz∧fitL k cs
def fitL(k:Nat):List OC→Prop
 | []=>True
 | c::r=>c.fit k∧fitL k r
end
mutual
theorem fit_wf{k:Nat}:∀{c:OC},c.fit k→c.wf
 | .val a,h=>⟨h.1,h.2.1⟩
 | .row id sz n cs,h=>⟨h.1,fitL_wf h.2⟩
theorem fitL_wf{k:Nat}:∀{cs:List OC},fitL k cs→wfL cs
 | [],_=>trivial
 | c::r,h=>⟨fit_wf h.1,fitL_wf h.2⟩
end
mutual
theorem lab_fit{k:Nat}:∀(n:Nat) {c:OC},c.fit k→(c.lab n).fit k
 | n,.val a,h=>by rw [OC.lab];exact h
 | n,.row id sz m cs,h=>by rw [OC.lab];exact⟨by rw [labL_size];exact h.1,labL_fit _ h.2⟩
theorem labL_fit{k:Nat}:∀(n:Nat) {cs:List OC},fitL k cs→fitL k (labL n cs)
 | n,[],_=>by rw [labL];trivial
 | n,c::r,h=>by rw [labL];exact⟨lab_fit n h.1,labL_fit _ h.2⟩
end
def PRL(π:List Nat)(k:Nat)(cs ds:List AVal):Prop:=ds.length=cs.length∧∀(j:Nat) (c d:AVal),cs[j]?=some c→ds[j]?=some d→PR π k c d
theorem PRL.cons{π:List Nat}{k:Nat}{c d:AVal}{cs ds:List AVal}(h:PR π k c d)(t:PRL π k cs ds):PRL π k (c::cs) (d::ds):=by
 refine⟨by rw [List.length_cons,List.length_cons,t.1],fun j x y hx hy=>?_⟩
 cases j with
 | zero =>
  simp only [List.getElem?_cons_zero,Option.some.injEq] at hx hy
  subst hx hy
  exact h
 | succ j=>exact t.2 j x y (by simpa using hx) (by simpa using hy)
mutual
theorem lab_pr{π:List Nat}{k:Nat}:∀{n:Nat} {c:OC},c.fit k→(∀i a,(c.own.map Prod.fst)[i]?=some a→π[n+i]?=some a) →
  PR π k c.raw (c.lab n).raw∧∀(i:Nat) (p q:Nat×List AVal),c.own[i]?=some p→(c.lab n).own[i]?=some q→PRL π k p.2 q.2
 | n,.val a,h,_=>by
  rw [OC.lab]
  refine⟨.same h.2.2,fun i p q hp _=>?_⟩
  rw [OC.own] at hp
  simp at hp
 | n,.row id sz m cs,h,hπ=>by
  rw [OC.lab]
  have h0:=hπ 0 id (by rw [OC.own];rfl)
  obtain⟨q1,q2⟩:=labL_pr (π:=π) (k:=k) (n:=n+1) (cs:=cs) h.2 fun i a hi=>by
   have:=hπ (i+1) a (by rw [OC.own,List.map_cons,List.getElem?_cons_succ];exact hi)
   rw [show n+1+i=n+(i+1) by omega]
   exact this
  refine⟨.os h0,fun i p q hp hq=>?_⟩
  rw [OC.own] at hp hq
  cases i with
  | zero =>
   simp only [List.getElem?_cons_zero,Option.some.injEq] at hp hq
   subst hp hq
   exact q1
  | succ i=>exact q2 i p q (by simpa using hp) (by simpa using hq)
theorem labL_pr{π:List Nat}{k:Nat}:∀{n:Nat} {cs:List OC},fitL k cs→(∀i a,((ownL cs).map Prod.fst)[i]?=some a→π[n+i]?=some a) →
  PRL π k (cs.map OC.raw) ((labL n cs).map OC.raw)∧∀(i:Nat) (p q:Nat×List AVal),(ownL cs)[i]?=some p→(ownL (labL n cs))[i]?=some q→PRL π k p.2 q.2
 | n,[],_,_=>by
  rw [labL]
  refine⟨⟨rfl,fun j c d hc _=>by simp at hc⟩,fun i p q hp _=>?_⟩
  rw [ownL] at hp
  simp at hp
 | n,c::r,h,hπ=>by
  rw [labL]
  obtain⟨a1,a2⟩:=lab_pr (π:=π) (k:=k) (n:=n) (c:=c) h.1 fun i a hi=>hπ i a (by
   rw [ownL,List.map_append,List.getElem?_append_left (lt_of_getElem? hi)]
   exact hi)
  obtain⟨b1,b2⟩:=labL_pr (π:=π) (k:=k) (n:=n+c.own.length) (cs:=r) h.2 fun i a hi=>by
   have:=hπ (c.own.length+i) a (by
    rw [ownL,List.map_append,List.getElem?_append_right (by rw [List.length_map];omega),List.length_map,show c.own.length+i - c.own.length=i by omega]
    exact hi)
   rw [show n+c.own.length+i=n+(c.own.length+i) by omega]
   exact this
  refine⟨PRL.cons a1 b1,fun i p q hp hq=>?_⟩
  rw [ownL] at hp hq
  by_cases hi:i<c.own.length
  ·rw [List.getElem?_append_left hi] at hp
   rw [List.getElem?_append_left (by rw [lab_len];exact hi)] at hq
   exact a2 i p q hp hq
  rw [List.getElem?_append_right (by omega)] at hp
  rw [List.getElem?_append_right (by rw [lab_len];omega),lab_len] at hq
  exact b2 _ p q hp hq
end
def objL(cs:List OC):List AObj:=(ownL cs).map fun p=>.cells p.2
theorem objL_len(cs:List OC):(objL cs).length=(ownL cs).length:=List.length_map ..
mutual
theorem own_scalar{k:Nat}:∀{c:OC},c.fit k→∀p∈c.own,∀d∈p.2,d.scalar
 | .val a,_,p,hp=>by rw [OC.own] at hp;cases hp
 | .row id sz n cs,h,p,hp=>by
  rw [OC.own] at hp
  rcases List.mem_cons.1 hp with q | q
  ·subst q
   intro d hd
   obtain⟨c,hc,rfl⟩:=List.mem_map.1 hd
   exact raw_scalar ((wfL_iff cs).1 (fitL_wf h.2) c hc)
  exact ownL_scalar h.2 p q
theorem ownL_scalar{k:Nat}:∀{cs:List OC},fitL k cs→∀p∈ownL cs,∀d∈p.2,d.scalar
 | [],_,p,hp=>by rw [ownL] at hp;cases hp
 | c::r,h,p,hp=>by
  rw [ownL] at hp
  rcases List.mem_append.1 hp with q | q
  ·exact own_scalar h.1 p q
  exact ownL_scalar h.2 p q
end
theorem ecall_tree{P:Program}{f:FuncId}{O:List AObj}{args:List AVal}{ts:List OC}(hf:fitL O.length ts)(hup:∀o∈O,o.upto O.length)
  (h:ECall P f O args fun r O1=>∃cs,r=.agg (cs.map OC.raw)∧labL 0 cs=labL 0 ts∧fitL O.length cs∧(∀i,i<O.length→O1[i]?=O[i]?)∧Owns O1 (ownL cs)∧((ownL cs).map Prod.fst).Nodup∧∀p∈ownL cs,O.length≤p.1) :
  ECall P f O args fun r O1=>r=.agg ((labL O.length ts).map OC.raw)∧O1=O++objL (labL O.length ts):=by
 refine ecall_ren h fun r O1 hR=>?_
 obtain⟨cs,hr,hl,hfc,hk,ho,hn,hlo⟩:=hR
 have hlab:labL O.length cs=labL O.length ts:=by rw [←labL_labL O.length 0 cs,hl,labL_labL]
 have hlen:(ownL cs).length=(ownL ts).length:=by rw [←labL_len 0 cs,hl,labL_len]
 obtain⟨π,hπ⟩:∃π,π=List.range O.length++(ownL cs).map Prod.fst:=⟨_,rfl⟩
 have hp0:∀i:Nat,i<O.length→π[i]?=some i:=fun i hi=>by
  rw [hπ,List.getElem?_append_left (by simpa using hi),List.getElem?_range hi]
 have hpe:∀i a,((ownL cs).map Prod.fst)[i]?=some a→π[O.length+i]?=some a:=fun i a hi=>by
  rw [hπ,List.getElem?_append_right (by simp),List.length_range,show O.length+i - O.length=i by omega]
  exact hi
 have hpl:π.length=O.length+(ownL cs).length:=by rw [hπ,List.length_append,List.length_range,List.length_map]
 have hcase:∀(i a:Nat),π[i]?=some a→(i<O.length∧a=i)∨(O.length≤i∧((ownL cs).map Prod.fst)[i - O.length]?=some a):=fun i a h=>by
  by_cases hi:i<O.length
  ·rw [hp0 i hi] at h
   simp only [Option.some.injEq] at h
   exact .inl ⟨hi,h.symm⟩
  refine .inr ⟨by omega,?_⟩
  rw [hπ,List.getElem?_append_right (by simp;omega),List.length_range] at h
  exact h
 have hge:∀(i a:Nat),((ownL cs).map Prod.fst)[i]?=some a→O.length≤a:=fun i a hi=>by
  obtain⟨p,hp,rfl⟩:=List.mem_map.1 (List.mem_of_getElem? hi)
  exact hlo p hp
 obtain⟨q1,q2⟩:=labL_pr (π:=π) (k:=O.length) (n:=O.length) (cs:=cs) hfc hpe
 have hfs:=labL_fit O.length hfc
 rw [hlab] at q1 q2 hfs
 refine⟨.agg ((labL O.length ts).map OC.raw),O++objL (labL O.length ts),π,⟨?_,by omega,hp0,fun i j a h1 h2=>?_,fun i a h=>?_⟩,.inr ⟨_,_,hr,rfl,q1.1,fun d hd=>?_,q1.2⟩,rfl,rfl⟩
 ·rw [List.length_append,objL_len,labL_len,hpl,hlen]
 ·rcases hcase i a h1 with⟨p1,p2⟩ | ⟨p1,p2⟩<;>rcases hcase j a h2 with⟨r1,r2⟩ | ⟨r1,r2⟩
  ·omega
  ·have:=hge _ _ r2
   omega
  ·have:=hge _ _ p2
   omega
  obtain⟨e1,f1⟩:=List.getElem?_eq_some_iff.1 p2
  obtain⟨e2,f2⟩:=List.getElem?_eq_some_iff.1 r2
  have hpw:=List.pairwise_iff_getElem.1 hn
  refine Classical.byContradiction fun z=>?_
  rcases Nat.lt_or_gt_of_ne (show i - O.length≠j - O.length by omega) with y | y
  ·exact hpw _ _ e1 e2 y (f1.trans f2.symm)
  exact hpw _ _ e2 e1 y (f2.trans f1.symm)
 ·rcases hcase i a h with⟨p1,p2⟩ | ⟨p1,p2⟩
  ·subst p2
   have ho:O[a]?=some (O[a]'p1):=List.getElem?_eq_getElem _
   exact⟨_,_,by rw [hk a p1,ho],by rw [List.getElem?_append_left p1,ho],.same (hup _ (List.getElem_mem _))⟩
  rw [List.getElem?_map,Option.map_eq_some_iff] at p2
  obtain⟨p,p3,rfl⟩:=p2
  have hil:=lt_of_getElem? p3
  have hq:(ownL (labL O.length ts))[i - O.length]?=some ((ownL (labL O.length ts))[i - O.length]'(by rw [labL_len];omega)):=List.getElem?_eq_getElem _
  generalize (ownL (labL O.length ts))[i - O.length]'(by rw [labL_len];omega)=q at hq
  refine⟨_,.cells q.2,ho p (List.mem_of_getElem? p3),?_,?_⟩
  ·rw [List.getElem?_append_right p1]
   unfold objL
   rw [List.getElem?_map,hq]
   rfl
  have hpr:=q2 _ p q p3 hq
  exact .cells hpr.1 (ownL_scalar hfs q (List.mem_of_getElem? hq)) hpr.2
 obtain⟨c,hc,rfl⟩:=List.mem_map.1 hd
 exact raw_scalar ((wfL_iff _).1 (fitL_wf hfs) c hc)
end Go.Proofs.Ytkhnjeblbiocaaa
namespace Go.Av

end Go.Av
namespace Go.Proofs.Ytkhnjeblbiocaaa
open Go.Av
theorem splice_one{cs:List AVal}{j:Nat}(x:AVal)(h:j<cs.length):splice cs j [x]=cs.set j x:=by
 apply List.ext_getElem?
 intro i
 rw [splice_get (by simp;omega),List.getElem?_set]
 simp only [List.length_cons,List.length_nil,Nat.zero_add]
 by_cases e:j=i
 ·subst e
  simp [h]
 rw [if_neg (by omega),if_neg e]
theorem to_few{f:Func}{t:Term}(hend:EndW f t):t.to.length≤257:=by
 rcases (show(t.kind=0∨t.kind=4)∨t.kind=1∨t.kind=2∨t.kind=3 by have:=hend.kind;omega) with q | q | q | q
 ·rw [hend.to q];simp
 ·rw [hend.jump q];omega
 ·rw [hend.cond q];omega
 rw [hend.switch q];have:=hend.cases;omega
def blkVals(b:Block):List Int:=b.params++b.ins.map Ins.to
def valsF(f:Func):List Int:=f.blocks.flatMap blkVals
def ValsW(f:Func):Prop:=∀v∈valsF f,0≤v∧v≤4095
def parDefs(k:Int)(l:List Int):Defs:=l.map fun p=>(p,(k,0))
def insDefs(k:Int):Int→List Ins→Defs
 | _,[]=>[]
 | n,i::r=>(i.to,(k,n+1))::insDefs k (n+1) r
def blkDefs(k:Int)(b:Block):Defs:=parDefs k b.params++insDefs k 0 b.ins
def allDefs:Int→List Block→Defs
 | _,[]=>[]
 | k,b::r=>blkDefs k b++allDefs (k+1) r
theorem defineM_eq{ds:Defs}{v:Int}{p:Int×Int}(h:(defineM ds v p).1=0):(defineM ds v p).2=ds++[(v,p)]:=by
 unfold defineM at h ⊢
 split at h
 ·simp at h
 rename_i h1
 rw [if_neg h1]
 split at h
 ·simp at h
 rename_i h2
 rw [if_neg h2]
theorem paramsM_eq(k:Int):∀(l:List Int) (ds:Defs),(paramsM k ds l).1=0→(paramsM k ds l).2=ds++parDefs k l
 | [],ds,_=>by simp [paramsM,parDefs]
 | p::r,ds,h=>by
  simp only [paramsM] at h ⊢
  split at h
  ·rename_i hne
   exact absurd h hne
  rename_i he
  rw [if_neg he,paramsM_eq k r _ h,defineM_eq (by simpa using he)]
  simp [parDefs]
theorem insM_eq(k:Int):∀(l:List Ins) (n:Int) (ds:Defs),(insM k n ds l).1=0→(insM k n ds l).2=ds++insDefs k n l
 | [],n,ds,_=>by simp [insM,insDefs]
 | i::r,n,ds,h=>by
  simp only [insM] at h ⊢
  split at h
  ·rename_i hne
   exact absurd h hne
  rename_i he
  split at h
  ·rename_i hf
   exact absurd h hf
  rename_i hf
  rw [if_neg he,if_neg hf,insM_eq k r _ _ h,defineM_eq (by simpa using he)]
  simp [insDefs]
theorem blockM_eq{f:Func}{ds:Defs}{k:Int}(h:(blockM f ds k).1=0):(blockM f ds k).2=ds++blkDefs k (blkOf f k):=by
 unfold blockM at h ⊢
 split at h
 ·rename_i hne
  exact absurd h hne
 rename_i hp
 split at h
 ·rename_i hne
  exact absurd h hne
 rename_i hi
 rw [if_neg hp,if_neg hi]
 simp only
 rw [insM_eq k _ _ _ (by simpa using hi),paramsM_eq k _ _ (by simpa using hp),blkDefs,List.append_assoc]
theorem blocksM_eq{f:Func}:∀(n k:Nat) (ds:Defs),k+n=f.blocks.length→(blocksM f n k ds).1=0→(blocksM f n k ds).2=ds++allDefs k (f.blocks.drop k)
 | 0,k,ds,hk,_=>by
  rw [List.drop_of_length_le (by omega)]
  simp [blocksM,allDefs]
 | n+1,k,ds,hk,h=>by
  simp only [blocksM] at h ⊢
  split at h
  ·rename_i hne
   exact absurd h hne
  rename_i he
  rw [if_neg he]
  have hb:f.blocks[k]?=some f.blocks[k]:=List.getElem?_eq_getElem (by omega)
  have ih:=blocksM_eq n (k+1) (blockM f ds k).2 (by omega) h
  have e:((k+1:Nat):Int)=(k:Int)+1:=by omega
  rw [e] at ih
  rw [ih,blockM_eq (by simpa using he),drop_at hb,allDefs,List.append_assoc]
  congr 3
  simp [blkOf,hb]
def dsF(f:Func):Defs:=allDefs 0 f.blocks
theorem FnW.ds{f:Func}(hfit:f.fit)(h:checkFuncM f=0):(blocksM f f.blocks.length 0 []).2=dsF f∧DefsW f.blocks.length (dsF f):=by
 have he:(blocksM f f.blocks.length 0 []).1=0:=by
  unfold checkFuncM at h
  split at h
  ·simp at h
  split at h
  ·simp at h
  split at h
  ·simp at h
  split at h
  ·rename_i h4
   exact absurd h h4
  rename_i h4
  simpa using h4
 have e:=blocksM_eq f.blocks.length 0 [] (by omega) he
 rw [List.drop_zero,List.nil_append] at e
 have hw:=(blocksM_ok f.blocks.length 0 [] (.nil _) (by omega) (by simp) he).1
 have e':(blocksM f f.blocks.length 0 []).2=dsF f:=e
 rw [e'] at hw
 exact⟨e',hw⟩
theorem lookD_mem{ds:Defs}(hn:(ds.map (·.1)).Nodup){v:Int}{p:Int×Int}:lookD ds v=some p↔(v,p)∈ds:=by
 induction ds with
 | nil=>simp [lookD]
 | cons e r ih =>
  obtain⟨a,q⟩:=e
  simp only [List.map_cons,List.nodup_cons,List.mem_map,not_exists,not_and] at hn
  have ih:=ih hn.2
  simp only [lookD,List.mem_cons,Prod.mk.injEq]
  by_cases h:a=v
  ·subst h
   rw [if_pos rfl]
   constructor
   ·intro h
    simp only [Option.some.injEq] at h
    exact .inl ⟨rfl,h.symm⟩
   rintro(⟨_,h⟩ | h)
   ·rw [h]
   exact absurd rfl (hn.1 _ h)
  rw [if_neg h,ih]
  constructor
  ·exact .inr
  rintro(⟨h1,_⟩ | h1)
  ·exact absurd h1.symm h
  exact h1
theorem mem_insDefs{k:Int}{v:Int}{p:Int×Int}:∀(l:List Ins) (n:Int),(v,p)∈insDefs k n l↔∃(j:Nat) (i:Ins),l[j]?=some i∧i.to=v∧p=(k,n+j+1)
 | [],n=>by simp [insDefs]
 | i::r,n=>by
  simp only [insDefs,List.mem_cons,Prod.mk.injEq]
  rw [mem_insDefs r (n+1)]
  constructor
  ·rintro(⟨h1,h2⟩ | ⟨j,x,h1,h2,h3⟩)
   ·exact⟨0,i,rfl,h1.symm,by simpa using h2⟩
   exact⟨j+1,x,h1,h2,by rw [h3];congr 1;omega⟩
  rintro⟨j,x,h1,h2,h3⟩
  cases j with
  | zero =>
   simp only [List.getElem?_cons_zero,Option.some.injEq] at h1
   subst h1
   exact .inl ⟨h2.symm,by simpa using h3⟩
  | succ j=>exact .inr ⟨j,x,h1,h2,by rw [h3];congr 1;omega⟩
theorem mem_allDefs{v:Int}{p:Int×Int}:∀(l:List Block) (k:Int),(v,p)∈allDefs k l↔∃(j:Nat) (b:Block),l[j]?=some b∧(v,p)∈blkDefs (k+j) b
 | [],k=>by simp [allDefs]
 | b::r,k=>by
  rw [allDefs,List.mem_append,mem_allDefs r (k+1)]
  constructor
  ·rintro(h | ⟨j,x,h1,h2⟩)
   ·exact⟨0,b,rfl,by simpa using h⟩
   exact⟨j+1,x,h1,by rw [show k+((j+1:Nat):Int)=k+1+j by omega];exact h2⟩
  rintro⟨j,x,h1,h2⟩
  cases j with
  | zero =>
   simp only [List.getElem?_cons_zero,Option.some.injEq] at h1
   subst h1
   exact .inl (by simpa using h2)
  | succ j=>exact .inr ⟨j,x,h1,by rw [show k+((j+1:Nat):Int)=k+1+j by omega] at h2;exact h2⟩
def DefAt(f:Func)(v:Int)(p:Int×Int):Prop:=∃(k:Nat) (b:Block),f.blocks[k]?=some b∧p.1=k∧((p.2=0∧v∈b.params)∨∃(j:Nat) (i:Ins),b.ins[j]?=some i∧i.to=v∧p.2=j+1)
theorem mem_dsF{f:Func}{v:Int}{p:Int×Int}:(v,p)∈dsF f↔DefAt f v p:=by
 obtain⟨p1,p2⟩:=p
 rw [dsF,mem_allDefs]
 constructor
 ·rintro⟨k,b,h1,h2⟩
  rw [blkDefs,List.mem_append] at h2
  rcases h2 with h2 | h2
  ·simp only [parDefs,List.mem_map,Prod.mk.injEq] at h2
   obtain⟨x,h3,h4,h5,h6⟩:=h2
   subst h4
   exact⟨k,b,h1,by simp only;omega,.inl ⟨h6.symm,h3⟩⟩
  obtain⟨j,i,h3,h4,h5⟩:=(mem_insDefs _ _).1 h2
  simp only [Prod.mk.injEq] at h5
  exact⟨k,b,h1,by simp only;omega,.inr ⟨j,i,h3,h4,by simp only;omega⟩⟩
 rintro⟨k,b,h1,h2,h3⟩
 simp only at h2 h3
 subst h2
 refine⟨k,b,h1,?_⟩
 rw [blkDefs,List.mem_append]
 rcases h3 with⟨h3,h4⟩ | ⟨j,i,h3,h4,h5⟩
 ·subst h3
  exact .inl (by simpa [parDefs] using h4)
 exact .inr ((mem_insDefs _ _).2 ⟨j,i,h3,h4,by subst h5;simp⟩)
theorem insDefs_fst(k:Int):∀(l:List Ins) (n:Int),(insDefs k n l).map (·.1)=l.map Ins.to
 | [],_=>rfl
 | i::r,n=>by rw [insDefs,List.map_cons,insDefs_fst k r,List.map_cons]
theorem allDefs_fst:∀(l:List Block) (k:Int),(allDefs k l).map (·.1)=l.flatMap blkVals
 | [],_=>rfl
 | b::r,k=>by
  rw [allDefs,List.map_append,allDefs_fst r,List.flatMap_cons,blkDefs,List.map_append,insDefs_fst,blkVals,parDefs,List.map_map]
  congr 2
  exact List.map_id' _
theorem dsF_fst(f:Func):(dsF f).map (·.1)=valsF f:=allDefs_fst _ _
theorem domE_again{k:Nat}{S:Ds}{e:Edge}(h:(domE k S e).again=false):domE k S e=S∧((S.at_ e.block.toNat).meet (S.at_ k)).add e.block.toNat=S.at_ e.block.toNat∧S.seen.has e.block.toNat=true:=by
 unfold domE at h ⊢
 simp only at h ⊢
 split at h
 ·cases h
 rename_i hc
 rw [if_neg hc]
 simp only [ne_eq,not_or,Decidable.not_not,Bool.not_eq_false] at hc
 exact⟨rfl,hc⟩
theorem domF_again{k:Nat}:∀(l:List Edge) {S:Ds},(l.foldl (domE k) S).again=false→l.foldl (domE k) S=S∧∀e∈l,((S.at_ e.block.toNat).meet (S.at_ k)).add e.block.toNat=S.at_ e.block.toNat∧S.seen.has e.block.toNat=true
 | [],S,_=>⟨rfl,by simp⟩
 | e::r,S,h=>by
  rw [List.foldl_cons] at h
  have ih:=domF_again r h
  rw [ih.1] at h
  have h1:=domE_again h
  rw [List.foldl_cons,ih.1,h1.1]
  rw [h1.1] at ih
  refine⟨rfl,fun x hx=>?_⟩
  rcases List.mem_cons.1 hx with q | q
  ·subst q
   exact h1.2
  exact ih.2 x q
theorem domR_again:∀(l:List Block) (k:Nat) {S:Ds},(domR k S l).again=false→domR k S l=S∧∀(j:Nat) b,l[j]?=some b→S.seen.has (k+j)=true→∀e∈b.term.to,((S.at_ e.block.toNat).meet (S.at_ (k+j))).add e.block.toNat=S.at_ e.block.toNat∧S.seen.has e.block.toNat=true
 | [],k,S,_=>⟨rfl,fun j b h=>by simp at h⟩
 | b::r,k,S,h=>by
  rw [domR] at h
  have ih:=domR_again r (k+1) h
  rw [ih.1] at h
  have h1:domB k S b=S∧(S.seen.has k=true→∀e∈b.term.to,((S.at_ e.block.toNat).meet (S.at_ k)).add e.block.toNat=S.at_ e.block.toNat∧S.seen.has e.block.toNat=true):=by
   unfold domB at h ⊢
   split
   ·rename_i hs
    exact⟨rfl,fun q=>by rw [hs] at q;cases q⟩
   rename_i hs
   rw [if_neg hs] at h
   have:=domF_again _ h
   exact⟨this.1,fun _=>this.2⟩
  rw [domR,ih.1,h1.1]
  rw [h1.1] at ih
  refine⟨rfl,fun j x hj hs=>?_⟩
  cases j with
  | zero =>
   simp only [List.getElem?_cons_zero,Option.some.injEq] at hj
   subst hj
   exact h1.2 hs
  | succ j =>
   rw [show k+(j+1)=k+1+j by omega] at hs ⊢
   exact ih.2 j x hj hs
theorem domI_ends{f:Func}(he:∀b∈f.blocks,∀e∈b.term.to,0≤e.block∧e.block.toNat<f.blocks.length):∀(n:Nat) {S:Ds},DsOK f.blocks.length S→(S.again=true→S.weight<n)→(domI f n S).again=false
 | 0,S,_,h=>by
  cases hs:S.again with
  | false=>exact hs
  | true=>exact absurd (h hs) (by omega)
 | n+1,S,hS,h=>by
  simp only [domI]
  split
  ·rename_i ha
   have hw:=h ha
   have hr:=domR_ok f.blocks (k:=0) (S:=⟨S.over,S.seen,false⟩) ⟨hS.few,hS.len,hS.fit,hS.seen,hS.self⟩ he
   have hwS:(⟨S.over,S.seen,false⟩:Ds).weight=S.weight:=rfl
   refine domI_ends he n hr.1 fun q=>?_
   rcases hr.2.2 q with q | q
   ·cases q
   omega
  rename_i ha
  simpa using ha
structure Dz(S:Ds):Prop where
 zero:S.at_ 0=Bs.none.add 0
 seen:S.seen.has 0=true
theorem domE_z{n k:Nat}{S:Ds}(h:Dz S){e:Edge}(h1:1≤e.block)(h2:e.block.toNat<n)(h3:n≤128):Dz (domE k S e):=by
 unfold domE
 simp only
 split
 ·refine⟨?_,?_⟩
  ·have:=h.zero
   unfold Ds.at_ at this ⊢
   simp only
   rw [List.getElem?_set_ne (by omega)]
   exact this
  simp only
  rw [Bs.has_add _ _ _ (by omega) (by omega),h.seen]
  rfl
 exact h
theorem domF_z{n k:Nat}(h3:n≤128):∀(l:List Edge) {S:Ds},Dz S→(∀e∈l,1≤e.block∧e.block.toNat<n)→Dz (l.foldl (domE k) S)
 | [],_,h,_=>h
 | e::r,S,h,he=>domF_z h3 r (domE_z h (he e (by simp)).1 (he e (by simp)).2 h3) fun x hx=>he x (by simp [hx])
theorem domR_z{n:Nat}(h3:n≤128):∀(l:List Block) {k:Nat} {S:Ds},Dz S→(∀b∈l,∀e∈b.term.to,1≤e.block∧e.block.toNat<n)→Dz (domR k S l)
 | [],_,_,h,_=>h
 | b::r,k,S,h,he=>by
  refine domR_z h3 r (k:=k+1) ?_ fun x hx=>he x (by simp [hx])
  unfold domB
  split
  ·exact h
  exact domF_z h3 _ h (he b (by simp))
theorem domI_z{f:Func}(h3:f.blocks.length≤128)(he:∀b∈f.blocks,∀e∈b.term.to,1≤e.block∧e.block.toNat<f.blocks.length):∀(n:Nat) {S:Ds},Dz S→Dz (domI f n S)
 | 0,_,h=>h
 | n+1,S,h=>by
  simp only [domI]
  split
  ·exact domI_z h3 he n (domR_z h3 _ (S:=⟨S.over,S.seen,false⟩) ⟨h.zero,h.seen⟩ he)
  exact h
theorem domI_last{f:Func}:∀(n:Nat) {S:Ds},S.again=true→(domI f n S).again=false→∃T:Ds,domI f n S=domR 0 T f.blocks
 | 0,S,h1,h2=>by
  rw [domI,h1] at h2
  cases h2
 | n+1,S,h1,h2=>by
  simp only [domI,h1,if_true] at h2 ⊢
  cases hr:(domR 0 ⟨S.over,S.seen,false⟩ f.blocks).again with
  | false=>exact⟨_,domI_done hr n⟩
  | true=>exact domI_last n hr h2
def overF(f:Func)(k:Nat):Bs:=(domM f).1[k]?.getD .none
def seenF(f:Func)(k:Nat):Bool:=(domM f).2.has k
structure DomW(f:Func):Prop where
 seen:seenF f 0=true
 zero:∀j,j<128→((overF f 0).has j=true↔j=0)
 self:∀k,k<f.blocks.length→(overF f k).has k=true
 step:∀(k:Nat) b,f.blocks[k]?=some b→seenF f k=true→∀e∈b.term.to,seenF f e.block.toNat=true∧∀j,j<128→((overF f e.block.toNat).has j=true→j=e.block.toNat∨(overF f k).has j=true)
theorem domM_w{f:Func}(h0:f.blocks≠[])(h1:f.blocks.length≤128)(he:∀b∈f.blocks,∀e∈b.term.to,1≤e.block∧e.block<f.blocks.length):DomW f:=by
 have he':∀b∈f.blocks,∀e∈b.term.to,0≤e.block∧e.block.toNat<f.blocks.length:=fun b hb e hx=>by have:=he b hb e hx;omega
 have he1:∀b∈f.blocks,∀e∈b.term.to,1≤e.block∧e.block.toNat<f.blocks.length:=fun b hb e hx=>by have:=he b hb e hx;omega
 have hl:=List.length_pos_iff.2 h0
 have hS:=domS_ok h0 h1
 have hw0:=weight_le hS
 have hz0:Dz (domS f):=⟨by unfold Ds.at_ domS;simp only;rw [List.getElem?_set_self (by simpa using hl)];rfl,by show(Bs.none.add 0).has 0=true;decide⟩
 have hend:=domI_ends he' 20000 hS (fun _=>by omega)
 have hz:=domI_z h1 he1 20000 hz0
 obtain⟨T,hT⟩:=domI_last 20000 rfl hend
 have hok:DsOK f.blocks.length (domI f 20000 (domS f)):=by
  have key:∀(n:Nat) (S:Ds),DsOK f.blocks.length S→DsOK f.blocks.length (domI f n S):=fun n=>by
   induction n with
   | zero=>exact fun S h=>h
   | succ n ih =>
    intro S h
    simp only [domI]
    split
    ·exact ih _ (domR_ok f.blocks (k:=0) (S:=⟨S.over,S.seen,false⟩) ⟨h.few,h.len,h.fit,h.seen,h.self⟩ he').1
    exact h
  exact key _ _ hS
 have hTa:=domR_again f.blocks 0 (S:=T) (by rw [←hT];exact hend)
 have hfix:=hTa.2
 rw [show T=domI f 20000 (domS f) from hTa.1.symm.trans hT.symm] at hfix
 have hov:∀k,overF f k=(domI f 20000 (domS f)).at_ k:=fun k=>rfl
 have hse:∀k,seenF f k=(domI f 20000 (domS f)).seen.has k:=fun k=>rfl
 generalize domI f 20000 (domS f)=S at *
 refine⟨by rw [hse,hz.seen],fun j hj=>?_,fun k hk=>by rw [hov];exact hok.self k hk,fun k b hb hs e hx=>?_⟩
 ·rw [hov,hz.zero,Bs.has_add _ _ _ (by omega) hj]
  have:Bs.none.has j=false:=by unfold Bs.has Bs.none;simp
  simp [this]
 have hb1:=he1 b (List.mem_of_getElem? hb) e hx
 obtain⟨q1,q2⟩:=hfix k b hb (by rw [Nat.zero_add,←hse];exact hs) e hx
 rw [Nat.zero_add] at q1
 refine⟨by rw [hse];exact q2,fun j hj q=>?_⟩
 rw [hov,←q1,Bs.has_add _ _ _ (by omega) hj,Bs.has_meet] at q
 rw [hov]
 simp only [Bool.or_eq_true,Bool.and_eq_true,decide_eq_true_eq] at q
 rcases q with q | q
 ·exact .inr q.2
 exact .inl q
theorem lookD_some{ds:Defs}{v:Int}{p:Int×Int}(h:lookD ds v=some p):(v,p)∈ds:=by
 induction ds with
 | nil=>cases h
 | cons e r ih =>
  obtain⟨a,q⟩:=e
  simp only [lookD] at h
  split at h
  ·rename_i e
   simp only [Option.some.injEq] at h
   rw [e,h]
   simp
  exact List.mem_cons.2 (.inr (ih h))
def Fine(f:Func)(k:Nat)(n:Int)(v:Int):Prop:=∃p,DefAt f v p∧(seenF f k=true→(p.1=k∧p.2≤n)∨(p.1≠k∧(overF f k).has p.1.toNat=true))
theorem fine_of{f:Func}{k:Nat}{n v:Int}(h:fineM (dsF f) (domM f).1 (domM f).2 k n v=true):Fine f k n v:=by
 unfold fineM at h
 cases hl:lookD (dsF f) v with
 | none=>rw [hl] at h;cases h
 | some p =>
  rw [hl] at h
  refine⟨p,mem_dsF.1 (lookD_some hl),fun hs=>?_⟩
  have hs':(domM f).2.has k=true:=hs
  simp only [hs',Bool.not_true,Bool.or_false,Bool.or_eq_true,Bool.and_eq_true,decide_eq_true_eq,Bool.not_eq_true',decide_eq_false_iff_not] at h
  exact h
structure UsesW(f:Func):Prop where
 ins:∀(k:Nat) b,f.blocks[k]?=some b→∀(n:Nat) i,b.ins[n]?=some i→∀a∈i.args,Fine f k n a
 arg:∀(k:Nat) b,f.blocks[k]?=some b→b.term.kind≠1→b.term.kind≠4→Fine f k b.ins.length b.term.arg
 args:∀(k:Nat) b,f.blocks[k]?=some b→∀e∈b.term.to,∀a∈e.args,Fine f k b.ins.length a
theorem insUses_all{ds:Defs}{over:List Bs}{seen:Bs}{k:Nat}:∀(l:List Ins) (n:Nat),insUses ds over seen k n l=true→∀(j:Nat) i,l[j]?=some i→∀a∈i.args,fineM ds over seen k ((n+j:Nat):Int) a=true
 | [],_,_=>fun j i h=>by simp at h
 | x::r,n,h=>fun j i hj a ha=>by
  simp only [insUses,Bool.and_eq_true,List.all_eq_true] at h
  cases j with
  | zero =>
   simp only [List.getElem?_cons_zero,Option.some.injEq] at hj
   subst hj
   exact h.1 a ha
  | succ j =>
   rw [show n+(j+1)=n+1+j by omega]
   exact insUses_all r (n+1) h.2 j i hj a ha
theorem allUses_all{ds:Defs}{over:List Bs}{seen:Bs}:∀(l:List Block) (k:Nat),allUses ds over seen k l=true→∀(j:Nat) b,l[j]?=some b→blkUses ds over seen (k+j) b=true
 | [],_,_=>fun j i h=>by simp at h
 | x::r,k,h=>fun j b hj=>by
  simp only [allUses,Bool.and_eq_true] at h
  cases j with
  | zero =>
   simp only [List.getElem?_cons_zero,Option.some.injEq] at hj
   subst hj
   exact h.1
  | succ j =>
   rw [show k+(j+1)=k+1+j by omega]
   exact allUses_all r (k+1) h.2 j b hj
theorem uses_w{f:Func}(h:usesM f (dsF f)=0):UsesW f:=by
 have ha:allUses (dsF f) (domM f).1 (domM f).2 0 f.blocks=true:=by
  unfold usesM at h
  split at h
  ·assumption
  simp at h
 have hb:∀(k:Nat) b,f.blocks[k]?=some b→blkUses (dsF f) (domM f).1 (domM f).2 k b=true:=fun k b hk=>by
  have:=allUses_all f.blocks 0 ha k b hk
  rwa [Nat.zero_add] at this
 have hu:∀(k:Nat) b,f.blocks[k]?=some b→usedM b.term (fineM (dsF f) (domM f).1 (domM f).2 k b.ins.length)=true:=fun k b hk=>by
  have:=hb k b hk
  simp only [blkUses,Bool.and_eq_true] at this
  exact this.2
 refine⟨fun k b hk n i hn a ha=>?_,fun k b hk h1 h4=>?_,fun k b hk e he a ha=>?_⟩
 ·have:=hb k b hk
  simp only [blkUses,Bool.and_eq_true] at this
  have:=insUses_all b.ins 0 this.1 n i hn a ha
  rw [Nat.zero_add] at this
  exact fine_of this
 ·have:=hu k b hk
  simp only [usedM,Bool.and_eq_true,Bool.or_eq_true,decide_eq_true_eq,h1,h4,false_or] at this
  exact fine_of this.1
 have:=hu k b hk
 simp only [usedM,Bool.and_eq_true,List.all_eq_true] at this
 exact fine_of (this.2 e he a ha)
structure FnV(f:Func):Prop where
 fn:FnW f
 dom:DomW f
 uses:UsesW f
 vals:ValsW f
 nodup:(valsF f).Nodup
 edges:∀b∈f.blocks,∀e∈b.term.to,1≤e.block∧e.block<f.blocks.length
theorem checkFunc_v{f:Func}(hfit:f.fit)(h:checkFuncM f=0):FnV f:=by
 have hw:=checkFunc_ok hfit h
 obtain⟨hd,hdw⟩:=FnW.ds hfit h
 have he:∀b∈f.blocks,∀e∈b.term.to,1≤e.block∧e.block<f.blocks.length:=fun b hb e hx=>by
  have:=((end_ok (hw.blk b hb).fin).edges e hx).1
  omega
 refine⟨hw,domM_w hw.ne hw.few he,uses_w (by rw [←hd];exact hw.uses),fun v hv=>?_,?_,he⟩
 ·rw [←dsF_fst] at hv
  obtain⟨e,h1,rfl⟩:=List.mem_map.1 hv
  exact hdw.range e h1
 rw [←dsF_fst]
 exact hdw.nodup

theorem cellsAll_v(x:Value):cellsAll [AVal.v x]=[AVal.v x]:=rfl
theorem cells_os'(id len sz:Nat):(AVal.os id len sz).cells=[AVal.os id len sz]:=rfl
end Go.Proofs.Ytkhnjeblbiocaaa
namespace Go.Av

end Go.Av
namespace Go.Proofs.Ytkhnjeblbiocaaa
open Go.Av

structure GrW(f:Func):Prop where
 ne:f.blocks≠[]
 few:f.blocks.length≤128
 to:∀b∈f.blocks,b.term.to.length≤257
 edges:∀b∈f.blocks,∀e∈b.term.to,1≤e.block∧e.block<f.blocks.length
theorem FnW.gr{f:Func}(h:FnW f):GrW f :=
 ⟨h.ne,h.few,fun b hb=>to_few (end_ok (h.blk b hb).fin),fun b hb e he=>by
  have:=((end_ok (h.blk b hb).fin).edges e he).1
  omega⟩
structure SmW(f:Func):Prop where
 few:f.blocks.length≤128
 params:∀b∈f.blocks,b.params.length≤4096
 ins:∀b∈f.blocks,b.ins.length≤1024
 iargs:∀b∈f.blocks,∀i∈b.ins,i.args.length≤16
 cases:∀b∈f.blocks,b.term.cases.length≤256
 to:∀b∈f.blocks,b.term.to.length≤257
 eargs:∀b∈f.blocks,∀e∈b.term.to,e.args.length≤4096
def rwT(id sz n:Nat)(cs:List OC):OC:=if n=0 then .val (.lst sz [] .sh) else .row id sz n cs
def rwI(id:Nat)(l:List Int):OC:=rwT id 1 l.length (l.map fun x=>.val (aI x))
def insT(i:Ins):List OC:=[.val (aI i.to),.val (aI i.op),.val (aI i.n),rwI 0 i.args]
def edgT(e:Edge):List OC:=[.val (aI e.block),rwI 0 e.args]
def blkT(b:Block):List OC:=[rwI 0 b.params,rwT 0 4 b.ins.length (b.ins.flatMap insT),.val (aI b.term.kind),.val (aI b.term.arg),.val (aI b.term.n),.val (eIs b.term.cases),rwT 0 2 b.term.to.length (b.term.to.flatMap edgT)]
def funT(f:Func):List OC:=[.val (aI f.name),rwT 0 7 f.blocks.length (f.blocks.flatMap blkT)]
def SimT(cs ts:List OC):Prop:=labL 0 cs=labL 0 ts
theorem SimT.refl(cs:List OC):SimT cs cs:=rfl
theorem SimT.own{cs ts:List OC}(h:SimT cs ts):(ownL cs).length=(ownL ts).length:=by
 rw [←labL_len 0 cs,h,labL_len]
theorem SimT.size{cs ts:List OC}(h:SimT cs ts):cs.length=ts.length:=by
 rw [←labL_size 0 cs,h,labL_size]
theorem SimT.at(n:Nat){cs ts:List OC}(h:SimT cs ts):labL n cs=labL n ts:=by
 rw [←labL_labL n 0 cs,h,labL_labL]
theorem ownL_app:∀(cs ds:List OC),ownL (cs++ds)=ownL cs++ownL ds
 | [],ds=>by rw [List.nil_append,ownL];rfl
 | c::r,ds=>by rw [List.cons_append,ownL,ownL,ownL_app r ds,List.append_assoc]
theorem labL_app:∀(n:Nat) (cs ds:List OC),labL n (cs++ds)=labL n cs++labL (n+(ownL cs).length) ds
 | n,[],ds=>by rw [List.nil_append,labL,ownL];rfl
 | n,c::r,ds=>by
  rw [List.cons_append,labL,labL,labL_app _ r ds,ownL,List.length_append,List.cons_append,Nat.add_assoc]
theorem SimT.app{cs ts ds us:List OC}(h:SimT cs ts)(k:SimT ds us):SimT (cs++ds) (ts++us):=by
 show labL 0 (cs++ds)=labL 0 (ts++us)
 rw [labL_app,labL_app,h,h.own,k.at]
theorem SimT.cons{c t:OC}{ds us:List OC}(h:SimT [c] [t])(k:SimT ds us):SimT (c::ds) (t::us):=SimT.app (cs:=[c]) (ts:=[t]) h k
theorem SimT.row{cs ts:List OC}(id id' sz n:Nat)(h:SimT cs ts):SimT [rwT id sz n cs] [rwT id' sz n ts]:=by
 unfold rwT
 by_cases hn:n=0
 ·rw [if_pos hn,if_pos hn]
  exact SimT.refl _
 rw [if_neg hn,if_neg hn]
 have e:∀i xs,labL 0 [OC.row i sz n xs]=[OC.row 0 sz n (labL 1 xs)]:=fun i xs=>by rw [labL,OC.lab,labL]
 show labL 0 [OC.row id sz n cs]=labL 0 [OC.row id' sz n ts]
 rw [e,e,h.at 1]
theorem SimT.rwI(id id':Nat)(l:List Int):SimT [rwI id l] [rwI id' l]:=SimT.row id id' 1 l.length (SimT.refl _)
theorem fitL_iff{k:Nat}:∀cs:List OC,fitL k cs↔∀c∈cs,c.fit k
 | []=>by simp [fitL]
 | c::r=>by
  rw [fitL,fitL_iff r]
  simp
theorem fitL_app{k:Nat}{cs ds:List OC}(h:fitL k cs)(g:fitL k ds):fitL k (cs++ds):=by
 rw [fitL_iff] at h g ⊢
 intro c hc
 rcases List.mem_append.1 hc with q | q
 ·exact h c q
 exact g c q
theorem rwT_fit{k id sz n:Nat}{cs:List OC}(hl:cs.length=n * sz)(h:fitL k cs):(rwT id sz n cs).fit k:=by
 unfold rwT
 split
 ·exact⟨trivial,rfl,trivial,trivial⟩
 exact⟨hl,h⟩
theorem rwI_fit(k id:Nat)(l:List Int):(rwI id l).fit k:=by
 refine rwT_fit (by simp) ((fitL_iff _).2 fun c hc=>?_)
 obtain⟨x,_,rfl⟩:=List.mem_map.1 hc
 exact⟨trivial,rfl,trivial⟩
def growR(id sz n:Nat):AVal:=if n=0 then .lst sz [] .ex else .os id n sz
theorem growR_share(id sz n:Nat)(cs:List OC):(growR id sz n).shareCell=(rwT id sz n cs).raw:=by
 unfold growR rwT
 split<;>rfl
theorem rwT_own(id sz n:Nat)(cs:List OC)(hn:n≠0):(rwT id sz n cs).own=(id,cs.map OC.raw)::ownL cs:=by
 unfold rwT
 rw [if_neg hn,OC.own]
theorem rwT_own0(id sz:Nat)(cs:List OC):(rwT id sz 0 cs).own=[]:=by
 unfold rwT
 rw [if_pos rfl,OC.own]
structure TrO(O:List AObj)(lo:Nat)(cs:List OC):Prop where
 owns:Owns O (ownL cs)
 nd:((ownL cs).map Prod.fst).Nodup
 lo:∀p∈ownL cs,lo≤p.1
theorem ownL_nil:ownL []=[]:=by rw [ownL]
theorem TrO.nil(O:List AObj)(lo:Nat):TrO O lo []:=by
 refine⟨fun p hp=>?_,?_,fun p hp=>?_⟩
 ·rw [ownL_nil] at hp
  cases hp
 ·rw [ownL_nil]
  exact List.nodup_nil
 rw [ownL_nil] at hp
 cases hp
theorem TrO.lt{O:List AObj}{lo:Nat}{cs:List OC}(h:TrO O lo cs):∀p∈ownL cs,p.1<O.length:=fun p hp=>lt_of_getElem? (h.owns p hp)
theorem TrO.mono{O:List AObj}{lo lo':Nat}{cs:List OC}(h:TrO O lo cs)(hl:lo'≤lo):TrO O lo' cs:=⟨h.owns,h.nd,fun p hp=>Nat.le_trans hl (h.lo p hp)⟩
theorem TrO.same{O O':List AObj}{lo:Nat}{cs:List OC}(h:TrO O lo cs)(hs:∀p∈ownL cs,O'[p.1]?=O[p.1]?):TrO O' lo cs:=⟨h.owns.of_same hs,h.nd,h.lo⟩
theorem TrO.app{O:List AObj}{lo:Nat}{cs ds:List OC}(h:TrO O lo cs)(g:TrO O lo ds)(hd:∀p∈ownL cs,∀q∈ownL ds,p.1≠q.1):TrO O lo (cs++ds):=by
 refine⟨fun p hp=>?_,?_,fun p hp=>?_⟩
 ·rw [ownL_app] at hp
  rcases List.mem_append.1 hp with q | q
  ·exact h.owns p q
  exact g.owns p q
 ·rw [ownL_app,List.map_append,List.nodup_append]
  refine⟨h.nd,g.nd,fun a ha b hb=>?_⟩
  obtain⟨p,hp,rfl⟩:=List.mem_map.1 ha
  obtain⟨q,hq,rfl⟩:=List.mem_map.1 hb
  exact hd p hp q hq
 rw [ownL_app] at hp
 rcases List.mem_append.1 hp with q | q
 ·exact h.lo p q
 exact g.lo p q
theorem TrO.cons_val{O:List AObj}{lo:Nat}{cs:List OC}(a:AVal)(h:TrO O lo cs):TrO O lo (.val a::cs):=by
 have e:ownL (.val a::cs)=ownL cs:=by rw [ownL,OC.own];rfl
 exact⟨by rw [e];exact h.owns,by rw [e];exact h.nd,by rw [e];exact h.lo⟩
theorem TrO.row{O:List AObj}{lo id sz n:Nat}{cs:List OC}(h:TrO O lo cs)(hid:n≠0→lo≤id∧O[id]?=some (.cells (cs.map OC.raw))∧∀p∈ownL cs,p.1≠id):TrO O lo [rwT id sz n cs]:=by
 by_cases hn:n=0
 ·have e:ownL [rwT id sz n cs]=[]:=by rw [hn,ownL,rwT_own0,ownL];rfl
  exact⟨by rw [e];intro p hp;(cases hp),by rw [e];exact List.nodup_nil,by rw [e];intro p hp;(cases hp)⟩
 obtain⟨h1,h2,h3⟩:=hid hn
 have e:ownL [rwT id sz n cs]=(id,cs.map OC.raw)::ownL cs:=by rw [ownL,rwT_own id sz n cs hn,ownL,List.append_nil]
 refine⟨fun p hp=>?_,?_,fun p hp=>?_⟩
 ·rw [e] at hp
  rcases List.mem_cons.1 hp with q | q
  ·subst q
   exact h2
  exact h.owns p q
 ·rw [e,List.map_cons]
  refine List.nodup_cons.2 ⟨fun q=>?_,h.nd⟩
  obtain⟨p,hp,e2⟩:=List.mem_map.1 q
  exact h3 p hp e2
 rw [e] at hp
 rcases List.mem_cons.1 hp with q | q
 ·subst q
  exact h1
 exact h.lo p q
structure GrO(O:List AObj)(X id n:Nat)(cs:List OC):Prop where
 tr:TrO O (X+1) cs
 root:n≠0→X+1≤id∧O[id]?=some (.cells (cs.map OC.raw))∧∀p∈ownL cs,p.1≠id
 nil:n=0→cs=[]
theorem GrO.start(O:List AObj)(X:Nat):GrO O X 0 0 []:=⟨TrO.nil O _,fun h=>absurd rfl h,fun _=>rfl⟩
theorem GrO.row{O:List AObj}{X id n sz:Nat}{cs:List OC}(h:GrO O X id n cs):TrO O (X+1) [rwT id sz n cs]:=h.tr.row h.root
theorem GrO.push{O O3 O4:List AObj}{X id n:Nat}{cs ds:List OC}(h:GrO O X id n cs)(hX:X<O3.length)(h3:∀i,X+1≤i→i<O.length→O3[i]?=O[i]?)(hds:TrO O3 O.length ds)(hOl:X<O.length)
  (h4:O4.length=O3.length) (hs:∀i,(n≠0→i≠id)→O4[i]?=O3[i]?) {c a:List AVal} (hc:c=(cs++ds).map OC.raw):GrO ((O4++[AObj.cells c]).set X (.cells a)) X O4.length (n+1) (cs++ds):=by
 have hlt:=h.tr.lt
 have hdlt:=hds.lt
 have hroot:∀p∈ownL cs,n≠0→p.1≠id:=fun p hp q=>(h.root q).2.2 p hp
 have hid:n≠0→id<O.length:=fun q=>lt_of_getElem? (h.root q).2.1
 have hle:O.length≤O3.length∨ownL cs=[]∧n=0:=by
  by_cases q:O.length≤O3.length
  ·exact .inl q
  have h5:=h3 (O.length - 1)
  by_cases q2:X+1≤O.length - 1
  ·have:=h5 q2 (by omega)
   rw [List.getElem?_eq_none (by omega),List.getElem?_eq_getElem (by omega)] at this
   cases this
  exfalso
  omega
 have hOl3:O.length≤O3.length:=by
  rcases hle with q | ⟨_,_⟩
  ·exact q
  refine Classical.byContradiction fun q=>?_
  by_cases q2:X+1≤O.length - 1
  ·have:=h3 (O.length - 1) q2 (by omega)
   rw [List.getElem?_eq_none (by omega),List.getElem?_eq_getElem (by omega)] at this
   cases this
  omega
 have hnew:∀i,X+1≤i→i<O3.length→(n≠0→i≠id)→((O4++[AObj.cells c]).set X (.cells a))[i]?=O3[i]?:=fun i h1 h2 h5=>by
  rw [List.getElem?_set_ne (by omega),List.getElem?_append_left (by omega),hs i h5]
 have t1:TrO ((O4++[AObj.cells c]).set X (.cells a)) (X+1) cs:=h.tr.same fun p hp=>by
  have:=hlt p hp
  rw [hnew p.1 (h.tr.lo p hp) (by omega) (hroot p hp),h3 p.1 (h.tr.lo p hp) this]
 have t2:TrO ((O4++[AObj.cells c]).set X (.cells a)) (X+1) ds:=(hds.same fun p hp=>by
  have:=hds.lo p hp
  exact hnew p.1 (by omega) (hdlt p hp) (fun q=>by have:=hid q;omega)).mono (by omega)
 refine⟨t1.app t2 fun p hp q hq=>?_,fun _=>⟨by omega,?_,fun p hp=>?_⟩,fun q=>by omega⟩
 ·have:=hlt p hp
  have:=hds.lo q hq
  omega
 ·rw [List.getElem?_set_ne (by omega),List.getElem?_append_right (Nat.le_refl _),Nat.sub_self,hc]
  rfl
 rw [ownL_app] at hp
 rcases List.mem_append.1 hp with q | q
 ·have:=hlt p q
  omega
 have:=hdlt p q
 omega
theorem insT_len(l:List Ins):(l.flatMap insT).length=l.length * 4:=by
 induction l with
 | nil=>rfl
 | cons i r ih =>
  have e:(i::r).flatMap insT=insT i++r.flatMap insT:=rfl
  rw [e,List.length_append,ih,List.length_cons]
  have:(insT i).length=4:=rfl
  omega
theorem edgT_len(l:List Edge):(l.flatMap edgT).length=l.length * 2:=by
 induction l with
 | nil=>rfl
 | cons i r ih =>
  have e:(i::r).flatMap edgT=edgT i++r.flatMap edgT:=rfl
  rw [e,List.length_append,ih,List.length_cons]
  have:(edgT i).length=2:=rfl
  omega
theorem blkT_len(l:List Block):(l.flatMap blkT).length=l.length * 7:=by
 induction l with
 | nil=>rfl
 | cons i r ih =>
  have e:(i::r).flatMap blkT=blkT i++r.flatMap blkT:=rfl
  rw [e,List.length_append,ih,List.length_cons]
  have:(blkT i).length=7:=rfl
  omega
theorem raw_upto{O:List AObj}{lo:Nat}{cs:List OC}(h:TrO O lo cs)(hf:fitL 0 cs){n:Nat}(hn:O.length≤n):uptoL n (cs.map OC.raw):=by
 rw [uptoL_iff]
 intro x hx
 obtain⟨c,hc,rfl⟩:=List.mem_map.1 hx
 have hfc:=(fitL_iff cs).1 hf c hc
 cases c with
 | val a=>exact AVal.upto_mono (Nat.zero_le _) _ hfc.2.2
 | row id sz m ds =>
  have:(id,ds.map OC.raw)∈ownL cs:=by
   rw [ownL_map]
   refine List.mem_flatMap.2 ⟨_,hc,?_⟩
   rw [OC.own]
   exact List.mem_cons_self
  have:=h.lt _ this
  show id<n
  omega
structure Gw(O:List AObj)(cf:AVal→List AVal)(sz id n:Nat)(fs cs:List OC)(O2:List AObj):Prop where
 up:∀o∈O2,o.upto O2.length
 len:O.length<O2.length
 keep:∀i,i<O.length→O2[i]?=O[i]?
 cell:O2[O.length]?=some (.cells (cf (growR id sz n)))
 done:TrO O2 (O.length+1) fs
 gr:GrO O2 O.length id n cs
 dj:∀p∈ownL fs,∀q∈ownL [rwT id sz n cs],p.1≠q.1
 fit:fitL 0 cs
theorem Gw.push{O:List AObj}{cf:AVal→List AVal}{sz id n:Nat}{fs cs ds:List OC}{O2 O3 O4:List AObj}(h:Gw O cf sz id n fs cs O2)(hcf:∀v m,v.upto m→O2.length≤m→uptoL m (cf v))(h3:∀i,i<O2.length→O3[i]?=O2[i]?)(hds:TrO O3 O2.length ds)(hfit:fitL 0 ds)
  (h4:O4.length=O3.length) (hup:∀o∈O4,o.upto O3.length) (hs:∀i,(n≠0→i≠id)→O4[i]?=O3[i]?) {c a:List AVal} (hc:c=(cs++ds).map OC.raw) (ha:a=cf (.os O4.length (n+1) sz)) :
  Gw O cf sz O4.length (n+1) fs (cs++ds) ((O4++[AObj.cells c]).set O.length (.cells a)):=by
 have hl:=h.len
 have hll:O2.length≤O3.length:=by
  refine Classical.byContradiction fun q=>?_
  have:=h3 (O2.length - 1) (by omega)
  rw [List.getElem?_eq_none (by omega),List.getElem?_eq_getElem (by omega)] at this
  cases this
 have hg:=h.gr.push (O3:=O3) (O4:=O4) (ds:=ds) (by omega) (fun i _ hi=>h3 i hi) hds hl h4 hs (c:=c) (a:=a) hc
 have hidl:n≠0→id<O2.length:=fun q=>lt_of_getElem? (h.gr.root q).2.1
 have hfsid:∀p∈ownL fs,n≠0→p.1≠id:=fun p hp q e=>by
  refine h.dj p hp (id,cs.map OC.raw) ?_ e
  rw [ownL,rwT_own id sz n cs q]
  exact List.mem_append_left _ List.mem_cons_self
 have hnew:∀i,i≠O.length→i<O3.length→(n≠0→i≠id)→((O4++[AObj.cells c]).set O.length (.cells a))[i]?=O3[i]?:=fun i h1 h2 h5=>by
  rw [List.getElem?_set_ne (Ne.symm h1),List.getElem?_append_left (by omega),hs i h5]
 have hgr:growR O4.length sz (n+1)=.os O4.length (n+1) sz:=by
  unfold growR
  rw [if_neg (by omega)]
 have htr3:TrO O3 (O.length+1) cs:=h.gr.tr.same fun p hp=>h3 _ (h.gr.tr.lt p hp)
 exact {
  up:=fun o ho=>by
   rw [List.length_set,List.length_append,List.length_singleton,h4]
   rcases List.mem_or_eq_of_mem_set ho with q | q
   ·rcases List.mem_append.1 q with q | q
    ·exact AObj.upto_mono (by omega) (hup o q)
    rw [List.mem_singleton.1 q,hc,List.map_append]
    show uptoL _ _
    rw [uptoL_iff]
    intro x hx
    rcases List.mem_append.1 hx with z | z
    ·exact uptoL_iff.1 (raw_upto htr3 h.fit (by omega)) x z
    exact uptoL_iff.1 (raw_upto hds hfit (by omega)) x z
   rw [q,ha]
   exact hcf _ _ (show O4.length<_ by omega) (by omega)
  len:=by rw [List.length_set,List.length_append];omega
  keep:=fun i hi=>by
   rw [hnew i (by omega) (by omega) (fun q=>by have:=(h.gr.root q).1;omega),h3 i (by omega),h.keep i hi]
  cell:=by rw [List.getElem?_set_self (by rw [List.length_append];omega),hgr,ha]
  done:=h.done.same fun p hp=>by
   have:=h.done.lt p hp
   have:=h.done.lo p hp
   rw [hnew p.1 (by omega) (by omega) (hfsid p hp),h3 p.1 (by omega)]
  gr:=hg
  dj:=fun p hp q hq=>by
   rw [ownL,rwT_own _ sz (n+1) _ (by omega),ownL,List.append_nil] at hq
   have hpl:=h.done.lt p hp
   rcases List.mem_cons.1 hq with z | z
   ·subst z
    show p.1≠O4.length
    omega
   rw [ownL_app] at z
   rcases List.mem_append.1 z with z | z
   ·refine h.dj p hp q ?_
    by_cases hn:n=0
    ·rw [h.gr.nil hn,ownL_nil] at z
     cases z
    rw [ownL,rwT_own id sz n cs hn]
    exact List.mem_append_left _ (List.mem_cons_of_mem _ z)
   have:=hds.lo q z
   omega
  fit:=fitL_app h.fit hfit }
theorem Gw.next{O:List AObj}{cf cf':AVal→List AVal}{sz id n sz':Nat}{fs cs:List OC}{O2:List AObj}(h:Gw O cf sz id n fs cs O2){a:List AVal}(ha:a=cf' (.lst sz' [] .ex))(hu:uptoL O2.length a):Gw O cf' sz' 0 0 (fs++[rwT id sz n cs]) [] (O2.set O.length (.cells a)):=by
 have hl:=h.len
 have hk:∀i,i≠O.length→(O2.set O.length (.cells a))[i]?=O2[i]?:=fun i hi=>List.getElem?_set_ne (Ne.symm hi)
 have hd:TrO O2 (O.length+1) (fs++[rwT id sz n cs]):=h.done.app h.gr.row h.dj
 exact {
  up:=by
   rw [List.length_set]
   exact fun o ho=>(List.mem_or_eq_of_mem_set ho).elim (h.up o) fun q=>by rw [q];exact hu
  len:=by rw [List.length_set];exact hl
  keep:=fun i hi=>by rw [hk i (by omega),h.keep i hi]
  cell:=by
   rw [List.getElem?_set_self hl,ha]
   rfl
  done:=hd.same fun p hp=>hk _ (by have:=hd.lo p hp;omega)
  gr:=GrO.start _ _
  dj:=fun p _ q hq=>by
   rw [ownL,rwT_own0,ownL] at hq
   cases hq
  fit:=trivial }
theorem SimT.app_inv{cs ts us:List OC}(h:SimT cs (ts++us)):∃a b,cs=a++b∧SimT a ts∧SimT b us:=by
 have hs:=h.size
 rw [List.length_append] at hs
 refine⟨cs.take ts.length,cs.drop ts.length,(List.take_append_drop _ _).symm,?_⟩
 have h2:labL 0 (cs.take ts.length++cs.drop ts.length)=labL 0 (ts++us):=by rw [List.take_append_drop];exact h
 rw [labL_app,labL_app] at h2
 obtain⟨q1,q2⟩:=List.append_inj h2 (by rw [labL_size,labL_size,List.length_take];omega)
 refine⟨q1,?_⟩
 have:=congrArg (labL 0) q2
 rw [labL_labL,labL_labL] at this
 exact this
theorem SimT.cons_inv{cs us:List OC}{t:OC}(h:SimT cs (t::us)):∃c b,cs=c::b∧SimT [c] [t]∧SimT b us:=by
 obtain⟨a,b,h1,h2,h3⟩:=SimT.app_inv (ts:=[t]) (us:=us) h
 have hl:=h2.size
 match a,hl with
 | [c],_=>exact⟨c,b,h1,h2,h3⟩
theorem SimT.val_inv{c:OC}{a:AVal}(h:SimT [c] [.val a]):c=.val a:=by
 have h:labL 0 [c]=labL 0 [OC.val a]:=h
 rw [labL,labL,labL,OC.lab] at h
 simp only [List.cons.injEq] at h
 cases c with
 | val b =>
  have:=h.1
  rw [OC.lab] at this
  exact this
 | row id sz n cs =>
  have:=h.1
  rw [OC.lab] at this
  cases this
theorem SimT.row_inv{c:OC}{sz n:Nat}{ts:List OC}(h:SimT [c] [rwT 0 sz n ts]):∃id cs,c=rwT id sz n cs∧(n≠0→SimT cs ts):=by
 by_cases hn:n=0
 ·refine⟨0,[],?_,fun q=>absurd hn q⟩
  unfold rwT at h ⊢
  rw [if_pos hn] at h ⊢
  exact h.val_inv
 unfold rwT at h
 rw [if_neg hn] at h
 have h:labL 0 [c]=labL 0 [OC.row 0 sz n ts]:=h
 cases c with
 | val a =>
  rw [labL,labL,labL,OC.lab,OC.lab] at h
  simp at h
 | row id sz' n' cs =>
  have e:∀i s m xs,labL 0 [OC.row i s m xs]=[OC.row 0 s m (labL 1 xs)]:=fun i s m xs=>by rw [labL,OC.lab,labL]
  rw [e,e] at h
  simp only [List.cons.injEq,OC.row.injEq,true_and,and_true] at h
  obtain⟨rfl,rfl,h3⟩:=h
  refine⟨id,cs,by unfold rwT;rw [if_neg hn],fun _=>?_⟩
  have:=congrArg (labL 0) h3
  rw [labL_labL,labL_labL] at this
  exact this
theorem Owns.upd{O:List AObj}{A B:List (Nat×List AVal)}{id:Nat}{c1 c2:List AVal}(h:Owns O (A++(id,c1)::B))(hn:((A++(id,c1)::B).map Prod.fst).Nodup):Owns (O.set id (.cells c2)) (A++(id,c2)::B):=by
 have hid:=lt_of_getElem? (h (id,c1) (by simp))
 rw [List.map_append,List.map_cons,List.nodup_append] at hn
 obtain⟨_,n2,n3⟩:=hn
 rw [List.nodup_cons] at n2
 intro p hp
 rcases List.mem_append.1 hp with q | q
 ·have:p.1≠id:=n3 p.1 (List.mem_map.2 ⟨p,q,rfl⟩) id List.mem_cons_self
  rw [List.getElem?_set_ne (Ne.symm this)]
  exact h p (List.mem_append_left _ q)
 rcases List.mem_cons.1 q with q | q
 ·subst q
  exact List.getElem?_set_self hid
 have:p.1≠id:=fun e=>n2.1 (List.mem_map.2 ⟨p,q,e⟩)
 rw [List.getElem?_set_ne (Ne.symm this)]
 exact h p (List.mem_append_right _ (List.mem_cons_of_mem _ q))
theorem pay_ok{u:Unt}{m:Mach}(hm:MachOK u m)(ho:m.over=false)(hp:¬m.left<1):MachOK u (m.pay 1)∧(m.pay 1).over=false∧(m.pay 1).short=false∧(m.pay 1).left=m.left - 1∧(m.pay 1).frames=m.frames:=by
 have h0:=hm.left
 have hd:=hm.depth
 have hm1e:m.pay 1 = { m with left:=m.left - 1 }:=by simp [Mach.pay,hp]
 rw [hm1e]
 exact⟨⟨fun f hf=>(hm.frames f hf).of_heap (by rfl),fun a ha=>⟨(hm.arrs a ha).1,fun v hv=>((hm.arrs a ha).2 v hv).of_heap (by rfl)⟩,by simp only;omega,by simp only;omega,hm.out,hm.words,hm.fin,hm.val,hm.done,fun h=>hm.over h⟩,ho,(hm.over ho).2,rfl,rfl⟩
theorem pay_short{m:Mach}(hp:m.left<1):m.pay 1 = { m with short:=true,over:=true }:=by simp [Mach.pay,hp]
theorem run_ok{u:Unt}(hu:UnitOK u):∀(k:Nat) (m:Mach),MachOK u m→m.left.toNat+2≤k→(Mach.run u k m).over=true∧(Mach.run u k m).left≤m.left∧(m.over=false→(Mach.run u k m).short=false→(Mach.run u k m).left≤m.left - 1)∧((Mach.run u k m).short=false→MachOK u (Mach.run u k m))
 | 0,m,hm,hk=>by omega
 | k+1,m,hm,hk=>by
  cases hov:m.over with
  | true=>simp [Mach.run,hov,hm]
  | false =>
   have hl:=hm.left
   have hd:=hm.depth
   simp only [Mach.run,hov,Bool.false_eq_true,if_false]
   by_cases hp:m.left<1
   ·rw [pay_short hp]
    simp
   obtain⟨q1,q2,q3,q4,q5⟩:=pay_ok hm hov hp
   rw [if_neg (by simp [q3])]
   have hd1:(m.pay 1).frames.length+(m.pay 1).left+1≤2 ^ 40:=by rw [q4,q5];omega
   have hs:=MachOK.step hu q1 q2 hd1
   have hsl:=step_left u (m.pay 1) q1 hu q2
   have hs0:=hs.left
   have ih:=run_ok hu k _ hs (by omega)
   refine⟨ih.1,by have:=ih.2.1;omega,fun _ _=>by have:=ih.2.1;omega,ih.2.2.2⟩
namespace Mach
def shift(m:Mach)(c:Int):Mach:={ m with left:=m.left+c }
theorem shift_pay(m:Mach)(c n:Int)(h:¬m.left<n)(h':¬m.left+c<n):(m.shift c).pay n=(m.pay n).shift c:=by
 have h1:m.pay n = { m with left:=m.left - n }:=by simp [pay,h]
 have h2:(m.shift c).pay n = { m.shift c with left:=(m.shift c).left - n }:=by simp [pay,shift,h']
 rw [h1,h2]
 simp only [shift]
 congr 1
 omega
theorem shift_allocate(m:Mach)(c:Int)(size fill:SV)(hs:(m.allocate size fill).1.short=false)(hl:0≤(m.allocate size fill).1.left+c):(m.shift c).allocate size fill=((m.allocate size fill).1.shift c,(m.allocate size fill).2):=by
 unfold allocate at hs hl ⊢
 by_cases h1:size.kind≠0
 ·rw [if_pos h1,if_pos h1]
 rw [if_neg h1] at hs hl
 rw [if_neg h1,if_neg h1]
 by_cases h2:size.n<0∨1024<size.n
 ·rw [if_pos h2,if_pos h2]
 rw [if_neg h2] at hs hl
 rw [if_neg h2,if_neg h2]
 by_cases h3:(m.pay size.n).short=true
 ·rw [if_pos h3] at hs
  simp only at hs
  rw [hs] at h3
  cases h3
 rw [if_neg h3] at hl
 have h4:¬m.left<size.n:=fun q=>h3 (by simp [pay,q])
 have h5:m.pay size.n = { m with left:=m.left - size.n }:=by simp [pay,h4]
 have h7:(m.pay size.n).left=m.left - size.n:=by rw [h5]
 simp only [h7] at hl
 rw [shift_pay m c size.n h4 (by omega)]
 have h6:¬((m.pay size.n).shift c).short=true:=h3
 rw [if_neg h6,if_neg h3]
 rfl
theorem shift_effect(m:Mach)(c:Int)(i:Ins)(args:List SV)(hs:(m.effect i args).1.short=false)(hl:0≤(m.effect i args).1.left+c):(m.shift c).effect i args=((m.effect i args).1.shift c,(m.effect i args).2):=by
 unfold effect at hs hl ⊢
 by_cases h15:i.op=15
 ·rw [if_pos h15,if_pos h15]
  show(if _ then _ else if m.out.length=1000 then _ else _)=_
  split
  ·rfl
  split<;>rfl
 rw [if_neg h15] at hs hl
 rw [if_neg h15,if_neg h15]
 by_cases h16:i.op=16
 ·rw [if_pos h16] at hs hl
  rw [if_pos h16,if_pos h16]
  exact shift_allocate m c _ _ hs hl
 rw [if_neg h16,if_neg h16]
 by_cases h18:i.op=18
 ·rw [if_pos h18,if_pos h18]
  split
  ·rfl
  split<;>rfl
 have hh:(m.shift c).heap=m.heap:=rfl
 rw [if_neg h18,if_neg h18,hh]
 by_cases k1:(argS args 0).kind≠3∨(i.op≠17∧(argS args 1).kind≠0)
 ·rw [if_pos k1,if_pos k1]
 rw [if_neg k1,if_neg k1]
 by_cases k2:i.op=17
 ·rw [if_pos k2,if_pos k2]
 rw [if_neg k2,if_neg k2]
 by_cases k3:(argS args 1).n<0∨((arrOf m.heap (argS args 0).arr).length:Int)≤(argS args 1).n
 ·rw [if_pos k3,if_pos k3]
 rw [if_neg k3,if_neg k3]
 by_cases k4:i.op=19
 ·rw [if_pos k4,if_pos k4]
 rw [if_neg k4,if_neg k4]
 rfl
theorem shift_exec(m:Mach)(c:Int)(i:Ins)(args:List SV)(hs:(m.exec i args).1.short=false)(hl:0≤(m.exec i args).1.left+c):(m.shift c).exec i args=((m.exec i args).1.shift c,(m.exec i args).2):=by
 unfold exec at hs hl ⊢
 by_cases h0:i.op=0
 ·rw [if_pos h0,if_pos h0]
 rw [if_neg h0] at hs hl
 rw [if_neg h0,if_neg h0]
 by_cases h1:1≤i.op∧i.op≤7
 ·rw [if_pos h1,if_pos h1]
  split<;>rfl
 rw [if_neg h1] at hs hl
 rw [if_neg h1,if_neg h1]
 by_cases h8:i.op=8
 ·rw [if_pos h8,if_pos h8]
 rw [if_neg h8] at hs hl
 rw [if_neg h8,if_neg h8]
 by_cases h9:i.op=9
 ·rw [if_pos h9,if_pos h9]
 rw [if_neg h9] at hs hl
 rw [if_neg h9,if_neg h9]
 by_cases h10:i.op=10∨i.op=11∨i.op=12∨i.op=21
 ·rw [if_pos h10,if_pos h10]
 rw [if_neg h10] at hs hl
 rw [if_neg h10,if_neg h10]
 by_cases h22:i.op=22∨i.op=23∨i.op=24
 ·rw [if_pos h22,if_pos h22]
 rw [if_neg h22] at hs hl
 rw [if_neg h22,if_neg h22]
 by_cases h100:i.op=100
 ·rw [if_pos h100,if_pos h100]
 rw [if_neg h100] at hs hl
 rw [if_neg h100,if_neg h100]
 exact shift_effect m c i args hs hl
theorem settle_short(f:Fr)(to:Int)(r:Mach×SV×Int):(settle f to r).short=r.1.short∧(settle f to r).left=r.1.left:=by
 unfold settle
 split<;>exact⟨rfl,rfl⟩
end Mach
theorem run_over'{u:Unt}{m:Mach}(h:m.over=true)(k:Nat):Mach.run u k m=m:=by
 cases k with
 | zero=>rfl
 | succ k=>simp [Mach.run,h]
end Go.Proofs.Ytkhnjeblbiocaaa
namespace Go.Proofs.Ytkhnjeblbiocaaa
open Go.Av
def trI(s:Int→Int)(i:Ins):Ins:=⟨s i.to,i.op,i.n,i.args.map s⟩
theorem getS_put(es:List (Int×SV))(k j:Int)(v:SV):getS (putS' es k v) j=if k=j then v else getS es j:=by
 unfold getS
 induction es with
 | nil =>
  simp only [putS',lookS]
  split<;>rfl
 | cons p r ih =>
  obtain⟨a,x⟩:=p
  simp only [putS']
  by_cases h:a=k
  ·rw [if_pos h]
   subst h
   simp only [lookS]
   split<;>rfl
  rw [if_neg h]
  simp only [lookS]
  by_cases h2:a=j
  ·rw [if_pos h2,if_pos h2,if_neg (fun q=>h (by rw [h2,q]))]
  rw [if_neg h2,if_neg h2]
  exact ih
def VR(D:Int→Prop)(s:Int→Int)(es es':List (Int×SV)):Prop:=∀k,D k→getS es' (s k)=getS es k
section
variable {D:Int→Prop} {s:Int→Int}
theorem VR.put(hi:∀j k,D j→D k→s j=s k→j=k){es es':List (Int×SV)}(h:VR D s es es'){k:Int}(hk:D k)(v:SV):VR D s (putS' es k v) (putS' es' (s k) v):=fun j hj=>by
 rw [getS_put,getS_put]
 by_cases e:k=j
 ·rw [if_pos e,if_pos (by rw [e])]
 rw [if_neg e,if_neg (fun q=>e (hi k j hk hj q)),h j hj]
theorem VR.bind(hi:∀j k,D j→D k→s j=s k→j=k):∀(ps:List Int) (l:List SV) {es es':List (Int×SV)},(∀p∈ps,D p)→VR D s es es'→VR D s (bindS es ps l) (bindS es' (ps.map s) l)
 | [],l,es,es',_,h=>by simpa [bindS] using h
 | p::ps,[],es,es',_,h=>by simpa [bindS] using h
 | p::ps,a::l,es,es',hp,h=>by
  simp only [bindS,List.map_cons]
  exact VR.bind hi ps l (fun q hq=>hp q (List.mem_cons_of_mem _ hq)) (h.put hi (hp p List.mem_cons_self) a)
theorem VR.take{es es':List (Int×SV)}(h:VR D s es es'){l:List Int}(hl:∀a∈l,D a):takeS es' (l.map s)=takeS es l:=by
 unfold takeS
 rw [List.map_map]
 exact List.map_congr_left fun a ha=>h a (hl a ha)
theorem VR.other{es es':List (Int×SV)}(h:VR D s es es'){j:Int}(hj:∀k,D k→s k≠j)(v:SV):VR D s es (putS' es' j v):=fun k hk=>by
 rw [getS_put,if_neg fun q=>hj k hk q.symm,h k hk]
end
structure EdgeTr(v:Unt)(s:Int→Int)(D L:Int→Prop)(β:Int→Int)(pre:Int→List Ins)(c:Int)(fn:Int)(e e':Edge):Prop where
 live:L e.block
 args:∀a∈e.args,D a
 way:(e'.block=β e.block∧e'.args=e.args.map s∧1+((pre e.block).length:Int)≤c) ∨
  ∃(C:Block) (e2:Edge),C=blkOf (fnOf v fn) e'.block∧C.ins=[]∧C.term.kind=1∧C.term.to=[e2]∧e2.block=β e.block∧2+((pre e.block).length:Int)≤c ∧
   ∀es,takeS (bindS es C.params (takeS es e'.args)) e2.args=takeS es (e.args.map s)∧∀k,D k→getS (bindS es C.params (takeS es e'.args)) (s k)=getS es (s k)
structure BlkTr(v:Unt)(s:Int→Int)(D L:Int→Prop)(β:Int→Int)(pre:Int→List Ins)(c:Int)(fn:Int)(b:Int)(B B':Block):Prop where
 params:B'.params=B.params.map s∧∀p∈B.params,D p
 ins:B'.ins=pre b++B.ins.map (trI s)
 vals:∀i∈B.ins,D i.to∧∀a∈i.args,D a
 hd:∀i∈pre b,i.op=0∧∀k,D k→s k≠i.to
 term:B'.term.kind=B.term.kind∧B'.term.n=B.term.n∧B'.term.cases=B.term.cases∧B'.term.to.length=B.term.to.length
 arg:B.term.kind≠1→B.term.kind≠4→B'.term.arg=s B.term.arg∧D B.term.arg
 edges:∀(k:Nat) e e',B.term.to[k]?=some e→B'.term.to[k]?=some e'→EdgeTr v s D L β pre c fn e e'
structure UntTr(u v:Unt)(s:Int→Int)(D L:Int→Int→Prop)(β:Int→Int→Int)(pre:Int→Int→List Ins)(c:Int):Prop where
 fns:v.fns.length=u.fns.length
 main:v.main=u.main
 inj:∀fn j k:Int,D fn j→D fn k→s j=s k→j=k
 zero:∀fn:Int,0≤fn→fn<u.fns.length→L fn 0∧β fn 0=0∧1+((pre fn 0).length:Int)≤c
 blks:∀fn b:Int,0≤fn→fn<u.fns.length→L fn b→BlkTr v s (D fn) (L fn) (β fn) (pre fn) c fn b (blkOf (fnOf u fn) b) (blkOf (fnOf v fn) (β fn b))
namespace Mach
def put(m:Mach)(fs:List Fr)(l:Int):Mach:={ m with frames:=fs,left:=l }
theorem frames_allocate(m:Mach)(fs:List Fr)(size fill:SV):({ m with frames:=fs }:Mach).allocate size fill=({ (m.allocate size fill).1 with frames:=fs },(m.allocate size fill).2):=by
 unfold allocate
 by_cases h1:size.kind≠0
 ·rw [if_pos h1,if_pos h1]
 rw [if_neg h1,if_neg h1]
 by_cases h2:size.n<0∨1024<size.n
 ·rw [if_pos h2,if_pos h2]
 rw [if_neg h2,if_neg h2]
 have e:({ m with frames:=fs }:Mach).pay size.n = { m.pay size.n with frames:=fs }:=by
  unfold pay
  by_cases h3:m.left<size.n
  ·rw [if_pos h3,if_pos h3]
  rw [if_neg h3,if_neg h3]
 rw [e]
 by_cases h4:(m.pay size.n).short=true
 ·rw [if_pos h4,if_pos h4]
 rw [if_neg h4,if_neg h4]
theorem frames_effect(m:Mach)(fs:List Fr)(i:Ins)(args:List SV):({ m with frames:=fs }:Mach).effect i args=({ (m.effect i args).1 with frames:=fs },(m.effect i args).2):=by
 unfold effect
 by_cases h15:i.op=15
 ·rw [if_pos h15,if_pos h15]
  show(if _ then _ else if m.out.length=1000 then _ else _)=_
  split
  ·rfl
  split<;>rfl
 rw [if_neg h15,if_neg h15]
 by_cases h16:i.op=16
 ·rw [if_pos h16,if_pos h16]
  exact frames_allocate m fs _ _
 rw [if_neg h16,if_neg h16]
 by_cases h18:i.op=18
 ·rw [if_pos h18,if_pos h18]
  split
  ·rfl
  split<;>rfl
 rw [if_neg h18,if_neg h18]
 by_cases k1:(argS args 0).kind≠3∨(i.op≠17∧(argS args 1).kind≠0)
 ·rw [if_pos k1,if_pos k1]
 rw [if_neg k1,if_neg k1]
 by_cases k2:i.op=17
 ·rw [if_pos k2,if_pos k2]
 rw [if_neg k2,if_neg k2]
 show(if (argS args 1).n<0∨((arrOf m.heap (argS args 0).arr).length:Int)≤(argS args 1).n then _ else _)=_
 by_cases k3:(argS args 1).n<0∨((arrOf m.heap (argS args 0).arr).length:Int)≤(argS args 1).n
 ·rw [if_pos k3,if_pos k3]
 rw [if_neg k3,if_neg k3]
 by_cases k4:i.op=19
 ·rw [if_pos k4,if_pos k4]
 rw [if_neg k4,if_neg k4]
theorem frames_exec(m:Mach)(fs:List Fr)(i:Ins)(args:List SV):({ m with frames:=fs }:Mach).exec i args=({ (m.exec i args).1 with frames:=fs },(m.exec i args).2):=by
 unfold exec
 by_cases h0:i.op=0
 ·rw [if_pos h0,if_pos h0]
 rw [if_neg h0,if_neg h0]
 by_cases h1:1≤i.op∧i.op≤7
 ·rw [if_pos h1,if_pos h1]
  split<;>rfl
 rw [if_neg h1,if_neg h1]
 by_cases h8:i.op=8
 ·rw [if_pos h8,if_pos h8]
 rw [if_neg h8,if_neg h8]
 by_cases h9:i.op=9
 ·rw [if_pos h9,if_pos h9]
 rw [if_neg h9,if_neg h9]
 by_cases h10:i.op=10∨i.op=11∨i.op=12∨i.op=21
 ·rw [if_pos h10,if_pos h10]
 rw [if_neg h10,if_neg h10]
 by_cases h22:i.op=22∨i.op=23∨i.op=24
 ·rw [if_pos h22,if_pos h22]
 rw [if_neg h22,if_neg h22]
 by_cases h100:i.op=100
 ·rw [if_pos h100,if_pos h100]
 rw [if_neg h100,if_neg h100]
 exact frames_effect m fs i args
theorem put_exec(m:Mach)(fs:List Fr)(l:Int)(i:Ins)(args:List SV)(hs:(m.exec i args).1.short=false)(h0:0≤(m.exec i args).1.left)(hl:m.left≤l) :
  (m.put fs l).exec i args=((m.exec i args).1.put fs (l - (m.left - (m.exec i args).1.left)),(m.exec i args).2):=by
 have e:m.put fs l = { m.shift (l - m.left) with frames:=fs }:=by
  unfold put shift
  simp only [Mach.mk.injEq,true_and,and_true]
  omega
 rw [e,frames_exec,shift_exec m _ i args hs (by omega)]
 unfold put shift
 simp only [Prod.mk.injEq,Mach.mk.injEq,true_and,and_true]
 omega
inductive Steps(u:Unt):Nat→Mach→Mach→Prop
 | refl (m:Mach):Steps u 0 m m
 | cons {n:Nat} {m m':Mach}:m.over=false→m.short=false→1≤m.left→Steps u n (step u { m with left:=m.left - 1 }) m'→Steps u (n+1) m m'
theorem pay_one{m:Mach}(h:1≤m.left):m.pay 1 = { m with left:=m.left - 1 }:=by
 unfold pay
 rw [if_neg (by omega)]
theorem Steps.trans{u:Unt}{a b:Nat}{m m' m'':Mach}(h:Steps u a m m')(k:Steps u b m' m''):Steps u (a+b) m m'':=by
 induction h with
 | refl m=>rw [Nat.zero_add];exact k
 | cons h1 h2 h3 _ ih =>
  rw [Nat.add_right_comm]
  exact .cons h1 h2 h3 (ih k)
theorem Steps.run{u:Unt}{n:Nat}{m m':Mach}(h:Steps u n m m')(k:Nat):Mach.run u (n+k) m=Mach.run u k m':=by
 induction h with
 | refl m=>rw [Nat.zero_add]
 | cons h1 h2 h3 _ ih =>
  rw [Nat.add_right_comm]
  simp only [Mach.run]
  rw [if_neg (by rw [h1];simp),pay_one h3,if_neg (by simp only;rw [h2];simp)]
  exact ih
theorem Steps.before{u:Unt}{n:Nat}{m m':Mach}(h:Steps u n m m'):∀k,k<n→(Mach.run u k m).over=false:=by
 induction h with
 | refl m=>intro k hk;omega
 | cons h1 h2 h3 _ ih =>
  intro k hk
  cases k with
  | zero=>exact h1
  | succ k =>
   simp only [Mach.run]
   rw [if_neg (by rw [h1];simp),pay_one h3,if_neg (by simp only;rw [h2];simp)]
   exact ih k (by omega)
end Mach
section
variable (u v:Unt) (s:Int→Int) (D L:Int→Int→Prop) (β:Int→Int→Int) (pre:Int→Int→List Ins)
structure FR(f f':Fr):Prop where
 ids:f'.fid=f.fid∧f'.mid=f.mid∧f'.fn=f.fn
 fn:0≤f.fn∧f.fn<u.fns.length
 live:L f.fn f.blk
 blk:f'.blk=β f.fn f.blk
 pos:f'.pos=(pre f.fn f.blk).length+f.pos
 vals:VR (D f.fn) s f.vals f'.vals
def ToR(f f':Fr):List Fr→Prop
 | []=>True
 | g::_=>f'.to=s f.to∧D g.fn f.to
def FsR:List Fr→List Fr→Prop
 | [],[]=>True
 | f::r,f'::r'=>FR u s D L β pre f f'∧ToR s D f f' r∧FsR r r'
 | _,_=>False
def Rel(c d:Int)(m m':Mach):Prop:=∃fs l,m'=m.put fs l∧FsR u s D L β pre m.frames fs∧c * m.left≤l∧l≤m.left+d
end
section
variable {u v:Unt} {s:Int→Int} {D L:Int→Int→Prop} {β:Int→Int→Int} {pre:Int→Int→List Ins} {c d:Int}
theorem FsR.cons{f:Fr}{r:List Fr}{fs:List Fr}(h:FsR u s D L β pre (f::r) fs):∃f' r',fs=f'::r'∧FR u s D L β pre f f'∧ToR s D f f' r∧FsR u s D L β pre r r':=by
 cases fs with
 | nil=>exact False.elim h
 | cons f' r'=>exact⟨f',r',rfl,h.1,h.2.1,h.2.2⟩
theorem ahead{fn b:Int}{B':Block}{rest:List Ins}(hb:blkOf (fnOf v fn) (β fn b)=B')(hi:B'.ins=pre fn b++rest)(hp:∀i∈pre fn b,i.op=0∧∀k,D fn k→s k≠i.to){m:Mach}(ho:m.over=false)(hs:m.short=false){f':Fr}{r':List Fr}(h1:f'.fn=fn)(h2:f'.blk=β fn b){es:List (Int×SV)} :
  ∀(n:Nat) (k:Nat) (vals':List (Int×SV)) (l:Int),k+n=(pre fn b).length→(n:Int)≤l→VR (D fn) s es vals' →
   ∃vals'',VR (D fn) s es vals''∧Mach.Steps v n (m.put ({ f' with pos:=k,vals:=vals' }::r') l) (m.put ({ f' with pos:=(pre fn b).length,vals:=vals'' }::r') (l - n))
 | 0,k,vals',l,hk,hl,hv=>⟨vals',hv,by
   have:l - ((0:Nat):Int)=l:=by omega
   rw [this,show k=(pre fn b).length by omega]
   exact .refl _⟩
 | n+1,k,vals',l,hk,hl,hv=>by
  obtain⟨i,hi2⟩:∃i,(pre fn b)[k]?=some i:=⟨(pre fn b)[k]'(by omega),List.getElem?_eq_getElem _⟩
  obtain⟨q1,q2⟩:=hp i (List.mem_of_getElem? hi2)
  obtain⟨vals'',e1,e2⟩:=ahead hb hi hp ho hs (f':=f') (r':=r') h1 h2 n (k+1) (putS' vals' i.to (.word i.n)) (l - 1) (by omega) (by omega) (hv.other q2 _)
  refine⟨vals'',e1,.cons ho hs (by show 1≤l;omega) ?_⟩
  have hst:Mach.step v { m.put ({ f' with pos:=k,vals:=vals' }::r') l with left:=l - 1 }=m.put ({ f' with pos:=k+1,vals:=putS' vals' i.to (.word i.n) }::r') (l - 1):=by
   unfold Mach.step Mach.put
   simp only
   rw [h1,h2,hb,hi,List.getElem?_append_left (lt_of_getElem? hi2),hi2]
   simp only
   unfold Mach.act
   rw [if_neg (by omega),if_neg (by omega)]
   unfold Mach.exec
   rw [if_pos q1]
   rfl
  rw [show l - ((n+1:Nat):Int)=l - 1 - n by omega]
  show Mach.Steps v n (Mach.step v { m.put ({ f' with pos:=k,vals:=vals' }::r') l with left:=l - 1 }) _
  rw [hst]
  exact e2
theorem mul_down{c x l a:Int}(hc:1≤c)(h:c * x≤l)(ha:0≤a):c * (x - a)≤l - a:=by
 have h1:c * (x - a)=c * x - c * a:=Int.mul_sub ..
 have h2:1 * a≤c * a:=Int.mul_le_mul_of_nonneg_right hc ha
 omega
def Goes(u v:Unt)(s:Int→Int)(D L:Int→Int→Prop)(β:Int→Int→Int)(pre:Int→Int→List Ins)(c d:Int)(m m':Mach):Prop:=∃n m'',Mach.Steps v n m' m''∧Rel u s D L β pre c d m m''
theorem Goes.now{m m':Mach}(h:Rel u s D L β pre c d m m'):Goes u v s D L β pre c d m m':=⟨0,m',.refl _,h⟩
theorem arrive(T:UntTr u v s D L β pre c){m:Mach}(ho:m.over=false)(hs:m.short=false){f f':Fr}{r r':List Fr}{l:Int}(hm:m.frames=f::r)
  (h1:f'.fid=f.fid∧f'.mid=f.mid∧f'.fn=f.fn) (h2:0≤f.fn∧f.fn<u.fns.length) (h3:L f.fn f.blk) (h4:f'.blk=β f.fn f.blk) (h5:f.pos=0) (h6:f'.pos=0) (hv:VR (D f.fn) s f.vals f'.vals)
  (ht:ToR s D f f' r) (hr:FsR u s D L β pre r r') (l0:0≤m.left) (l1:c * m.left+(pre f.fn f.blk).length≤l) (l2:l - (pre f.fn f.blk).length≤m.left+d) (hc:1≤c):Goes u v s D L β pre c d m (m.put (f'::r') l):=by
 have hB:=T.blks f.fn f.blk h2.1 h2.2 h3
 have hcl:0≤c * m.left:=Int.mul_nonneg (by omega) l0
 obtain⟨vals'',e1,e2⟩:=ahead (s:=s) (D:=D) (pre:=pre) (β:=β) (v:=v) rfl hB.ins hB.hd ho hs (f':=f') (r':=r') h1.2.2 h4 (es:=f.vals) (pre f.fn f.blk).length 0 f'.vals l (by omega) (by omega) hv
 have e:({ f' with pos:=0,vals:=f'.vals }:Fr)=f':=by
  rw [←h6]
 rw [e] at e2
 refine⟨_,_,e2,_,_,rfl,?_,by omega,by omega⟩
 rw [hm]
 exact⟨⟨h1,h2,h3,h4,by rw [h5];rfl,e1⟩,by cases r<;>exact ht,hr⟩
theorem follow_rel(T:UntTr u v s D L β pre c)(hc:1≤c){m:Mach}(ho:m.over=false)(hs:m.short=false){f f':Fr}{r r':List Fr}{y:Int}(hm:m.frames=f::r)(hF:FR u s D L β pre f f')(hT:ToR s D f f' r)(hR:FsR u s D L β pre r r')
  (l0:0≤m.left) (l1:c * m.left+(c - 1)≤y) (l2:y≤m.left+d) {e e':Edge} (he:EdgeTr v s (D f.fn) (L f.fn) (β f.fn) (pre f.fn) c f.fn e e'):Goes u v s D L β pre c d (m.follow u f e) ((m.put (f'::r') y).follow v f' e'):=by
 obtain⟨fid',mid',fn',blk',pos',to',vals'⟩:=f'
 obtain⟨⟨h1,h2,h3⟩,g2,g3,g4,g5,g6⟩:=hF
 simp only at h1 h2 h3 g4 g5 g6
 subst h1 h2 h3
 have hB:=T.blks f.fn e.block g2.1 g2.2 he.live
 have ht:takeS vals' (e.args.map s)=takeS f.vals e.args:=g6.take he.args
 have hfr:(m.follow u f e).frames = { f with blk:=e.block,pos:=0,vals:=bindS f.vals (blkOf (fnOf u f.fn) e.block).params (takeS f.vals e.args) }::r:=by
  show _::m.frames.tail=_
  rw [hm]
  rfl
 rcases he.way with⟨w1,w2,w3⟩ | ⟨C,e2,w1,w2,w3,w4,w5,w6,w7⟩
 ·have e0:(m.put (⟨f.fid,f.mid,f.fn,blk',pos',to',vals'⟩::r') y).follow v ⟨f.fid,f.mid,f.fn,blk',pos',to',vals'⟩ e'=(m.follow u f e).put (⟨f.fid,f.mid,f.fn,β f.fn e.block,0,to',bindS vals' ((blkOf (fnOf u f.fn) e.block).params.map s) (takeS f.vals e.args)⟩::r') y:=by
   unfold Mach.follow
   simp only
   rw [w1,w2,hB.params.1,ht]
   rfl
  rw [e0]
  exact arrive T (m:=m.follow u f e) ho hs hfr ⟨rfl,rfl,rfl⟩ g2 he.live rfl rfl rfl (VR.bind (T.inj f.fn) _ _ hB.params.2 g6) hT hR l0 (by
   show c * m.left+(pre f.fn e.block).length≤y
   omega) (by
   show y - (pre f.fn e.block).length≤m.left+d
   omega) hc
 obtain⟨x1,x2⟩:=w7 vals'
 have hcl:0≤c * m.left:=Int.mul_nonneg (by omega) l0
 have hv1:VR (D f.fn) s f.vals (bindS vals' C.params (takeS vals' e'.args)):=fun k hk=>by rw [x2 k hk,g6 k hk]
 generalize hes:bindS vals' C.params (takeS vals' e'.args)=es1 at *
 have e0:(m.put (⟨f.fid,f.mid,f.fn,blk',pos',to',vals'⟩::r') y).follow v ⟨f.fid,f.mid,f.fn,blk',pos',to',vals'⟩ e'=m.put (⟨f.fid,f.mid,f.fn,e'.block,0,to',es1⟩::r') y:=by
  unfold Mach.follow
  simp only
  rw [←w1,hes]
  rfl
 have e1:Mach.step v { m.put (⟨f.fid,f.mid,f.fn,e'.block,0,to',es1⟩::r') y with left:=y - 1 }=(m.follow u f e).put (⟨f.fid,f.mid,f.fn,β f.fn e.block,0,to',bindS es1 ((blkOf (fnOf u f.fn) e.block).params.map s) (takeS f.vals e.args)⟩::r') (y - 1):=by
  unfold Mach.step Mach.put
  simp only
  rw [←w1,w2]
  simp only [List.getElem?_nil]
  unfold Mach.finish
  rw [w3,if_neg (by decide),if_pos rfl,w4]
  simp only [List.getElem?_cons_zero,Option.getD_some]
  unfold Mach.follow
  simp only
  rw [x1,ht,w5,hB.params.1]
  rfl
 rw [e0]
 obtain⟨n,m'',s1,s2⟩:=arrive T (m:=m.follow u f e) (l:=y - 1) ho hs hfr (f':=⟨f.fid,f.mid,f.fn,β f.fn e.block,0,to',bindS es1 ((blkOf (fnOf u f.fn) e.block).params.map s) (takeS f.vals e.args)⟩) ⟨rfl,rfl,rfl⟩ g2 he.live rfl rfl rfl (VR.bind (T.inj f.fn) _ _ hB.params.2 hv1) hT hR l0 (by
  show c * m.left+(pre f.fn e.block).length≤y - 1
  omega) (by
  show y - 1 - (pre f.fn e.block).length≤m.left+d
  omega) hc
 refine⟨n+1,m'',.cons ho hs (by show 1≤y;omega) ?_,s2⟩
 show Mach.Steps v n (Mach.step v { m.put (⟨f.fid,f.mid,f.fn,e'.block,0,to',es1⟩::r') y with left:=y - 1 }) m''
 rw [e1]
 exact s1
theorem leave_rel(T:UntTr u v s D L β pre c){m:Mach}{f f':Fr}{r r':List Fr}{y:Int}(hm:m.frames=f::r)(hT:ToR s D f f' r)(hR:FsR u s D L β pre r r')(l1:c * m.left≤y)(l2:y≤m.left+d)(x:SV) :
  Goes u v s D L β pre c d (m.leave f x) ((m.put (f'::r') y).leave f' x):=by
 refine .now ?_
 unfold Mach.leave
 rw [hm]
 simp only [List.tail_cons,Mach.put]
 cases r with
 | nil =>
  cases r' with
  | nil=>exact⟨[],y,rfl,trivial,l1,l2⟩
  | cons g' r'=>exact False.elim hR
 | cons g r =>
  obtain⟨g',r2,rfl,hG,hT2,hR2⟩:=hR.cons
  obtain⟨t1,t2⟩:=hT
  simp only
  refine⟨{ g' with vals:=putS' g'.vals f'.to x }::r2,y,rfl,⟨⟨hG.ids,hG.fn,hG.live,hG.blk,hG.pos,?_⟩,by cases r<;>exact hT2,hR2⟩,l1,l2⟩
  show VR (D g.fn) s (putS' g.vals f.to x) (putS' g'.vals f'.to x)
  rw [t1]
  exact hG.vals.put (T.inj g.fn) t2 x
theorem enter_rel(T:UntTr u v s D L β pre c)(hc:1≤c){m:Mach}(ho:m.over=false)(hs:m.short=false){fs':List Fr}{y:Int}{g:Fr}{r:List Fr}(hm:m.frames=g::r)(hR:FsR u s D L β pre m.frames fs')(l0:0≤m.left)(l1:c * m.left+(c - 1)≤y)(l2:y≤m.left+d)
  {fn:Int} (hfn:0≤fn∧fn<u.fns.length) (args:List SV) {to to':Int} (ht:to'=s to∧D g.fn to):Goes u v s D L β pre c d (m.enter u fn args to) ((m.put fs' y).enter v fn args to'):=by
 obtain⟨z1,z2,z3⟩:=T.zero fn hfn.1 hfn.2
 have hB:=T.blks fn 0 hfn.1 hfn.2 z1
 rw [z2] at hB
 have e0:(m.put fs' y).enter v fn args to'=(m.enter u fn args to).put (⟨m.next+1,m.next,fn,0,0,to',bindS [] ((blkOf (fnOf u fn) 0).params.map s) args⟩::fs') y:=by
  unfold Mach.enter
  rw [hB.params.1]
  rfl
 rw [e0]
 refine arrive T (m:=m.enter u fn args to) ho hs (f:=⟨m.next+1,m.next,fn,0,0,to,bindS [] (blkOf (fnOf u fn) 0).params args⟩) (r:=m.frames) rfl ⟨rfl,rfl,rfl⟩ hfn z1 z2.symm rfl rfl (VR.bind (T.inj fn) _ _ hB.params.2 (fun _ _=>rfl)) ?_ hR l0 (by
  show c * m.left+(pre fn 0).length≤y
  omega) (by
  show y - (pre fn 0).length≤m.left+d
  omega) hc
 rw [hm]
 exact ht
theorem settle_put(E:Mach)(E2:SV×Int)(f f':Fr)(fs:List Fr)(to to' y:Int):Mach.settle f' to' (E.put fs y,E2)=(Mach.settle f to (E,E2)).put ({ f' with vals:=putS' f'.vals to' E2.1 }::fs.tail) y:=by
 unfold Mach.settle
 simp only
 split<;>rfl
theorem settle_frames(E:Mach)(E2:SV×Int)(f:Fr)(to:Int):(Mach.settle f to (E,E2)).frames = { f with vals:=putS' f.vals to E2.1 }::E.frames.tail∧(Mach.settle f to (E,E2)).left=E.left:=by
 unfold Mach.settle
 simp only
 split<;>exact⟨rfl,rfl⟩
theorem step_rel(T:UntTr u v s D L β pre c)(hu:UnitOK u)(hc:1≤c){m m':Mach}(hm:MachOK u m)(ho:m.over=false)(h1:1≤m.left)(hs:(Mach.step u { m with left:=m.left - 1 }).short=false)(hr:Rel u s D L β pre c d m m') :
  ∃n m'',Mach.Steps v (n+1) m' m''∧Rel u s D L β pre c d (Mach.step u { m with left:=m.left - 1 }) m'':=by
 obtain⟨fs,l,rfl,hfs,l1,l2⟩:=hr
 obtain⟨hne,hsh⟩:=hm.over ho
 have hcl:1 * m.left≤c * m.left:=Int.mul_le_mul_of_nonneg_right hc (by omega)
 have hcs:c * (m.left - 1)=c * m.left - c:=by rw [Int.mul_sub,Int.mul_one]
 suffices h:Goes u v s D L β pre c d (Mach.step u { m with left:=m.left - 1 }) (Mach.step v (({ m with left:=m.left - 1 }:Mach).put fs (l - 1))) by
  obtain⟨n,m'',q1,q2⟩:=h
  exact⟨n,m'',.cons ho hsh (by show 1≤l;omega) q1,q2⟩
 have hm1:MachOK u { m with left:=m.left - 1 }:=by
  have:=(pay_ok hm ho (by omega)).1
  rwa [Mach.pay_one h1] at this
 have e1:({ m with left:=m.left - 1 }:Mach).left=m.left - 1:=rfl
 have k1:c * ({ m with left:=m.left - 1 }:Mach).left+(c - 1)≤l - 1:=by rw [e1];omega
 have k2:l - 1≤({ m with left:=m.left - 1 }:Mach).left+d:=by rw [e1];omega
 have k0:0≤({ m with left:=m.left - 1 }:Mach).left:=by rw [e1];omega
 have ho1:({ m with left:=m.left - 1 }:Mach).over=false:=ho
 have hs1:({ m with left:=m.left - 1 }:Mach).short=false:=hsh
 have hfs1:FsR u s D L β pre ({ m with left:=m.left - 1 }:Mach).frames fs:=hfs
 have hne1:({ m with left:=m.left - 1 }:Mach).frames≠[]:=hne
 generalize ({ m with left:=m.left - 1 }:Mach)=M at *
 generalize l - 1=y at *
 clear hm hcl hcs l1 l2 hfs hne e1 hsh h1 ho
 cases hfr:M.frames with
 | nil=>exact absurd hfr hne1
 | cons f r =>
  rw [hfr] at hfs1
  obtain⟨f',r',rfl,hF,hT,hR⟩:=hfs1.cons
  have hfo:=hm1.frames f (by rw [hfr];simp)
  have hb:=hu.blocks _ (fnOf_mem hfo.fn.1 hfo.fn.2) _ (blkOf_mem hfo.blk.1 hfo.blk.2)
  have hB:=T.blks f.fn f.blk hF.fn.1 hF.fn.2 hF.live
  have hget:(blkOf (fnOf v f'.fn) f'.blk).ins[f'.pos]?=((blkOf (fnOf u f.fn) f.blk).ins[f.pos]?).map (trI s):=by
   rw [hF.ids.2.2,hF.blk,hB.ins,hF.pos,List.getElem?_append_right (by omega),Nat.add_sub_cancel_left,List.getElem?_map]
  have hput:(M.put (f'::r') y).frames=f'::r':=rfl
  have k3:c * M.left≤y:=by omega
  unfold Mach.step at hs ⊢
  rw [hfr] at hs ⊢
  rw [hput]
  simp only at hs ⊢
  rw [hget]
  cases hi:(blkOf (fnOf u f.fn) f.blk).ins[f.pos]? with
  | none =>
   simp only [Option.map_none]
   rw [hF.ids.2.2,hF.blk]
   generalize blkOf (fnOf v f.fn) (β f.fn f.blk)=B' at *
   generalize hBB:blkOf (fnOf u f.fn) f.blk=B at *
   obtain⟨t1,t2,t3,t4⟩:=hB.term
   unfold Mach.finish
   rw [t1,t2]
   by_cases q4:B.term.kind=4
   ·rw [if_pos q4,if_pos q4]
    exact .now ⟨f'::r',y,rfl,by show FsR u s D L β pre M.frames _;rw [hfr];exact⟨hF,hT,hR⟩,k3,k2⟩
   rw [if_neg q4,if_neg q4]
   by_cases q1:B.term.kind=1
   ·rw [if_pos q1,if_pos q1]
    have hl:=hb.term.jump q1
    obtain⟨e,he⟩:∃e,B.term.to[0]?=some e:=⟨B.term.to[0]'(by omega),List.getElem?_eq_getElem _⟩
    obtain⟨e',he'⟩:∃e',B'.term.to[0]?=some e':=⟨B'.term.to[0]'(by omega),List.getElem?_eq_getElem _⟩
    rw [he,he']
    exact follow_rel T hc ho1 hs1 hfr hF hT hR k0 k1 k2 (hB.edges 0 e e' he he')
   rw [if_neg q1,if_neg q1]
   obtain⟨a1,a2⟩:=hB.arg q1 q4
   have hga:getS f'.vals B'.term.arg=getS f.vals B.term.arg:=by rw [a1];exact hF.vals _ a2
   rw [hga]
   by_cases q0:B.term.kind=0
   ·rw [if_pos q0,if_pos q0]
    exact leave_rel T hfr hT hR k3 k2 _
   rw [if_neg q0,if_neg q0]
   by_cases qk:(getS f.vals B.term.arg).kind≠0
   ·rw [if_pos qk,if_pos qk]
    exact .now ⟨f'::r',y,rfl,by show FsR u s D L β pre M.frames _;rw [hfr];exact⟨hF,hT,hR⟩,k3,k2⟩
   rw [if_neg qk,if_neg qk]
   have hch:choiceM B'.term (getS f.vals B.term.arg).n=choiceM B.term (getS f.vals B.term.arg).n:=by
    unfold choiceM
    rw [t1,t3]
   rw [hch]
   obtain⟨e,he⟩:=choice_at hb.term q0 q1 q4 (getS f.vals B.term.arg).n
   have hlt:=lt_of_getElem? he
   obtain⟨e',he'⟩:∃e',B'.term.to[choiceM B.term (getS f.vals B.term.arg).n]?=some e':=⟨B'.term.to[choiceM B.term (getS f.vals B.term.arg).n]'(by omega),List.getElem?_eq_getElem _⟩
   rw [he,he']
   exact follow_rel T hc ho1 hs1 hfr hF hT hR k0 k1 k2 (hB.edges _ e e' he he')
  | some i =>
   rw [hi] at hs
   simp only [Option.map_some] at hs ⊢
   have him:=List.mem_of_getElem? hi
   have hio:=hb.ins i him
   have hlt:=lt_of_getElem? hi
   obtain⟨d1,d2⟩:=hB.vals i him
   have hargs:takeS f'.vals (trI s i).args=takeS f.vals i.args:=hF.vals.take d2
   rw [hargs]
   have hf1:FrOK u M { f with pos:=f.pos+1 }:=⟨hfo.fn,hfo.blk,hlt,hfo.vals⟩
   have hf2:FrOK u (M.setTop { f with pos:=f.pos+1 }) { f with pos:=f.pos+1 }:=hf1.of_heap (by rfl)
   have hM2:=hm1.setTop hne1 hf1
   have ha:=takeS_ok hf2.vals i.args
   have hal:=takeS_len f.vals i.args
   have hF1:FR u s D L β pre { f with pos:=f.pos+1 } { f' with pos:=f'.pos+1 }:=⟨hF.ids,hF.fn,hF.live,hF.blk,by show f'.pos+1=_+(f.pos+1);rw [hF.pos];rfl,hF.vals⟩
   have hfr2:(M.setTop { f with pos:=f.pos+1 }).frames = { f with pos:=f.pos+1 }::r:=by
    show _::M.frames.tail=_
    rw [hfr]
    rfl
   have e2:(M.put (f'::r') y).setTop { f' with pos:=f'.pos+1 }=(M.setTop { f with pos:=f.pos+1 }).put ({ f' with pos:=f'.pos+1 }::r') y:=rfl
   rw [e2]
   have hT2:ToR s D { f with pos:=f.pos+1 } { f' with pos:=f'.pos+1 } r:=by cases r<;>exact hT
   have hFs2:FsR u s D L β pre (M.setTop { f with pos:=f.pos+1 }).frames ({ f' with pos:=f'.pos+1 }::r'):=by
    rw [hfr2]
    exact⟨hF1,hT2,hR⟩
   have k0':0≤(M.setTop { f with pos:=f.pos+1 }).left:=k0
   have k1':c * (M.setTop { f with pos:=f.pos+1 }).left+(c - 1)≤y:=k1
   have k2':y≤(M.setTop { f with pos:=f.pos+1 }).left+d:=k2
   have ho2:(M.setTop { f with pos:=f.pos+1 }).over=false:=ho1
   have hs2:(M.setTop { f with pos:=f.pos+1 }).short=false:=hs1
   have hvk:(({ f with pos:=f.pos+1 }:Fr)).vals=f.vals:=rfl
   rw [hvk] at ha
   unfold Mach.act at hs ⊢
   have o1:(trI s i).op=i.op:=rfl
   have o2:(trI s i).n=i.n:=rfl
   have o3:(trI s i).to=s i.to:=rfl
   rw [o1,o2,o3]
   by_cases h13:i.op=13
   ·rw [if_pos h13,if_pos h13]
    obtain⟨c1,c2,c3⟩:=hio.call h13
    exact enter_rel T hc ho2 hs2 hfr2 hFs2 k0' k1' k2' ⟨c1,c2⟩ _ ⟨rfl,d1⟩
   rw [if_neg h13] at hs
   rw [if_neg h13,if_neg h13]
   by_cases h14:i.op=14
   ·rw [if_pos h14,if_pos h14]
    by_cases hk2:(argS (takeS f.vals i.args) 0).kind=2
    ·have hfn:=SV.Wf.fn (argS_ok ha 0) hk2
     obtain⟨z1,z2,z3⟩:=T.zero _ hfn.1 hfn.2
     have hP:=(T.blks _ 0 hfn.1 hfn.2 z1).params.1
     rw [z2] at hP
     rw [hP,List.length_map]
     by_cases hcn:(argS (takeS f.vals i.args) 0).kind=2∧(blkOf (fnOf u (argS (takeS f.vals i.args) 0).n) 0).params.length=(takeS f.vals i.args).length
     ·rw [if_pos hcn,if_pos hcn]
      exact enter_rel T hc ho2 hs2 hfr2 hFs2 k0' k1' k2' hfn _ ⟨rfl,d1⟩
     rw [if_neg hcn,if_neg hcn]
     exact .now ⟨_,y,rfl,hFs2,k3,k2⟩
    rw [if_neg (fun q=>hk2 q.1),if_neg (fun q=>hk2 q.1)]
    exact .now ⟨_,y,rfl,hFs2,k3,k2⟩
   rw [if_neg h14] at hs
   rw [if_neg h14,if_neg h14]
   have hx:=exec_ok hM2 hio hal ha
   have htr:((M.setTop { f with pos:=f.pos+1 }).put ({ f' with pos:=f'.pos+1 }::r') y).exec (trI s i) (takeS f.vals i.args)=((M.setTop { f with pos:=f.pos+1 }).put ({ f' with pos:=f'.pos+1 }::r') y).exec i (takeS f.vals i.args):=rfl
   have hss:=(Mach.settle_short { f with pos:=f.pos+1 } i.to ((M.setTop { f with pos:=f.pos+1 }).exec i (takeS f.vals i.args))).1
   rw [hss] at hs
   have hml:(M.setTop { f with pos:=f.pos+1 }).left≤y:=by
    have:1 * M.left≤c * M.left:=Int.mul_le_mul_of_nonneg_right hc k0
    show M.left≤y
    omega
   rw [htr,Mach.put_exec _ _ _ _ _ hs hx.left.1 hml]
   generalize (M.setTop { f with pos:=f.pos+1 }).exec i (takeS f.vals i.args)=X at *
   obtain⟨E,E2⟩:=X
   have hxf:E.frames = { f with pos:=f.pos+1 }::r:=by
    rw [←hfr2]
    exact hx.frames
   have hxl:E.left≤M.left:=hx.left.2
   obtain⟨w1,w2⟩:=settle_frames E E2 { f with pos:=f.pos+1 } i.to
   refine .now ⟨_,_,settle_put E E2 { f with pos:=f.pos+1 } _ _ i.to _ _,?_,?_,?_⟩
   ·rw [w1,hxf]
    refine⟨⟨hF1.ids,hF1.fn,hF1.live,hF1.blk,hF1.pos,hF1.vals.put (T.inj f.fn) d1 _⟩,by cases r<;>exact hT,hR⟩
   ·rw [w2]
    have:=mul_down hc k3 (a:=M.left - E.left) (by omega)
    rw [show M.left - (M.left - E.left)=E.left by omega] at this
    exact this
   rw [w2]
   show y - (M.left - E.left)≤E.left+d
   omega
theorem Rel.core{m m':Mach}(h:Rel u s D L β pre c d m m'):m'.over=m.over∧m'.short=m.short∧m'.out=m.out∧m'.fin=m.fin∧m'.val=m.val∧c * m.left≤m'.left∧m'.left≤m.left+d:=by
 obtain⟨fs,l,rfl,_,l1,l2⟩:=h
 exact⟨rfl,rfl,rfl,rfl,rfl,l1,l2⟩
theorem run_rel(T:UntTr u v s D L β pre c)(hu:UnitOK u)(hc:1≤c):∀(k:Nat) (m m':Mach),MachOK u m→Rel u s D L β pre c d m m'→(Mach.run u k m).short=false→∃n m'',Mach.Steps v n m' m''∧Rel u s D L β pre c d (Mach.run u k m) m''
 | 0,m,m',hm,hr,hs=>⟨0,m',.refl _,hr⟩
 | k+1,m,m',hm,hr,hs=>by
  cases ho:m.over with
  | true =>
   rw [run_over' ho] at hs ⊢
   exact⟨0,m',.refl _,hr⟩
  | false =>
   have hrun:Mach.run u (k+1) m=if (m.pay 1).short then m.pay 1 else Mach.run u k (Mach.step u (m.pay 1)):=by simp [Mach.run,ho]
   rw [hrun] at hs ⊢
   by_cases hp:m.left<1
   ·rw [pay_short hp] at hs
    simp at hs
   obtain⟨q1,q2,q3,q4,q5⟩:=pay_ok hm ho hp
   rw [if_neg (by simp [q3])] at hs ⊢
   have hd1:(m.pay 1).frames.length+(m.pay 1).left+1≤2 ^ 40:=by
    have:=hm.depth
    rw [q4,q5];omega
   have hst:=MachOK.step hu q1 q2 hd1
   have hss:(Mach.step u (m.pay 1)).short=false:=by
    cases hx:(Mach.step u (m.pay 1)).short with
    | false=>rfl
    | true =>
     have ho:(Mach.step u (m.pay 1)).over=true:=by
      cases hy:(Mach.step u (m.pay 1)).over with
      | true=>rfl
      | false=>rw [(hst.over hy).2] at hx;cases hx
     rw [run_over' ho,hx] at hs
     cases hs
   rw [Mach.pay_one (by omega)] at hst hss hs ⊢
   obtain⟨n,m1,s1,s2⟩:=step_rel T hu hc hm ho (by omega) hss hr
   obtain⟨n2,m2,s3,s4⟩:=run_rel T hu hc k _ m1 hst s2 hs
   exact⟨n+1+n2,m2,s1.trans s3,s4⟩
theorem perform_rel(T:UntTr u v s D L β pre c)(hu:UnitOK u)(hv:UnitOK v)(hc:1≤c){F G:Int}(hF:0≤F∧F≤1000000)(hG:G≤1000000)(hlo:c * F+(c - 1)≤G)(he:(performM u F).e=0) :
  (performM v G).e=0∧(performM v G).out=(performM u F).out∧(performM v G).fin=(performM u F).fin∧(performM v G).val=(performM u F).val∧(performM v G).n≤G - c * (F - (performM u F).n)∧(performM u F).n+(pre u.main 0).length≤(performM v G).n:=by
 have hcF:1 * F≤c * F:=Int.mul_le_mul_of_nonneg_right hc hF.1
 obtain⟨z1,z2,z3⟩:=T.zero u.main hu.main.1 hu.main.2
 have hB:=T.blks u.main 0 hu.main.1 hu.main.2 z1
 rw [z2] at hB
 have hsu:=start_ok hu (fuel:=F) hF.1 hF.2
 have hsv:=start_ok hv (fuel:=G) (by omega) hG
 have hstart:Goes u v s D L β pre c (G - F - (pre u.main 0).length) ((Mach.start F).enter u u.main [] 0) ((Mach.start G).enter v v.main [] 0):=by
  have e0:(Mach.start G).enter v v.main [] 0=((Mach.start F).enter u u.main [] 0).put [⟨5,4,u.main,0,0,0,bindS [] ((blkOf (fnOf u u.main) 0).params.map s) []⟩] G:=by
   rw [T.main]
   unfold Mach.enter
   rw [hB.params.1]
   rfl
  rw [e0]
  refine arrive T (m:=(Mach.start F).enter u u.main [] 0) rfl rfl (f:=⟨5,4,u.main,0,0,0,bindS [] (blkOf (fnOf u u.main) 0).params []⟩) (r:=[]) rfl ⟨rfl,rfl,rfl⟩ hu.main z1 z2.symm rfl rfl (VR.bind (T.inj u.main) _ _ hB.params.2 (fun _ _=>rfl)) trivial trivial hF.1 (by
   show c * F+(pre u.main 0).length≤G
   omega) (by
   show G - (pre u.main 0).length≤F+(G - F - (pre u.main 0).length)
   omega) hc
 obtain⟨n0,m0,s0,r0⟩:=hstart
 unfold performM at he ⊢
 simp only at he ⊢
 have hru:=run_ok hu (F.toNat+2) _ hsu (by simp [Mach.enter,Mach.start])
 have hrv:=run_ok hv (G.toNat+2) _ hsv (by simp [Mach.enter,Mach.start])
 have hsim:=fun h=>run_rel T hu hc (F.toNat+2) _ m0 hsu r0 h
 generalize Mach.run u (F.toNat+2) ((Mach.start F).enter u u.main [] 0)=E at *
 cases hs:E.short with
 | true =>
  rw [hs] at he
  simp at he
 | false =>
  obtain⟨n1,m1,s1,r1⟩:=hsim hs
  have S:=s0.trans s1
  obtain⟨b1,b2,b3,b4,b5,b6,b7⟩:=r1.core
  have hle:n0+n1≤G.toNat+2:=Classical.byContradiction fun q=>by
   have:=S.before (G.toNat+2) (by omega)
   rw [hrv.1] at this
   cases this
  have hend:Mach.run v (G.toNat+2) ((Mach.start G).enter v v.main [] 0)=m1:=by
   have:=S.run (G.toNat+2 - (n0+n1))
   rw [show n0+n1+(G.toNat+2 - (n0+n1))=G.toNat+2 by omega] at this
   rw [this]
   exact run_over' (by rw [b1];exact hru.1) _
  rw [hend,b2,hs]
  simp only [Bool.false_eq_true,if_false]
  refine⟨trivial,b3,b4,b5,?_,?_⟩
  ·rw [show F - (F - E.left)=E.left by omega]
   omega
  omega
end
end Go.Proofs.Ytkhnjeblbiocaaa
namespace Go.Proofs.Ytkhnjeblbiocaaa
open Go.Av
theorem lookD_no{ds:Defs}{v:Int}(h:v ∉ ds.map (·.1)):lookD ds v=none:=by
 cases hl:lookD ds v with
 | none=>rfl
 | some p=>exact absurd (List.mem_map.2 ⟨_,lookD_some hl,rfl⟩) h
theorem defineM_zero{ds:Defs}{v:Int}{p:Int×Int}(hv:0≤v∧v≤4095)(h:v ∉ ds.map (·.1)):(defineM ds v p).1=0:=by
 unfold defineM
 rw [lookD_no h]
 simp [within,hv]
theorem paramsM_zero(k:Int):∀(l:List Int) (ds:Defs),(∀v∈l,0≤v∧v≤4095)→(ds.map (·.1)++l).Nodup→(paramsM k ds l).1=0
 | [],_,_,_=>rfl
 | p::r,ds,hv,hn=>by
  have hp:p ∉ ds.map (·.1):=fun q=>by
   rw [List.nodup_append] at hn
   exact hn.2.2 p q p List.mem_cons_self rfl
  have h0:=defineM_zero (p:=(k,0)) (hv p List.mem_cons_self) hp
  simp only [paramsM]
  rw [if_neg (by rw [h0];simp),defineM_eq h0]
  refine paramsM_zero k r _ (fun v h=>hv v (List.mem_cons_of_mem _ h)) ?_
  rw [List.map_append,List.append_assoc]
  exact hn
theorem insM_zero(k:Int):∀(l:List Ins) (n:Int) (ds:Defs),(∀i∈l,0≤i.to∧i.to≤4095∧formE i=0)→(ds.map (·.1)++l.map Ins.to).Nodup→(insM k n ds l).1=0
 | [],_,_,_,_=>rfl
 | i::r,n,ds,hv,hn=>by
  have hp:i.to ∉ ds.map (·.1):=fun q=>by
   rw [List.nodup_append] at hn
   exact hn.2.2 _ q _ List.mem_cons_self rfl
  have hi:=hv i List.mem_cons_self
  have h0:=defineM_zero (p:=(k,n+1)) ⟨hi.1,hi.2.1⟩ hp
  simp only [insM]
  rw [if_neg (by rw [h0];simp),if_neg (by rw [hi.2.2];simp),defineM_eq h0]
  refine insM_zero k r _ _ (fun j h=>hv j (List.mem_cons_of_mem _ h)) ?_
  rw [List.map_append,List.append_assoc]
  exact hn
theorem blockM_zero{f:Func}{ds:Defs}{k:Int}{b:Block}(hb:blkOf f k=b)(hp:∀v∈b.params,0≤v∧v≤4095)(hi:∀i∈b.ins,0≤i.to∧i.to≤4095∧formE i=0)(he:endE f b.term=0)(hn:(ds.map (·.1)++blkVals b).Nodup):(blockM f ds k).1=0:=by
 unfold blockM
 rw [hb]
 unfold blkVals at hn
 rw [←List.append_assoc] at hn
 have h1:=paramsM_zero k b.params ds hp (by
  rw [List.nodup_append] at hn
  exact hn.1)
 rw [if_neg (by rw [h1];simp),paramsM_eq k b.params ds h1]
 have h2:=insM_zero k b.ins 0 (ds++parDefs k b.params) hi (by
  rw [List.map_append]
  have:(parDefs k b.params).map (·.1)=b.params:=by
   unfold parDefs
   rw [List.map_map]
   exact List.map_id' _
  rw [this]
  exact hn)
 rw [if_neg (by rw [h2];simp)]
 exact he
theorem blkDefs_fst(k:Int)(b:Block):(blkDefs k b).map (·.1)=blkVals b:=by
 rw [blkDefs,List.map_append,insDefs_fst,blkVals,parDefs,List.map_map]
 congr 1
 exact List.map_id' _
theorem blocksM_zero{f:Func}(hp:∀b∈f.blocks,(∀v∈b.params,0≤v∧v≤4095)∧(∀i∈b.ins,0≤i.to∧i.to≤4095∧formE i=0)∧endE f b.term=0) :
  ∀(n k:Nat) (ds:Defs),k+n=f.blocks.length→(ds.map (·.1)++(f.blocks.drop k).flatMap blkVals).Nodup→(blocksM f n k ds).1=0
 | 0,_,_,_,_=>rfl
 | n+1,k,ds,hk,hn=>by
  have hb:f.blocks[k]?=some f.blocks[k]:=List.getElem?_eq_getElem (by omega)
  have hbo:blkOf f (k:Int)=f.blocks[k]:=by simp [blkOf,hb]
  rw [drop_at hb,List.flatMap_cons,←List.append_assoc] at hn
  obtain⟨p1,p2,p3⟩:=hp _ (List.mem_of_getElem? hb)
  have h0:=blockM_zero (ds:=ds) hbo p1 p2 p3 (by
   rw [List.nodup_append] at hn
   exact hn.1)
  simp only [blocksM]
  rw [if_neg (by rw [h0];simp),blockM_eq h0,hbo]
  have e:(k:Int)+1=((k+1:Nat):Int):=by omega
  rw [e]
  refine blocksM_zero hp n (k+1) _ (by omega) ?_
  rw [List.map_append,blkDefs_fst]
  exact hn
theorem insUses_intro{ds:Defs}{over:List Bs}{seen:Bs}{k:Nat}:∀(l:List Ins) (n:Nat),(∀(j:Nat) i,l[j]?=some i→∀a∈i.args,fineM ds over seen k ((n+j:Nat):Int) a=true)→insUses ds over seen k n l=true
 | [],_,_=>rfl
 | x::r,n,h=>by
  simp only [insUses,Bool.and_eq_true,List.all_eq_true]
  refine⟨fun a ha=>h 0 x rfl a ha,insUses_intro r (n+1) fun j i hj a ha=>?_⟩
  rw [show n+1+j=n+(j+1) by omega]
  exact h (j+1) i (by simpa using hj) a ha
theorem allUses_intro{ds:Defs}{over:List Bs}{seen:Bs}:∀(l:List Block) (k:Nat),(∀(j:Nat) b,l[j]?=some b→blkUses ds over seen (k+j) b=true)→allUses ds over seen k l=true
 | [],_,_=>rfl
 | x::r,k,h=>by
  simp only [allUses,Bool.and_eq_true]
  refine⟨h 0 x rfl,allUses_intro r (k+1) fun j b hj=>?_⟩
  rw [show k+1+j=k+(j+1) by omega]
  exact h (j+1) b (by simpa using hj)
theorem fine_intro{f:Func}(hn:(valsF f).Nodup){k:Nat}{n v:Int}(h:Fine f k n v):fineM (dsF f) (domM f).1 (domM f).2 k n v=true:=by
 obtain⟨p,h1,h2⟩:=h
 have hl:lookD (dsF f) v=some p:=(lookD_mem (by rw [dsF_fst];exact hn)).2 (mem_dsF.2 h1)
 unfold fineM
 rw [hl]
 simp only [Bool.or_eq_true,Bool.and_eq_true,decide_eq_true_eq,Bool.not_eq_true',decide_eq_false_iff_not]
 cases hs:seenF f k with
 | false=>exact .inr (.inr hs)
 | true =>
  rcases h2 hs with q | q
  ·exact .inl q
  exact .inr (.inl q)
theorem uses_intro{f:Func}(hn:(valsF f).Nodup)(h:UsesW f):usesM f (dsF f)=0:=by
 unfold usesM
 rw [if_pos]
 refine allUses_intro f.blocks 0 fun j b hj=>?_
 rw [Nat.zero_add]
 unfold blkUses usedM
 simp only [Bool.and_eq_true,Bool.or_eq_true,decide_eq_true_eq,List.all_eq_true]
 refine⟨insUses_intro b.ins 0 fun n i hi a ha=>?_,?_,fun e he a ha=>fine_intro hn (h.args j b hj e he a ha)⟩
 ·rw [Nat.zero_add]
  exact fine_intro hn (h.ins j b hj n i hi a ha)
 by_cases h1:b.term.kind=1
 ·exact .inl (.inl h1)
 by_cases h4:b.term.kind=4
 ·exact .inl (.inr h4)
 exact .inr (fine_intro hn (h.arg j b hj h1 h4))
def sumI(bs:List Block):Nat:=(bs.map fun b=>b.ins.length).sum
theorem wsum_eq:∀(bs:List Block) (m:Nat),(∀b∈bs,b.ins.length≤1024)→m+bs.length * 1024≤1000000→wsum m bs=((m+sumI bs:Nat):Int)
 | [],m,_,_=>by simp [wsum,sumI]
 | b::r,m,h,hm=>by
  have h1:=h b List.mem_cons_self
  rw [List.length_cons] at hm
  have hw:IntKind.i64.wrap ((m:Int)+(b.ins.length:Int))=((m+b.ins.length:Nat):Int):=by
   rw [wrap_in .i64 _ (by show(-9223372036854775808:Int)≤_;omega) (by show _≤(9223372036854775807:Int);omega)]
   omega
  simp only [wsum]
  rw [hw,wsum_eq r (m+b.ins.length) (fun x hx=>h x (List.mem_cons_of_mem _ hx)) (by omega)]
  unfold sumI
  rw [List.map_cons,List.sum_cons,Nat.add_assoc]
theorem check_intro{f:Func}(hne:f.blocks≠[])(hfew:f.blocks.length≤128)(hname:-1≤f.name∧f.name≤1048575)(hins:∀b∈f.blocks,b.ins.length≤1024)(hsum:sumI f.blocks≤1024)(hpar:(blkOf f 0).params.length≤6)
  (hv:∀v∈valsF f,0≤v∧v≤4095) (hn:(valsF f).Nodup) (hb:∀b∈f.blocks,(∀i∈b.ins,formE i=0)∧endE f b.term=0) (hu:UsesW f):checkFuncM f=0:=by
 have hbv:∀b∈f.blocks,(∀v∈b.params,0≤v∧v≤4095)∧(∀i∈b.ins,0≤i.to∧i.to≤4095∧formE i=0)∧endE f b.term=0:=fun b h=>by
  have hin:∀v∈blkVals b,0≤v∧v≤4095:=fun v q=>hv v (List.mem_flatMap.2 ⟨b,h,q⟩)
  refine⟨fun v q=>hin v (List.mem_append_left _ q),fun i q=>?_,(hb b h).2⟩
  have:=hin i.to (List.mem_append_right _ (List.mem_map.2 ⟨i,q,rfl⟩))
  exact⟨this.1,this.2,(hb b h).1 i q⟩
 have h0:=blocksM_zero hbv f.blocks.length 0 [] (by omega) (by
  rw [List.drop_zero]
  exact hn)
 have h1:=blocksM_eq f.blocks.length 0 [] (by omega) h0
 rw [List.drop_zero,List.nil_append] at h1
 have hw:=wsum_eq f.blocks 0 hins (by omega)
 rw [Nat.zero_add] at hw
 have hl:=List.length_pos_iff.2 hne
 unfold checkFuncM
 have hww:wsum 0 f.blocks=((sumI f.blocks:Nat):Int):=hw
 rw [if_neg (by omega),if_neg (by rw [hww];omega),if_neg (by simp [within,hname]),if_neg (by
  have h0':(blocksM f f.blocks.length 0 []).1=0:=h0
  rw [h0']
  simp)]
 have h1':(blocksM f f.blocks.length 0 []).2=dsF f:=h1
 rw [h1']
 exact uses_intro hn hu
theorem sum_few{f:Func}(hfit:f.fit)(h:checkFuncM f=0):sumI f.blocks≤1024:=by
 have hw:=checkFunc_ok hfit h
 have he:=wsum_eq f.blocks 0 hw.ins (by have:=hw.few;omega)
 unfold checkFuncM at h
 split at h
 ·simp at h
 split at h
 ·simp at h
 rename_i h2
 rw [Nat.zero_add] at he
 have he':wsum 0 f.blocks=((sumI f.blocks:Nat):Int):=he
 rw [he'] at h2
 omega
theorem dmax_E{n k:Nat}{D:Nat→Nat→Prop}{R:Nat→Prop}{S:Ds}(hn:n≤128)(hl:S.over.length=n)(h1:∀i j,j<n→D i j→i<n∧(S.at_ j).has i=true)(h2:∀j,j<128→S.seen.has j=true→R j)(hk:k<n){e:Edge}(he:0≤e.block∧e.block.toNat<n)(hR:R k→R e.block.toNat)
  (hD:R k→∀i,D i e.block.toNat→i=e.block.toNat∨D i k) (hs:R k):(∀i j,j<n→D i j→i<n∧((domE k S e).at_ j).has i=true)∧(∀j,j<128→(domE k S e).seen.has j=true→R j)∧(domE k S e).over.length=n:=by
 unfold domE
 simp only
 split
 ·refine⟨fun i j hj hij=>?_,fun j hj hsj=>?_,by simp only;rw [List.length_set,hl]⟩
  ·refine⟨(h1 i j hj hij).1,?_⟩
   have hi:=(h1 i j hj hij).1
   unfold Ds.at_
   simp only
   rw [List.getElem?_set]
   split
   ·rename_i q
    rw [if_pos (by rw [hl];exact he.2),Option.getD_some,Bs.has_add _ _ _ (by omega) (by omega),Bs.has_meet]
    simp only [Bool.or_eq_true,Bool.and_eq_true,decide_eq_true_eq]
    rw [←q] at hij
    rcases hD hs i hij with r | r
    ·exact .inr r
    exact .inl ⟨(h1 i _ he.2 hij).2,(h1 i k hk r).2⟩
   exact(h1 i j hj hij).2
  simp only at hsj
  rw [Bs.has_add _ _ _ (by omega) hj] at hsj
  simp only [Bool.or_eq_true,decide_eq_true_eq] at hsj
  rcases hsj with q | q
  ·exact h2 j hj q
  rw [q]
  exact hR hs
 exact⟨h1,h2,hl⟩
structure DmX(n:Nat)(D:Nat→Nat→Prop)(R:Nat→Prop)(S:Ds):Prop where
 len:S.over.length=n
 dom:∀i j,j<n→D i j→i<n∧(S.at_ j).has i=true
 seen:∀j,j<128→S.seen.has j=true→R j
structure DmC(f:Func)(D:Nat→Nat→Prop)(R:Nat→Prop):Prop where
 few:f.blocks.length≤128
 edges:∀b∈f.blocks,∀e∈b.term.to,0≤e.block∧e.block.toNat<f.blocks.length
 next:∀(k:Nat) b,f.blocks[k]?=some b→R k→∀e∈b.term.to,R e.block.toNat∧∀i,D i e.block.toNat→i=e.block.toNat∨D i k
theorem dmx_F{f:Func}{D:Nat→Nat→Prop}{R:Nat→Prop}(hc:DmC f D R){k:Nat}{b:Block}(hb:f.blocks[k]?=some b)(hR:R k):∀(l:List Edge) {S:Ds},(∀e∈l,e∈b.term.to)→DmX f.blocks.length D R S→DmX f.blocks.length D R (l.foldl (domE k) S)
 | [],_,_,h=>h
 | e::r,S,hl,h=>by
  have hn:=hc.next k b hb hR e (hl e List.mem_cons_self)
  obtain⟨a1,a2,a3⟩:=dmax_E hc.few h.len h.dom h.seen (lt_of_getElem? hb) (hc.edges b (List.mem_of_getElem? hb) e (hl e List.mem_cons_self)) (fun _=>hn.1) (fun _=>hn.2) hR
  rw [List.foldl_cons]
  exact dmx_F hc hb hR r (fun x hx=>hl x (List.mem_cons_of_mem _ hx)) ⟨a3,a1,a2⟩
theorem dmx_R{f:Func}{D:Nat→Nat→Prop}{R:Nat→Prop}(hc:DmC f D R):∀(l:List Block) (k:Nat) {S:Ds},l=f.blocks.drop k→DmX f.blocks.length D R S→DmX f.blocks.length D R (domR k S l)
 | [],_,_,_,h=>h
 | b::r,k,S,hl,h=>by
  have hb:f.blocks[k]?=some b:=by
   have:=congrArg (fun l=>l[0]?) hl
   simpa using this.symm
  have hr:r=f.blocks.drop (k+1):=by
   rw [drop_at hb] at hl
   simpa using hl
  rw [domR]
  refine dmx_R hc r (k+1) hr ?_
  unfold domB
  split
  ·exact h
  rename_i hs
  have hk:=lt_of_getElem? hb
  exact dmx_F hc hb (h.seen k (by have:=hc.few;omega) (by simpa using hs)) _ (fun e he=>he) h
theorem dmx_I{f:Func}{D:Nat→Nat→Prop}{R:Nat→Prop}(hc:DmC f D R):∀(n:Nat) {S:Ds},DmX f.blocks.length D R S→DmX f.blocks.length D R (domI f n S)
 | 0,_,h=>h
 | n+1,S,h=>by
  simp only [domI]
  split
  ·exact dmx_I hc n (dmx_R hc f.blocks 0 (S:=⟨S.over,S.seen,false⟩) (by rw [List.drop_zero]) ⟨h.len,h.dom,h.seen⟩)
  exact h
theorem allB_in:∀(n j:Nat),n≤128→j<n→(allB n).has j=true
 | 0,_,_,h=>absurd h (Nat.not_lt_zero _)
 | n+1,j,hn,hj=>by
  rw [allB,Bs.has_add _ _ _ (by omega) (by omega)]
  by_cases e:j=n
  ·simp [e]
  rw [allB_in n j (by omega) (by omega)]
  rfl
theorem dom_max{f:Func}{D:Nat→Nat→Prop}{R:Nat→Prop}(hne:f.blocks≠[])(hc:DmC f D R)(h0:R 0)(hz:∀i,D i 0→i=0)(hlt:∀i j,D i j→i<f.blocks.length){i j:Nat}(hj:j<f.blocks.length)(h:D i j):(overF f j).has i=true:=by
 have hl:=List.length_pos_iff.2 hne
 have hs:DmX f.blocks.length D R (domS f):=by
  refine⟨by simp [domS],fun i j hj hij=>⟨hlt i j hij,?_⟩,fun j hj hsj=>?_⟩
  ·unfold Ds.at_ domS
   simp only
   rw [List.getElem?_set]
   split
   ·rename_i e
    subst e
    rw [if_pos (by simpa using hl),Option.getD_some,hz i hij]
    decide
   rw [List.getElem?_replicate,if_pos hj,Option.getD_some]
   exact allB_in _ _ hc.few (hlt i j hij)
  have:(Bs.none.add 0).has j=true:=hsj
  rw [Bs.has_add _ _ _ (by omega) hj] at this
  have hn:Bs.none.has j=false:=by unfold Bs.has Bs.none;simp
  rw [hn] at this
  simp only [Bool.false_or,decide_eq_true_eq] at this
  rw [this]
  exact h0
 exact((dmx_I hc 20000 hs).dom i j hj h).2









end Go.Proofs.Ytkhnjeblbiocaaa
namespace Go.Proofs.Ytkhnjeblbiocaaa
open Go.Av Go.Sort

end Go.Proofs.Ytkhnjeblbiocaaa
namespace Go.Proofs.Ytkhnjeblbiocaaa
open Go.Av

end Go.Proofs.Ytkhnjeblbiocaaa
namespace Go.Av

end Go.Av
namespace Go.Proofs.Ytkhnjeblbiocaaa
open Go.Av

end Go.Proofs.Ytkhnjeblbiocaaa
namespace Go.Proofs.Ytkhnjeblbiocaaa
open Go.Av
section
variable {f:Func}
theorem blk_at{k:Int}(h0:0≤k)(h1:k<f.blocks.length):f.blocks[k.toNat]?=some (blkOf f k):=by
 unfold blkOf
 rw [List.getElem?_eq_getElem (by omega)]
 rfl
end
theorem DefAt.range{f:Func}{v:Int}{p:Int×Int}(h:DefAt f v p):0≤p.1∧p.1<f.blocks.length:=by
 obtain⟨k,b,h1,h2,_⟩:=h
 have:=lt_of_getElem? h1
 omega
theorem end_intro{f:Func}{t:Term}(h1:shapeM t=true)(h2:t.cases.length≤256)(h3:t.kind=4→1≤t.n∧t.n≤6)(h4:casesE t.cases t.cases.length=0)(h5:∀e∈t.to,(1≤e.block∧e.block≤(f.blocks.length:Int) - 1)∧e.args.length=(blkOf f e.block).params.length):endE f t=0:=by
 unfold endE
 rw [if_neg (by simp [h1]),if_neg (by omega),if_neg (fun q=>by
  have:=h3 q.1
  have q2:=q.2
  simp [within,this] at q2),if_neg (by rw [h4];simp)]
 generalize t.to=l at h5
 induction l with
 | nil=>rfl
 | cons e r ih =>
  have he:=h5 e List.mem_cons_self
  simp only [edgesE]
  rw [if_neg (by simp [within,he.1]),if_neg (by rw [he.2];simp)]
  exact ih fun x hx=>h5 x (List.mem_cons_of_mem _ hx)
theorem end_cases{f:Func}{t:Term}(h:endE f t=0):casesE t.cases t.cases.length=0:=by
 unfold endE at h
 split at h
 ·simp at h
 split at h
 ·simp at h
 split at h
 ·simp at h
 split at h
 ·rename_i q
  exact absurd h q
 rename_i q
 simpa using q
end Go.Proofs.Ytkhnjeblbiocaaa
namespace Go.Proofs.Ytkhnjeblbiocaaa
open Go.Av

end Go.Proofs.Ytkhnjeblbiocaaa
namespace Go.Proofs.Ytkhnjeblbiocaaa
open Go.Av
section
variable {f:Func}
end
end Go.Proofs.Ytkhnjeblbiocaaa
namespace Go.Proofs.Ytkhnjeblbiocaaa
open Go.Av
theorem funcsE_intro:∀{l:List Func},(∀f∈l,checkFuncM f=0)→funcsE l=0
 | [],_=>rfl
 | g::r,h=>by
  unfold funcsE
  rw [orE_zero (h g List.mem_cons_self)]
  exact funcsE_intro fun f hf=>h f (List.mem_cons_of_mem _ hf)
theorem callsI_intro{u:Unt}:∀{l:List Ins},(∀i∈l,callsE u i=0)→callsI u l=0
 | [],_=>rfl
 | g::r,h=>by
  unfold callsI
  rw [orE_zero (h g List.mem_cons_self)]
  exact callsI_intro fun f hf=>h f (List.mem_cons_of_mem _ hf)
theorem callsB_intro{u:Unt}:∀{l:List Block},(∀b∈l,∀i∈b.ins,callsE u i=0)→callsB u l=0
 | [],_=>rfl
 | g::r,h=>by
  unfold callsB
  rw [orE_zero (callsI_intro (h g List.mem_cons_self))]
  exact callsB_intro fun f hf=>h f (List.mem_cons_of_mem _ hf)
theorem callsF_intro{u:Unt}:∀{l:List Func},(∀f∈l,∀b∈f.blocks,∀i∈b.ins,callsE u i=0)→callsF u l=0
 | [],_=>rfl
 | g::r,h=>by
  unfold callsF
  rw [orE_zero (callsB_intro (h g List.mem_cons_self))]
  exact callsF_intro fun f hf=>h f (List.mem_cons_of_mem _ hf)
theorem check_parts{u:Unt}(h:checkM u=0):u.fns.length≠0∧u.fns.length≤256∧within u.main 0 ((u.fns.length:Int) - 1)=true∧(∀f∈u.fns,checkFuncM f=0)∧(blkOf (fnOf u u.main) 0).params.length=0∧callsF u u.fns=0:=by
 unfold checkM at h
 split at h
 ·simp at h
 rename_i h1
 split at h
 ·simp at h
 rename_i h2
 split at h
 ·simp at h
 rename_i h3
 obtain⟨h4,h5⟩:=orE_eq h
 split at h5
 ·simp at h5
 rename_i h6
 exact⟨h1,by omega,by simpa using h3,funcsE_all h4,by omega,h5⟩
theorem check_unit{u:Unt}(h1:u.fns.length≠0)(h2:u.fns.length≤256)(h3:within u.main 0 ((u.fns.length:Int) - 1)=true)(h4:∀f∈u.fns,checkFuncM f=0)(h5:(blkOf (fnOf u u.main) 0).params.length=0)(h6:callsF u u.fns=0):checkM u=0:=by
 unfold checkM
 rw [if_neg h1,if_neg (by omega),if_neg (by simp [h3]),orE_zero (funcsE_intro h4),if_neg (by omega)]
 exact h6
theorem calls_same{u v:Unt}(h1:v.fns.length=u.fns.length)(h2:∀k:Int,0≤k→k<u.fns.length→(blkOf (fnOf v k) 0).params.length=(blkOf (fnOf u k) 0).params.length){i j:Ins}(ho:j.op=i.op)(hn:j.n=i.n)(hl:j.args.length=i.args.length)(h0:i.op=13∨i.op=9→0≤i.n):callsE v j=callsE u i:=by
 unfold callsE
 rw [ho,hn,hl,h1]
 split
 ·rfl
 split
 ·rfl
 rw [h2 i.n (h0 (by omega)) (by omega)]
section
variable {u:Unt} (hfit:u.fit) (hc:checkM u=0)
include hfit hc
theorem pruneU_gr{f:Func}(hf:f∈u.fns):GrW f:=(checkFunc_ok (hfit.2.2 f hf) ((check_parts hc).2.2.2.1 f hf)).gr
end
end Go.Proofs.Ytkhnjeblbiocaaa
namespace Go.Proofs.Ytkhnjeblbiocaaa
open Go.Av


end Go.Proofs.Ytkhnjeblbiocaaa
namespace Go.Proofs.Ytkhnjeblbiocaaa
open Go.Av
section
variable {f:Func}
end
theorem dom_seen{f:Func}{D:Nat→Nat→Prop}{R:Nat→Prop}(hne:f.blocks≠[])(hc:DmC f D R)(h0:R 0)(hz:∀i,D i 0→i=0)(hlt:∀i j,D i j→i<f.blocks.length){j:Nat}(hj:j<128)(h:seenF f j=true):R j:=by
 have hl:=List.length_pos_iff.2 hne
 have hs:DmX f.blocks.length D R (domS f):=by
  refine⟨by simp [domS],fun i j hj hij=>⟨hlt i j hij,?_⟩,fun j hj hsj=>?_⟩
  ·unfold Ds.at_ domS
   simp only
   rw [List.getElem?_set]
   split
   ·rename_i e
    subst e
    rw [if_pos (by simpa using hl),Option.getD_some,hz i hij]
    decide
   rw [List.getElem?_replicate,if_pos hj,Option.getD_some]
   exact allB_in _ _ hc.few (hlt i j hij)
  have:(Bs.none.add 0).has j=true:=hsj
  rw [Bs.has_add _ _ _ (by omega) hj] at this
  have hn:Bs.none.has j=false:=by unfold Bs.has Bs.none;simp
  rw [hn] at this
  simp only [Bool.false_or,decide_eq_true_eq] at this
  rw [this]
  exact h0
 exact(dmx_I hc 20000 hs).seen j hj h
end Go.Proofs.Ytkhnjeblbiocaaa
namespace Go.Proofs.Ytkhnjeblbiocaaa
open Go.Av
def trE(s:Int→Int)(β:Nat→Nat)(e:Edge):Edge:=⟨((β e.block.toNat:Nat):Int),e.args.map s⟩
def trB(s:Int→Int)(β:Nat→Nat)(p:List Ins)(b:Block):Block :=
 ⟨b.params.map s,p++b.ins.map (trI s),⟨b.term.kind,if b.term.kind=1∨b.term.kind=4 then b.term.arg else s b.term.arg,b.term.n,b.term.cases,b.term.to.map (trE s β)⟩⟩
structure FunTr(f g:Func)(s:Int→Int)(β:Nat→Nat)(pre:Nat→List Ins):Prop where
 name:g.name=f.name
 len:g.blocks.length=f.blocks.length
 zero:β 0=0
 lt:∀k,k<f.blocks.length→β k<f.blocks.length
 inj:∀i j,i<f.blocks.length→j<f.blocks.length→β i=β j→i=j
 all:∀j,j<f.blocks.length→∃k,k<f.blocks.length∧β k=j
 blk:∀(k:Nat) b,f.blocks[k]?=some b→g.blocks[β k]?=some (trB s β (pre k) b)
theorem form_tr(s:Int→Int)(i:Ins):formE (trI s i)=formE i:=by
 unfold formE formA formB formC operandsM numberM trI
 simp only [List.length_map]
theorem shape_tr{t t':Term}(h1:t'.kind=t.kind)(h3:t'.n=t.n)(h4:t'.cases=t.cases)(h5:t'.to.length=t.to.length)(h2:t.kind=1∨t.kind=4→t'.arg=t.arg)(h:shapeM t=true):shapeM t'=true:=by
 obtain⟨k,a,n,c,to⟩:=t
 obtain⟨k',a',n',c',to'⟩:=t'
 simp only at h1 h2 h3 h4 h5
 subst h1 h3 h4
 unfold shapeM edgesM argM at h ⊢
 simp only [h5,Bool.and_eq_true,Bool.or_eq_true,decide_eq_true_eq] at h ⊢
 obtain⟨a1,⟨⟨a2,a3⟩,a4⟩,a5⟩:=h
 refine⟨a1,⟨⟨a2,?_⟩,a4⟩,a5⟩
 by_cases q:k'=1∨k'=4
 ·rw [h2 q]
  exact a3
 exact .inl (by omega)
theorem fine_val{f:Func}{k:Nat}{n v:Int}(h:Fine f k n v):v∈valsF f:=by
 obtain⟨p,⟨k',b,h1,h2,h3⟩,_⟩:=h
 refine List.mem_flatMap.2 ⟨b,List.mem_of_getElem? h1,?_⟩
 rcases h3 with⟨_,q⟩ | ⟨j,i,q1,q2,q3⟩
 ·exact List.mem_append_left _ q
 exact List.mem_append_right _ (List.mem_map.2 ⟨i,List.mem_of_getElem? q1,q2⟩)
section
variable {f g:Func} {s:Int→Int} {β:Nat→Nat} {pre:Nat→List Ins}
theorem FunTr.get(T:FunTr f g s β pre){j:Nat}{c:Block}(h:g.blocks[j]?=some c):∃k b,f.blocks[k]?=some b∧β k=j∧c=trB s β (pre k) b:=by
 have hj:=lt_of_getElem? h
 rw [T.len] at hj
 obtain⟨k,hk,rfl⟩:=T.all j hj
 have hb:f.blocks[k]?=some (f.blocks[k]'hk):=List.getElem?_eq_getElem _
 have:=T.blk k _ hb
 rw [h] at this
 simp only [Option.some.injEq] at this
 exact⟨k,_,hb,rfl,this⟩
theorem def_tr(T:FunTr f g s β pre){v:Int}{p:Int×Int}(h:DefAt f v p):DefAt g (s v) (((β p.1.toNat:Nat):Int),if p.2=0 then 0 else p.2+(pre p.1.toNat).length):=by
 obtain⟨k,b,h1,h2,h3⟩:=h
 rw [h2,Int.toNat_natCast]
 refine⟨β k,_,T.blk k b h1,rfl,?_⟩
 rcases h3 with⟨q1,q2⟩ | ⟨j,i,q1,q2,q3⟩
 ·rw [if_pos q1]
  exact .inl ⟨rfl,List.mem_map.2 ⟨v,q2,rfl⟩⟩
 rw [if_neg (by omega)]
 refine .inr ⟨(pre k).length+j,trI s i,?_,by rw [←q2];rfl,by rw [q3];simp only;omega⟩
 show(pre k++b.ins.map (trI s))[(pre k).length+j]?=_
 rw [List.getElem?_append_right (by omega),Nat.add_sub_cancel_left,List.getElem?_map,q1]
 rfl
def TrD(f:Func)(β:Nat→Nat)(i j:Nat):Prop:=∃ki kj,ki<f.blocks.length∧kj<f.blocks.length∧β ki=i∧β kj=j∧(overF f kj).has ki=true
def TrR(f:Func)(β:Nat→Nat)(j:Nat):Prop:=∃k,k<f.blocks.length∧β k=j∧seenF f k=true
theorem tr_c(T:FunTr f g s β pre)(hg:GrW f)(hd:DomW f):DmC g (TrD f β) (TrR f β) where
 few:=by rw [T.len];exact hg.few
 edges:=fun c hc e he=>by
  obtain⟨j,hj⟩:=List.mem_iff_getElem?.1 hc
  obtain⟨k,b,h1,h2,h3⟩:=T.get hj
  rw [h3] at he
  obtain⟨x,hx,rfl⟩:=List.mem_map.1 he
  have hr:=hg.edges b (List.mem_of_getElem? h1) x hx
  have:=T.lt x.block.toNat (by omega)
  rw [T.len]
  show 0≤((β x.block.toNat:Nat):Int)∧((β x.block.toNat:Nat):Int).toNat<_
  omega
 next:=fun j c hj hR e he=>by
  obtain⟨k,b,h1,h2,h3⟩:=T.get hj
  obtain⟨k0,r1,r2,r3⟩:=hR
  have hk:=lt_of_getElem? h1
  have hkk:=T.inj k0 k r1 hk (by rw [r2,h2])
  subst hkk
  rw [h3] at he
  obtain⟨x,hx,rfl⟩:=List.mem_map.1 he
  have hr:=hg.edges b (List.mem_of_getElem? h1) x hx
  have hfew:=hg.few
  obtain⟨t1,t2⟩:=hd.step k0 b h1 r3 x hx
  have eb:(trE s β x).block.toNat=β x.block.toNat:=Int.toNat_natCast _
  rw [eb]
  refine⟨⟨x.block.toNat,by omega,rfl,t1⟩,fun i hi=>?_⟩
  obtain⟨ki,kj,i1,i2,i3,i4,i5⟩:=hi
  have hjj:=T.inj kj x.block.toNat i2 (by omega) i4
  subst hjj
  rcases t2 ki (by omega) i5 with u | u
  ·exact .inl (by rw [←i3,u])
  exact .inr ⟨ki,k0,i1,r1,i3,r2,u⟩
theorem fine_tr(T:FunTr f g s β pre)(hg:GrW f)(hd:DomW f){k:Nat}(hk:k<f.blocks.length){n v:Int}(hn:0≤n)(h:Fine f k n v):Fine g (β k) (n+(pre k).length) (s v):=by
 obtain⟨p,h1,h2⟩:=h
 have hne:g.blocks≠[]:=fun q=>by
  have:=congrArg List.length q
  rw [T.len] at this
  simp only [List.length_nil] at this
  omega
 have hfew:=hg.few
 have hC:=tr_c T hg hd
 have h0:TrR f β 0:=⟨0,by omega,T.zero,hd.seen⟩
 have hz:∀i,TrD f β i 0→i=0:=fun i hi=>by
  obtain⟨ki,kj,i1,i2,i3,i4,i5⟩:=hi
  have:kj=0:=T.inj kj 0 i2 (by omega) (by rw [i4,T.zero])
  subst this
  have:=(hd.zero ki (by omega)).1 i5
  subst this
  rw [←i3,T.zero]
 have hlt:∀i j,TrD f β i j→i<g.blocks.length:=fun i j hi=>by
  obtain⟨ki,kj,i1,i2,i3,i4,i5⟩:=hi
  rw [←i3,T.len]
  exact T.lt ki i1
 have hpr:=h1.range
 have hkl:=T.lt k hk
 refine⟨_,def_tr T h1,fun hs=>?_⟩
 obtain⟨k0,r1,r2,r3⟩:=dom_seen hne hC h0 hz hlt (by omega) hs
 have hkk:=T.inj k0 k r1 hk r2
 subst hkk
 rcases h2 r3 with⟨e1,e2⟩ | ⟨e1,e2⟩
 ·refine .inl ⟨?_,?_⟩
  ·simp only
   rw [e1,Int.toNat_natCast]
  simp only
  rw [e1,Int.toNat_natCast]
  split<;>omega
 refine .inr ⟨fun q=>e1 ?_,?_⟩
 ·simp only at q
  have:=T.inj p.1.toNat k0 (by omega) hk (by omega)
  omega
 simp only [Int.toNat_natCast]
 exact dom_max hne hC h0 hz hlt (by rw [T.len];exact hkl) ⟨p.1.toNat,k0,by omega,hk,rfl,rfl,e2⟩
theorem check_tr(T:FunTr f g s β pre)(hfit:f.fit)(hc:checkFuncM f=0)(hpre:∀k,∀i∈pre k,formE i=0∧i.args=[])(hins:∀c∈g.blocks,c.ins.length≤1024)(hsum:sumI g.blocks≤1024)
  (hv:∀v∈valsF g,0≤v∧v≤4095) (hn:(valsF g).Nodup):checkFuncM g=0:=by
 have hfv:=checkFunc_v hfit hc
 have hf:=hfv.fn
 have hg:=hf.gr
 have hd:=hfv.dom
 have hpos:=List.length_pos_iff.2 hg.ne
 have hb0:blkOf g 0=trB s β (pre 0) (blkOf f 0):=by
  have:=T.blk 0 _ (blk_at (f:=f) (k:=0) (by omega) (by omega))
  rw [T.zero] at this
  conv=>lhs;unfold blkOf
  rw [show(0:Int).toNat=0 from rfl,this]
  rfl
 have hbk:∀k:Nat,k<f.blocks.length→blkOf g ((β k:Nat):Int)=trB s β (pre k) (blkOf f (k:Int)):=fun k hk=>by
  have:=T.blk k _ (blk_at (f:=f) (k:=(k:Int)) (by omega) (by omega))
  conv=>lhs;unfold blkOf
  rw [Int.toNat_natCast,this]
  rfl
 refine check_intro (fun q=>?_) (by rw [T.len];exact hg.few) (by rw [T.name];exact hf.name) hins hsum ?_ hv hn (fun c hcm=>?_) ?_
 ·have:=congrArg List.length q
  rw [T.len] at this
  simp only [List.length_nil] at this
  omega
 ·rw [hb0]
  show((blkOf f 0).params.map s).length≤6
  rw [List.length_map]
  exact hf.args
 ·obtain⟨j,hj⟩:=List.mem_iff_getElem?.1 hcm
  obtain⟨k,b,h1,h2,h3⟩:=T.get hj
  have hbw:=hf.blk b (List.mem_of_getElem? h1)
  obtain⟨m1,m2,m3,m4⟩:=edges_of_end hbw.fin
  subst h3
  refine⟨fun i hi=>?_,?_⟩
  ·rcases List.mem_append.1 hi with q | q
   ·exact(hpre k i q).1
   obtain⟨x,hx,rfl⟩:=List.mem_map.1 q
   rw [form_tr]
   exact hbw.forms x hx
  refine end_intro ?_ m2 m3 (end_cases (f:=f) (t:=b.term) hbw.fin) fun e he=>?_
  ·exact shape_tr (t:=b.term) rfl rfl rfl (List.length_map ..) (fun q=>by
    show(if b.term.kind=1∨b.term.kind=4 then b.term.arg else s b.term.arg)=_
    rw [if_pos q]) m1
  obtain⟨x,hx,rfl⟩:=List.mem_map.1 he
  have hxr:=hg.edges b (List.mem_of_getElem? h1) x hx
  have hl:=T.lt x.block.toNat (by omega)
  show(1≤((β x.block.toNat:Nat):Int)∧((β x.block.toNat:Nat):Int)≤(g.blocks.length:Int) - 1)∧(x.args.map s).length=(blkOf g ((β x.block.toNat:Nat):Int)).params.length
  rw [hbk _ (by omega),T.len]
  refine⟨⟨?_,by omega⟩,?_⟩
  ·have:β x.block.toNat≠0:=fun q=>by
    have:=T.inj x.block.toNat 0 (by omega) hpos (by rw [q,T.zero])
    omega
   omega
  show _=((blkOf f ((x.block.toNat:Nat):Int)).params.map s).length
  rw [List.length_map,List.length_map,show((x.block.toNat:Nat):Int)=x.block by omega]
  exact(m4 x hx).2
 refine⟨fun j c hj n i hi a ha=>?_,fun j c hj h1 h4=>?_,fun j c hj e he a ha=>?_⟩
 ·obtain⟨k,b,h1,h2,h3⟩:=T.get hj
  subst h3
  rw [←h2]
  have hi':(pre k++b.ins.map (trI s))[n]?=some i:=hi
  by_cases hn:n<(pre k).length
  ·rw [List.getElem?_append_left hn] at hi'
   rw [(hpre k i (List.mem_of_getElem? hi')).2] at ha
   cases ha
  rw [List.getElem?_append_right (by omega),List.getElem?_map,Option.map_eq_some_iff] at hi'
  obtain⟨x,hx,rfl⟩:=hi'
  obtain⟨a0,ha0,rfl⟩:=List.mem_map.1 ha
  have:=fine_tr T hg hd (lt_of_getElem? h1) (by omega) (hfv.uses.ins k b h1 _ x hx a0 ha0)
  rw [show(((n - (pre k).length:Nat):Int)+((pre k).length:Int))=n by omega] at this
  exact this
 ·obtain⟨k,b,q1,q2,q3⟩:=T.get hj
  subst q3
  rw [←q2]
  have hk1:b.term.kind≠1:=h1
  have hk4:b.term.kind≠4:=h4
  have:=fine_tr T hg hd (lt_of_getElem? q1) (by omega) (hfv.uses.arg k b q1 hk1 hk4)
  have e1:(trB s β (pre k) b).term.arg=s b.term.arg:=by
   show(if b.term.kind=1∨b.term.kind=4 then b.term.arg else s b.term.arg)=_
   rw [if_neg (by omega)]
  have e2:(((trB s β (pre k) b).ins.length:Nat):Int)=(b.ins.length:Int)+(pre k).length:=by
   show(((pre k++b.ins.map (trI s)).length:Nat):Int)=_
   rw [List.length_append,List.length_map]
   omega
  rw [e1,e2]
  exact this
 obtain⟨k,b,q1,q2,q3⟩:=T.get hj
 subst q3
 rw [←q2]
 obtain⟨x,hx,rfl⟩:=List.mem_map.1 he
 obtain⟨a0,ha0,rfl⟩:=List.mem_map.1 ha
 have:=fine_tr T hg hd (lt_of_getElem? q1) (by omega) (hfv.uses.args k b q1 x hx a0 ha0)
 have e2:(((trB s β (pre k) b).ins.length:Nat):Int)=(b.ins.length:Int)+(pre k).length:=by
  show(((pre k++b.ins.map (trI s)).length:Nat):Int)=_
  rw [List.length_append,List.length_map]
  omega
 rw [e2]
 exact this
end
theorem blk_val{f:Func}{k:Int}(h0:0≤k)(h1:k<f.blocks.length){v:Int}(h:v∈blkVals (blkOf f k)):v∈valsF f :=
 List.mem_flatMap.2 ⟨_,List.mem_of_getElem? (blk_at h0 h1),h⟩
theorem untTr_of{u v:Unt}{s:Int→Int}{β:Int→Nat→Nat}{pre:Int→Nat→List Ins}{c:Int}(hfit:u.fit)(hc:checkM u=0)(hlen:v.fns.length=u.fns.length)(hmain:v.main=u.main)
  (hT:∀fn:Int,0≤fn→fn<u.fns.length→FunTr (fnOf u fn) (fnOf v fn) s (β fn) (pre fn)) (hinj:∀fn:Int,0≤fn→fn<u.fns.length→∀a b,a∈valsF (fnOf u fn)→b∈valsF (fnOf u fn)→s a=s b→a=b)
  (hpre:∀fn:Int,0≤fn→fn<u.fns.length→∀k,∀i∈pre fn k,i.op=0∧∀a∈valsF (fnOf u fn),s a≠i.to) (hcc:∀fn k,1+((pre fn k).length:Int)≤c) :
  UntTr u v s (fun fn a=>0≤fn∧fn<u.fns.length∧a∈valsF (fnOf u fn)) (fun fn b=>0≤b∧b<(fnOf u fn).blocks.length) (fun fn b=>((β fn b.toNat:Nat):Int)) (fun fn b=>pre fn b.toNat) c:=by
 refine⟨hlen,hmain,fun fn j k h1 h2 h3=>hinj fn h1.1 h1.2.1 j k h1.2.2 h2.2.2 h3,fun fn h0 h1=>?_,fun fn b h0 h1 hL=>?_⟩
 ·have hg:=pruneU_gr hfit hc (fnOf_mem h0 h1)
  have:=List.length_pos_iff.2 hg.ne
  refine⟨⟨by omega,by omega⟩,?_,hcc fn _⟩
  show((β fn 0:Nat):Int)=0
  rw [(hT fn h0 h1).zero]
  rfl
 have hf:=fnOf_mem h0 h1
 have T:=hT fn h0 h1
 have hfv:=checkFunc_v (hfit.2.2 _ hf) ((check_parts hc).2.2.2.1 _ hf)
 have hg:=hfv.fn.gr
 have hba:=blk_at hL.1 hL.2
 have hbm:=List.mem_of_getElem? hba
 have hv:=fun v (h:v∈blkVals (blkOf (fnOf u fn) b))=>blk_val hL.1 hL.2 h
 have hB:blkOf (fnOf v fn) ((β fn b.toNat:Nat):Int)=trB s (β fn) (pre fn b.toNat) (blkOf (fnOf u fn) b):=by
  have:=T.blk _ _ hba
  conv=>lhs;unfold blkOf
  rw [Int.toNat_natCast,this]
  rfl
 show BlkTr _ _ _ _ _ _ _ _ _ _ (blkOf (fnOf v fn) ((β fn b.toNat:Nat):Int))
 rw [hB]
 refine⟨⟨rfl,fun p hp=>⟨h0,h1,hv p (List.mem_append_left _ hp)⟩⟩,rfl,fun i hi=>⟨⟨h0,h1,hv i.to (List.mem_append_right _ (List.mem_map.2 ⟨i,hi,rfl⟩))⟩,fun a ha=>⟨h0,h1,?_⟩⟩,fun i hi=>⟨(hpre fn h0 h1 _ i hi).1,fun k hk=>(hpre fn h0 h1 _ i hi).2 k hk.2.2⟩,⟨rfl,rfl,rfl,List.length_map ..⟩,fun q1 q4=>⟨?_,h0,h1,?_⟩,fun k e e' he he'=>?_⟩
 ·obtain⟨n,hn⟩:=List.mem_iff_getElem?.1 hi
  exact fine_val (hfv.uses.ins _ _ hba n i hn a ha)
 ·show(if _ then _ else _)=_
  rw [if_neg (by omega)]
 ·exact fine_val (hfv.uses.arg _ _ hba q1 q4)
 have he2:((blkOf (fnOf u fn) b).term.to.map (trE s (β fn)))[k]?=some e':=he'
 rw [List.getElem?_map,he] at he2
 simp only [Option.map_some,Option.some.injEq] at he2
 subst he2
 have hem:=List.mem_of_getElem? he
 have her:=hg.edges _ hbm e hem
 exact⟨⟨by omega,her.2⟩,fun a ha=>⟨h0,h1,fine_val (hfv.uses.args _ _ hba e hem a ha)⟩,.inl ⟨rfl,rfl,hcc fn _⟩⟩
theorem checkU_tr{u v:Unt}{s:Int→Int}{β:Int→Nat→Nat}{pre:Int→Nat→List Ins}(hc:checkM u=0)(hfit:u.fit)(hlen:v.fns.length=u.fns.length)(hmain:v.main=u.main)
  (hT:∀fn:Int,0≤fn→fn<u.fns.length→FunTr (fnOf u fn) (fnOf v fn) s (β fn) (pre fn)) (hpre:∀fn:Int,0≤fn→fn<u.fns.length→∀k,∀i∈pre fn k,i.op=0) (hck:∀fn:Int,0≤fn→fn<u.fns.length→checkFuncM (fnOf v fn)=0):checkM v=0:=by
 obtain⟨c1,c2,c3,c4,c5,c6⟩:=check_parts hc
 have hmr:=within_iff.1 c3
 have hpar:∀k:Int,0≤k→k<u.fns.length→(blkOf (fnOf v k) 0).params.length=(blkOf (fnOf u k) 0).params.length:=fun k h0 h1=>by
  have T:=hT k h0 h1
  have hg:=pruneU_gr hfit hc (fnOf_mem h0 h1)
  have hpos:=List.length_pos_iff.2 hg.ne
  have:=T.blk 0 _ (blk_at (f:=fnOf u k) (k:=0) (by omega) (by omega))
  rw [T.zero] at this
  have hb0:blkOf (fnOf v k) 0=trB s (β k) (pre k 0) (blkOf (fnOf u k) 0):=by
   conv=>lhs;unfold blkOf
   rw [show(0:Int).toNat=0 from rfl,this]
   rfl
  rw [hb0]
  exact List.length_map ..
 have hat:∀g∈v.fns,∃fn:Int,0≤fn∧fn<u.fns.length∧fnOf v fn=g:=fun g hg=>by
  obtain⟨k,hk⟩:=List.mem_iff_getElem?.1 hg
  have:=lt_of_getElem? hk
  refine⟨k,by omega,by omega,?_⟩
  unfold fnOf
  rw [Int.toNat_natCast,hk]
  rfl
 refine check_unit (by rw [hlen];exact c1) (by rw [hlen];exact c2) (by rw [hlen,hmain];exact c3) (fun g hg=>?_) (by rw [hmain,hpar u.main (by omega) (by omega)];exact c5) (callsF_intro fun g hg b hb i hi=>?_)
 ·obtain⟨fn,h0,h1,rfl⟩:=hat g hg
  exact hck fn h0 h1
 obtain⟨fn,h0,h1,rfl⟩:=hat g hg
 obtain⟨j,hj⟩:=List.mem_iff_getElem?.1 hb
 obtain⟨k,c,q1,q2,q3⟩:=(hT fn h0 h1).get hj
 subst q3
 rcases List.mem_append.1 hi with q | q
 ·have:=hpre fn h0 h1 k i q
  unfold callsE
  rw [if_pos (by omega)]
 obtain⟨x,hx,rfl⟩:=List.mem_map.1 q
 have hf:=fnOf_mem h0 h1
 have hbm:=List.mem_of_getElem? q1
 have hform:=form_ok (((checkFunc_ok (hfit.2.2 _ hf) (c4 _ hf)).blk _ hbm).forms x hx)
 rw [calls_same (u:=u) hlen (fun k h0 h1=>hpar k h0 h1) (i:=x) (j:=trI s x) rfl rfl (List.length_map ..) (fun q=>(hform.call (by omega)).1)]
 exact callsF_all c6 _ hf _ hbm x hx
end Go.Proofs.Ytkhnjeblbiocaaa
namespace Go.Proofs.Ytkhnjeblbiocaaa
open Go.Av
theorem blkVals_tr(s:Int→Int)(β:Nat→Nat)(p:List Ins)(b:Block):blkVals (trB s β p b)=b.params.map s++(p.map Ins.to++(b.ins.map Ins.to).map s):=by
 unfold blkVals trB
 simp only [List.map_append,List.map_map]
 rfl
theorem blkVals_ren(s:Int→Int)(β:Nat→Nat)(b:Block):blkVals (trB s β [] b)=(blkVals b).map s:=by
 rw [blkVals_tr]
 unfold blkVals
 simp only [List.map_append,List.map_nil,List.nil_append]
theorem nodup_map{s:Int→Int}{l:List Int}(h:l.Nodup)(hs:∀a b,a∈l→b∈l→s a=s b→a=b):(l.map s).Nodup:=by
 unfold List.Nodup at h ⊢
 rw [List.pairwise_map]
 exact h.imp_of_mem fun {a b} ha hb hab q=>hab (hs a b ha hb q)
theorem sumI_map{F:Block→Block}(h:∀b,(F b).ins.length=b.ins.length)(l:List Block):sumI (l.map F)=sumI l:=by
 unfold sumI
 rw [List.map_map]
 congr 1
 exact List.map_congr_left fun b _=>h b
theorem perform_eq{u v:Unt}{s:Int→Int}{D L:Int→Int→Prop}{β:Int→Int→Int}{pre:Int→Int→List Ins}(T:UntTr u v s D L β pre 1)(hu:UnitOK u)(hv:UnitOK v){F:Int}(hF:0≤F∧F≤1000000)(he:(performM u F).e=0):performM v F=performM u F:=by
 obtain⟨q1,q2,q3,q4,q5,q6⟩:=perform_rel T hu hv (Int.le_refl 1) hF hF.2 (by omega) he
 have hn:(performM v F).n=(performM u F).n:=by omega
 generalize performM v F=A at *
 generalize performM u F=B at *
 obtain⟨a1,a2,a3,a4,a5⟩:=A
 obtain⟨b1,b2,b3,b4,b5⟩:=B
 simp only at *
 subst q2 q3 q4 hn
 rw [q1,he]
theorem fnOf_map{G:Func→Func}{u:Unt}{k:Int}(h0:0≤k)(h1:k<u.fns.length):fnOf ⟨u.fns.map G,u.main⟩ k=G (fnOf u k):=by
 unfold fnOf
 simp only
 rw [List.getElem?_map,List.getElem?_eq_getElem (by omega)]
 rfl
def shiftV(w v:Int):Int:=(v+w).tmod 4096
def renF(s:Int→Int)(f:Func):Func:=⟨f.name,f.blocks.map (trB s (fun k=>k) [])⟩
def renU(s:Int→Int)(u:Unt):Unt:=⟨u.fns.map (renF s),u.main⟩
theorem shiftV_range(w v:Int):-4096<shiftV w v∧shiftV w v<4096:=by
 unfold shiftV
 have h:=Int.tmod_lt_of_pos (v+w) (show(0:Int)<4096 by decide)
 have h2:-4096<(v+w).tmod 4096:=by
  have:=Int.neg_tmod (a:=v+w) (b:=4096)
  have h3:=Int.tmod_lt_of_pos (-(v+w)) (show(0:Int)<4096 by decide)
  rw [Int.neg_tmod] at h3
  omega
 exact⟨h2,h⟩
theorem shiftV_pos{w v:Int}(hw:0≤w∧w<4096)(hv:0≤v∧v≤4095):shiftV w v=if v+w<4096 then v+w else v+w - 4096:=by
 unfold shiftV
 rw [Int.tmod_eq_emod_of_nonneg (by omega)]
 split
 ·exact Int.emod_eq_of_lt (by omega) (by omega)
 have:v+w=(v+w - 4096)+4096:=by omega
 rw [this,Int.add_emod_right,Int.emod_eq_of_lt (by omega) (by omega)]
 omega
theorem renF_tr(s:Int→Int)(f:Func):FunTr f (renF s f) s (fun k=>k) (fun _=>[]) where
 name:=rfl
 len:=List.length_map ..
 zero:=rfl
 lt:=fun k h=>h
 inj:=fun _ _ _ _ h=>h
 all:=fun j h=>⟨j,h,rfl⟩
 blk:=fun k b h=>by
  show(f.blocks.map _)[k]?=_
  rw [List.getElem?_map,h]
  rfl
theorem renF_vals(s:Int→Int)(f:Func):valsF (renF s f)=(valsF f).map s:=by
 unfold valsF renF
 rw [List.flatMap_map,List.map_flatMap]
 simp only [blkVals_ren]
theorem renF_check{f:Func}(hfit:f.fit)(hc:checkFuncM f=0){w:Int}(hw:0≤w∧w<4096):checkFuncM (renF (shiftV w) f)=0:=by
 have hv:=checkFunc_v hfit hc
 have hval:∀v∈valsF f,0≤v∧v≤4095:=hv.vals
 have hlen:∀b:Block,(trB (shiftV w) (fun k=>k) [] b).ins.length=b.ins.length:=fun b=>by
  show([]++b.ins.map _).length=_
  simp
 refine check_tr (renF_tr _ f) hfit hc (fun k i hi=>by cases hi) (fun c hcm=>?_) ?_ (fun v h=>?_) ?_
 ·obtain⟨b,hb,rfl⟩:=List.mem_map.1 hcm
  rw [hlen]
  exact hv.fn.ins b hb
 ·show sumI (f.blocks.map _)≤1024
  rw [sumI_map hlen]
  exact sum_few hfit hc
 ·rw [renF_vals] at h
  obtain⟨a,ha,rfl⟩:=List.mem_map.1 h
  have:=hval a ha
  rw [shiftV_pos hw this]
  split<;>omega
 rw [renF_vals]
 refine nodup_map hv.nodup fun a b ha hb h=>?_
 have h1:=hval a ha
 have h2:=hval b hb
 rw [shiftV_pos hw h1,shiftV_pos hw h2] at h
 split at h<;>split at h<;>omega
theorem fit_shift(w v:Int):fitI (shiftV w v):=by
 have:=shiftV_range w v
 exact⟨by omega,by omega⟩
theorem trB_fit{s:Int→Int}{β:Nat→Nat}{p:List Ins}{b:Block}(h:b.fit)(hs:∀v,fitI v→fitI (s v))(hβ:∀e∈b.term.to,fitI (((β e.block.toNat:Nat):Int)))(hp:p.length+b.ins.length≤2 ^ 47∧∀i∈p,i.fit):(trB s β p b).fit:=by
 have hl:∀l:List Int,fitIs l→fitIs (l.map s):=fun l hl n hn=>by
  obtain⟨a,ha,rfl⟩:=List.mem_map.1 hn
  exact hs a (hl a ha)
 obtain⟨h1,h2,h3,h4,h5⟩:=h
 obtain⟨t1,t2,t3,t4,t5,t6,t7⟩:=h5
 refine⟨hl _ h1,by show(b.params.map s).length≤_;rw [List.length_map];exact h2,by show(p++b.ins.map (trI s)).length≤_;rw [List.length_append,List.length_map];exact hp.1,fun i hi=>?_,t1,?_,t3,t4,t5,by show(b.term.to.map _).length≤_;rw [List.length_map];exact t6,fun e he=>?_⟩
 ·rcases List.mem_append.1 hi with q | q
  ·exact hp.2 i q
  obtain⟨x,hx,rfl⟩:=List.mem_map.1 q
  obtain⟨x1,x2,x3,x4,x5⟩:=h4 x hx
  exact⟨hs _ x1,x2,x3,hl _ x4,by show(x.args.map s).length≤_;rw [List.length_map];exact x5⟩
 ·show fitI (if _ then _ else _)
  split
  ·exact t2
  exact hs _ t2
 obtain⟨x,hx,rfl⟩:=List.mem_map.1 he
 obtain⟨x1,x2,x3⟩:=t7 x hx
 exact⟨hβ x hx,hl _ x2,by show(x.args.map s).length≤_;rw [List.length_map];exact x3⟩
section
variable {u:Unt} (hfit:u.fit) (hc:checkM u=0)
include hfit hc
theorem renU_fit(w:Int):(renU (shiftV w) u).fit:=by
 refine⟨hfit.1,by unfold renU;rw [List.length_map];exact hfit.2.1,fun g hg=>?_⟩
 obtain⟨f,hf,rfl⟩:=List.mem_map.1 hg
 obtain⟨f1,f2,f3⟩:=hfit.2.2 f hf
 refine⟨f1,by unfold renF;rw [List.length_map];exact f2,fun c hcm=>?_⟩
 obtain⟨b,hb,rfl⟩:=List.mem_map.1 hcm
 have hg:=pruneU_gr hfit hc hf
 exact trB_fit (f3 b hb) (fun v _=>fit_shift w v) (fun e he=>by
  have:=hg.edges b hb e he
  have:=hg.few
  exact⟨by omega,by omega⟩) ⟨by simpa using (f3 b hb).2.2.1,fun i hi=>by cases hi⟩
theorem renU_check{w:Int}(hw:0≤w∧w<4096):checkM (renU (shiftV w) u)=0:=by
 refine checkU_tr (v:=renU (shiftV w) u) (s:=shiftV w) (β:=fun _ k=>k) (pre:=fun _ _=>[]) hc hfit (List.length_map ..) rfl (fun fn h0 h1=>?_) (fun fn _ _ k i hi=>by cases hi) fun fn h0 h1=>?_
 ·rw [show fnOf (renU (shiftV w) u) fn=renF (shiftV w) (fnOf u fn) from fnOf_map h0 h1]
  exact renF_tr _ _
 rw [show fnOf (renU (shiftV w) u) fn=renF (shiftV w) (fnOf u fn) from fnOf_map h0 h1]
 have hf:=fnOf_mem h0 h1
 exact renF_check (hfit.2.2 _ hf) ((check_parts hc).2.2.2.1 _ hf) hw
theorem renU_law{w:Int}(hw:0≤w∧w<4096){F:Int}(hF:0≤F∧F≤1000000)(he:(performM u F).e=0):performM (renU (shiftV w) u) F=performM u F:=by
 have hu:=unit_ok hfit hc
 have hv:=unit_ok (renU_fit hfit hc w) (renU_check hfit hc hw)
 refine perform_eq (untTr_of (v:=renU (shiftV w) u) (s:=shiftV w) (β:=fun _ k=>k) (pre:=fun _ _=>[]) hfit hc (List.length_map ..) rfl (fun fn h0 h1=>?_) (fun fn h0 h1 a b ha hb h=>?_) (fun fn _ _ k i hi=>by cases hi) (fun _ _=>by simp)) hu hv hF he
 ·rw [show fnOf (renU (shiftV w) u) fn=renF (shiftV w) (fnOf u fn) from fnOf_map h0 h1]
  exact renF_tr _ _
 have hf:=fnOf_mem h0 h1
 have hval:=(checkFunc_v (hfit.2.2 _ hf) ((check_parts hc).2.2.2.1 _ hf)).vals
 have h1:=hval a ha
 have h2:=hval b hb
 rw [shiftV_pos hw h1,shiftV_pos hw h2] at h
 split at h<;>split at h<;>omega
end
section
variable {u:Unt} (hfit:u.fit) (hc:checkM u=0)
include hfit hc
end
section
variable {u:Unt} (hfit:u.fit) (hc:checkM u=0)
include hfit hc
end
end Go.Proofs.Ytkhnjeblbiocaaa
namespace Go.Proofs.Ytkhnjeblbiocaaa
open Go.Av
structure BI where
 p:Nat
 i:Nat
 ia:List Nat
 t:Nat
 ta:List Nat
def insE(a:Nat)(i:Ins):List OC:=[.val (aI i.to),.val (aI i.op),.val (aI i.n),rwI a i.args]
def edgE(a:Nat)(e:Edge):List OC:=[.val (aI e.block),rwI a e.args]
def inssE:List Nat→List Ins→List OC
 | a::ns,i::r=>insE a i++inssE ns r
 | _,_=>[]
def edgsE:List Nat→List Edge→List OC
 | a::ns,i::r=>edgE a i++edgsE ns r
 | _,_=>[]
def blkE(d:BI)(b:Block):List OC:=[rwI d.p b.params,rwT d.i 4 b.ins.length (inssE d.ia b.ins),.val (aI b.term.kind),.val (aI b.term.arg),.val (aI b.term.n),.val (eIs b.term.cases),rwT d.t 2 b.term.to.length (edgsE d.ta b.term.to)]
def blksE:List BI→List Block→List OC
 | d::ds,b::r=>blkE d b++blksE ds r
 | _,_=>[]
theorem rwI_inv{c:OC}{l:List Int}(h:SimT [c] [rwI 0 l]):∃id,c=rwI id l:=by
 obtain⟨id,cs,h1,h2⟩:=h.row_inv
 refine⟨id,?_⟩
 rw [h1]
 unfold rwI
 by_cases hn:l.length=0
 ·unfold rwT
  rw [if_pos hn,if_pos hn]
 have h3:=h2 hn
 have:cs=l.map fun x=>OC.val (aI x):=by
  clear h1 h2 hn h
  induction l generalizing cs with
  | nil =>
   have:=h3.size
   exact List.length_eq_zero_iff.1 this
  | cons x r ih =>
   obtain⟨a,b,rfl,k1,k2⟩:=h3.cons_inv
   rw [k1.val_inv,ih b k2]
   rfl
 rw [this]
theorem inss_inv:∀{l:List Ins} {cs:List OC},SimT cs (l.flatMap insT)→∃ns,ns.length=l.length∧cs=inssE ns l
 | [],cs,h=>⟨[],rfl,List.length_eq_zero_iff.1 h.size⟩
 | i::r,cs,h=>by
  have h:SimT cs (insT i++r.flatMap insT):=h
  obtain⟨a,b,rfl,k1,k2⟩:=h.app_inv
  obtain⟨ns,e1,e2⟩:=inss_inv k2
  obtain⟨c1,b1,rfl,q1,k1⟩:=k1.cons_inv
  obtain⟨c2,b2,rfl,q2,k1⟩:=k1.cons_inv
  obtain⟨c3,b3,rfl,q3,k1⟩:=k1.cons_inv
  obtain⟨c4,b4,rfl,q4,k1⟩:=k1.cons_inv
  have hb:b4=[]:=List.length_eq_zero_iff.1 k1.size
  obtain⟨id,q4⟩:=rwI_inv q4
  exact⟨id::ns,by rw [List.length_cons,e1,List.length_cons],by rw [q1.val_inv,q2.val_inv,q3.val_inv,q4,hb,e2];rfl⟩
theorem edgs_inv:∀{l:List Edge} {cs:List OC},SimT cs (l.flatMap edgT)→∃ns,ns.length=l.length∧cs=edgsE ns l
 | [],cs,h=>⟨[],rfl,List.length_eq_zero_iff.1 h.size⟩
 | i::r,cs,h=>by
  have h:SimT cs (edgT i++r.flatMap edgT):=h
  obtain⟨a,b,rfl,k1,k2⟩:=h.app_inv
  obtain⟨ns,e1,e2⟩:=edgs_inv k2
  obtain⟨c1,b1,rfl,q1,k1⟩:=k1.cons_inv
  obtain⟨c4,b4,rfl,q4,k1⟩:=k1.cons_inv
  have hb:b4=[]:=List.length_eq_zero_iff.1 k1.size
  obtain⟨id,q4⟩:=rwI_inv q4
  exact⟨id::ns,by rw [List.length_cons,e1,List.length_cons],by rw [q1.val_inv,q4,hb,e2];rfl⟩
theorem blk_inv{b:Block}{cs:List OC}(h:SimT cs (blkT b)):∃d,cs=blkE d b∧d.ia.length=b.ins.length∧d.ta.length=b.term.to.length:=by
 unfold blkT at h
 obtain⟨c1,b1,rfl,q1,k1⟩:=h.cons_inv
 obtain⟨c2,b2,rfl,q2,k1⟩:=k1.cons_inv
 obtain⟨c3,b3,rfl,q3,k1⟩:=k1.cons_inv
 obtain⟨c4,b4,rfl,q4,k1⟩:=k1.cons_inv
 obtain⟨c5,b5,rfl,q5,k1⟩:=k1.cons_inv
 obtain⟨c6,b6,rfl,q6,k1⟩:=k1.cons_inv
 obtain⟨c7,b7,rfl,q7,k1⟩:=k1.cons_inv
 have hb:b7=[]:=List.length_eq_zero_iff.1 k1.size
 obtain⟨p,q1⟩:=rwI_inv q1
 obtain⟨i,is,e2,s2⟩:=q2.row_inv
 obtain⟨t,ts,e7,s7⟩:=q7.row_inv
 obtain⟨ia,a1,a2⟩:∃ia,ia.length=b.ins.length∧rwT i 4 b.ins.length is=rwT i 4 b.ins.length (inssE ia b.ins):=by
  by_cases hn:b.ins.length=0
  ·refine⟨[],hn.symm,?_⟩
   unfold rwT
   rw [if_pos hn,if_pos hn]
  obtain⟨ia,e1,e3⟩:=inss_inv (s2 hn)
  exact⟨ia,e1,by rw [e3]⟩
 obtain⟨ta,t1,t2⟩:∃ta,ta.length=b.term.to.length∧rwT t 2 b.term.to.length ts=rwT t 2 b.term.to.length (edgsE ta b.term.to):=by
  by_cases hn:b.term.to.length=0
  ·refine⟨[],hn.symm,?_⟩
   unfold rwT
   rw [if_pos hn,if_pos hn]
  obtain⟨ta,e1,e3⟩:=edgs_inv (s7 hn)
  exact⟨ta,e1,by rw [e3]⟩
 refine⟨⟨p,i,ia,t,ta⟩,?_,a1,t1⟩
 rw [q1,e2,q3.val_inv,q4.val_inv,q5.val_inv,q6.val_inv,e7,hb,a2,t2]
 rfl
theorem blks_inv:∀{l:List Block} {cs:List OC},SimT cs (l.flatMap blkT)→∃ds,ds.length=l.length∧cs=blksE ds l∧∀(j:Nat) (d:BI) (b:Block),ds[j]?=some d→l[j]?=some b→d.ia.length=b.ins.length∧d.ta.length=b.term.to.length
 | [],cs,h=>⟨[],rfl,List.length_eq_zero_iff.1 h.size,fun j d b h=>by simp at h⟩
 | b::r,cs,h=>by
  have h:SimT cs (blkT b++r.flatMap blkT):=h
  obtain⟨a,c,rfl,k1,k2⟩:=h.app_inv
  obtain⟨ds,e1,e2,e3⟩:=blks_inv k2
  obtain⟨d,f1,f2,f3⟩:=blk_inv k1
  refine⟨d::ds,by rw [List.length_cons,e1,List.length_cons],by rw [f1,e2];rfl,fun j d' b' h1 h2=>?_⟩
  cases j with
  | zero =>
   simp only [List.getElem?_cons_zero,Option.some.injEq] at h1 h2
   subst h1 h2
   exact⟨f2,f3⟩
  | succ j=>exact e3 j d' b' (by simpa using h1) (by simpa using h2)
end Go.Proofs.Ytkhnjeblbiocaaa
namespace Go.Av
theorem RV.pushRow{g:G}(hg:Good g){xs:List AVal}{sz cap:Nat}{arr:Array Value}{t:TypeId}(hsz:∀x∈xs,x.cells.length=sz)(hsc:∀c∈cellsAll xs,c.scalar)(hmax:xs.length≤2 ^ 62)(hcap:xs.length≤cap)(hc:cap * sz≤arr.size)
  (hr:∀(j:Nat) (c:AVal) (u:Value),(cellsAll xs)[j]?=some c→arr[j]?=some u→RV g c u):RV (g.push (.cells arr t)) (.lst sz xs .sh) (.slice (some ⟨g.w.heap.size,0,none⟩) xs.length cap):=by
 have hle:=Le.push g hg (.cells arr t)
 have hl:=cellsAll_length hsz
 have hle2:xs.length * sz≤cap * sz:=Nat.mul_le_mul_right _ hcap
 refine .lst hsz (fun x hx c hc=>hsc c (by simp only [cellsAll,List.mem_flatMap];exact⟨x,hx,hc⟩)) hcap hmax (fun _=>rfl) (fun j=>arr.getD j undef) (fun j c hj=>?_) (fun j c hj=>?_) trivial
 ·have hlt:=lt_of_getElem? hj
  rw [hl] at hlt
  refine⟨?_,?_⟩
  ·simp only [G.cell,G.push,Nat.zero_add]
   rw [cell_of_row (heap_push_new _ _)]
   simp [Array.getD_eq_getD_getElem?,show j<arr.size by omega]
  rintro(hf | ⟨id,l,o,h1,h2,h3,h4,_⟩)
  ·have hf':g.fr g.w.heap.size (0+j):=hf
   have:=hg.frlt _ _ hf'
   omega
  have:=hg.loc id l o h1 h2 h3
  have h4':l.block=g.w.heap.size:=h4
  omega
 have hlt:=lt_of_getElem? hj
 rw [hl] at hlt
 exact(hr j c _ hj (by simp [Array.getD_eq_getD_getElem?,show j<arr.size by omega])).mono hle
theorem cert_append_sh{P:Program}{tab:Tab}(hT:TabOK P tab){o:Oper}{σ:St}{t e:TypeId}{x y:Operand}{ti te:TInfo}{sz:Nat}{xs ys:List AVal}{ow:Own}
  (ho:o.op=.call ⟨.builtin .append,#[x,y],#[t,t]⟩) (hd:∀d,o.dst=some d→d<σ.n) (ht:tab t=some ti) (hdesc:ti.desc=.slice e) (he:tab e=some te) (hsz:te.size=sz) (hx:σ.ev x=some (.lst sz xs .ex)) (hy:σ.ev y=some (.lst sz ys ow))
  (hlen:xs.length+ys.length≤2 ^ 62) (hb:(xs.length+ys.length) * te.bytes≤2 ^ 47) :
  Cert P o σ (.lst sz (xs++ys.map AVal.share) .sh) .pure :=
 Cert.ofRun hd fun base σ' a g hrel h _=>by
  have hg:=hrel.good
  have hu:=slice_desc hT ht hdesc
  subst hsz
  have hx':=h x (by simp [ho,Op.operands,Call.operands]) _ hx
  have hy':=h y (by simp [ho,Op.operands,Call.operands]) _ hy
  obtain⟨adx,capx,olds,ex,hx1,hx2,hx3,hx4,hx5,hx6⟩:=hx'.lst_read (P:=P)
  obtain⟨ady,capy,news,ey,hy1,hy2,hy3,hy4,hy5,hy6⟩:=hy'.lst_read (P:=P)
  obtain⟨⟨i,z,h1,h2,h3,h4,h5,h6,h7,h8,h9⟩,_⟩:=hT e te he
  have hcapx:capx=xs.length:=by
   rcases hx'.lst_inv with⟨q1,q2⟩ | ⟨ad,cap,f,q1,_,_,_,_,_,_,_,q2⟩
   ·rw [ex] at q1
    cases q2
    simp at q1
    simp [q1]
   rw [ex] at q1
   simp only [Value.slice.injEq] at q1
   rw [q1.2.2]
   exact q2
  subst hcapx
  have hexec:=run_builtin1 (P:=P) ho a g.w
  simp only [builtin,List.map_toArray,List.map_cons,List.map_nil] at hexec
  by_cases hn:ys.length=0
  ·have hys:ys=[]:=List.length_eq_zero_iff.1 hn
   subst hys
   have hnews:news=[]:=by
    have:news.length=0:=by simpa using hy6
    exact List.length_eq_zero_iff.1 this
   subst hnews
   have hrun:(Builtin.append_ #[t,t] o.type #[a.eval x,a.eval y]).run P g.w=.ok (a.eval x) g.w:=by
    rw [ex]
    cases adx with
    | none =>
     have hx0:xs=[]:=by
      rcases hx'.lst_inv with⟨_,q2⟩ | ⟨ad,cap,f,q1,_⟩
      ·exact q2
      rw [ex] at q1
      simp at q1
     subst hx0
     have q:=hy2 g.w rfl
     simp only [List.length_nil] at q
     simp [Builtin.append_,run_underlying hu,Go.sizeOf,typeInfo,h1,hy1,h2,q]
    | some ad =>
     have:=run_append_in (P:=P) g.w g.w t o.type e i hu h1 ad xs.length xs.length 0 (a.eval y) [] (fun w=>by simpa using hy1 w) (by rw [h2];simpa using hy2 g.w rfl) (by omega) (by simp [storeCells])
     simpa using this
   refine⟨a.eval x,g,.inl (by rw [hexec];simp [hrun]),Le.refl _,hg,rfl,?_⟩
   simp only [List.map_nil,List.append_nil]
   exact hx'.shareCell
  have hrun:=run_append_new (P:=P) g.w t o.type e i z hu h1 h4 adx xs.length xs.length ys.length (a.eval y) olds news hy1 (by rw [h2];exact hy2 g.w.drew rfl) (by rw [h2,←ex];exact hx2 g.w.drew rfl) (by omega) hlen (by rw [h3];exact hb)
  rw [←ex] at hrun
  obtain⟨cap,hcap⟩:∃cap,cap=grownCap g.w (xs.length+ys.length) xs.length e:=⟨_,rfl⟩
  obtain⟨rest,hrest⟩:∃rest,rest=Builtin.zeroCells z.cells (cap - (xs.length+ys.length)):=⟨_,rfl⟩
  have hge:=grownCap_ge g.w (xs.length+ys.length) xs.length e
  rw [←hcap] at hrun hge
  rw [←hrest] at hrun
  have hrs:rest.size=(cap - (xs.length+ys.length)) * te.size:=by rw [hrest,size_zeroCells,h5,h6]
  obtain⟨arr,harr⟩:∃arr,arr=olds.toArray++news.toArray++rest:=⟨_,rfl⟩
  rw [←harr] at hrun
  have hgd:=hg.heap (w':=g.w.drew) rfl rfl rfl rfl
  have hled:=Le.heap (g:=g) (w':=g.w.drew) rfl rfl rfl rfl
  obtain⟨g1,hg1⟩:∃g1:G,g1=⟨g.w.drew,g.fr,g.env,g.objs⟩:=⟨_,rfl⟩
  rw [←hg1] at hgd hled
  have hw1:g1.w=g.w.drew:=by rw [hg1]
  have ho1:g1.objs=g.objs:=by rw [hg1]
  have hle:=hled.trans (Le.push g1 hgd (.cells arr e))
  refine⟨.slice (some ⟨g.w.heap.size,0,none⟩) (xs.length+ys.length) cap,g1.push (.cells arr e),.inl ?_,hle,hgd.push _,?_,?_⟩
  ·rw [hexec]
   simp [hrun,G.push,hw1]
  ·show g1.objs=_
   rw [ho1]
   rfl
  have hlen':(xs++ys.map AVal.share).length=xs.length+ys.length:=by simp
  have hcells:=hx3.append hy3.share_list
  rw [←cellsAll_append] at hcells
  have hcl:(cellsAll (xs++ys.map AVal.share)).length=(xs.length+ys.length) * te.size:=by
   rw [cellsAll_length (sz:=te.size) (fun x hx=>by
    rcases List.mem_append.1 hx with q | q
    ·exact hx4 x q
    exact map_share_size hy4 x q),hlen']
  have hsz:∀x∈xs++ys.map AVal.share,x.cells.length=te.size:=fun x hx=>by
   rcases List.mem_append.1 hx with q | q
   ·exact hx4 x q
   exact map_share_size hy4 x q
  have hsc:∀c∈cellsAll (xs++ys.map AVal.share),c.scalar:=fun c hc=>by
   rw [cellsAll_append] at hc
   rcases List.mem_append.1 hc with q | q
   ·exact hx5 c q
   exact map_share_scalar hy5 c q
  have:=RV.pushRow hgd (t:=e) (arr:=arr) (cap:=cap) hsz hsc (by rw [hlen'];exact hlen) (by rw [hlen'];exact hge) (by
    rw [harr]
    simp only [Array.size_append,List.size_toArray,hx6,hy6,hrs,←Nat.add_mul]
    rw [show xs.length+ys.length+(cap - (xs.length+ys.length))=cap by omega]
    exact Nat.le_refl _) (fun j c u hj hu=>by
    have hlt:=lt_of_getElem? hj
    rw [hcl] at hlt
    rw [harr] at hu
    have hu2:=append_cells_get hu (by simp only [List.size_toArray,hx6,hy6,←Nat.add_mul];exact hlt)
    exact(hcells.2 j c u hj (by simpa using hu2)).mono hled)
  rw [hlen',hw1] at this
  exact this
theorem turn_new{g:G}(hg:Good g){id m:Nat}(h:g.objs[id]?=some (.spare m))(arr:Array Value)(t:TypeId)(cs:List AVal)(hlen:cs.length≤arr.size)
  (hrv:∀(g':G) (j:Nat) (c:AVal) (u:Value),cs[j]?=some c→arr[j]?=some u→RV g' c u) (hsc:∀c∈cs,c.scalar) :
  Le g (g.turn id (some ⟨g.w.heap.size,0,arr.size⟩) (.cells cs) (g.w.alloc (.cells arr t)))∧Good (g.turn id (some ⟨g.w.heap.size,0,arr.size⟩) (.cells cs) (g.w.alloc (.cells arr t))):=by
 have hturn:Turns g id (.spare m) (some ⟨g.w.heap.size,0,arr.size⟩) (.cells cs) (g.w.alloc (.cells arr t)):={
  obj:=h
  os:=rfl
  tape:=rfl
  output:=rfl
  size:=by show g.w.heap.size≤(g.w.heap.push _).size;rw [Array.size_push];omega
  block:=fun k hk _=>heap_push_lt g.w _ hk
  cell:=fun b off x hx _=>by
   have:=cell_lt hx
   rw [cell_congr (heap_push_lt g.w (.cells arr t) this)]
   exact hx
  place:=fun l1 h1 _=>by
   simp only [Option.some.injEq] at h1
   subst h1
   exact .inl (Nat.le_refl _)
  spare:=fun _ _=>.inr (by simp [AObj.isSpare])
  plain:=fun h=>absurd trivial h
  gone:=by simp }
 exact⟨Le.turn hg hturn,Good.turn hg hturn ⟨_,arr,t,rfl,rfl,heap_push_new g.w _,hlen,fun j c u hj hu=>hrv _ j c u hj hu,hsc,Nat.le_refl _⟩ (fun l1 h1 _=>by
  simp only [Option.some.injEq] at h1
  subst h1
  exact lt_of_getElem?' (heap_push_new g.w (.cells arr t)))⟩
theorem cert_alloc_at{P:Program}{tab:Tab}(hT:TabOK P tab){o:Oper}{σ:St}{t:TypeId}{ti:TInfo}{id m:Nat}(ho:o.op=.alloc t)(hd:∀d,o.dst=some d→d<σ.n)(ht:tab t=some ti)(hid:σ.objs[id]?=some (.spare m)) :
  Cert P o σ (.mp id 0) (.new id (.cells ti.zero)) :=
 Cert.ofAgree trivial hd fun base σ' a g hrel h ho'=>by
  have hg:=hrel.good
  obtain⟨z,hz,h5,_,_,h8,h9⟩:=(hT t ti ht).zeroValue
  have hid':g.objs[id]?=some (.spare m):=Eq.trans ho' hid
  obtain⟨hle,hgood⟩:=turn_new hg hid' z.cells t ti.zero (by rw [h5];exact Nat.le_refl _) (fun g' j c u a b=>h8 g' j c u a b) h9
  refine⟨.pointer (some ⟨g.w.heap.size,0,none⟩),_,.inl ?_,hle,hgood,?_,?_⟩
  ·simp [execOp,ho,Instr.alloc,hz,Go.newVar,Go.newRow,G.turn]
  ·simp [G.turn,Mode.post]
  exact .mp (l:=⟨g.w.heap.size,0,z.cells.size⟩) (o:=.cells ti.zero) (by simp only [G.turn];rw [List.getElem?_set_self (env_lt hg hid')]) (by simp only [G.turn];rw [List.getElem?_set_self (lt_of_getElem? hid')]) (by simp [AObj.isSpare])
theorem awp_keep{P:Program}{kb:Nat}{c:Code}{Q:AEx→St→Prop}{n:Nat}{slots:List (Nat×AVal)}:∀(k:Nat) {O:List AObj},AWP P kb c Q ⟨n,slots,O++List.replicate k (.spare 0)⟩→AWP P kb c Q ⟨n,slots,O⟩
 | 0,O,h=>by simpa using h
 | k+1,O,h=>by
  have h2:AWP P kb c Q ⟨n,slots,O++[.spare 0]⟩:=awp_keep k (by simpa [List.replicate_succ] using h)
  exact h2.weaken fun base a g hb hr=>by
   have hO:g.objs=O:=hr.objs
   refine⟨g.mark (.spare 0),rfl,?_⟩
   have hle:=Le.mark hr.good (.spare 0)
   refine { le:=hr.le.trans hle,good:=Good.mark hr.good _,objs:=by simp [G.mark,hO],size:=hr.size,defers:=hr.defers,slot:=fun s x hx=>?_ }
   obtain⟨u,e1,e2⟩:=hr.slot s x hx
   exact⟨u,e1,e2.mono hle⟩
def ChP(P:Program)(all:List Oper)(k:Nat)(σ:St)(ks:List Kind)(R:St→List Kind→Prop):Prop :=
 ∃(ρ:St) (ks':List Kind),ks'.length+k=all.length∧Chain P all.toArray ((ks'.zipIdx k).map fun p=>(p.2,p.1)) σ ρ∧R ρ (ks++ks')
theorem ChP.fin{P:Program}{all:List Oper}{k:Nat}{σ:St}{ks:List Kind}{R:St→List Kind→Prop}(hk:k=all.length)(h:R σ ks):ChP P all k σ ks R :=
 ⟨σ,[],by simpa using hk,Same.refl σ,by simpa using h⟩
theorem ChP.op{P:Program}{all:List Oper}{k:Nat}{σ:St}{ks:List Kind}{R:St→List Kind→Prop}{o:Oper}{x:AVal}{m:Mode}(ho:all[k]?=some o)(hg:o.guard=none)(hc:Cert P o σ x m)
  (h:ChP P all (k+1) ⟨σ.n,putO o.dst x σ.slots,m.post σ.objs⟩ (ks++[m.kind]) R):ChP P all k σ ks R:=by
 obtain⟨ρ,ks',h1,h2,h3⟩:=h
 refine⟨ρ,m.kind::ks',by simp only [List.length_cons];omega,?_,by simpa using h3⟩
 rw [List.zipIdx_cons,List.map_cons]
 exact⟨_,⟨o,by simpa using ho,.inl ⟨by simp [wantedA,hg],x,m,hc,rfl,rfl⟩⟩,h2⟩
theorem chain_app{P:Program}{ops:Array Oper}:∀{l1 l2:List (Nat×Kind)} {σ τ ρ:St},Chain P ops l1 σ τ→Chain P ops l2 τ ρ→Chain P ops (l1++l2) σ ρ
 | [],_,_,_,_,h1,h2=>h2.same h1.symm
 | _::_,_,_,_,_,⟨σ',h,h1⟩,h2=>⟨σ',h,chain_app h1 h2⟩
theorem chain_off{P:Program}{ops all:Array Oper}{k:Nat}(hk:∀i o,ops[i]?=some o→all[k+i]?=some o)(hg:∀o∈all.toList,o.guard=none):∀{l:List (Nat×Kind)} {σ τ:St},Chain P ops l σ τ→Chain P all (l.map fun p=>(k+p.1,p.2)) σ τ
 | [],_,_,h=>h
 | (i,q)::r,_,_,h=>by
  obtain⟨σ',⟨o,ho,h1⟩,h2⟩:=h
  refine⟨σ',⟨o,hk i o ho,?_⟩,chain_off hk hg h2⟩
  have ho':=hk i o ho
  have hgo:o.guard=none:=hg o (by
   rw [←Array.getElem?_toList] at ho'
   exact List.mem_of_getElem? ho')
  have w1:∀(a:Array Oper) (σ:St),wantedA a o σ=some true:=fun a σ=>by simp [wantedA,hgo]
  rcases h1 with⟨_,h1⟩ | ⟨h1,_⟩
  ·exact .inl ⟨w1 _ _,h1⟩
  rw [w1] at h1
  cases h1
theorem ChP.seg{P:Program}{tab:Tab}(md:Md)(hT:TabOK P tab){all l1:List Oper}{k:Nat}{σ:St}{ks:List Kind}{R:St→List Kind→Prop}(n:Nat)(h1:(all.drop k).take n=l1)(hn:l1.length=n)(hg:∀o∈all,o.guard=none)
  (h:vcOps P tab md l1 0 [] σ [] fun τ ks1=>ChP P all (k+n) τ (ks++ks1.reverse) R):ChP P all k σ ks R:=by
 obtain⟨τ,ks1,c1,n1,ρ,ks2,h3,c2,hR⟩:=vcOps_sound (all:=l1.toArray) hT l1 0 [] σ [] (fun j=>by simp) (fun j t hj=>by simp [slotAt] at hj) h
 have hl:k+n≤all.length:=by
  have:l1.length≤all.length - k:=by rw [←h1,List.length_take,List.length_drop];omega
  by_cases hz:n=0
  ·omega
  omega
 have d1:=chain_off (all:=all.toArray) (k:=k) (fun i o hi=>by
  have hi':l1[i]?=some o:=by simpa using hi
  rw [←h1,List.getElem?_take] at hi'
  split at hi'
  ·rw [List.getElem?_drop] at hi'
   simpa using hi'
  cases hi') (by simpa using hg) c1
 refine⟨ρ,ks1++ks2,by rw [List.length_append];omega,?_,by simpa using hR⟩
 rw [List.zipIdx_append,List.map_append]
 have e1:(ks1.zipIdx k).map (fun p=>(p.2,p.1))=((ks1.zipIdx 0).map fun p=>(p.2,p.1)).map fun p=>(k+p.1,p.2):=by
  apply List.ext_getElem?
  intro i
  simp only [List.getElem?_map,List.getElem?_zipIdx]
  cases ks1[i]?<;>simp
 rw [e1]
 refine chain_app d1 ?_
 rw [show k+ks1.length=k+n by omega]
 exact c2
theorem awp_pieces{P:Program}{kb:Nat}(hm:P.follows .mixedOrders=true){id:Nat}{l:List Oper}{draw:Bool}{Q:AEx→St→Prop}{σ:St}
  (h:ChP P l 0 σ [] fun τ ks=>Draws draw (fun _=>OrderOK l.toArray ks)∧At τ (Q .norm)):AWP P kb (.region id l.toArray draw) Q σ:=by
 obtain⟨τ,ks,h1,h2,h3,h4⟩:=h
 intro base a g hb hr
 have hch:Chain P l.toArray ((List.range l.toArray.size).map fun i=>(i,ks.getD i .write)) σ τ:=by
  have e:(ks.zipIdx 0).map (fun p=>(p.2,p.1))=(List.range l.toArray.size).map fun i=>(i,ks.getD i .write):=by
   apply List.ext_getElem?
   intro i
   simp only [List.getElem?_map]
   have hlen:ks.length=l.toArray.size:=by simpa using h1
   by_cases hi:i<l.toArray.size
   ·have hi':i<ks.length:=by omega
    rw [List.getElem?_range hi]
    simp [hi']
   rw [List.getElem?_eq_none (by simp only [List.length_zipIdx];omega),List.getElem?_eq_none (by simp only [List.length_range];omega)]
   rfl
  rw [←e]
  exact h2
 cases draw with
 | false=>exact wp_region_lex hch hr fun a g hr'=>⟨g,τ,rfl,hr',h4⟩
 | true =>
  have hB:=h3 rfl
  simp only [List.nil_append] at hB
  exact wp_region_chain hm hB hch hr fun a g hr'=>⟨g,τ,rfl,hr',h4⟩
def plainV(c:AVal):Prop:=∃x,c=.v x
theorem cert_append_at{P:Program}{tab:Tab}(hT:TabOK P tab){o:Oper}{σ:St}{t e:TypeId}{x y:Operand}{ti te:TInfo}{sz:Nat}{xs ys:List AVal}{ow:Own}{id m:Nat}
  (ho:o.op=.call ⟨.builtin .append,#[x,y],#[t,t]⟩) (hd:∀d,o.dst=some d→d<σ.n) (ht:tab t=some ti) (hdesc:ti.desc=.slice e) (he:tab e=some te) (hsz:te.size=sz) (hx:σ.ev x=some (.lst sz xs .ex)) (hy:σ.ev y=some (.lst sz ys ow))
  (hid:σ.objs[id]?=some (.spare m)) (hv:∀c∈cellsAll (xs++ys.map AVal.share),plainV c) (hn:ys.length≠0) (hlen:xs.length+ys.length≤2 ^ 62) (hb:(xs.length+ys.length) * te.bytes≤2 ^ 47) :
  Cert P o σ (.os id (xs.length+ys.length) sz) (.new id (.cells (cellsAll (xs++ys.map AVal.share)))) :=
 Cert.ofAgree trivial hd fun base σ' a g hrel h ho'=>by
  have hg:=hrel.good
  have hu:=slice_desc hT ht hdesc
  subst hsz
  have hid':g.objs[id]?=some (.spare m):=Eq.trans ho' hid
  have hx':=h x (by simp [ho,Op.operands,Call.operands]) _ hx
  have hy':=h y (by simp [ho,Op.operands,Call.operands]) _ hy
  obtain⟨adx,capx,olds,ex,hx1,hx2,hx3,hx4,hx5,hx6⟩:=hx'.lst_read (P:=P)
  obtain⟨ady,capy,news,ey,hy1,hy2,hy3,hy4,hy5,hy6⟩:=hy'.lst_read (P:=P)
  obtain⟨⟨i,z,h1,h2,h3,h4,h5,h6,h7,h8,h9⟩,_⟩:=hT e te he
  have hcapx:capx=xs.length:=by
   rcases hx'.lst_inv with⟨q1,q2⟩ | ⟨ad,cap,f,q1,_,_,_,_,_,_,_,q2⟩
   ·rw [ex] at q1
    cases q2
    simp at q1
    simp [q1]
   rw [ex] at q1
   simp only [Value.slice.injEq] at q1
   rw [q1.2.2]
   exact q2
  subst hcapx
  have hexec:=run_builtin1 (P:=P) ho a g.w
  simp only [builtin,List.map_toArray,List.map_cons,List.map_nil] at hexec
  have hrun:=run_append_new (P:=P) g.w t o.type e i z hu h1 h4 adx xs.length xs.length ys.length (a.eval y) olds news hy1 (by rw [h2];exact hy2 g.w.drew rfl) (by rw [h2,←ex];exact hx2 g.w.drew rfl) (by omega) hlen (by rw [h3];exact hb)
  rw [←ex] at hrun
  obtain⟨cap,hcap⟩:∃cap,cap=grownCap g.w (xs.length+ys.length) xs.length e:=⟨_,rfl⟩
  obtain⟨rest,hrest⟩:∃rest,rest=Builtin.zeroCells z.cells (cap - (xs.length+ys.length)):=⟨_,rfl⟩
  have hge:=grownCap_ge g.w (xs.length+ys.length) xs.length e
  rw [←hcap] at hrun hge
  rw [←hrest] at hrun
  have hrs:rest.size=(cap - (xs.length+ys.length)) * te.size:=by rw [hrest,size_zeroCells,h5,h6]
  obtain⟨arr,harr⟩:∃arr,arr=olds.toArray++news.toArray++rest:=⟨_,rfl⟩
  rw [←harr] at hrun
  have hgd:=hg.heap (w':=g.w.drew) rfl rfl rfl rfl
  have hled:=Le.heap (g:=g) (w':=g.w.drew) rfl rfl rfl rfl
  obtain⟨g1,hg1⟩:∃g1:G,g1=⟨g.w.drew,g.fr,g.env,g.objs⟩:=⟨_,rfl⟩
  rw [←hg1] at hgd hled
  have hw1:g1.w=g.w.drew:=by rw [hg1]
  have ho1:g1.objs=g.objs:=by rw [hg1]
  have hcells:=hx3.append hy3.share_list
  rw [←cellsAll_append] at hcells
  have hcl:(cellsAll (xs++ys.map AVal.share)).length=(xs.length+ys.length) * te.size:=by
   rw [cellsAll_length (sz:=te.size) (fun x hx=>by
    rcases List.mem_append.1 hx with q | q
    ·exact hx4 x q
    exact map_share_size hy4 x q)]
   simp
  have hasz:arr.size=cap * te.size:=by
   rw [harr]
   simp only [Array.size_append,List.size_toArray,hx6,hy6,hrs,←Nat.add_mul]
   rw [show xs.length+ys.length+(cap - (xs.length+ys.length))=cap by omega]
  have hid1:g1.objs[id]?=some (.spare m):=by rw [ho1];exact hid'
  obtain⟨hle,hgood⟩:=turn_new hgd hid1 arr e (cellsAll (xs++ys.map AVal.share)) (by rw [hcl,hasz];exact Nat.mul_le_mul_right _ hge) (fun g' j c u hj hu=>by
   have hlt:=lt_of_getElem? hj
   rw [hcl] at hlt
   rw [harr] at hu
   have hu2:=append_cells_get hu (by simp only [List.size_toArray,hx6,hy6,←Nat.add_mul];exact hlt)
   have hrv:=hcells.2 j c u hj (by simpa using hu2)
   obtain⟨w,rfl⟩:=hv c (List.mem_of_getElem? hj)
   obtain⟨e1,e2⟩:=hrv.v_inv
   rw [e1]
   exact .v e2) (fun c hc=>by
   rw [cellsAll_append] at hc
   rcases List.mem_append.1 hc with q | q
   ·exact hx5 c q
   exact map_share_scalar hy5 c q)
  refine⟨.slice (some ⟨g.w.heap.size,0,none⟩) (xs.length+ys.length) cap,_,.inl ?_,hled.trans hle,hgood,?_,?_⟩
  ·rw [hexec]
   simp [hrun,G.turn,hw1]
  ·simp [G.turn,Mode.post,ho1]
  have e1:(g.w.heap.size)=g1.w.heap.size:=by rw [hw1];rfl
  rw [e1]
  exact .os (l:=⟨g1.w.heap.size,0,arr.size⟩) (o:=.cells (cellsAll (xs++ys.map AVal.share))) (by simp only [G.turn];rw [List.getElem?_set_self (env_lt hgd hid1)]) (by simp only [G.turn];rw [List.getElem?_set_self (lt_of_getElem? hid1)]) (by simp [AObj.isSpare]) hge (by rw [hasz];exact Nat.le_refl _) hlen
end Go.Av
namespace Go.Proofs.Ytkhnjeblbiocaaa
open Go.Av




structure Ct where
 k:Nat
 id:Nat
 cs:List OC
 O:List AObj
def argO(l:List Int):List AObj:=if l=[] then [] else [.cells (l.map aI)]
theorem rwI_raw0(id:Nat){l:List Int}(h:l=[]):(rwI id l).raw=.lst 1 [] .sh:=by subst h;rfl
theorem rwI_raw1(id:Nat){l:List Int}(h:l≠[]):(rwI id l).raw=.os id l.length 1:=by
 unfold rwI rwT
 rw [if_neg (fun q=>h (List.length_eq_zero_iff.1 q))]
 rfl
theorem raw_share{k:Nat}{c:OC}(h:c.fit k):c.raw.shareCell=c.raw:=by
 cases c with
 | val a=>exact h.2.1
 | row=>rfl
theorem rwI_tr{O:List AObj}{lo id:Nat}{l:List Int}(hlo:lo≤id)(h:l≠[]→O[id]?=some (.cells (l.map aI))):TrO O lo [rwI id l]:=by
 refine TrO.row ⟨fun p hp=>?_,?_,fun p hp=>?_⟩ fun q=>⟨hlo,?_,fun p hp=>?_⟩
 all_goals try (rw [ownL_map] at hp;obtain⟨c,hc,hp⟩:=List.mem_flatMap.1 hp;obtain⟨x,_,rfl⟩:=List.mem_map.1 hc;rw [OC.own] at hp;cases hp)
 ·rw [ownL_map]
  have:(l.map fun x=>OC.val (aI x)).flatMap OC.own=[]:=by
   rw [List.flatMap_eq_nil_iff]
   intro c hc
   obtain⟨x,_,rfl⟩:=List.mem_map.1 hc
   rw [OC.own]
  rw [this]
  exact List.nodup_nil
 rw [h (fun e=>q (by rw [e];rfl)),List.map_map]
 rfl
mutual
theorem fit_mono{k:Nat}:∀{c:OC},c.fit 0→c.fit k
 | .val a,h=>⟨h.1,h.2.1,AVal.upto_mono (Nat.zero_le _) _ h.2.2⟩
 | .row id sz n cs,h=>⟨h.1,fitL_mono h.2⟩
theorem fitL_mono{k:Nat}:∀{cs:List OC},fitL 0 cs→fitL k cs
 | [],_=>trivial
 | c::r,h=>⟨fit_mono h.1,fitL_mono h.2⟩
end
theorem os_flat(id n sz:Nat):(AVal.os id n sz).flat=True:=by simp [AVal.flat]
theorem os_shareC(id n sz:Nat):AVal.shareCell (.os id n sz)=.os id n sz:=rfl
theorem ints_cells(l:List Int):cellsAll (([]:List AVal)++(l.map aI).map AVal.share)=l.map aI:=by
 rw [List.nil_append]
 induction l with
 | nil=>rfl
 | cons x r ih =>
  have e:cellsAll (((x::r).map aI).map AVal.share)=aI x::cellsAll ((r.map aI).map AVal.share):=rfl
  rw [e,ih]
  rfl
theorem ints_cells2(l:List Int):cellsAll (l.map aI)=l.map aI:=by
 induction l with
 | nil=>rfl
 | cons x r ih =>
  have e:cellsAll ((x::r).map aI)=aI x::cellsAll (r.map aI):=rfl
  rw [e,ih]
  rfl
theorem ints_plain(l:List Int):∀c∈cellsAll (([]:List AVal)++(l.map aI).map AVal.share),plainV c:=fun c hc=>by
 rw [ints_cells] at hc
 obtain⟨x,_,rfl⟩:=List.mem_map.1 hc
 exact⟨_,rfl⟩
theorem copyF_tree(f:Func)(hs:SmW f)(hne:f.blocks≠[])(O0:List AObj)(hup:∀o∈O0,o.upto O0.length):ECall Try.prog 35 O0 [f.enc]
  (fun r O1=>∃cs,r=.agg (cs.map OC.raw)∧labL 0 cs=labL 0 (funT f)∧fitL O0.length cs∧(∀i,i<O0.length→O1[i]?=O0[i]?)∧Owns O1 (ownL cs)∧((ownL cs).map Prod.fst).Nodup∧∀p∈ownL cs,O0.length≤p.1):=by
 obtain⟨N,hN⟩:∃N,N=f.blocks.length:=⟨_,rfl⟩
 have hn:=hs.few
 rw [←hN] at hn
 refine ecall_all hT Try.func35 rfl (by kernel_rfl) (by simp [Try.ntmps35]) ?_
 show AWP Try.prog _ _ _ ⟨87,_,_⟩
 dsimp only [Tmp,TypeId,slotsOf]
 refine zh1 (za0 ?_)
 show AWP Try.prog _ _ _ ⟨_,_,O0++[.cells [aI f.name,eBlocks f.blocks],.cells [aI 0,.lst 7 [] .ex]]⟩
 refine awp_frzk 1 0 ([aI f.name,eBlocks f.blocks]) rfl rfl (by rfl) ?_
 simp -dsimp only [simprocAttr,↓vpre,zp]
 refine zh1 (za0 ?_)
 refine zg2 ?_
 simp -dsimp only [simprocAttr,↓vpre,zp,←hN]
 refine za0 ?_
 have hB:∀o∈O0++[AObj.gone,.cells [aI 0,.lst 7 [] .ex],.cells [aI f.name,.lst 7 [] .ex]],o.upto (O0++[AObj.gone,.cells [aI 0,.lst 7 [] .ex],.cells [aI f.name,.lst 7 [] .ex]]).length:=fun o ho=>by
  rw [List.length_append]
  rcases List.mem_append.1 ho with q | q
  ·exact AObj.upto_mono (by simp) (hup o q)
  simp only [List.mem_cons,List.not_mem_nil,or_false] at q
  rcases q with rfl | rfl | rfl
  ·trivial
  ·exact⟨trivial,⟨trivial,trivial⟩,trivial⟩
  exact⟨trivial,⟨trivial,trivial⟩,trivial⟩
 show AWP Try.prog _ _ _ ⟨_,_,O0++[.gone,.cells [aI 0,.lst 7 [] .ex],.cells [aI f.name,.lst 7 [] .ex]]⟩
 have hBl:(O0++[AObj.gone,.cells [aI 0,.lst 7 [] .ex],.cells [aI f.name,.lst 7 [] .ex]]).length=O0.length+3:=by simp
 have hBk:∀i,i<O0.length→(O0++[AObj.gone,.cells [aI 0,.lst 7 [] .ex],.cells [aI f.name,.lst 7 [] .ex]])[i]?=O0[i]?:=fun i hi=>List.getElem?_append_left hi
 have hBr:(O0++[AObj.gone,.cells [aI 0,.lst 7 [] .ex],.cells [aI f.name,.lst 7 [] .ex]])[O0.length+1]?=some (.cells [aI 0,.lst 7 [] .ex]):=by
  rw [List.getElem?_append_right (by omega),show O0.length+1 - O0.length=1 by omega]
  rfl
 have hBo:(O0++[AObj.gone,.cells [aI 0,.lst 7 [] .ex],.cells [aI f.name,.lst 7 [] .ex]])[O0.length+2]?=some (.cells [aI f.name,.lst 7 [] .ex]):=by
  rw [List.getElem?_append_right (by omega),show O0.length+2 - O0.length=2 by omega]
  rfl
 generalize O0++[AObj.gone,.cells [aI 0,.lst 7 [] .ex],.cells [aI f.name,.lst 7 [] .ex]]=B at *
 obtain⟨Bx,hBx⟩:∃Bx,Bx=B.take (O0.length+2):=⟨_,rfl⟩
 have hBxl:Bx.length=O0.length+2:=by rw [hBx,List.length_take];omega
 have hBxk:∀i,i<O0.length+2→Bx[i]?=B[i]?:=fun i hi=>by rw [hBx,List.getElem?_take,if_pos hi]
 have hS0:Gw Bx (fun v=>[aI f.name,v]) 7 0 0 [] [] B:=by
  refine⟨hB,by omega,fun i hi=>by rw [hBxk i (by omega)],by rw [hBxl];exact hBo,TrO.nil _ _,GrO.start _ _,fun p hp=>?_,trivial⟩
  rw [ownL_nil] at hp
  cases hp
 clear hBx
 refine awp_block (awp_loop (ι:={X:Ct // X.k≤N∧Gw Bx (fun v=>[aI f.name,v]) 7 X.id X.k [] X.cs X.O∧SimT X.cs ((f.blocks.take X.k).flatMap blkT)}) (fun X=>⟨87,[(1,.ip none [aI f.name,eBlocks f.blocks]),(2,.mp (O0.length+1) 0),(3,.mp (O0.length+2) 0),(15,eBlocks f.blocks),(16,aI N),(17,aI X.1.k)],X.1.O⟩) (fun X=>N - X.1.k) ⟨⟨0,0,[],B⟩,by simp,hS0,SimT.refl _⟩ ?_ ?_)
 ·refine zq rfl ?_ ?_
  simp -dsimp only [simprocAttr,↓vpre,zp,zc]
  all_goals rfl
 rintro⟨⟨k,bid,bs,O⟩,hk,hS,hsim⟩
 simp only at hk hS hsim
 have hX:=hS.len
 rw [hBxl] at hX
 refine zh1 (za0 ?_)
 apply zk1 rfl<;>intro h
 ·refine zb0 ?_
  have hlt:k<N:=by simpa using h
  obtain⟨b,hb⟩:∃b,f.blocks[k]?=some b:=⟨f.blocks[k]'(by omega),List.getElem?_eq_getElem _⟩
  have hbm:=List.mem_of_getElem? hb
  have htk:f.blocks.take (k+1)=f.blocks.take k++[b]:=by rw [List.take_add_one,hb];rfl
  have hbp:=hs.params b hbm
  have hbi:=hs.ins b hbm
  have hba:=hs.iargs b hbm
  have hbc:=hs.cases b hbm
  have hbt:=hs.to b hbm
  have hbe:=hs.eargs b hbm
  have hSu:=hS.up
  refine awp_seq (awp_block ?_)
  refine zg1 ?_
  simp -dsimp only [simprocAttr,↓vpre,zp,hb]
  refine za0 ?_
  refine awp_local 5 ([eIs b.params,eInss b.ins,aI b.term.kind,aI b.term.arg,aI b.term.n,eIs b.term.cases,eEdges b.term.to]) [(1,.ip none [aI f.name,eBlocks f.blocks]),(2,.mp (O0.length+1) 0),(3,.mp (O0.length+2) 0),(15,eBlocks f.blocks),(16,aI N),(17,aI k),(5,.ip none [eIs b.params,eInss b.ins,aI b.term.kind,aI b.term.arg,aI b.term.n,eIs b.term.cases,eEdges b.term.to])] (by simp [putS,dropS,Go.Av.look]) (by rfl) (by omega) (by simp [putS,dropS,Go.Av.look]) ?_ ?_ ?_
  ·exact hSu
  ·simp [AVal.upto,uptoL,aI_upto,Edge.map_upto,Ins.map_upto,Block.map_upto]
   omega
  obtain⟨ps,hps⟩:∃ps,ps=rwI (O.length+1) b.params:=⟨_,rfl⟩
  have hpsf:ps.fit 0:=by rw [hps];exact rwI_fit _ _ _
  refine awp_mid (⟨87,[(1,.ip none [aI f.name,eBlocks f.blocks]),(2,.mp (O0.length+1) 0),(3,.mp (O0.length+2) 0),(15,eBlocks f.blocks),(16,aI N),(17,aI k),(5,.ip none [eIs b.params,eInss b.ins,aI b.term.kind,aI b.term.arg,aI b.term.n,eIs b.term.cases,eEdges b.term.to]),(6,.mp O.length 0)],O++[.cells [ps.raw,.lst 4 [] .ex,aI b.term.kind,aI b.term.arg,aI b.term.n,eIs b.term.cases,eEdges b.term.to],if b.params=[] then .spare 0 else .cells (b.params.map aI)]⟩) ?_ ?_
  ·refine awp_keep 2 ?_
   show AWP Try.prog _ _ _ ⟨_,_,O++[.spare 0,.spare 0]⟩
   by_cases hpe:b.params=[]
   ·refine awp_pieces hm (ChP.seg ⟨false,false⟩ hT 3 rfl rfl (by simp) ?_)
    simp -dsimp only [simprocAttr,↓vpre,zp]
    refine ChP.op rfl rfl (cert_append_sh hT rfl (by simp) tab_26 rfl tab_3 rfl rfl rfl (by simp;omega) (by simp;omega)) ?_
    simp -dsimp only [simprocAttr,↓vpre,zp]
    refine ChP.seg ⟨false,false⟩ hT 3 rfl rfl (by simp) ?_
    simp -dsimp only [simprocAttr,↓vpre,zp]
    refine ChP.op rfl rfl (cert_alloc_at hT (id:=O.length) (m:=0) rfl (by simp) tab_44 at_newz) ?_
    simp -dsimp only [simprocAttr,↓vpre,zp]
    refine ChP.seg ⟨false,false⟩ hT 1 rfl rfl (by simp) ?_
    simp -dsimp only [simprocAttr,↓vpre,zp]
    refine ChP.fin rfl ⟨ob (by kernel_rfl),at_intro ?_⟩
    show Covers _ _
    refine zq rfl ?_ ?_
    simp -dsimp only [simprocAttr,↓vpre,zp,zc]
    show O++_=O++_
    rw [if_pos hpe,hps,rwI_raw0 _ hpe,hpe]
    rfl
   refine awp_pieces hm (ChP.seg ⟨false,false⟩ hT 3 rfl rfl (by simp) ?_)
   simp -dsimp only [simprocAttr,↓vpre,zp]
   refine ChP.op rfl rfl (cert_append_at hT (id:=O.length+1) (m:=0) rfl (by simp) tab_26 rfl tab_3 rfl rfl rfl at_newk (ints_plain _) (by simpa using hpe) (by simp;omega) (by simp;omega)) ?_
   simp -dsimp only [simprocAttr,↓vpre,zp,ints_cells,set_newk]
   refine ChP.seg ⟨false,false⟩ hT 3 rfl rfl (by simp) ?_
   simp -dsimp only [simprocAttr,↓vpre,zp,os_flat,cells_os',os_shareC]
   refine ChP.op rfl rfl (cert_alloc_at hT (id:=O.length) (m:=0) rfl (by simp) tab_44 at_newz) ?_
   simp -dsimp only [simprocAttr,↓vpre,zp]
   refine ChP.seg ⟨false,false⟩ hT 1 rfl rfl (by simp) ?_
   simp -dsimp only [simprocAttr,↓vpre,zp]
   refine ChP.fin rfl ⟨orderB_ren [O.length,O.length+1] (O.length+2) [.pure,.pure,.pure,.new 1,.pure,.pure,.pure,.new 0,.wr 2 [0]] (by simp) (by simp) rfl rfl (by kernel_rfl),at_intro ?_⟩
   show Covers _ _
   refine zq rfl ?_ ?_
   simp -dsimp only [simprocAttr,↓vpre,zp,zc]
   show O++_=O++_
   rw [if_neg hpe,hps,rwI_raw1 _ hpe,ints_cells2]
  have hps2:TrO (O++[.cells [ps.raw,.lst 4 [] .ex,aI b.term.kind,aI b.term.arg,aI b.term.n,eIs b.term.cases,eEdges b.term.to],if b.params=[] then .spare 0 else .cells (b.params.map aI)]) (O.length+1) [ps]:=by
   rw [hps]
   refine rwI_tr (Nat.le_refl _) fun q=>?_
   rw [at_newk,if_neg q]
   rfl
  have hG:Gw O (fun v=>[ps.raw,v,aI b.term.kind,aI b.term.arg,aI b.term.n,eIs b.term.cases,eEdges b.term.to]) 4 0 0 [ps] [] (O++[.cells [ps.raw,.lst 4 [] .ex,aI b.term.kind,aI b.term.arg,aI b.term.n,eIs b.term.cases,eEdges b.term.to],if b.params=[] then .spare 0 else .cells (b.params.map aI)]):=by
   have hpu:=(raw_upto hps2 ⟨hpsf,trivial⟩ (Nat.le_refl _)).1
   refine⟨fun o ho=>?_,by simp,fun i hi=>List.getElem?_append_left hi,at_newz,hps2,GrO.start _ _,fun p _ q hq=>?_,trivial⟩
   ·rcases List.mem_append.1 ho with q | q
    ·exact AObj.upto_mono (by simp) (hSu o q)
    simp only [List.mem_cons,List.not_mem_nil,or_false] at q
    rcases q with rfl | rfl
    ·exact⟨hpu,⟨trivial,trivial⟩,trivial,trivial,trivial,⟨aI_upto _ _,trivial⟩,⟨Edge.map_upto _ _,trivial⟩,trivial⟩
    split
    ·trivial
    exact aI_upto _ _
   rw [ownL,rwT_own0,ownL] at hq
   cases hq
  generalize (O++[.cells [ps.raw,.lst 4 [] .ex,aI b.term.kind,aI b.term.arg,aI b.term.n,eIs b.term.cases,eEdges b.term.to],if b.params=[] then .spare 0 else .cells (b.params.map aI)])=O2 at *
  have hpsh:=raw_share hpsf
  have hpsS:SimT [ps] [rwI 0 b.params]:=by rw [hps];exact SimT.rwI _ _ _
  clear hps2 hps
  refine zh2 (za0 ?_)
  refine awp_block (awp_loop (ι:={X:Ct // X.k≤b.ins.length∧Gw O (fun v=>[ps.raw,v,aI b.term.kind,aI b.term.arg,aI b.term.n,eIs b.term.cases,eEdges b.term.to]) 4 X.id X.k [ps] X.cs X.O∧SimT X.cs ((b.ins.take X.k).flatMap insT)}) (fun X=>⟨87,[(1,.ip none [aI f.name,eBlocks f.blocks]),(2,.mp (O0.length+1) 0),(3,.mp (O0.length+2) 0),(15,eBlocks f.blocks),(16,aI N),(17,aI k),(5,.ip none [eIs b.params,eInss b.ins,aI b.term.kind,aI b.term.arg,aI b.term.n,eIs b.term.cases,eEdges b.term.to]),(6,.mp O.length 0),(29,eInss b.ins),(30,aI b.ins.length),(31,aI X.1.k)],X.1.O⟩) (fun X=>b.ins.length - X.1.k) ⟨⟨0,0,[],O2⟩,by simp,hG,SimT.refl _⟩ ?_ ?_)
  ·refine zq rfl ?_ ?_
   simp -dsimp only [simprocAttr,↓vpre,zp,zc]
   all_goals rfl
  rintro⟨⟨j,iid,cs,O2⟩,hj,hG,hsi⟩
  simp only at hj hG hsi
  refine zh1 (za0 ?_)
  apply zk1 rfl<;>intro h
  ·refine zb0 ?_
   have hlj:j<b.ins.length:=by simpa using h
   obtain⟨i,hi⟩:∃i,b.ins[j]?=some i:=⟨b.ins[j],by simp [hlj]⟩
   have hia:=hba i (List.mem_of_getElem? hi)
   have hti:b.ins.take (j+1)=b.ins.take j++[i]:=by rw [List.take_add_one,hi];rfl
   refine awp_seq (awp_block ?_)
   refine zg1 ?_
   simp -dsimp only [simprocAttr,↓vpre,zp,hi]
   refine za0 ?_
   refine awp_mid (⟨87,[(1,.ip none [aI f.name,eBlocks f.blocks]),(2,.mp (O0.length+1) 0),(3,.mp (O0.length+2) 0),(15,eBlocks f.blocks),(16,aI N),(17,aI k),(5,.ip none [eIs b.params,eInss b.ins,aI b.term.kind,aI b.term.arg,aI b.term.n,eIs b.term.cases,eEdges b.term.to]),(6,.mp O.length 0),(29,eInss b.ins),(30,aI b.ins.length),(31,aI j),(8,.mp O2.length 0)],O2++.cells [aI i.to,aI i.op,aI i.n,(rwI (O2.length+1) i.args).raw]::argO i.args⟩) ?_ ?_
   ·by_cases hae:i.args=[]
    ·refine awp_pieces hm (ChP.seg ⟨false,false⟩ hT 3 rfl rfl (by simp) ?_)
     simp -dsimp only [simprocAttr,↓vpre,zp]
     refine ChP.op rfl rfl (cert_append_sh hT rfl (by simp) tab_26 rfl tab_3 rfl rfl rfl (by simp;omega) (by simp;omega)) ?_
     simp -dsimp only [simprocAttr,↓vpre,zp]
     refine ChP.seg ⟨false,false⟩ hT 2 rfl rfl (by simp) ?_
     simp -dsimp only [simprocAttr,↓vpre,zp]
     refine ChP.fin rfl (at_intro ?_)
     show Covers _ _
     refine zq rfl ?_ ?_
     simp -dsimp only [simprocAttr,↓vpre,zp,zc]
     show O2++_=O2++_
     rw [argO,if_pos hae,rwI_raw0 _ hae,hae]
     rfl
    refine awp_pieces hm (ChP.seg ⟨false,false⟩ hT 3 rfl rfl (by simp) ?_)
    simp -dsimp only [simprocAttr,↓vpre,zp]
    refine ChP.op rfl rfl (cert_append_osNew hT rfl (by simp) tab_26 rfl tab_3 rfl rfl rfl (by simpa using hae) (by simp;omega) (by simp;omega)) ?_
    simp -dsimp only [simprocAttr,↓vpre,zp,ints_cells,cells_os',os_flat,os_shareC]
    refine ChP.seg ⟨false,false⟩ hT 2 rfl rfl (by simp) ?_
    simp -dsimp only [simprocAttr,↓vpre,zp,ints_cells,cells_os',os_flat,os_shareC]
    refine ChP.fin rfl (at_intro ?_)
    show Covers _ _
    refine zq rfl ?_ ?_
    simp -dsimp only [simprocAttr,↓vpre,zp,zc]
    show O2++_=O2++_
    rw [argO,if_neg hae,rwI_raw1 _ hae,ints_cells2]
   obtain⟨ar,har⟩:∃ar,ar=rwI (O2.length+1) i.args:=⟨_,rfl⟩
   have harf:ar.fit 0:=by rw [har];exact rwI_fit _ _ _
   have hars:=raw_share harf
   obtain⟨O3,hO3⟩:∃O3,O3=O2++.cells [aI i.to,aI i.op,aI i.n,ar.raw]::argO i.args:=⟨_,rfl⟩
   have hIt:TrO O3 O2.length [.val (aI i.to),.val (aI i.op),.val (aI i.n),ar]:=by
    refine TrO.cons_val _ (TrO.cons_val _ (TrO.cons_val _ ?_))
    rw [har]
    refine rwI_tr (by omega) fun q=>?_
    rw [hO3,at_newk,argO,if_neg q]
    rfl
   have hIf:fitL 0 [.val (aI i.to),.val (aI i.op),.val (aI i.n),ar]:=⟨⟨trivial,rfl,trivial⟩,⟨trivial,rfl,trivial⟩,⟨trivial,rfl,trivial⟩,harf,trivial⟩
   have h3k:∀i,i<O2.length→O3[i]?=O2[i]?:=fun i hi=>by rw [hO3,List.getElem?_append_left hi]
   have ht8:O3[O2.length]?=some (.cells [aI i.to,aI i.op,aI i.n,ar.raw]):=by rw [hO3,at_newz];rfl
   have h3u:∀o∈O3,o.upto O3.length:=fun o ho=>by
    have hll:O2.length≤O3.length:=by rw [hO3,List.length_append];omega
    have hau:=raw_upto hIt hIf (Nat.le_refl _)
    rw [hO3] at ho
    rcases List.mem_append.1 ho with q | q
    ·exact AObj.upto_mono hll (hG.up o q)
    rcases List.mem_cons.1 q with q | q
    ·rw [q]
     exact hau
    unfold argO at q
    split at q
    ·cases q
    rw [List.mem_singleton.1 q]
    exact aI_upto _ _
   rw [←har,←hO3]
   have hGl:=hG.len
   have hcf:∀v m,v.upto m→O2.length≤m→uptoL m [ps.raw,v,aI b.term.kind,aI b.term.arg,aI b.term.n,eIs b.term.cases,eEdges b.term.to]:=fun v m hv hm =>
    ⟨(raw_upto hG.done ⟨hpsf,trivial⟩ hm).1,hv,trivial,trivial,trivial,⟨aI_upto _ _,trivial⟩,⟨Edge.map_upto _ _,trivial⟩,trivial⟩
   have hsi':SimT (cs++[.val (aI i.to),.val (aI i.op),.val (aI i.n),ar]) ((b.ins.take (j+1)).flatMap insT):=by
    rw [hti,List.flatMap_append]
    refine hsi.app ?_
    refine SimT.cons (SimT.refl _) (SimT.cons (SimT.refl _) (SimT.cons (SimT.refl _) ?_))
    rw [har]
    exact SimT.rwI _ _ _
   have hcl:=hsi.size
   rw [insT_len,List.length_take,Nat.min_eq_left hj] at hcl
   clear hO3 har
   by_cases hj0:j=0
   ·subst hj0
    have hcell3:O3[O.length]?=some (.cells [ps.raw,.lst 4 [] .ex,aI b.term.kind,aI b.term.arg,aI b.term.n,eIs b.term.cases,eEdges b.term.to]):=(h3k _ hGl).trans hG.cell
    have hcell3':∀X,(O3++X)[O.length]?=some (.cells [ps.raw,.lst 4 [] .ex,aI b.term.kind,aI b.term.arg,aI b.term.n,eIs b.term.cases,eEdges b.term.to]):=fun X=>at_left hcell3
    have hcs0:=hG.gr.nil rfl
    refine zs0 ?_
    simp -dsimp only [simprocAttr,↓vpre,zp,hcell3,hcell3',ht8,hars,cellsAll_v,cells_os']
    repeat(refine⟨by omega,?_⟩)
    refine⟨trivial,?_⟩
    refine za0 ?_
    have hput:=hG.push (O3:=O3) (O4:=O3) hcf h3k hIt hIf rfl h3u (fun _ _=>rfl) (c:=[aI i.to,aI i.op,aI i.n,ar.raw]) (a:=[ps.raw,.os O3.length 1 4,aI b.term.kind,aI b.term.arg,aI b.term.n,eIs b.term.cases,eEdges b.term.to]) (by rw [hcs0];rfl) rfl
    show AWP Try.prog _ _ _ ⟨_,_,(O3++[AObj.cells [aI i.to,aI i.op,aI i.n,ar.raw]]).set O.length (.cells [ps.raw,.os O3.length 1 4,aI b.term.kind,aI b.term.arg,aI b.term.n,eIs b.term.cases,eEdges b.term.to])⟩
    generalize (O3++[AObj.cells [aI i.to,aI i.op,aI i.n,ar.raw]]).set O.length (.cells [ps.raw,.os O3.length 1 4,aI b.term.kind,aI b.term.arg,aI b.term.n,eIs b.term.cases,eEdges b.term.to])=O7 at *
    refine zh0 ?_
    repeat(refine⟨by omega,?_⟩)
    refine zl0 ?_
    refine⟨⟨⟨0+1,O3.length,_,O7⟩,hlj,hput,hsi'⟩,by simp;omega,?_⟩
    refine zq rfl ?_ ?_
    simp -dsimp only [simprocAttr,↓vpre,zp,zc]
    all_goals rfl
   obtain⟨r1,r2,r3⟩:=hG.gr.root hj0
   have hgr:growR iid 4 j=.os iid j 4:=by unfold growR;rw [if_neg hj0]
   have hcell3:O3[O.length]?=some (.cells [ps.raw,.os iid j 4,aI b.term.kind,aI b.term.arg,aI b.term.n,eIs b.term.cases,eEdges b.term.to]):=by rw [h3k _ hGl,hG.cell,hgr]
   have hcell3':∀X,(O3.set iid .gone++X)[O.length]?=some (.cells [ps.raw,.os iid j 4,aI b.term.kind,aI b.term.arg,aI b.term.n,eIs b.term.cases,eEdges b.term.to]):=fun X=>at_left (at_set_ne hcell3 (by omega))
   have r4:=(h3k iid (lt_of_getElem? r2)).trans r2
   have hel:(cs.map OC.raw).length=j * 4:=by rw [List.length_map,hcl]
   have hTT:(cs.map OC.raw).take (j * 4)=cs.map OC.raw:=List.take_of_length_le (by omega)
   refine zg0 ?_
   simp -dsimp only [simprocAttr,↓vpre,zp,hcell3,hcell3',ht8,hars,r4,hTT,hel,hcl,List.length_map,cellsAll_v,cells_os']
   repeat(refine⟨by omega,?_⟩)
   refine⟨trivial,?_⟩
   refine za0 ?_
   have hput:=hG.push (O3:=O3) (O4:=O3.set iid .gone) hcf h3k hIt hIf (List.length_set) (uptoO_set h3u trivial) (fun k hk=>by rw [List.getElem?_set_ne (Ne.symm (hk hj0))]) (c:=cs.map OC.raw++[aI i.to,aI i.op,aI i.n,ar.raw]) (a:=[ps.raw,.os O3.length (j+1) 4,aI b.term.kind,aI b.term.arg,aI b.term.n,eIs b.term.cases,eEdges b.term.to]) (by rw [List.map_append];rfl) (by rw [List.length_set])
   rw [List.length_set] at hput
   show AWP Try.prog _ _ _ ⟨_,_,(O3.set iid .gone++[AObj.cells (cs.map OC.raw++[aI i.to,aI i.op,aI i.n,ar.raw])]).set O.length (.cells [ps.raw,.os O3.length (j+1) 4,aI b.term.kind,aI b.term.arg,aI b.term.n,eIs b.term.cases,eEdges b.term.to])⟩
   generalize (O3.set iid .gone++[AObj.cells (cs.map OC.raw++[aI i.to,aI i.op,aI i.n,ar.raw])]).set O.length (.cells [ps.raw,.os O3.length (j+1) 4,aI b.term.kind,aI b.term.arg,aI b.term.n,eIs b.term.cases,eEdges b.term.to])=O7 at *
   refine zh0 ?_
   repeat(refine⟨by omega,?_⟩)
   refine zl0 ?_
   refine⟨⟨⟨j+1,O3.length,_,O7⟩,hlj,hput,hsi'⟩,by simp;omega,?_⟩
   refine zq rfl ?_ ?_
   simp -dsimp only [simprocAttr,↓vpre,zp,zc]
   ·exact Sub.int (by simp)
   rfl
  refine awp_exit ?_
  simp -dsimp only [vend,ne_eq,Nat.reduceEqDiff,reduceCtorEq]
  have hjl:j=b.ins.length:=by
   have:=of_decide_eq_false h
   omega
  subst hjl
  rw [List.take_of_length_le (Nat.le_refl _)] at hsi
  have hGl:=hG.len
  have hcell:=hG.cell
  have hgu:(growR iid 4 b.ins.length).upto O2.length:=by
   unfold growR
   by_cases q:b.ins.length=0
   ·rw [if_pos q]
    exact⟨trivial,trivial⟩
   rw [if_neg q]
   exact lt_of_getElem? (hG.gr.root q).2.1
  have hpu:=(raw_upto hG.done ⟨hpsf,trivial⟩ (Nat.le_refl _)).1
  have hE:Gw O (fun v=>[ps.raw,growR iid 4 b.ins.length,aI b.term.kind,aI b.term.arg,aI b.term.n,eIs b.term.cases,v]) 2 0 0 ([ps]++[rwT iid 4 b.ins.length cs]) [] (O2.set O.length (.cells [ps.raw,growR iid 4 b.ins.length,aI b.term.kind,aI b.term.arg,aI b.term.n,eIs b.term.cases,.lst 2 [] .ex])) :=
   hG.next (cf':=fun v=>[ps.raw,growR iid 4 b.ins.length,aI b.term.kind,aI b.term.arg,aI b.term.n,eIs b.term.cases,v]) rfl ⟨hpu,hgu,trivial,trivial,trivial,⟨aI_upto _ _,trivial⟩,⟨trivial,trivial⟩,trivial⟩
  have hirs:(growR iid 4 b.ins.length).shareCell=(rwT iid 4 b.ins.length cs).raw:=growR_share _ _ _ _
  have hirf:(rwT iid 4 b.ins.length cs).fit 0:=rwT_fit (by rw [hsi.size,insT_len]) hG.fit
  have hirS:SimT [rwT iid 4 b.ins.length cs] [rwT 0 4 b.ins.length (b.ins.flatMap insT)]:=hsi.row _ _ _ _
  have hgiu:∀m,(b.ins.length≠0→iid<m)→(growR iid 4 b.ins.length).upto m:=fun m q=>by
   unfold growR
   by_cases q0:b.ins.length=0
   ·rw [if_pos q0]
    exact⟨trivial,trivial⟩
   rw [if_neg q0]
   exact q q0
  have hiro:b.ins.length≠0→(iid,cs.map OC.raw)∈ownL ([ps]++[rwT iid 4 b.ins.length cs]):=fun q=>by
   rw [ownL_app]
   refine List.mem_append_right _ ?_
   rw [ownL,rwT_own iid 4 _ cs q]
   exact List.mem_append_left _ List.mem_cons_self
  have hgs:(growR iid 4 b.ins.length).scalar:=by unfold growR;split<;>trivial
  have hpsc:=raw_scalar (fit_wf hpsf)
  generalize rwT iid 4 b.ins.length cs=ir at *
  generalize growR iid 4 b.ins.length=gi at *
  refine awp_seq (awp_pieces hm (ChP.seg ⟨false,false⟩ hT 4 rfl rfl (by simp) ?_))
  simp -dsimp only [simprocAttr,↓vpre,zp,hcell]
  refine ChP.op rfl rfl (cert_append_sh hT rfl (by simp) tab_26 rfl tab_3 rfl rfl rfl (by simp;omega) (by simp;omega)) ?_
  simp -dsimp only [simprocAttr,↓vpre,zp,hcell]
  refine ChP.seg ⟨false,false⟩ hT 3 rfl rfl (by simp) ?_
  simp -dsimp only [simprocAttr,↓vpre,zp,hcell]
  refine ChP.fin rfl ?_
  refine za0 ?_
  have hc2:∀y,(O2.set O.length y)[O.length]?=some y:=fun y=>List.getElem?_set_self hGl
  refine zg1 ?_
  simp -dsimp only [simprocAttr,↓vpre,zp,hc2]
  refine za0 ?_
  refine awp_retell2 (cs:=[ps.raw,gi,aI b.term.kind,aI b.term.arg,aI b.term.n,eIs b.term.cases,.v (.slice none 0 0)]) O.length [ps.raw,gi,aI b.term.kind,aI b.term.arg,aI b.term.n,eIs b.term.cases,.lst 2 [] .ex] (List.getElem?_set_self (by rw [List.length_set];exact hGl)) rfl (fun d hd=>?_) (fun j c d hc hd=>?_) ?_
  ·simp only [List.mem_cons,List.not_mem_nil,or_false] at hd
   rcases hd with rfl | rfl | rfl | rfl | rfl | rfl | rfl<;>trivial
  ·match j,hc,hd with
   | 0,hc,hd=>exact Sub.of_eq (by simpa using hc.symm.trans hd)
   | 1,hc,hd=>exact Sub.of_eq (by simpa using hc.symm.trans hd)
   | 2,hc,hd=>exact Sub.of_eq (by simpa using hc.symm.trans hd)
   | 3,hc,hd=>exact Sub.of_eq (by simpa using hc.symm.trans hd)
   | 4,hc,hd=>exact Sub.of_eq (by simpa using hc.symm.trans hd)
   | 5,hc,hd=>exact Sub.of_eq (by simpa using hc.symm.trans hd)
   | 6,hc,hd =>
    simp only [List.getElem?_cons_succ,List.getElem?_cons_zero,Option.some.injEq] at hc hd
    subst hc
    subst hd
    exact Sub.nil_lst 2
   | j+7,hc,hd=>simp at hc
  rw [List.set_set,List.set_set]
  clear hcell hc2 hgu hpu hGl hG
  generalize O2.set O.length (.cells [ps.raw,gi,aI b.term.kind,aI b.term.arg,aI b.term.n,eIs b.term.cases,.lst 2 [] .ex])=O6 at *
  refine zh2 (za0 ?_)
  refine awp_block (awp_loop (ι:={X:Ct // X.k≤b.term.to.length∧Gw O (fun v=>[ps.raw,gi,aI b.term.kind,aI b.term.arg,aI b.term.n,eIs b.term.cases,v]) 2 X.id X.k ([ps]++[ir]) X.cs X.O∧SimT X.cs ((b.term.to.take X.k).flatMap edgT)}) (fun X=>⟨87,[(1,.ip none [aI f.name,eBlocks f.blocks]),(2,.mp (O0.length+1) 0),(3,.mp (O0.length+2) 0),(15,eBlocks f.blocks),(16,aI N),(17,aI k),(5,.ip none [eIs b.params,eInss b.ins,aI b.term.kind,aI b.term.arg,aI b.term.n,eIs b.term.cases,eEdges b.term.to]),(6,.mp O.length 0),(58,eEdges b.term.to),(59,aI b.term.to.length),(60,aI X.1.k)],X.1.O⟩) (fun X=>b.term.to.length - X.1.k) ⟨⟨0,0,[],O6⟩,by simp,hE,SimT.refl _⟩ ?_ ?_)
  ·refine zq rfl ?_ ?_
   simp -dsimp only [simprocAttr,↓vpre,zp,zc]
   all_goals rfl
  rintro⟨⟨z,tid,es,O3⟩,hz,hE,hse⟩
  simp only at hz hE hse
  have hEl:=hE.len
  refine zh1 (za0 ?_)
  apply zk1 rfl<;>intro h
  ·refine zb0 ?_
   have hlz:z<b.term.to.length:=by simpa using h
   obtain⟨e,he⟩:∃e,b.term.to[z]?=some e:=⟨b.term.to[z],by simp [hlz]⟩
   have hea:=hbe e (List.mem_of_getElem? he)
   have hti:b.term.to.take (z+1)=b.term.to.take z++[e]:=by rw [List.take_add_one,he];rfl
   refine awp_seq (awp_block ?_)
   refine zg1 ?_
   simp -dsimp only [simprocAttr,↓vpre,zp,he]
   refine za0 ?_
   refine awp_local 10 ([aI e.block,eIs e.args]) [(1,.ip none [aI f.name,eBlocks f.blocks]),(2,.mp (O0.length+1) 0),(3,.mp (O0.length+2) 0),(15,eBlocks f.blocks),(16,aI N),(17,aI k),(5,.ip none [eIs b.params,eInss b.ins,aI b.term.kind,aI b.term.arg,aI b.term.n,eIs b.term.cases,eEdges b.term.to]),(6,.mp O.length 0),(58,eEdges b.term.to),(59,aI b.term.to.length),(60,aI z),(10,.ip none [aI e.block,eIs e.args])] (by simp [putS,dropS,Go.Av.look]) (by rfl) (by omega) (by simp [putS,dropS,Go.Av.look]) ?_ ?_ ?_
   ·exact hE.up
   ·simp [AVal.upto,uptoL,aI_upto,Edge.map_upto,Ins.map_upto,Block.map_upto,hEl,show O0.length+1<O3.length by omega,show O0.length+2<O3.length by omega]
   refine awp_keep 1 ?_
   show AWP Try.prog _ _ _ ⟨_,_,O3++[.spare 0]⟩
   obtain⟨ar,har⟩:∃ar,ar=rwI O3.length e.args:=⟨_,rfl⟩
   have harf:ar.fit 0:=by rw [har];exact rwI_fit _ _ _
   have hars:=raw_share harf
   have hIf:fitL 0 [.val (aI e.block),ar]:=⟨⟨trivial,rfl,trivial⟩,harf,trivial⟩
   have hse':SimT (es++[.val (aI e.block),ar]) ((b.term.to.take (z+1)).flatMap edgT):=by
    rw [hti,List.flatMap_append]
    refine hse.app (SimT.cons (SimT.refl _) ?_)
    rw [har]
    exact SimT.rwI _ _ _
   have hcl:=hse.size
   rw [edgT_len,List.length_take,Nat.min_eq_left hz] at hcl
   have hcf:∀v m,v.upto m→O3.length≤m→uptoL m [ps.raw,gi,aI b.term.kind,aI b.term.arg,aI b.term.n,eIs b.term.cases,v]:=fun v m hv hm=>by
    have:=raw_upto hE.done ⟨hpsf,hirf,trivial⟩ hm
    have hgu:=hgiu m (fun q=>Nat.lt_of_lt_of_le (hE.done.lt _ (hiro q)) hm)
    exact⟨this.1,hgu,trivial,trivial,trivial,⟨aI_upto _ _,trivial⟩,hv,trivial⟩
   have h4k:∀i,i<O3.length→(O3++[AObj.spare 0])[i]?=O3[i]?:=fun i hi=>List.getElem?_append_left hi
   have h4u:∀o∈O3++[AObj.spare 0],o.upto (O3++[AObj.spare 0]).length:=fun o ho=>by
    rw [List.length_append,List.length_singleton]
    rcases List.mem_append.1 ho with q | q
    ·exact AObj.upto_mono (by omega) (hE.up o q)
    rw [List.mem_singleton.1 q]
    trivial
   have h4l:(O3++[AObj.spare 0]).length=O3.length+1:=by simp
   have hsp:(O3++[AObj.spare 0])[O3.length]?=some (.spare 0):=snoc_get _ _
   generalize O3++[AObj.spare 0]=O4 at *
   by_cases hae:e.args=[]
   ·have hIt:TrO O4 O3.length [.val (aI e.block),ar]:=by
     refine TrO.cons_val _ ?_
     rw [har]
     exact rwI_tr (Nat.le_refl _) fun q=>absurd hae q
    have h3k:=h4k
    have h3u:=h4u
    by_cases hz0:z=0
    ·subst hz0
     have hcell4:O4[O.length]?=some (.cells [ps.raw,gi,aI b.term.kind,aI b.term.arg,aI b.term.n,eIs b.term.cases,.lst 2 [] .ex]):=(h4k _ hEl).trans hE.cell
     have hcs0:=hE.gr.nil rfl
     have h5c:=hcell4
     have h5c':∀X,(O4++X)[O.length]?=some (.cells [ps.raw,gi,aI b.term.kind,aI b.term.arg,aI b.term.n,eIs b.term.cases,.lst 2 [] .ex]):=fun X=>at_left h5c
     refine awp_pieces hm (ChP.seg ⟨false,false⟩ hT 8 rfl rfl (by simp) ?_)
     simp -dsimp only [simprocAttr,↓vpre,zp,hcell4]
     refine ChP.op rfl rfl (cert_append_sh hT rfl (by simp) tab_26 rfl tab_3 rfl rfl rfl (by simp;omega) (by simp;omega)) ?_
     simp -dsimp only [simprocAttr,↓vpre,zp,h5c,h5c',cellsAll_v,cells_os',os_flat,os_shareC,ints_cells,ints_cells2]
     refine ChP.seg ⟨true,true⟩ hT 6 rfl rfl (by simp) ?_
     simp -dsimp only [simprocAttr,↓vpre,zp,h5c,h5c',cellsAll_v,cells_os',os_flat,os_shareC,ints_cells,ints_cells2]
     repeat(refine⟨by omega,?_⟩)
     try refine⟨trivial,?_⟩
     refine ChP.fin rfl ⟨ob (by kernel_rfl),?_⟩
     refine za0 ?_
     have hft:=hE.push (O3:=O4) (O4:=O4) (ds:=[.val (aI e.block),ar]) hcf h3k hIt hIf rfl h3u (fun _ _=>rfl) (c:=[aI e.block,ar.raw]) (a:=[ps.raw,gi,aI b.term.kind,aI b.term.arg,aI b.term.n,eIs b.term.cases,.os O4.length 1 2]) (by rw [hcs0];rfl) (by simp)
     try simp only [List.length_set] at hft
     show AWP Try.prog _ _ _ ⟨_,_,(O4++[AObj.cells [aI e.block,.lst 1 (e.args.map aI) .sh]]).set O.length (.cells [ps.raw,gi,aI b.term.kind,aI b.term.arg,aI b.term.n,eIs b.term.cases,.os O4.length 1 2])⟩
     rw [show AVal.lst 1 (e.args.map aI) .sh=ar.raw by rw [har,rwI_raw0 _ hae,hae];rfl]
     generalize (O4++[AObj.cells [aI e.block,ar.raw]]).set O.length (.cells [ps.raw,gi,aI b.term.kind,aI b.term.arg,aI b.term.n,eIs b.term.cases,.os O4.length 1 2])=O7 at *
     refine zh0 ?_
     repeat(refine⟨by omega,?_⟩)
     refine zl0 ?_
     refine⟨⟨⟨0+1,O4.length,_,O7⟩,hlz,hft,hse'⟩,by simp;omega,?_⟩
     refine zq rfl ?_ ?_
     simp -dsimp only [simprocAttr,↓vpre,zp,zc]
     all_goals rfl
    obtain⟨r1,r2,r3⟩:=hE.gr.root hz0
    have hgr:growR tid 2 z=.os tid z 2:=by unfold growR;rw [if_neg hz0]
    have hcell4:O4[O.length]?=some (.cells [ps.raw,gi,aI b.term.kind,aI b.term.arg,aI b.term.n,eIs b.term.cases,.os tid z 2]):=by rw [h4k _ hEl,hE.cell,hgr]
    have htl:=lt_of_getElem? r2
    have r4:=(h4k tid htl).trans r2
    have hel:(es.map OC.raw).length=z * 2:=by rw [List.length_map,hcl]
    have hTT:(es.map OC.raw).take (z * 2)=es.map OC.raw:=List.take_of_length_le (by omega)
    have h5c:=hcell4
    have h5c':∀X,(O4.set tid .gone++X)[O.length]?=some (.cells [ps.raw,gi,aI b.term.kind,aI b.term.arg,aI b.term.n,eIs b.term.cases,.os tid z 2]):=fun X=>at_left (at_set_ne h5c (by omega))
    have r5:O4[tid]?=some (.cells (es.map OC.raw)):=r4
    refine awp_pieces hm (ChP.seg ⟨false,false⟩ hT 8 rfl rfl (by simp) ?_)
    simp -dsimp only [simprocAttr,↓vpre,zp,hcell4]
    refine ChP.op rfl rfl (cert_append_sh hT rfl (by simp) tab_26 rfl tab_3 rfl rfl rfl (by simp;omega) (by simp;omega)) ?_
    simp -dsimp only [simprocAttr,↓vpre,zp,h5c,h5c',r5,hTT,hel,hcl,List.length_map,cellsAll_v,cells_os',os_flat,os_shareC,ints_cells,ints_cells2]
    refine ChP.seg ⟨false,false⟩ hT 6 rfl rfl (by simp) ?_
    simp -dsimp only [simprocAttr,↓vpre,zp,h5c,h5c',r5,hTT,hel,hcl,List.length_map,cellsAll_v,cells_os',os_flat,os_shareC,ints_cells,ints_cells2]
    repeat(refine⟨by omega,?_⟩)
    try refine⟨trivial,?_⟩
    refine ChP.fin rfl ⟨ob (by kernel_rfl),?_⟩
    refine za0 ?_
    have hft:=hE.push (O3:=O4) (O4:=O4.set tid .gone) (ds:=[.val (aI e.block),ar]) hcf h3k hIt hIf List.length_set (uptoO_set h3u trivial) (fun k hk=>by rw [List.getElem?_set_ne (Ne.symm (hk hz0))]) (c:=(es.map OC.raw++[aI e.block,ar.raw])) (a:=[ps.raw,gi,aI b.term.kind,aI b.term.arg,aI b.term.n,eIs b.term.cases,.os O4.length (z+1) 2]) (by rw [List.map_append];rfl) (by simp)
    try simp only [List.length_set] at hft
    show AWP Try.prog _ _ _ ⟨_,_,(O4.set tid .gone++[AObj.cells (es.map OC.raw++[aI e.block,.lst 1 (e.args.map aI) .sh])]).set O.length (.cells [ps.raw,gi,aI b.term.kind,aI b.term.arg,aI b.term.n,eIs b.term.cases,.os O4.length (z+1) 2])⟩
    rw [show AVal.lst 1 (e.args.map aI) .sh=ar.raw by rw [har,rwI_raw0 _ hae,hae];rfl]
    generalize (O4.set tid .gone++[AObj.cells (es.map OC.raw++[aI e.block,ar.raw])]).set O.length (.cells [ps.raw,gi,aI b.term.kind,aI b.term.arg,aI b.term.n,eIs b.term.cases,.os O4.length (z+1) 2])=O7 at *
    refine zh0 ?_
    repeat(refine⟨by omega,?_⟩)
    refine zl0 ?_
    refine⟨⟨⟨z+1,O4.length,_,O7⟩,hlz,hft,hse'⟩,by simp;omega,?_⟩
    refine zq rfl ?_ ?_
    simp -dsimp only [simprocAttr,↓vpre,zp,zc]
    all_goals first | rfl | exact Sub.int (by simp)
   have hIt:TrO (O4.set O3.length (.cells (e.args.map aI))) O3.length [.val (aI e.block),ar]:=by
    refine TrO.cons_val _ ?_
    rw [har]
    exact rwI_tr (Nat.le_refl _) fun q=>List.getElem?_set_self (by omega)
   have h3k:∀i,i<O3.length→(O4.set O3.length (.cells (e.args.map aI)))[i]?=O3[i]?:=fun i hi=>by rw [List.getElem?_set_ne (by omega),h4k i hi]
   have h3u:∀o∈O4.set O3.length (.cells (e.args.map aI)),o.upto (O4.set O3.length (.cells (e.args.map aI))).length:=by
    rw [List.length_set]
    exact uptoO_set h4u (aI_upto _ _)
   by_cases hz0:z=0
   ·subst hz0
    have hcell4:O4[O.length]?=some (.cells [ps.raw,gi,aI b.term.kind,aI b.term.arg,aI b.term.n,eIs b.term.cases,.lst 2 [] .ex]):=(h4k _ hEl).trans hE.cell
    have hcs0:=hE.gr.nil rfl
    have h5l:(O4.set O3.length (.cells (e.args.map aI))).length=O4.length:=List.length_set
    have h5c:∀y,(O4.set O3.length y)[O.length]?=some (.cells [ps.raw,gi,aI b.term.kind,aI b.term.arg,aI b.term.n,eIs b.term.cases,.lst 2 [] .ex]):=fun y=>at_set_ne hcell4 (by omega)
    have h5c':∀X,((O4.set O3.length (.cells (e.args.map aI)))++X)[O.length]?=some (.cells [ps.raw,gi,aI b.term.kind,aI b.term.arg,aI b.term.n,eIs b.term.cases,.lst 2 [] .ex]):=fun X=>at_left (h5c _)
    refine awp_pieces hm (ChP.seg ⟨false,false⟩ hT 8 rfl rfl (by simp) ?_)
    simp -dsimp only [simprocAttr,↓vpre,zp,hcell4]
    refine ChP.op rfl rfl (cert_append_at hT (id:=O3.length) (m:=0) rfl (by simp) tab_26 rfl tab_3 rfl rfl rfl hsp (ints_plain _) (by simpa using hae) (by simp;omega) (by simp;omega)) ?_
    simp -dsimp only [simprocAttr,↓vpre,zp,h5c,h5c',cellsAll_v,cells_os',os_flat,os_shareC,ints_cells,ints_cells2]
    refine ChP.seg ⟨true,true⟩ hT 6 rfl rfl (by simp) ?_
    simp -dsimp only [simprocAttr,↓vpre,zp,h5c,h5c',cellsAll_v,cells_os',os_flat,os_shareC,ints_cells,ints_cells2]
    repeat(refine⟨by omega,?_⟩)
    try refine⟨trivial,?_⟩
    refine ChP.fin rfl ⟨orderB_ren [O.length,O3.length] O4.length [.pure,.pure,.rd 0,.pure,.pure,.pure,.pure,.pure,.new 1,.pure,.pure,.wr 2 [],.pure,.pure,.wr 3 [0]] (by simp;omega) (by simp;omega) (by simp only [List.length_set];rfl) rfl (by kernel_rfl),?_⟩
    refine za0 ?_
    have hft:=hE.push (O3:=(O4.set O3.length (.cells (e.args.map aI)))) (O4:=(O4.set O3.length (.cells (e.args.map aI)))) (ds:=[.val (aI e.block),ar]) hcf h3k hIt hIf rfl h3u (fun _ _=>rfl) (c:=[aI e.block,ar.raw]) (a:=[ps.raw,gi,aI b.term.kind,aI b.term.arg,aI b.term.n,eIs b.term.cases,.os O4.length 1 2]) (by rw [hcs0];rfl) (by simp)
    try simp only [List.length_set] at hft
    try simp only [List.length_set]
    show AWP Try.prog _ _ _ ⟨_,_,((O4.set O3.length (.cells (e.args.map aI)))++[AObj.cells [aI e.block,.os O3.length e.args.length 1]]).set O.length (.cells [ps.raw,gi,aI b.term.kind,aI b.term.arg,aI b.term.n,eIs b.term.cases,.os O4.length 1 2])⟩
    rw [←show ar.raw=AVal.os O3.length e.args.length 1 by rw [har,rwI_raw1 _ hae]]
    generalize ((O4.set O3.length (.cells (e.args.map aI)))++[AObj.cells [aI e.block,ar.raw]]).set O.length (.cells [ps.raw,gi,aI b.term.kind,aI b.term.arg,aI b.term.n,eIs b.term.cases,.os O4.length 1 2])=O7 at *
    refine zh0 ?_
    repeat(refine⟨by omega,?_⟩)
    refine zl0 ?_
    refine⟨⟨⟨0+1,O4.length,_,O7⟩,hlz,hft,hse'⟩,by simp;omega,?_⟩
    refine zq rfl ?_ ?_
    simp -dsimp only [simprocAttr,↓vpre,zp,zc]
    all_goals rfl
   obtain⟨r1,r2,r3⟩:=hE.gr.root hz0
   have hgr:growR tid 2 z=.os tid z 2:=by unfold growR;rw [if_neg hz0]
   have hcell4:O4[O.length]?=some (.cells [ps.raw,gi,aI b.term.kind,aI b.term.arg,aI b.term.n,eIs b.term.cases,.os tid z 2]):=by rw [h4k _ hEl,hE.cell,hgr]
   have htl:=lt_of_getElem? r2
   have r4:=(h4k tid htl).trans r2
   have hel:(es.map OC.raw).length=z * 2:=by rw [List.length_map,hcl]
   have hTT:(es.map OC.raw).take (z * 2)=es.map OC.raw:=List.take_of_length_le (by omega)
   have h5l:(O4.set O3.length (.cells (e.args.map aI))).length=O4.length:=List.length_set
   have h5c:∀y,(O4.set O3.length y)[O.length]?=some (.cells [ps.raw,gi,aI b.term.kind,aI b.term.arg,aI b.term.n,eIs b.term.cases,.os tid z 2]):=fun y=>at_set_ne hcell4 (by omega)
   have h5c':∀X,((O4.set O3.length (.cells (e.args.map aI))).set tid .gone++X)[O.length]?=some (.cells [ps.raw,gi,aI b.term.kind,aI b.term.arg,aI b.term.n,eIs b.term.cases,.os tid z 2]):=fun X=>at_left (at_set_ne (h5c _) (by omega))
   have r5:(O4.set O3.length (.cells (e.args.map aI)))[tid]?=some (.cells (es.map OC.raw)):=at_set_ne r4 (by omega)
   refine awp_pieces hm (ChP.seg ⟨false,false⟩ hT 8 rfl rfl (by simp) ?_)
   simp -dsimp only [simprocAttr,↓vpre,zp,hcell4]
   refine ChP.op rfl rfl (cert_append_at hT (id:=O3.length) (m:=0) rfl (by simp) tab_26 rfl tab_3 rfl rfl rfl hsp (ints_plain _) (by simpa using hae) (by simp;omega) (by simp;omega)) ?_
   simp -dsimp only [simprocAttr,↓vpre,zp,h5c,h5c',r5,hTT,hel,hcl,List.length_map,cellsAll_v,cells_os',os_flat,os_shareC,ints_cells,ints_cells2]
   refine ChP.seg ⟨false,false⟩ hT 6 rfl rfl (by simp) ?_
   simp -dsimp only [simprocAttr,↓vpre,zp,h5c,h5c',r5,hTT,hel,hcl,List.length_map,cellsAll_v,cells_os',os_flat,os_shareC,ints_cells,ints_cells2]
   repeat(refine⟨by omega,?_⟩)
   try refine⟨trivial,?_⟩
   refine ChP.fin rfl ⟨orderB_ren [O.length,O3.length,tid] O4.length [.pure,.pure,.rd 0,.pure,.pure,.pure,.pure,.pure,.new 1,.pure,.pure,.wr 3 [2],.pure,.pure,.wr 4 [0]] (by simp;omega) (by simp;omega) (by simp only [List.length_set];rfl) rfl (by kernel_rfl),?_⟩
   refine za0 ?_
   have hft:=hE.push (O3:=(O4.set O3.length (.cells (e.args.map aI)))) (O4:=(O4.set O3.length (.cells (e.args.map aI))).set tid .gone) (ds:=[.val (aI e.block),ar]) hcf h3k hIt hIf List.length_set (uptoO_set h3u trivial) (fun k hk=>by rw [List.getElem?_set_ne (Ne.symm (hk hz0))]) (c:=(es.map OC.raw++[aI e.block,ar.raw])) (a:=[ps.raw,gi,aI b.term.kind,aI b.term.arg,aI b.term.n,eIs b.term.cases,.os O4.length (z+1) 2]) (by rw [List.map_append];rfl) (by simp)
   try simp only [List.length_set] at hft
   try simp only [List.length_set]
   show AWP Try.prog _ _ _ ⟨_,_,((O4.set O3.length (.cells (e.args.map aI))).set tid .gone++[AObj.cells (es.map OC.raw++[aI e.block,.os O3.length e.args.length 1])]).set O.length (.cells [ps.raw,gi,aI b.term.kind,aI b.term.arg,aI b.term.n,eIs b.term.cases,.os O4.length (z+1) 2])⟩
   rw [←show ar.raw=AVal.os O3.length e.args.length 1 by rw [har,rwI_raw1 _ hae]]
   generalize ((O4.set O3.length (.cells (e.args.map aI))).set tid .gone++[AObj.cells (es.map OC.raw++[aI e.block,ar.raw])]).set O.length (.cells [ps.raw,gi,aI b.term.kind,aI b.term.arg,aI b.term.n,eIs b.term.cases,.os O4.length (z+1) 2])=O7 at *
   refine zh0 ?_
   repeat(refine⟨by omega,?_⟩)
   refine zl0 ?_
   refine⟨⟨⟨z+1,O4.length,_,O7⟩,hlz,hft,hse'⟩,by simp;omega,?_⟩
   refine zq rfl ?_ ?_
   simp -dsimp only [simprocAttr,↓vpre,zp,zc]
   all_goals first | rfl | exact Sub.int (by simp)
  refine awp_exit ?_
  simp -dsimp only [vend,ne_eq,Nat.reduceEqDiff,reduceCtorEq]
  have hzl:z=b.term.to.length:=by
   have:=of_decide_eq_false h
   omega
  subst hzl
  rw [List.take_of_length_le (Nat.le_refl _)] at hse
  have hEl:=hE.len
  have hcell:=hE.cell
  have hers:(growR tid 2 b.term.to.length).shareCell=(rwT tid 2 b.term.to.length es).raw:=growR_share _ _ _ _
  have herf:(rwT tid 2 b.term.to.length es).fit 0:=rwT_fit (by rw [hse.size,edgT_len]) hE.fit
  have herS:SimT [rwT tid 2 b.term.to.length es] [rwT 0 2 b.term.to.length (b.term.to.flatMap edgT)]:=hse.row _ _ _ _
  have hdt:TrO O3 (O.length+1) (([ps]++[ir])++[rwT tid 2 b.term.to.length es]):=hE.done.app hE.gr.row hE.dj
  generalize rwT tid 2 b.term.to.length es=er at *
  generalize growR tid 2 b.term.to.length=ge at *
  have hds:TrO O3 O.length [ps,ir,.val (aI b.term.kind),.val (aI b.term.arg),.val (aI b.term.n),.val (eIs b.term.cases),er]:=by
   have e:ownL [ps,ir,.val (aI b.term.kind),.val (aI b.term.arg),.val (aI b.term.n),.val (eIs b.term.cases),er]=ownL (([ps]++[ir])++[er]):=by
    simp [ownL,OC.own]
   exact⟨by rw [e];exact hdt.owns,by rw [e];exact hdt.nd,by rw [e];exact(hdt.mono (Nat.le_succ _)).lo⟩
  have hdf:fitL 0 [ps,ir,.val (aI b.term.kind),.val (aI b.term.arg),.val (aI b.term.n),.val (eIs b.term.cases),er]:=⟨hpsf,hirf,⟨trivial,rfl,trivial⟩,⟨trivial,rfl,trivial⟩,⟨trivial,rfl,trivial⟩,⟨trivial,rfl,⟨aI_upto _ _,trivial⟩⟩,herf,trivial⟩
  have hsim':SimT (bs++[ps,ir,.val (aI b.term.kind),.val (aI b.term.arg),.val (aI b.term.n),.val (eIs b.term.cases),er]) ((f.blocks.take (k+1)).flatMap blkT):=by
   rw [htk,List.flatMap_append]
   refine hsim.app ?_
   refine SimT.cons hpsS (SimT.cons hirS (SimT.cons (SimT.refl _) (SimT.cons (SimT.refl _) (SimT.cons (SimT.refl _) (SimT.cons (SimT.refl _) ?_)))))
   exact herS
  have hbl:=hsim.size
  rw [blkT_len,List.length_take,←hN,Nat.min_eq_left hk] at hbl
  have hcf:∀v m,v.upto m→O.length≤m→uptoL m [aI f.name,v]:=fun v m hv _=>⟨trivial,hv,trivial⟩
  have hSl:=hS.len
  rw [hBxl] at hSl
  have ho4:=hE.keep (O0.length+2) hSl
  have hSc:=hS.cell
  rw [hBxl] at hSc
  have hirr:=raw_share hirf
  have herr:=raw_share herf
  by_cases hk0:k=0
  ·subst hk0
   have hc4:O3[O0.length+2]?=some (.cells [aI f.name,.lst 7 [] .ex]):=ho4.trans hSc
   have hc4':∀X,(O3++X)[O0.length+2]?=some (.cells [aI f.name,.lst 7 [] .ex]):=fun X=>at_left hc4
   have hbs0:=hS.gr.nil rfl
   refine zs0 ?_
   simp -dsimp only [simprocAttr,↓vpre,zp,hcell,hc4,hc4',hpsh,hirs,hers,hirr,herr,cellsAll_v,cells_os']
   repeat(refine⟨by omega,?_⟩)
   refine⟨trivial,?_⟩
   refine za0 ?_
   have hput:=hS.push (O3:=O3) (O4:=O3) hcf (fun i hi=>hE.keep i hi) hds hdf rfl hE.up (fun _ _=>rfl) (c:=[ps.raw,ir.raw,aI b.term.kind,aI b.term.arg,aI b.term.n,eIs b.term.cases,er.raw]) (a:=[aI f.name,.os O3.length 1 7]) (by rw [hbs0];rfl) rfl
   rw [hBxl] at hput
   show AWP Try.prog _ _ _ ⟨_,_,(O3++[AObj.cells [ps.raw,ir.raw,aI b.term.kind,aI b.term.arg,aI b.term.n,eIs b.term.cases,er.raw]]).set (O0.length+2) (.cells [aI f.name,.os O3.length 1 7])⟩
   generalize (O3++[AObj.cells [ps.raw,ir.raw,aI b.term.kind,aI b.term.arg,aI b.term.n,eIs b.term.cases,er.raw]]).set (O0.length+2) (.cells [aI f.name,.os O3.length 1 7])=O7 at *
   refine zh0 ?_
   repeat(refine⟨by omega,?_⟩)
   refine zl0 ?_
   refine⟨⟨⟨0+1,O3.length,_,O7⟩,hlt,hput,hsim'⟩,by simp;omega,?_⟩
   refine zq rfl ?_ ?_
   simp -dsimp only [simprocAttr,↓vpre,zp,zc]
   all_goals rfl
  obtain⟨r1,r2,r3⟩:=hS.gr.root hk0
  have hgr:growR bid 7 k=.os bid k 7:=by unfold growR;rw [if_neg hk0]
  have hc4:O3[O0.length+2]?=some (.cells [aI f.name,.os bid k 7]):=by rw [ho4,hSc,hgr]
  have hbl2:=lt_of_getElem? r2
  have hc4':∀X,(O3.set bid .gone++X)[O0.length+2]?=some (.cells [aI f.name,.os bid k 7]):=fun X=>at_left (at_set_ne hc4 (by omega))
  have r4:=(hE.keep bid hbl2).trans r2
  have hel:(bs.map OC.raw).length=k * 7:=by rw [List.length_map,hbl]
  have hTT:(bs.map OC.raw).take (k * 7)=bs.map OC.raw:=List.take_of_length_le (by omega)
  refine zg0 ?_
  simp -dsimp only [simprocAttr,↓vpre,zp,hcell,hc4,hc4',r4,hTT,hel,hbl,List.length_map,hpsh,hirs,hers,hirr,herr,cellsAll_v,cells_os']
  repeat(refine⟨by omega,?_⟩)
  refine⟨trivial,?_⟩
  refine za0 ?_
  have hput:=hS.push (O3:=O3) (O4:=O3.set bid .gone) hcf (fun i hi=>hE.keep i hi) hds hdf List.length_set (uptoO_set hE.up trivial) (fun k hk=>by rw [List.getElem?_set_ne (Ne.symm (hk hk0))]) (c:=bs.map OC.raw++[ps.raw,ir.raw,aI b.term.kind,aI b.term.arg,aI b.term.n,eIs b.term.cases,er.raw]) (a:=[aI f.name,.os O3.length (k+1) 7]) (by rw [List.map_append];rfl) (by simp)
  rw [hBxl,List.length_set] at hput
  show AWP Try.prog _ _ _ ⟨_,_,(O3.set bid .gone++[AObj.cells (bs.map OC.raw++[ps.raw,ir.raw,aI b.term.kind,aI b.term.arg,aI b.term.n,eIs b.term.cases,er.raw])]).set (O0.length+2) (.cells [aI f.name,.os O3.length (k+1) 7])⟩
  generalize (O3.set bid .gone++[AObj.cells (bs.map OC.raw++[ps.raw,ir.raw,aI b.term.kind,aI b.term.arg,aI b.term.n,eIs b.term.cases,er.raw])]).set (O0.length+2) (.cells [aI f.name,.os O3.length (k+1) 7])=O7 at *
  refine zh0 ?_
  repeat(refine⟨by omega,?_⟩)
  refine zl0 ?_
  refine⟨⟨⟨k+1,O3.length,_,O7⟩,hlt,hput,hsim'⟩,by simp;omega,?_⟩
  refine zq rfl ?_ ?_
  simp -dsimp only [simprocAttr,↓vpre,zp,zc]
  all_goals first | rfl | exact Sub.int (by simp)
 refine awp_exit ?_
 simp -dsimp only [vend,ne_eq,Nat.reduceEqDiff,reduceCtorEq]
 have hkN:k=N:=by
  have:=of_decide_eq_false h
  omega
 subst hkN
 rw [List.take_of_length_le (by omega)] at hsim
 have hn0:k≠0:=by
  intro q
  exact hne (List.length_eq_zero_iff.1 (hN ▸ q))
 have hout:=hS.cell
 rw [hBxl] at hout
 have hgr:growR bid 7 k=.os bid k 7:=by unfold growR;rw [if_neg hn0]
 rw [hgr] at hout
 have hret:=(hS.keep (O0.length+1) (by omega)).trans ((hBxk _ (by omega)).trans hBr)
 have hrl:=lt_of_getElem? hret
 have hret':(O.set (O0.length+1) (.cells [aI f.name,.os bid k 7]))[O0.length+1]?=some (.cells [aI f.name,.os bid k 7]):=List.getElem?_set_self hrl
 have hrow:=hS.gr.row (sz:=7)
 have hrr:(rwT bid 7 k bs).raw=.os bid k 7:=by unfold rwT;rw [if_neg hn0];rfl
 have hdt:TrO O (O0.length+2) [.val (aI f.name),rwT bid 7 k bs]:=TrO.cons_val _ (hrow.mono (by rw [hBxl];omega))
 refine zg1 ?_
 simp -dsimp only [simprocAttr,↓vpre,zp,hout,hret]
 refine za0 ?_
 refine awp_ret ?_
 simp -dsimp only [simprocAttr,↓vpre,zp,RetAll,Try.results35,retVals,retVal,mkRet,seqPost_ret,blockPost_ret,loopPost_ret,hret']
 refine⟨[.val (aI f.name),rwT bid 7 k bs],by rw [List.map_cons,List.map_cons,hrr];rfl,?_,⟨⟨trivial,rfl,trivial⟩,rwT_fit (by rw [hsim.size,blkT_len,hN]) (fitL_mono hS.fit),trivial⟩,fun i hi=>?_,?_,hdt.nd,fun p hp=>?_⟩
 ·show SimT _ _
  rw [hN]
  exact SimT.cons (SimT.refl _) (hsim.row _ _ _ _)
 ·rw [List.getElem?_set_ne (by omega),hS.keep i (by omega),hBxk i (by omega),hBk i hi]
 ·exact(hdt.same fun p hp=>List.getElem?_set_ne (by have:=hdt.lo p hp;omega)).owns
 have:=hdt.lo p hp
 omega
theorem insT_fit(k:Nat)(l:List Ins):fitL k (l.flatMap insT):=by
 rw [fitL_iff]
 intro c hc
 obtain⟨i,_,hc⟩:=List.mem_flatMap.1 hc
 simp only [insT,List.mem_cons,List.not_mem_nil,or_false] at hc
 rcases hc with rfl | rfl | rfl | rfl
 ·exact⟨trivial,rfl,trivial⟩
 ·exact⟨trivial,rfl,trivial⟩
 ·exact⟨trivial,rfl,trivial⟩
 exact rwI_fit _ _ _
theorem edgT_fit(k:Nat)(l:List Edge):fitL k (l.flatMap edgT):=by
 rw [fitL_iff]
 intro c hc
 obtain⟨i,_,hc⟩:=List.mem_flatMap.1 hc
 simp only [edgT,List.mem_cons,List.not_mem_nil,or_false] at hc
 rcases hc with rfl | rfl
 ·exact⟨trivial,rfl,trivial⟩
 exact rwI_fit _ _ _
theorem blkT_fit(k:Nat)(l:List Block):fitL k (l.flatMap blkT):=by
 rw [fitL_iff]
 intro c hc
 obtain⟨b,_,hc⟩:=List.mem_flatMap.1 hc
 simp only [blkT,List.mem_cons,List.not_mem_nil,or_false] at hc
 rcases hc with rfl | rfl | rfl | rfl | rfl | rfl | rfl
 ·exact rwI_fit _ _ _
 ·exact rwT_fit (insT_len _) (insT_fit k _)
 ·exact⟨trivial,rfl,trivial⟩
 ·exact⟨trivial,rfl,trivial⟩
 ·exact⟨trivial,rfl,trivial⟩
 ·exact⟨trivial,rfl,⟨aI_upto _ _,trivial⟩⟩
 exact rwT_fit (edgT_len _) (edgT_fit k _)
theorem funT_fit(k:Nat)(f:Func):fitL k (funT f):=⟨⟨trivial,rfl,trivial⟩,rwT_fit (blkT_len _) (blkT_fit k _),trivial⟩
theorem copyF_full(f:Func)(hs:SmW f)(hne:f.blocks≠[])(O0:List AObj)(hup:∀o∈O0,o.upto O0.length) :
  ECall Try.prog 35 O0 [f.enc] fun r O1=>r=.agg ((labL O0.length (funT f)).map OC.raw)∧O1=O0++objL (labL O0.length (funT f)) :=
 ecall_tree (funT_fit _ f) hup (copyF_tree f hs hne O0 hup)

def untT(u:Unt):List OC:=[rwT 0 2 u.fns.length (u.fns.flatMap funT),.val (aI u.main)]
theorem funT_len(l:List Func):(l.flatMap funT).length=l.length * 2:=by
 induction l with
 | nil=>rfl
 | cons i r ih =>
  have e:(i::r).flatMap funT=funT i++r.flatMap funT:=rfl
  rw [e,List.length_append,ih,List.length_cons]
  have:(funT i).length=2:=rfl
  omega
theorem funT_raw(n:Nat){f:Func}(h:f.blocks≠[]):(labL n (funT f)).map OC.raw=[aI f.name,.os n f.blocks.length 7]:=by
 unfold funT rwT
 rw [if_neg (fun q=>h (List.length_eq_zero_iff.1 q)),labL,OC.lab,labL,OC.lab,labL,OC.own]
 rfl
theorem raw_upto2{n:Nat}{cs:List OC}(h:∀p∈ownL cs,p.1<n)(hf:fitL 0 cs):uptoL n (cs.map OC.raw):=by
 rw [uptoL_iff]
 intro x hx
 obtain⟨c,hc,rfl⟩:=List.mem_map.1 hx
 have hfc:=(fitL_iff cs).1 hf c hc
 cases c with
 | val a=>exact AVal.upto_mono (Nat.zero_le _) _ hfc.2.2
 | row id sz m ds =>
  refine h (id,ds.map OC.raw) ?_
  rw [ownL_map]
  refine List.mem_flatMap.2 ⟨_,hc,?_⟩
  rw [OC.own]
  exact List.mem_cons_self
mutual
theorem own_upto{n:Nat}:∀{c:OC},c.fit 0→(∀p∈c.own,p.1<n)→∀p∈c.own,uptoL n p.2
 | .val a,_,_,p,hp=>by rw [OC.own] at hp;cases hp
 | .row id sz m cs,h,hl,p,hp=>by
  rw [OC.own] at hp hl
  have hl2:∀q∈ownL cs,q.1<n:=fun q hq=>hl q (List.mem_cons_of_mem _ hq)
  rcases List.mem_cons.1 hp with q | q
  ·subst q
   exact raw_upto2 hl2 h.2
  exact ownL_upto h.2 hl2 p q
theorem ownL_upto{n:Nat}:∀{cs:List OC},fitL 0 cs→(∀p∈ownL cs,p.1<n)→∀p∈ownL cs,uptoL n p.2
 | [],_,_,p,hp=>by rw [ownL] at hp;cases hp
 | c::r,h,hl,p,hp=>by
  rw [ownL] at hp hl
  rcases List.mem_append.1 hp with q | q
  ·exact own_upto h.1 (fun x hx=>hl x (List.mem_append_left _ hx)) p q
  exact ownL_upto h.2 (fun x hx=>hl x (List.mem_append_right _ hx)) p q
end
theorem objL_tr{O:List AObj}{cs:List OC}:TrO (O++objL (labL O.length cs)) O.length (labL O.length cs):=by
 have hids:=labL_ids O.length cs
 have hat:∀(i:Nat) (p:Nat×List AVal),(ownL (labL O.length cs))[i]?=some p→p.1=O.length+i:=fun i p h=>by
  have h2:((ownL (labL O.length cs)).map Prod.fst)[i]?=some p.1:=by rw [List.getElem?_map,h];rfl
  rw [hids] at h2
  have hl:=lt_of_getElem? h2
  rw [List.length_range'] at hl
  rw [List.getElem?_range' hl] at h2
  simp only [Option.some.injEq] at h2
  omega
 refine⟨fun p hp=>?_,by rw [hids];exact List.nodup_range',fun p hp=>?_⟩
 ·obtain⟨i,hi⟩:=List.mem_iff_getElem?.1 hp
  rw [hat i p hi,List.getElem?_append_right (by omega),show O.length+i - O.length=i by omega]
  unfold objL
  rw [List.getElem?_map,hi]
  rfl
 obtain⟨i,hi⟩:=List.mem_iff_getElem?.1 hp
 rw [hat i p hi]
 omega
theorem copyU_tree(u:Unt)(hne:u.fns≠[])(hfew:u.fns.length≤256)(hF:∀f∈u.fns,SmW f∧f.blocks≠[]):ECall Try.prog 13 [.gone,.gone,.gone] [u.enc]
  (fun r O1=>∃cs,r=.agg (cs.map OC.raw)∧labL 0 cs=labL 0 (untT u)∧fitL ([.gone,.gone,.gone]:List AObj).length cs∧(∀i,i<([.gone,.gone,.gone]:List AObj).length→O1[i]?=([.gone,.gone,.gone]:List AObj)[i]?)∧Owns O1 (ownL cs)∧((ownL cs).map Prod.fst).Nodup∧∀p∈ownL cs,([.gone,.gone,.gone]:List AObj).length≤p.1):=by
 obtain⟨N,hN⟩:∃N,N=u.fns.length:=⟨_,rfl⟩
 refine ecall_all hT Try.func13 rfl (by kernel_rfl) (by simp [Try.ntmps13]) ?_
 show AWP Try.prog _ _ _ ⟨25,_,_⟩
 dsimp only [Tmp,TypeId,slotsOf]
 refine zh1 (za0 ?_)
 refine awp_freeze1 1 3 (.ip none [eFuncs u.fns,aI u.main]) rfl (by simp [AObj.isSpare]) trivial rfl ?_ ?_
 rotate_left
 simp -dsimp only [simprocAttr,↓vpre,zp]
 rotate_left
 ·exact FSub.mp rfl rfl
 refine zh1 (za0 ?_)
 refine zg2 ?_
 simp -dsimp only [simprocAttr,↓vpre,zp,←hN]
 refine za0 ?_
 have hB:∀o∈[AObj.gone,AObj.gone,AObj.gone,AObj.gone,.cells [.lst 2 [] .ex,aI 0],.cells [.lst 2 [] .ex,aI u.main]],o.upto [AObj.gone,AObj.gone,AObj.gone,AObj.gone,.cells [.lst 2 [] .ex,aI 0],.cells [.lst 2 [] .ex,aI u.main]].length:=fun o ho=>by
  simp only [List.mem_cons,List.not_mem_nil,or_false] at ho
  rcases ho with rfl | rfl | rfl | rfl | rfl | rfl
  ·trivial
  ·trivial
  ·trivial
  ·trivial
  ·exact⟨⟨trivial,trivial⟩,trivial,trivial⟩
  exact⟨⟨trivial,trivial⟩,trivial,trivial⟩
 show AWP Try.prog _ _ _ ⟨_,_,[AObj.gone,AObj.gone,AObj.gone,AObj.gone,.cells [.lst 2 [] .ex,aI 0],.cells [.lst 2 [] .ex,aI u.main]]⟩
 have hBl:([AObj.gone,AObj.gone,AObj.gone,AObj.gone,.cells [.lst 2 [] .ex,aI 0],.cells [.lst 2 [] .ex,aI u.main]]).length=6:=by simp
 have hBk:∀i,i<3→([AObj.gone,AObj.gone,AObj.gone,AObj.gone,.cells [.lst 2 [] .ex,aI 0],.cells [.lst 2 [] .ex,aI u.main]])[i]?=([.gone,.gone,.gone]:List AObj)[i]?:=fun i hi=>by
  match i,hi with
  | 0,_=>rfl
  | 1,_=>rfl
  | 2,_=>rfl
 have hBr:([AObj.gone,AObj.gone,AObj.gone,AObj.gone,.cells [.lst 2 [] .ex,aI 0],.cells [.lst 2 [] .ex,aI u.main]])[4]?=some (.cells [.lst 2 [] .ex,aI 0]):=rfl
 have hBo:([AObj.gone,AObj.gone,AObj.gone,AObj.gone,.cells [.lst 2 [] .ex,aI 0],.cells [.lst 2 [] .ex,aI u.main]])[5]?=some (.cells [.lst 2 [] .ex,aI u.main]):=rfl
 generalize [AObj.gone,AObj.gone,AObj.gone,AObj.gone,.cells [.lst 2 [] .ex,aI 0],.cells [.lst 2 [] .ex,aI u.main]]=B at *
 obtain⟨Bx,hBx⟩:∃Bx,Bx=B.take 5:=⟨_,rfl⟩
 have hBxl:Bx.length=5:=by rw [hBx,List.length_take];omega
 have hBxk:∀i,i<5→Bx[i]?=B[i]?:=fun i hi=>by rw [hBx,List.getElem?_take,if_pos hi]
 have hS0:Gw Bx (fun v=>[v,aI u.main]) 2 0 0 [] [] B:=by
  refine⟨hB,by omega,fun i hi=>by rw [hBxk i (by omega)],by rw [hBxl];exact hBo,TrO.nil _ _,GrO.start _ _,fun p hp=>?_,trivial⟩
  rw [ownL_nil] at hp
  cases hp
 clear hBx
 refine awp_block (awp_loop (ι:={X:Ct // X.k≤N∧Gw Bx (fun v=>[v,aI u.main]) 2 X.id X.k [] X.cs X.O∧SimT X.cs ((u.fns.take X.k).flatMap funT)}) (fun X=>⟨25,[(1,.ip none [eFuncs u.fns,aI u.main]),(2,.mp (4) 0),(3,.mp (5) 0),(10,eFuncs u.fns),(11,aI N),(12,aI X.1.k)],X.1.O⟩) (fun X=>N - X.1.k) ⟨⟨0,0,[],B⟩,by simp,hS0,SimT.refl _⟩ ?_ ?_)
 ·refine zq rfl ?_ ?_
  simp -dsimp only [simprocAttr,↓vpre,zp,zc]
  all_goals rfl
 rintro⟨⟨k,fid,cs,O⟩,hk,hS,hsim⟩
 simp only at hk hS hsim
 have hX:=hS.len
 rw [hBxl] at hX
 refine zh1 (za0 ?_)
 apply zk1 rfl<;>intro h
 ·refine zb0 ?_
  have hlt:k<N:=by simpa using h
  obtain⟨f,hf⟩:∃f,u.fns[k]?=some f:=⟨u.fns[k]'(by omega),List.getElem?_eq_getElem _⟩
  obtain⟨hsm,hnb⟩:=hF f (List.mem_of_getElem? hf)
  have htk:u.fns.take (k+1)=u.fns.take k++[f]:=by rw [List.take_add_one,hf];rfl
  have hSu:=hS.up
  have hcp:=copyF_full f hsm hnb O hSu
  rw [funT_raw _ hnb] at hcp
  unfold Func.enc at hcp
  have hSc:=hS.cell
  rw [hBxl] at hSc
  have hcl:=hsim.size
  rw [funT_len,List.length_take,←hN,Nat.min_eq_left hk] at hcl
  refine awp_seq (awp_block ?_)
  refine zg1 ?_
  simp -dsimp only [simprocAttr,↓vpre,zp,hf]
  refine za0 ?_
  refine awp_local 5 ([aI f.name,eBlocks f.blocks]) [(1,.ip none [eFuncs u.fns,aI u.main]),(2,.mp (4) 0),(3,.mp (5) 0),(10,eFuncs u.fns),(11,aI N),(12,aI k),(5,.ip none [aI f.name,eBlocks f.blocks])] (by simp [putS,dropS,Go.Av.look]) (by rfl) (by omega) (by simp [putS,dropS,Go.Av.look]) ?_ ?_ ?_
  ·exact hSu
  ·simp [AVal.upto,uptoL,aI_upto,Func.map_upto,Block.map_upto]
   omega
  have hds:TrO (O++objL (labL O.length (funT f))) O.length (labL O.length (funT f)):=objL_tr
  have hdf:fitL 0 (labL O.length (funT f)):=labL_fit _ (funT_fit 0 f)
  have hraw:=funT_raw O.length hnb
  have hsim':SimT (cs++labL O.length (funT f)) ((u.fns.take (k+1)).flatMap funT):=by
   rw [htk,List.flatMap_append]
   refine hsim.app ?_
   show labL 0 (labL O.length (funT f))=labL 0 ([f].flatMap funT)
   rw [labL_labL]
   simp
  have hk1:∀i,i<O.length→(O++objL (labL O.length (funT f)))[i]?=O[i]?:=fun i hi=>List.getElem?_append_left hi
  have hup1:∀o∈O++objL (labL O.length (funT f)),o.upto (O++objL (labL O.length (funT f))).length:=fun o ho=>by
   rcases List.mem_append.1 ho with q | q
   ·exact AObj.upto_mono (by simp) (hSu o q)
   unfold objL at q
   obtain⟨p,hp,rfl⟩:=List.mem_map.1 q
   exact ownL_upto hdf (fun x hx=>hds.lt x hx) p hp
  generalize labL O.length (funT f)=ds at *
  have ho1:=(hk1 5 hX).trans hSc
  have hcf:∀v m,v.upto m→O.length≤m→uptoL m [v,aI u.main]:=fun v m hv _=>⟨hv,trivial,trivial⟩
  by_cases hk0:k=0
  ·subst hk0
   have hout:O[5]?=some (.cells [.lst 2 [] .ex,aI u.main]):=hSc
   have ho1:(O++objL ds)[5]?=some (.cells [.lst 2 [] .ex,aI u.main]):=ho1
   have ho1':∀X,(O++objL ds++X)[5]?=some (.cells [.lst 2 [] .ex,aI u.main]):=fun X=>at_left ho1
   have hcs0:=hS.gr.nil rfl
   refine zs0 ?_
   simp -dsimp only [simprocAttr,↓vpre,zp,hout]
   refine .inr (.inl ⟨_,_,hcp,.inr ⟨6,[],fun i hi _=>hk1 i (by omega),later_intro ?_⟩⟩)
   generalize O++objL ds=O1 at *
   simp -dsimp only [simprocAttr,↓vpre,zp,hout,ho1,ho1',cellsAll_v,cells_os']
   repeat(refine⟨by omega,?_⟩)
   refine⟨trivial,?_⟩
   refine⟨ob (by kernel_rfl),?_⟩
   refine za0 ?_
   have hput:=hS.push (O3:=O1) (O4:=O1) hcf hk1 hds hdf rfl hup1 (fun _ _=>rfl) (c:=[aI f.name,.os O.length f.blocks.length 7]) (a:=[.os O1.length 1 2,aI u.main]) (by rw [hcs0,List.nil_append,hraw]) rfl
   rw [hBxl] at hput
   show AWP Try.prog _ _ _ ⟨_,_,(O1++[AObj.cells [aI f.name,.os O.length f.blocks.length 7]]).set 5 (.cells [.os O1.length 1 2,aI u.main])⟩
   generalize (O1++[AObj.cells [aI f.name,.os O.length f.blocks.length 7]]).set 5 (.cells [.os O1.length 1 2,aI u.main])=O7 at *
   refine zh0 ?_
   repeat(refine⟨by omega,?_⟩)
   refine zl0 ?_
   refine⟨⟨⟨0+1,O1.length,_,O7⟩,hlt,hput,hsim'⟩,by simp;omega,?_⟩
   refine zq rfl ?_ ?_
   simp -dsimp only [simprocAttr,↓vpre,zp,zc]
   all_goals rfl
  obtain⟨r1,r2,r3⟩:=hS.gr.root hk0
  have hgr:growR fid 2 k=.os fid k 2:=by unfold growR;rw [if_neg hk0]
  rw [hgr] at hSc ho1
  have hfl:=lt_of_getElem? r2
  have r4:=(hk1 fid hfl).trans r2
  rw [hBxl] at r1
  have hel:(cs.map OC.raw).length=k * 2:=by rw [List.length_map,hcl]
  have hTT:(cs.map OC.raw).take (k * 2)=cs.map OC.raw:=List.take_of_length_le (by omega)
  refine zg0 ?_
  simp -dsimp only [simprocAttr,↓vpre,zp,hSc]
  refine .inr (.inl ⟨_,_,hcp,.inr ⟨6,[],fun i hi _=>hk1 i (by omega),later_intro ?_⟩⟩)
  generalize O++objL ds=O1 at *
  have ho1':∀X,(O1.set fid .gone++X)[5]?=some (.cells [.os fid k 2,aI u.main]):=fun X=>at_left (at_set_ne ho1 (by omega))
  simp -dsimp only [simprocAttr,↓vpre,zp,hSc,ho1,ho1',r4,hTT,hel,hcl,List.length_map,cellsAll_v,cells_os']
  repeat(refine⟨by omega,?_⟩)
  refine⟨trivial,?_⟩
  refine⟨ob (by kernel_rfl),?_⟩
  refine za0 ?_
  have hput:=hS.push (O3:=O1) (O4:=O1.set fid .gone) hcf hk1 hds hdf List.length_set (uptoO_set hup1 trivial) (fun k hk=>by rw [List.getElem?_set_ne (Ne.symm (hk hk0))]) (c:=cs.map OC.raw++[aI f.name,.os O.length f.blocks.length 7]) (a:=[.os O1.length (k+1) 2,aI u.main]) (by rw [List.map_append,hraw]) (by simp)
  rw [hBxl,List.length_set] at hput
  show AWP Try.prog _ _ _ ⟨_,_,(O1.set fid .gone++[AObj.cells (cs.map OC.raw++[aI f.name,.os O.length f.blocks.length 7])]).set 5 (.cells [.os O1.length (k+1) 2,aI u.main])⟩
  generalize (O1.set fid .gone++[AObj.cells (cs.map OC.raw++[aI f.name,.os O.length f.blocks.length 7])]).set 5 (.cells [.os O1.length (k+1) 2,aI u.main])=O7 at *
  refine zh0 ?_
  repeat(refine⟨by omega,?_⟩)
  refine zl0 ?_
  refine⟨⟨⟨k+1,O1.length,_,O7⟩,hlt,hput,hsim'⟩,by simp;omega,?_⟩
  refine zq rfl ?_ ?_
  simp -dsimp only [simprocAttr,↓vpre,zp,zc]
  all_goals first | rfl | exact Sub.int (by simp)
 refine awp_exit ?_
 simp -dsimp only [vend,ne_eq,Nat.reduceEqDiff,reduceCtorEq]
 have hkN:k=N:=by
  have:=of_decide_eq_false h
  omega
 subst hkN
 rw [List.take_of_length_le (by omega)] at hsim
 have hn0:k≠0:=by
  intro q
  exact hne (List.length_eq_zero_iff.1 (hN ▸ q))
 have hout:=hS.cell
 rw [hBxl] at hout
 have hgr:growR fid 2 k=.os fid k 2:=by unfold growR;rw [if_neg hn0]
 rw [hgr] at hout
 have hret:=(hS.keep 4 (by omega)).trans ((hBxk _ (by omega)).trans hBr)
 have hrl:=lt_of_getElem? hret
 have hret':(O.set 4 (.cells [.os fid k 2,aI u.main]))[4]?=some (.cells [.os fid k 2,aI u.main]):=List.getElem?_set_self hrl
 have hrow:=hS.gr.row (sz:=2)
 rw [hBxl] at hrow
 have hrr:(rwT fid 2 k cs).raw=.os fid k 2:=by unfold rwT;rw [if_neg hn0];rfl
 have hdt:TrO O 5 [rwT fid 2 k cs,.val (aI u.main)]:=by
  have e:ownL [rwT fid 2 k cs,.val (aI u.main)]=ownL [rwT fid 2 k cs]:=by simp [ownL,OC.own]
  exact⟨by rw [e];exact hrow.owns,by rw [e];exact hrow.nd,by rw [e];exact(hrow.mono (by omega)).lo⟩
 refine zg1 ?_
 simp -dsimp only [simprocAttr,↓vpre,zp,hout,hret]
 refine za0 ?_
 refine awp_ret ?_
 simp -dsimp only [simprocAttr,↓vpre,zp,RetAll,Try.results13,retVals,retVal,mkRet,seqPost_ret,blockPost_ret,loopPost_ret,hret']
 refine⟨[rwT fid 2 k cs,.val (aI u.main)],by rw [List.map_cons,List.map_cons,hrr];rfl,?_,⟨rwT_fit (by rw [hsim.size,funT_len,hN]) (fitL_mono hS.fit),⟨trivial,rfl,trivial⟩,trivial⟩,fun i hi=>?_,?_,hdt.nd,fun p hp=>?_⟩
 ·show SimT _ _
  rw [hN]
  exact SimT.cons (hsim.row _ _ _ _) (SimT.refl _)
 ·have hi:i<3:=hi
  rw [List.getElem?_set_ne (by omega),hS.keep i (by omega),hBxk i (by omega),hBk i hi]
 ·exact(hdt.same fun p hp=>List.getElem?_set_ne (by have:=hdt.lo p hp;omega)).owns
 have:=hdt.lo p hp
 show 3≤p.1
 omega
def wthM(n m:Int):Int:=if n.tmod m<0 then n.tmod m+m else n.tmod m
theorem wth_range(n:Int){m:Int}(h:0<m):(-m<n.tmod m∧n.tmod m<m)∧0≤wthM n m∧wthM n m<m:=by
 have h1:=Int.tmod_lt_of_pos n h
 have h2:-m<n.tmod m:=by
  by_cases hn:0≤n
  ·have:=Int.tmod_nonneg m hn
   omega
  have h3:=Int.tmod_lt_of_pos (-n) h
  rw [Int.neg_tmod] at h3
  omega
 unfold wthM
 refine⟨⟨h2,h1⟩,?_,?_⟩<;>split<;>omega
theorem wth_spec(n m:Int)(h:0<m)(hm2:m≤2 ^ 47):PCall Try.prog 15 [aI n,aI m] (aI (wthM n m)):=by
 have hr:=(wth_range n h).1
 have h0:(m=0)=False:=eq_false (by omega)
 obtain⟨r,hre⟩:∃r,r=n.tmod m:=⟨_,rfl⟩
 unfold wthM
 rw [←hre] at hr ⊢
 by_cases hn:r<0
 ·have hd:decide (r<0)=true:=decide_eq_true hn
  rw [if_pos hn]
  refine zf true 0 Try.func15 Try.ntmps15 ?_
  dsimp only [Tmp,TypeId,slotsOf]
  refine zh1 (za0 ?_)
  refine zg2 ?_
  simp -dsimp only [simprocAttr,↓vpre,zp,h0,if_false,←hre]
  repeat(refine⟨by omega,?_⟩)
  refine za0 ?_
  refine zg1 ?_
  simp -dsimp only [simprocAttr,↓vpre,zp,hd]
  refine za0 ?_
  refine zw0 rfl ?_
  refine zh0 ?_
  repeat(refine⟨by omega,?_⟩)
  refine za0 ?_
  refine zh1 (za0 ?_)
  refine awp_ret ?_
  simp -dsimp only [simprocAttr,↓vpre,zp,zr,Try.results15]
 have hd:decide (r<0)=false:=decide_eq_false hn
 rw [if_neg hn]
 refine zf true 0 Try.func15 Try.ntmps15 ?_
 dsimp only [Tmp,TypeId,slotsOf]
 refine zh1 (za0 ?_)
 refine zg2 ?_
 simp -dsimp only [simprocAttr,↓vpre,zp,h0,if_false,←hre]
 repeat(refine⟨by omega,?_⟩)
 refine za0 ?_
 refine zg1 ?_
 simp -dsimp only [simprocAttr,↓vpre,zp,hd]
 refine za0 ?_
 refine zu0 rfl ?_
 refine zb0 ?_
 refine zh1 (za0 ?_)
 refine awp_ret ?_
 simp -dsimp only [simprocAttr,↓vpre,zp,zr,Try.results15]
def mixS(w:Int)(l:List Int)(j:Nat):List Int:=(l.take j).map (shiftV w)++l.drop j
theorem mixS_zero(w:Int)(l:List Int):mixS w l 0=l:=by simp [mixS]
theorem mixS_all(w:Int)(l:List Int):mixS w l l.length=l.map (shiftV w):=by simp [mixS]
theorem mixS_len(w:Int)(l:List Int)(j:Nat):(mixS w l j).length=l.length:=by
 unfold mixS
 rw [List.length_append,List.length_map,List.length_take,List.length_drop]
 omega
theorem mixS_at(w:Int){l:List Int}{j:Nat}{v:Int}(h:l[j]?=some v):(mixS w l j)[j]?=some v:=by
 have hl:=lt_of_getElem? h
 unfold mixS
 rw [List.getElem?_append_right (by rw [List.length_map,List.length_take];omega),List.length_map,List.length_take,show j - min j l.length=0 by omega,List.getElem?_drop,Nat.add_zero,h]
theorem mixS_step(w:Int){l:List Int}{j:Nat}{v:Int}(h:l[j]?=some v):(mixS w l j).set j (shiftV w v)=mixS w l (j+1):=by
 have hl:=lt_of_getElem? h
 unfold mixS
 rw [drop_at h,List.set_append_right _ _ (by rw [List.length_map,List.length_take];omega),List.length_map,List.length_take,show j - min j l.length=0 by omega,List.set_cons_zero,List.take_add_one,h,List.map_append,List.append_assoc]
 rfl
theorem shift_os(O:List AObj)(id:Nat)(l:List Int)(n0 w:Int)(hw:w=wthM n0 4096)(hO:O[id]?=some (.cells (l.map aI)))(hl:l.length≤2 ^ 40)(hr:∀v∈l,0≤v∧v≤4095) :
  ECall Try.prog 14 O [.os id l.length 1,.ip none [aI n0]] fun r O1=>r=.tup []∧O1=O.set id (.cells ((l.map (shiftV w)).map aI)):=by
 have hwt:=wth_spec n0 4096 (by omega) (by omega)
 obtain⟨_,w1,w2⟩:=wth_range n0 (m:=4096) (by omega)
 rw [←hw] at hwt w1 w2
 have h0:O.set id (.cells ((mixS w l 0).map aI))=O:=by
  rw [mixS_zero]
  apply List.ext_getElem?
  intro i
  rw [List.getElem?_set]
  split
  ·rename_i e
   rw [←e,if_pos (lt_of_getElem? hO),hO]
  rfl
 have hidl:=lt_of_getElem? hO
 refine ecall_all hT Try.func14 rfl (by kernel_rfl) (by simp [Try.ntmps14]) ?_
 show AWP Try.prog _ _ _ ⟨21,_,_⟩
 dsimp only [Tmp,TypeId,slotsOf]
 refine zh1 (za0 ?_)
 refine awp_block (awp_loop (ι:={j:Nat // j≤l.length}) (fun j=>⟨21,[(0,.os id l.length 1),(1,.ip none [aI n0]),(5,aI l.length),(6,aI j.1)],O.set id (.cells ((mixS w l j.1).map aI))⟩) (fun j=>l.length - j.1) ⟨0,by omega⟩ ?_ ?_)
 ·refine zq rfl ?_ ?_
  simp -dsimp only [simprocAttr,↓vpre,zp,zc]
  all_goals exact h0.symm
 rintro⟨j,hj⟩
 refine zh1 (za0 ?_)
 apply zk1 rfl<;>intro h
 ·refine zb0 ?_
  have hlj:j<l.length:=by simpa using h
  obtain⟨v,hv⟩:∃v,l[j]?=some v:=⟨l[j],List.getElem?_eq_getElem hlj⟩
  obtain⟨v1,v2⟩:=hr v (List.mem_of_getElem? hv)
  have hat:((mixS w l j).map aI)[j]?=some (aI v):=by rw [List.getElem?_map,mixS_at w hv];rfl
  have hml:((mixS w l j).map aI).length=l.length:=by rw [List.length_map,mixS_len]
  have hst:=mixS_step w hv
  have hsr:=shiftV_range w v
  unfold shiftV at hsr
  generalize hq:(v+w).tmod 4096=q at *
  have hc:∀y,(O.set id y)[id]?=some y:=fun y=>List.getElem?_set_self hidl
  refine awp_seq (awp_block ?_)
  refine zh1 (za0 ?_)
  generalize hcs:(mixS w l j).map aI=cs at *
  refine zg0 ?_
  simp -dsimp only [simprocAttr,↓vpre,zp,hc,hat,hml,Nat.mul_one]
  repeat(refine⟨by omega,?_⟩)
  refine .inl ⟨_,hwt,by simp only [uptoL,AVal.upto,zt,zu,aI_upto],later_intro ?_⟩
  simp -dsimp only [simprocAttr,↓vpre,zp,hc,hat,hml,Nat.mul_one]
  repeat(refine⟨by omega,?_⟩)
  rw [hq]
  repeat(refine⟨by omega,?_⟩)
  refine⟨ob (by kernel_rfl),?_⟩
  refine za0 ?_
  rw [splice_one _ (by omega),←hcs]
  have hset:((mixS w l j).map aI).set j (.v (.int .i64 q))=(mixS w l (j+1)).map aI:=by
   rw [←hst,List.map_set,←hq]
   rfl
  rw [hset,List.set_set]
  refine zh0 ?_
  repeat(refine⟨by omega,?_⟩)
  refine zl0 ?_
  refine⟨⟨j+1,hlj⟩,by show l.length - (j+1)<l.length - j;omega,?_⟩
  refine zq rfl ?_ ?_
  simp -dsimp only [simprocAttr,↓vpre,zp,zc]
  ·exact Sub.int (by simp)
  rfl
 refine awp_exit ?_
 simp -dsimp only [vend,ne_eq,Nat.reduceEqDiff,reduceCtorEq]
 have hjl:j=l.length:=by
  have:=of_decide_eq_false h
  omega
 subst hjl
 rw [mixS_all]
 skip
 simp -dsimp only [simprocAttr,↓vpre,zp,RetAll,Try.results14,retVals,retVal,mkRet,seqPost_ret,blockPost_ret,loopPost_ret]
theorem shift_nil(n0:Int):PCall Try.prog 14 [.lst 1 [] .sh,.ip none [aI n0]] (.tup []):=by
 refine zf true 0 Try.func14 Try.ntmps14 ?_
 dsimp only [Tmp,TypeId,slotsOf]
 refine zh1 (za0 ?_)
 refine awp_block (awp_loop (ι:=Unit) (fun x=>⟨21,[(5,aI 0),(6,aI 0)],[]⟩) (fun x=>0) () ?_ ?_)
 ·refine zq rfl ?_ ?_
  simp -dsimp only [simprocAttr,↓vpre,zp,zc]
  all_goals rfl
 rintro⟨⟩
 refine zh1 (za0 ?_)
 refine zu1 rfl ?_
 refine awp_exit ?_
 simp -dsimp only [vend,ne_eq,Nat.reduceEqDiff,reduceCtorEq]
 skip
 simp -dsimp only [simprocAttr,↓vpre,zp,zr,Try.results14]
 trivial
end Go.Proofs.Ytkhnjeblbiocaaa
namespace Go.Proofs.Ytkhnjeblbiocaaa
open Go.Av
def Chg(id:Nat)(c1 c2:List AVal)(L L':List (Nat×List AVal)):Prop:=∃A B,L=A++(id,c1)::B∧L'=A++(id,c2)::B
theorem Chg.here(id:Nat)(c1 c2:List AVal)(B:List (Nat×List AVal)):Chg id c1 c2 ((id,c1)::B) ((id,c2)::B):=⟨[],B,rfl,rfl⟩
theorem Chg.left{id:Nat}{c1 c2:List AVal}{L L':List (Nat×List AVal)}(X:List (Nat×List AVal))(h:Chg id c1 c2 L L'):Chg id c1 c2 (X++L) (X++L'):=by
 obtain⟨A,B,rfl,rfl⟩:=h
 exact⟨X++A,B,(List.append_assoc ..).symm,(List.append_assoc ..).symm⟩
theorem Chg.right{id:Nat}{c1 c2:List AVal}{L L':List (Nat×List AVal)}(X:List (Nat×List AVal))(h:Chg id c1 c2 L L'):Chg id c1 c2 (L++X) (L'++X):=by
 obtain⟨A,B,rfl,rfl⟩:=h
 exact⟨A,B++X,by rw [List.append_assoc];rfl,by rw [List.append_assoc];rfl⟩
theorem Chg.cons{id:Nat}{c1 c2:List AVal}{L L':List (Nat×List AVal)}(x:Nat×List AVal)(h:Chg id c1 c2 L L'):Chg id c1 c2 (x::L) (x::L'):=h.left [x]
structure TrS(O0 O:List AObj)(L:List (Nat×List AVal)):Prop where
 len:O.length=O0.length
 up:∀o∈O,o.upto O.length
 owns:Owns O L
 nd:(L.map Prod.fst).Nodup
 keep:∀i,i ∉ L.map Prod.fst→O[i]?=O0[i]?
 low:∀i∈L.map Prod.fst,3≤i∧i+1<O0.length
theorem TrS.put{O0 O:List AObj}{L L':List (Nat×List AVal)}(h:TrS O0 O L){id:Nat}{c1 c2:List AVal}(c:Chg id c1 c2 L L')(hu:uptoL O.length c2):TrS O0 (O.set id (.cells c2)) L':=by
 obtain⟨A,B,rfl,rfl⟩:=c
 have hk:(A++(id,c2)::B).map Prod.fst=(A++(id,c1)::B).map Prod.fst:=by simp
 refine⟨by rw [List.length_set,h.len],fun o ho=>?_,h.owns.upd h.nd,by rw [hk];exact h.nd,fun i hi=>?_,by rw [hk];exact h.low⟩
 ·rw [List.length_set]
  rcases List.mem_or_eq_of_mem_set ho with q | q
  ·exact h.up o q
  rw [q]
  exact hu
 rw [hk] at hi
 rw [List.getElem?_set_ne (fun e=>hi (by rw [←e];simp)),h.keep i hi]
structure FI where
 b:Nat
 bs:List BI
def funE(g:FI)(f:Func):List OC:=[.val (aI f.name),rwT g.b 7 f.blocks.length (blksE g.bs f.blocks)]
def funsE:List FI→List Func→List OC
 | g::gs,f::r=>funE g f++funsE gs r
 | _,_=>[]
def untE(fid:Nat)(gs:List FI)(u:Unt):List OC:=[rwT fid 2 u.fns.length (funsE gs u.fns),.val (aI u.main)]
structure BI.Ok(d:BI)(b:Block):Prop where
 ia:d.ia.length=b.ins.length
 ta:d.ta.length=b.term.to.length
structure FI.Ok(g:FI)(f:Func):Prop where
 len:g.bs.length=f.blocks.length
 all:∀(j:Nat) (d:BI) (b:Block),g.bs[j]?=some d→f.blocks[j]?=some b→d.Ok b
theorem fun_inv{f:Func}{cs:List OC}(h:SimT cs (funT f)):∃g,cs=funE g f∧g.Ok f:=by
 unfold funT at h
 obtain⟨c1,b1,rfl,q1,k1⟩:=h.cons_inv
 obtain⟨c2,b2,rfl,q2,k1⟩:=k1.cons_inv
 have hb:b2=[]:=List.length_eq_zero_iff.1 k1.size
 obtain⟨b,bs,e2,s2⟩:=q2.row_inv
 by_cases hn:f.blocks.length=0
 ·refine⟨⟨b,[]⟩,?_,hn.symm,fun j d b h=>by simp at h⟩
  rw [q1.val_inv,e2,hb]
  unfold funE rwT
  rw [if_pos hn,if_pos hn]
 obtain⟨ds,d1,d2,d3⟩:=blks_inv (s2 hn)
 refine⟨⟨b,ds⟩,?_,d1,fun j d b h1 h2=>⟨(d3 j d b h1 h2).1,(d3 j d b h1 h2).2⟩⟩
 rw [q1.val_inv,e2,hb,d2]
 rfl
theorem funs_inv:∀{l:List Func} {cs:List OC},SimT cs (l.flatMap funT)→∃gs,gs.length=l.length∧cs=funsE gs l∧∀(j:Nat) (g:FI) (f:Func),gs[j]?=some g→l[j]?=some f→g.Ok f
 | [],cs,h=>⟨[],rfl,List.length_eq_zero_iff.1 h.size,fun j d b h=>by simp at h⟩
 | f::r,cs,h=>by
  have h:SimT cs (funT f++r.flatMap funT):=h
  obtain⟨a,c,rfl,k1,k2⟩:=h.app_inv
  obtain⟨gs,e1,e2,e3⟩:=funs_inv k2
  obtain⟨g,f1,f2⟩:=fun_inv k1
  refine⟨g::gs,by rw [List.length_cons,e1,List.length_cons],by rw [f1,e2];rfl,fun j g' f' h1 h2=>?_⟩
  cases j with
  | zero =>
   simp only [List.getElem?_cons_zero,Option.some.injEq] at h1 h2
   subst h1 h2
   exact f2
  | succ j=>exact e3 j g' f' (by simpa using h1) (by simpa using h2)
theorem unt_inv{u:Unt}(hne:u.fns≠[]){cs:List OC}(h:SimT cs (untT u)):∃fid gs,cs=untE fid gs u∧gs.length=u.fns.length∧∀(j:Nat) (g:FI) (f:Func),gs[j]?=some g→u.fns[j]?=some f→g.Ok f:=by
 unfold untT at h
 obtain⟨c1,b1,rfl,q1,k1⟩:=h.cons_inv
 obtain⟨c2,b2,rfl,q2,k1⟩:=k1.cons_inv
 have hb:b2=[]:=List.length_eq_zero_iff.1 k1.size
 obtain⟨fid,fs,e1,s1⟩:=q1.row_inv
 obtain⟨gs,d1,d2,d3⟩:=funs_inv (s1 fun q=>hne (List.length_eq_zero_iff.1 q))
 refine⟨fid,gs,?_,d1,d3⟩
 rw [e1,q2.val_inv,hb,d2]
 rfl
theorem inssE_len:∀{ns:List Nat} {l:List Ins},ns.length=l.length→(inssE ns l).length=l.length * 4
 | [],[],_=>rfl
 | a::ns,i::l,h=>by
  rw [inssE,List.length_append,inssE_len (by simpa using h),List.length_cons]
  show 4+_=_
  omega
theorem edgsE_len:∀{ns:List Nat} {l:List Edge},ns.length=l.length→(edgsE ns l).length=l.length * 2
 | [],[],_=>rfl
 | a::ns,i::l,h=>by
  rw [edgsE,List.length_append,edgsE_len (by simpa using h),List.length_cons]
  show 2+_=_
  omega
theorem blksE_len:∀{ns:List BI} {l:List Block},ns.length=l.length→(blksE ns l).length=l.length * 7
 | [],[],_=>rfl
 | a::ns,i::l,h=>by
  rw [blksE,List.length_append,blksE_len (by simpa using h),List.length_cons]
  show 7+_=_
  omega
theorem funsE_len:∀{ns:List FI} {l:List Func},ns.length=l.length→(funsE ns l).length=l.length * 2
 | [],[],_=>rfl
 | a::ns,i::l,h=>by
  rw [funsE,List.length_append,funsE_len (by simpa using h),List.length_cons]
  show 2+_=_
  omega
def mixL{α:Type}(t:α→α)(l:List α)(j:Nat):List α:=(l.take j).map t++l.drop j
theorem mixL_zero{α:Type}(t:α→α)(l:List α):mixL t l 0=l:=by simp [mixL]
theorem mixL_all{α:Type}(t:α→α)(l:List α):mixL t l l.length=l.map t:=by simp [mixL]
theorem mixL_len{α:Type}(t:α→α)(l:List α)(j:Nat):(mixL t l j).length=l.length:=by
 unfold mixL
 rw [List.length_append,List.length_map,List.length_take,List.length_drop]
 omega
theorem mixL_at{α:Type}(t:α→α){l:List α}{j:Nat}{v:α}(h:l[j]?=some v):(mixL t l j)[j]?=some v:=by
 have hl:=lt_of_getElem? h
 unfold mixL
 rw [List.getElem?_append_right (by rw [List.length_map,List.length_take];omega),List.length_map,List.length_take,show j - min j l.length=0 by omega,List.getElem?_drop,Nat.add_zero,h]
theorem mixL_step{α:Type}(t:α→α){l:List α}{j:Nat}{v:α}(h:l[j]?=some v):(mixL t l j).set j (t v)=mixL t l (j+1):=by
 have hl:=lt_of_getElem? h
 unfold mixL
 rw [drop_at h,List.set_append_right _ _ (by rw [List.length_map,List.length_take];omega),List.length_map,List.length_take,show j - min j l.length=0 by omega,List.set_cons_zero,List.take_add_one,h,List.map_append,List.append_assoc]
 rfl
theorem setAt_same{α:Type}{l:List α}{j:Nat}{v:α}(h:l[j]?=some v):l.set j v=l:=by
 apply List.ext_getElem?
 intro i
 rw [List.getElem?_set]
 split
 ·rename_i e
  rw [←e,if_pos (lt_of_getElem? h),h]
 rfl
theorem rwI_own(id:Nat){l:List Int}(h:l≠[]):(rwI id l).own=[(id,l.map aI)]:=by
 have hn:l.length≠0:=fun q=>h (List.length_eq_zero_iff.1 q)
 have e:∀m:List Int,ownL (m.map fun x=>OC.val (aI x))=[]:=fun m=>by
  induction m with
  | nil=>rw [List.map_nil,ownL]
  | cons a r ih=>rw [List.map_cons,ownL,OC.own,ih];rfl
 unfold rwI
 rw [rwT_own _ _ _ _ hn,e,List.map_map]
 rfl
theorem rwT_raw(id sz n:Nat)(cs ds:List OC):(rwT id sz n cs).raw=(rwT id sz n ds).raw:=by
 unfold rwT
 split<;>rfl
theorem rwI_raw(id:Nat){l m:List Int}(h:m.length=l.length):(rwI id m).raw=(rwI id l).raw:=by
 unfold rwI
 rw [h]
 exact rwT_raw _ _ _ _ _
theorem rwI_chg(id:Nat){l m:List Int}(h:l≠[])(hl:m.length=l.length):Chg id (l.map aI) (m.map aI) (rwI id l).own (rwI id m).own:=by
 have hm:m≠[]:=fun q=>h (List.length_eq_zero_iff.1 (by rw [←hl,q];rfl))
 rw [rwI_own id h,rwI_own id hm]
 exact Chg.here _ _ _ _
theorem ownL_one(c:OC):ownL [c]=c.own:=by rw [ownL,ownL_nil,List.append_nil]
theorem insE_own(a:Nat)(i:Ins):ownL (insE a i)=(rwI a i.args).own:=by
 unfold insE
 rw [ownL,ownL,ownL,ownL_one]
 rfl
theorem edgE_own(a:Nat)(i:Edge):ownL (edgE a i)=(rwI a i.args).own:=by
 unfold edgE
 rw [ownL,ownL_one]
 rfl
theorem inss_chg{id:Nat}{c1 c2:List AVal}:∀{ns:List Nat} {l:List Ins} {i a:Nat} {x y:Ins},ns[i]?=some a→l[i]?=some x→Chg id c1 c2 (rwI a x.args).own (rwI a y.args).own→Chg id c1 c2 (ownL (inssE ns l)) (ownL (inssE ns (l.set i y)))
 | [],_,_,_,_,_,h,_,_=>by simp at h
 | _::_,[],_,_,_,_,_,h,_=>by simp at h
 | n::ns,z::l,0,a,x,y,h1,h2,h3=>by
  simp only [List.getElem?_cons_zero,Option.some.injEq] at h1 h2
  subst h1 h2
  rw [List.set_cons_zero,inssE,inssE,ownL_app,ownL_app,insE_own,insE_own]
  exact h3.right _
 | n::ns,z::l,i+1,a,x,y,h1,h2,h3=>by
  rw [List.set_cons_succ,inssE,inssE,ownL_app,ownL_app]
  exact(inss_chg (by simpa using h1) (by simpa using h2) h3).left _
theorem inss_same:∀{ns:List Nat} {l:List Ins} {i:Nat} {x y:Ins},l[i]?=some x→y.args=x.args→ownL (inssE ns (l.set i y))=ownL (inssE ns l)
 | [],_,_,_,_,_,_=>by rw [inssE.eq_def,inssE.eq_def]
 | _::_,[],_,_,_,h,_=>by simp at h
 | n::ns,z::l,0,x,y,h2,h3=>by
  simp only [List.getElem?_cons_zero,Option.some.injEq] at h2
  subst h2
  rw [List.set_cons_zero,inssE,inssE,ownL_app,ownL_app,insE_own,insE_own,h3]
 | n::ns,z::l,i+1,x,y,h2,h3=>by
  rw [List.set_cons_succ,inssE,inssE,ownL_app,ownL_app,inss_same (by simpa using h2) h3]
theorem inss_raw:∀{ns:List Nat} {l:List Ins} {i a:Nat} {x y:Ins},ns[i]?=some a→l[i]?=some x→y.op=x.op→y.n=x.n→y.args.length=x.args.length→(inssE ns (l.set i y)).map OC.raw=((inssE ns l).map OC.raw).set (i * 4) (aI y.to)
 | [],_,_,_,_,_,h,_,_,_,_=>by simp at h
 | _::_,[],_,_,_,_,_,h,_,_,_=>by simp at h
 | n::ns,z::l,0,a,x,y,h1,h2,e1,e2,e3=>by
  simp only [List.getElem?_cons_zero,Option.some.injEq] at h1 h2
  subst h1 h2
  rw [List.set_cons_zero,inssE,inssE,List.map_append,List.map_append]
  unfold insE
  rw [e1,e2]
  simp only [List.map_cons,List.map_nil,List.cons_append,List.nil_append,Nat.zero_mul,List.set_cons_zero,rwI_raw n e3]
  rfl
 | n::ns,z::l,i+1,a,x,y,h1,h2,e1,e2,e3=>by
  rw [List.set_cons_succ,inssE,inssE,List.map_append,List.map_append,inss_raw (by simpa using h1) (by simpa using h2) e1 e2 e3,List.set_append_right _ _ (by show 4≤_;omega)]
  congr 1
  show _=List.set _ ((i+1) * 4 - 4) _
  congr 1
  omega
theorem inss_at:∀{ns:List Nat} {l:List Ins} {i a:Nat} {x:Ins},ns[i]?=some a→l[i]?=some x→(((inssE ns l).map OC.raw).drop (i * 4)).take 4=[aI x.to,aI x.op,aI x.n,(rwI a x.args).raw]
 | [],_,_,_,_,h,_=>by simp at h
 | _::_,[],_,_,_,_,h=>by simp at h
 | n::ns,z::l,0,a,x,h1,h2=>by
  simp only [List.getElem?_cons_zero,Option.some.injEq] at h1 h2
  subst h1 h2
  rw [inssE,List.map_append]
  rfl
 | n::ns,z::l,i+1,a,x,h1,h2=>by
  rw [inssE,List.map_append,show(i+1) * 4=((insE n z).map OC.raw).length+i * 4 by show _=4+i * 4;omega,List.drop_length_add_append]
  exact inss_at (ns:=ns) (l:=l) (by simpa using h1) (by simpa using h2)
theorem inss_mem{p:Nat×List AVal}:∀{ns:List Nat} {l:List Ins} {i a:Nat} {x:Ins},ns[i]?=some a→l[i]?=some x→p∈(rwI a x.args).own→p∈ownL (inssE ns l)
 | [],_,_,_,_,h,_,_=>by simp at h
 | _::_,[],_,_,_,_,h,_=>by simp at h
 | n::ns,z::l,0,a,x,h1,h2,h3=>by
  simp only [List.getElem?_cons_zero,Option.some.injEq] at h1 h2
  subst h1 h2
  rw [inssE,ownL_app,insE_own]
  exact List.mem_append_left _ h3
 | n::ns,z::l,i+1,a,x,h1,h2,h3=>by
  rw [inssE,ownL_app]
  exact List.mem_append_right _ (inss_mem (by simpa using h1) (by simpa using h2) h3)
theorem edgs_chg{id:Nat}{c1 c2:List AVal}:∀{ns:List Nat} {l:List Edge} {i a:Nat} {x y:Edge},ns[i]?=some a→l[i]?=some x→Chg id c1 c2 (rwI a x.args).own (rwI a y.args).own→Chg id c1 c2 (ownL (edgsE ns l)) (ownL (edgsE ns (l.set i y)))
 | [],_,_,_,_,_,h,_,_=>by simp at h
 | _::_,[],_,_,_,_,_,h,_=>by simp at h
 | n::ns,z::l,0,a,x,y,h1,h2,h3=>by
  simp only [List.getElem?_cons_zero,Option.some.injEq] at h1 h2
  subst h1 h2
  rw [List.set_cons_zero,edgsE,edgsE,ownL_app,ownL_app,edgE_own,edgE_own]
  exact h3.right _
 | n::ns,z::l,i+1,a,x,y,h1,h2,h3=>by
  rw [List.set_cons_succ,edgsE,edgsE,ownL_app,ownL_app]
  exact(edgs_chg (by simpa using h1) (by simpa using h2) h3).left _
theorem edgs_raw:∀{ns:List Nat} {l:List Edge} {i a:Nat} {x y:Edge},ns[i]?=some a→l[i]?=some x→y.block=x.block→y.args.length=x.args.length→(edgsE ns (l.set i y)).map OC.raw=(edgsE ns l).map OC.raw
 | [],_,_,_,_,_,h,_,_,_=>by simp at h
 | _::_,[],_,_,_,_,_,h,_,_=>by simp at h
 | n::ns,z::l,0,a,x,y,h1,h2,e1,e3=>by
  simp only [List.getElem?_cons_zero,Option.some.injEq] at h1 h2
  subst h1 h2
  rw [List.set_cons_zero,edgsE,edgsE,List.map_append,List.map_append]
  unfold edgE
  rw [e1]
  simp only [List.map_cons,List.map_nil,rwI_raw n e3]
 | n::ns,z::l,i+1,a,x,y,h1,h2,e1,e3=>by
  rw [List.set_cons_succ,edgsE,edgsE,List.map_append,List.map_append,edgs_raw (by simpa using h1) (by simpa using h2) e1 e3]
theorem edgs_at:∀{ns:List Nat} {l:List Edge} {i a:Nat} {x:Edge},ns[i]?=some a→l[i]?=some x→(((edgsE ns l).map OC.raw).drop (i * 2)).take 2=[aI x.block,(rwI a x.args).raw]
 | [],_,_,_,_,h,_=>by simp at h
 | _::_,[],_,_,_,_,h=>by simp at h
 | n::ns,z::l,0,a,x,h1,h2=>by
  simp only [List.getElem?_cons_zero,Option.some.injEq] at h1 h2
  subst h1 h2
  rw [edgsE,List.map_append]
  rfl
 | n::ns,z::l,i+1,a,x,h1,h2=>by
  rw [edgsE,List.map_append,show(i+1) * 2=((edgE n z).map OC.raw).length+i * 2 by show _=2+i * 2;omega,List.drop_length_add_append]
  exact edgs_at (ns:=ns) (l:=l) (by simpa using h1) (by simpa using h2)
theorem edgs_mem{p:Nat×List AVal}:∀{ns:List Nat} {l:List Edge} {i a:Nat} {x:Edge},ns[i]?=some a→l[i]?=some x→p∈(rwI a x.args).own→p∈ownL (edgsE ns l)
 | [],_,_,_,_,h,_,_=>by simp at h
 | _::_,[],_,_,_,_,h,_=>by simp at h
 | n::ns,z::l,0,a,x,h1,h2,h3=>by
  simp only [List.getElem?_cons_zero,Option.some.injEq] at h1 h2
  subst h1 h2
  rw [edgsE,ownL_app,edgE_own]
  exact List.mem_append_left _ h3
 | n::ns,z::l,i+1,a,x,h1,h2,h3=>by
  rw [edgsE,ownL_app]
  exact List.mem_append_right _ (edgs_mem (by simpa using h1) (by simpa using h2) h3)
theorem blkE_own(d:BI)(b:Block):ownL (blkE d b)=(rwI d.p b.params).own++((rwT d.i 4 b.ins.length (inssE d.ia b.ins)).own++(rwT d.t 2 b.term.to.length (edgsE d.ta b.term.to)).own):=by
 unfold blkE
 rw [ownL,ownL,ownL,ownL,ownL,ownL,ownL_one]
 rfl
def blkC(d:BI)(b:Block):List AVal:=[(rwI d.p b.params).raw,(rwT d.i 4 b.ins.length []).raw,aI b.term.kind,aI b.term.arg,aI b.term.n,eIs b.term.cases,(rwT d.t 2 b.term.to.length []).raw]
theorem blkE_raw(d:BI)(b:Block):(blkE d b).map OC.raw=blkC d b:=by
 unfold blkE blkC
 simp only [List.map_cons,List.map_nil]
 rw [rwT_raw d.i 4 _ _ [],rwT_raw d.t 2 _ _ []]
 rfl
theorem blks_chg{id:Nat}{c1 c2:List AVal}:∀{ds:List BI} {l:List Block} {j:Nat} {d:BI} {b c:Block},ds[j]?=some d→l[j]?=some b→Chg id c1 c2 (ownL (blkE d b)) (ownL (blkE d c))→Chg id c1 c2 (ownL (blksE ds l)) (ownL (blksE ds (l.set j c)))
 | [],_,_,_,_,_,h,_,_=>by simp at h
 | _::_,[],_,_,_,_,_,h,_=>by simp at h
 | n::ns,z::l,0,a,x,y,h1,h2,h3=>by
  simp only [List.getElem?_cons_zero,Option.some.injEq] at h1 h2
  subst h1 h2
  rw [List.set_cons_zero,blksE,blksE,ownL_app,ownL_app]
  exact h3.right _
 | n::ns,z::l,i+1,a,x,y,h1,h2,h3=>by
  rw [List.set_cons_succ,blksE,blksE,ownL_app,ownL_app]
  exact(blks_chg (by simpa using h1) (by simpa using h2) h3).left _
theorem blks_same:∀{ds:List BI} {l:List Block} {j:Nat} {d:BI} {b c:Block},ds[j]?=some d→l[j]?=some b→ownL (blkE d c)=ownL (blkE d b)→ownL (blksE ds (l.set j c))=ownL (blksE ds l)
 | [],_,_,_,_,_,h,_,_=>by simp at h
 | _::_,[],_,_,_,_,_,h,_=>by simp at h
 | n::ns,z::l,0,a,x,y,h1,h2,h3=>by
  simp only [List.getElem?_cons_zero,Option.some.injEq] at h1 h2
  subst h1 h2
  rw [List.set_cons_zero,blksE,blksE,ownL_app,ownL_app,h3]
 | n::ns,z::l,i+1,a,x,y,h1,h2,h3=>by
  rw [List.set_cons_succ,blksE,blksE,ownL_app,ownL_app,blks_same (by simpa using h1) (by simpa using h2) h3]
theorem blks_raw:∀{ds:List BI} {l:List Block} {j:Nat} {d:BI} {b c:Block} {a:AVal},ds[j]?=some d→l[j]?=some b→blkC d c=(blkC d b).set 3 a→(blksE ds (l.set j c)).map OC.raw=((blksE ds l).map OC.raw).set (j * 7+3) a
 | [],_,_,_,_,_,_,h,_,_=>by simp at h
 | _::_,[],_,_,_,_,_,_,h,_=>by simp at h
 | n::ns,z::l,0,d,x,y,a,h1,h2,h3=>by
  simp only [List.getElem?_cons_zero,Option.some.injEq] at h1 h2
  subst h1 h2
  rw [List.set_cons_zero,blksE,blksE,List.map_append,List.map_append,blkE_raw,blkE_raw,h3,List.set_append_left _ _ (by show 0 * 7+3<7;omega),Nat.zero_mul,Nat.zero_add]
 | n::ns,z::l,i+1,d,x,y,a,h1,h2,h3=>by
  rw [List.set_cons_succ,blksE,blksE,List.map_append,List.map_append,blks_raw (by simpa using h1) (by simpa using h2) h3,List.set_append_right _ _ (by show 7≤_;omega)]
  congr 1
  show _=List.set _ ((i+1) * 7+3 - 7) _
  congr 1
  omega
theorem blks_raw_same{ds:List BI}{l:List Block}{j:Nat}{d:BI}{b c:Block}(h1:ds[j]?=some d)(h2:l[j]?=some b)(h3:blkC d c=blkC d b):(blksE ds (l.set j c)).map OC.raw=(blksE ds l).map OC.raw:=by
 induction ds generalizing l j with
 | nil=>simp at h1
 | cons n ns ih =>
  cases l with
  | nil=>simp at h2
  | cons z l =>
   cases j with
   | zero =>
    simp only [List.getElem?_cons_zero,Option.some.injEq] at h1 h2
    subst h1 h2
    rw [List.set_cons_zero,blksE,blksE,List.map_append,List.map_append,blkE_raw,blkE_raw,h3]
   | succ j=>rw [List.set_cons_succ,blksE,blksE,List.map_append,List.map_append,ih (by simpa using h1) (by simpa using h2)]
theorem blks_at:∀{ds:List BI} {l:List Block} {j:Nat} {d:BI} {b:Block},ds[j]?=some d→l[j]?=some b→(((blksE ds l).map OC.raw).drop (j * 7)).take 7=blkC d b
 | [],_,_,_,_,h,_=>by simp at h
 | _::_,[],_,_,_,_,h=>by simp at h
 | n::ns,z::l,0,a,x,h1,h2=>by
  simp only [List.getElem?_cons_zero,Option.some.injEq] at h1 h2
  subst h1 h2
  rw [blksE,List.map_append,blkE_raw]
  rfl
 | n::ns,z::l,i+1,a,x,h1,h2=>by
  rw [blksE,List.map_append,show(i+1) * 7=((blkE n z).map OC.raw).length+i * 7 by show _=7+i * 7;omega,List.drop_length_add_append]
  exact blks_at (ds:=ns) (l:=l) (by simpa using h1) (by simpa using h2)
theorem blks_mem{p:Nat×List AVal}:∀{ds:List BI} {l:List Block} {j:Nat} {d:BI} {b:Block},ds[j]?=some d→l[j]?=some b→p∈ownL (blkE d b)→p∈ownL (blksE ds l)
 | [],_,_,_,_,h,_,_=>by simp at h
 | _::_,[],_,_,_,_,h,_=>by simp at h
 | n::ns,z::l,0,a,x,h1,h2,h3=>by
  simp only [List.getElem?_cons_zero,Option.some.injEq] at h1 h2
  subst h1 h2
  rw [blksE,ownL_app]
  exact List.mem_append_left _ h3
 | n::ns,z::l,i+1,a,x,h1,h2,h3=>by
  rw [blksE,ownL_app]
  exact List.mem_append_right _ (blks_mem (by simpa using h1) (by simpa using h2) h3)
theorem funE_own(g:FI)(f:Func)(h:f.blocks≠[]):ownL (funE g f)=(g.b,(blksE g.bs f.blocks).map OC.raw)::ownL (blksE g.bs f.blocks):=by
 unfold funE
 rw [ownL,ownL_one,rwT_own _ _ _ _ (fun q=>h (List.length_eq_zero_iff.1 q))]
 rfl
theorem funE_raw(g:FI){f:Func}(h:f.blocks≠[]):(funE g f).map OC.raw=[aI f.name,.os g.b f.blocks.length 7]:=by
 unfold funE rwT
 rw [if_neg (fun q=>h (List.length_eq_zero_iff.1 q))]
 rfl
theorem funs_chg{id:Nat}{c1 c2:List AVal}:∀{gs:List FI} {l:List Func} {k:Nat} {g:FI} {f f':Func},gs[k]?=some g→l[k]?=some f→Chg id c1 c2 (ownL (funE g f)) (ownL (funE g f'))→Chg id c1 c2 (ownL (funsE gs l)) (ownL (funsE gs (l.set k f')))
 | [],_,_,_,_,_,h,_,_=>by simp at h
 | _::_,[],_,_,_,_,_,h,_=>by simp at h
 | n::ns,z::l,0,a,x,y,h1,h2,h3=>by
  simp only [List.getElem?_cons_zero,Option.some.injEq] at h1 h2
  subst h1 h2
  rw [List.set_cons_zero,funsE,funsE,ownL_app,ownL_app]
  exact h3.right _
 | n::ns,z::l,i+1,a,x,y,h1,h2,h3=>by
  rw [List.set_cons_succ,funsE,funsE,ownL_app,ownL_app]
  exact(funs_chg (by simpa using h1) (by simpa using h2) h3).left _
theorem funs_raw_same{gs:List FI}{l:List Func}{k:Nat}{g:FI}{f f':Func}(h1:gs[k]?=some g)(h2:l[k]?=some f)(h3:(funE g f').map OC.raw=(funE g f).map OC.raw):(funsE gs (l.set k f')).map OC.raw=(funsE gs l).map OC.raw:=by
 induction gs generalizing l k with
 | nil=>simp at h1
 | cons n ns ih =>
  cases l with
  | nil=>simp at h2
  | cons z l =>
   cases k with
   | zero =>
    simp only [List.getElem?_cons_zero,Option.some.injEq] at h1 h2
    subst h1 h2
    rw [List.set_cons_zero,funsE,funsE,List.map_append,List.map_append,h3]
   | succ j=>rw [List.set_cons_succ,funsE,funsE,List.map_append,List.map_append,ih (by simpa using h1) (by simpa using h2)]
theorem funs_at:∀{gs:List FI} {l:List Func} {k:Nat} {g:FI} {f:Func},gs[k]?=some g→l[k]?=some f→f.blocks≠[]→(((funsE gs l).map OC.raw).drop (k * 2)).take 2=[aI f.name,.os g.b f.blocks.length 7]
 | [],_,_,_,_,h,_,_=>by simp at h
 | _::_,[],_,_,_,_,h,_=>by simp at h
 | n::ns,z::l,0,a,x,h1,h2,h3=>by
  simp only [List.getElem?_cons_zero,Option.some.injEq] at h1 h2
  subst h1 h2
  rw [funsE,List.map_append,funE_raw _ h3]
  rfl
 | n::ns,z::l,i+1,a,x,h1,h2,h3=>by
  rw [funsE,List.map_append,show(i+1) * 2=((funE n z).map OC.raw).length+i * 2 by show _=2+i * 2;omega,List.drop_length_add_append]
  exact funs_at (gs:=ns) (l:=l) (by simpa using h1) (by simpa using h2) h3
theorem funs_mem{p:Nat×List AVal}:∀{gs:List FI} {l:List Func} {k:Nat} {g:FI} {f:Func},gs[k]?=some g→l[k]?=some f→p∈ownL (funE g f)→p∈ownL (funsE gs l)
 | [],_,_,_,_,h,_,_=>by simp at h
 | _::_,[],_,_,_,_,h,_=>by simp at h
 | n::ns,z::l,0,a,x,h1,h2,h3=>by
  simp only [List.getElem?_cons_zero,Option.some.injEq] at h1 h2
  subst h1 h2
  rw [funsE,ownL_app]
  exact List.mem_append_left _ h3
 | n::ns,z::l,i+1,a,x,h1,h2,h3=>by
  rw [funsE,ownL_app]
  exact List.mem_append_right _ (funs_mem (by simpa using h1) (by simpa using h2) h3)
theorem untE_own(fid:Nat)(gs:List FI){u:Unt}(h:u.fns≠[]):ownL (untE fid gs u)=(fid,(funsE gs u.fns).map OC.raw)::ownL (funsE gs u.fns):=by
 unfold untE
 rw [ownL,ownL_one,rwT_own _ _ _ _ (fun q=>h (List.length_eq_zero_iff.1 q))]
 simp only [OC.own,List.append_nil]
def stF(t:Block→Block)(f:Func)(j:Nat)(b:Block):Func:=⟨f.name,(mixL t f.blocks j).set j b⟩
def stU(t:Func→Func)(u:Unt)(k:Nat)(f:Func):Unt:=⟨(mixL t u.fns k).set k f,u.main⟩
section
variable {tb:Block→Block} {tf:Func→Func} {u:Unt} {k j:Nat} {f:Func} {b:Block} {g:FI} {d:BI} {gs:List FI} {fid:Nat}
theorem stF_ne(hb:f.blocks[j]?=some b)(b1:Block):(stF tb f j b1).blocks≠[]:=fun q=>by
 have h:=congrArg List.length q
 unfold stF at h
 rw [List.length_set,mixL_len] at h
 have:=lt_of_getElem? hb
 rw [h] at this
 cases this
theorem stF_at(hb:f.blocks[j]?=some b)(b1:Block):(stF tb f j b1).blocks[j]?=some b1:=by
 show((mixL tb f.blocks j).set j b1)[j]?=_
 rw [List.getElem?_set_self (by rw [mixL_len];exact lt_of_getElem? hb)]
theorem stF_set(b1 b2:Block):(stF tb f j b1).blocks.set j b2=(stF tb f j b2).blocks:=by
 show((mixL tb f.blocks j).set j b1).set j b2=_
 rw [List.set_set]
 rfl
theorem stF_len(b1:Block):(stF tb f j b1).blocks.length=f.blocks.length:=by
 show((mixL tb f.blocks j).set j b1).length=_
 rw [List.length_set,mixL_len]
theorem stU_at(hf:u.fns[k]?=some f)(f1:Func):(stU tf u k f1).fns[k]?=some f1:=by
 show((mixL tf u.fns k).set k f1)[k]?=_
 rw [List.getElem?_set_self (by rw [mixL_len];exact lt_of_getElem? hf)]
theorem stU_set(f1 f2:Func):(stU tf u k f1).fns.set k f2=(stU tf u k f2).fns:=by
 show((mixL tf u.fns k).set k f1).set k f2=_
 rw [List.set_set]
 rfl
theorem stU_ne(hf:u.fns[k]?=some f)(f1:Func):(stU tf u k f1).fns≠[]:=fun q=>by
 have h:=congrArg List.length q
 unfold stU at h
 rw [List.length_set,mixL_len] at h
 have:=lt_of_getElem? hf
 rw [h] at this
 cases this
theorem st_chg(hg:gs[k]?=some g)(hf:u.fns[k]?=some f)(hd:g.bs[j]?=some d)(hb:f.blocks[j]?=some b){b1 b2:Block}{id:Nat}{c1 c2:List AVal}(hc:Chg id c1 c2 (ownL (blkE d b1)) (ownL (blkE d b2)))(he:blkC d b2=blkC d b1) :
  Chg id c1 c2 (ownL (untE fid gs (stU tf u k (stF tb f j b1)))) (ownL (untE fid gs (stU tf u k (stF tb f j b2)))):=by
 have e1:=stU_set (tf:=tf) (u:=u) (k:=k) (stF tb f j b1) (stF tb f j b2)
 have e2:=stF_set (tb:=tb) (f:=f) (j:=j) b1 b2
 have hfun:Chg id c1 c2 (ownL (funE g (stF tb f j b1))) (ownL (funE g (stF tb f j b2))):=by
  rw [funE_own g _ (stF_ne hb b1),funE_own g _ (stF_ne hb b2),←e2,blks_raw_same hd (stF_at hb b1) he]
  exact(blks_chg hd (stF_at hb b1) hc).cons _
 have hraw:(funE g (stF tb f j b2)).map OC.raw=(funE g (stF tb f j b1)).map OC.raw:=by
  rw [funE_raw g (stF_ne hb b1),funE_raw g (stF_ne hb b2),stF_len,stF_len]
  rfl
 rw [untE_own fid gs (stU_ne hf _),untE_own fid gs (stU_ne hf _),←e1,funs_raw_same hg (stU_at hf _) hraw]
 exact(funs_chg hg (stU_at hf _) hfun).cons _
theorem st_arg(hg:gs[k]?=some g)(hf:u.fns[k]?=some f)(hd:g.bs[j]?=some d)(hb:f.blocks[j]?=some b){b1 b2:Block}{a:AVal}(ho:ownL (blkE d b2)=ownL (blkE d b1))(he:blkC d b2=(blkC d b1).set 3 a) :
  Chg g.b ((blksE g.bs (stF tb f j b1).blocks).map OC.raw) (((blksE g.bs (stF tb f j b1).blocks).map OC.raw).set (j * 7+3) a) (ownL (untE fid gs (stU tf u k (stF tb f j b1)))) (ownL (untE fid gs (stU tf u k (stF tb f j b2)))):=by
 have e1:=stU_set (tf:=tf) (u:=u) (k:=k) (stF tb f j b1) (stF tb f j b2)
 have e2:=stF_set (tb:=tb) (f:=f) (j:=j) b1 b2
 have hfun:Chg g.b ((blksE g.bs (stF tb f j b1).blocks).map OC.raw) (((blksE g.bs (stF tb f j b1).blocks).map OC.raw).set (j * 7+3) a) (ownL (funE g (stF tb f j b1))) (ownL (funE g (stF tb f j b2))):=by
  rw [funE_own g _ (stF_ne hb b1),funE_own g _ (stF_ne hb b2),←e2,blks_raw hd (stF_at hb b1) he,blks_same hd (stF_at hb b1) ho]
  exact Chg.here _ _ _ _
 have hraw:(funE g (stF tb f j b2)).map OC.raw=(funE g (stF tb f j b1)).map OC.raw:=by
  rw [funE_raw g (stF_ne hb b1),funE_raw g (stF_ne hb b2),stF_len,stF_len]
  rfl
 rw [untE_own fid gs (stU_ne hf _),untE_own fid gs (stU_ne hf _),←e1,funs_raw_same hg (stU_at hf _) hraw]
 exact(funs_chg hg (stU_at hf _) hfun).cons _
theorem TrS.blk{O0 O:List AObj}{b1:Block}(h:TrS O0 O (ownL (untE fid gs (stU tf u k (stF tb f j b1)))))(hg:gs[k]?=some g)(hf:u.fns[k]?=some f)(hd:g.bs[j]?=some d)(hb:f.blocks[j]?=some b)(hl:g.bs.length=f.blocks.length) :
  O[g.b]?=some (.cells ((blksE g.bs (stF tb f j b1).blocks).map OC.raw))∧(((blksE g.bs (stF tb f j b1).blocks).map OC.raw).drop (j * 7)).take 7=blkC d b1∧((blksE g.bs (stF tb f j b1).blocks).map OC.raw).length=f.blocks.length * 7:=by
 refine⟨?_,blks_at hd (stF_at hb b1),?_⟩
 ·refine h.owns (g.b,_) ?_
  rw [untE_own fid gs (stU_ne hf _)]
  refine List.mem_cons_of_mem _ (funs_mem hg (stU_at hf _) ?_)
  rw [funE_own g _ (stF_ne hb b1)]
  exact List.mem_cons_self
 rw [List.length_map,blksE_len (by rw [stF_len,hl]),stF_len]
theorem TrS.row{O0 O:List AObj}{b1:Block}(h:TrS O0 O (ownL (untE fid gs (stU tf u k (stF tb f j b1)))))(hg:gs[k]?=some g)(hf:u.fns[k]?=some f)(hd:g.bs[j]?=some d)(hb:f.blocks[j]?=some b){p:Nat×List AVal}(hp:p∈ownL (blkE d b1)):O[p.1]?=some (.cells p.2):=by
 refine h.owns p ?_
 rw [untE_own fid gs (stU_ne hf _)]
 refine List.mem_cons_of_mem _ (funs_mem hg (stU_at hf _) ?_)
 rw [funE_own g _ (stF_ne hb b1)]
 exact List.mem_cons_of_mem _ (blks_mem hd (stF_at hb b1) hp)
theorem TrS.fun{O0 O:List AObj}{f1:Func}(h:TrS O0 O (ownL (untE fid gs (stU tf u k f1))))(hg:gs[k]?=some g)(hf:u.fns[k]?=some f)(hne:f1.blocks≠[])(hl:gs.length=u.fns.length) :
  O[fid]?=some (.cells ((funsE gs (stU tf u k f1).fns).map OC.raw))∧(((funsE gs (stU tf u k f1).fns).map OC.raw).drop (k * 2)).take 2=[aI f1.name,.os g.b f1.blocks.length 7]∧((funsE gs (stU tf u k f1).fns).map OC.raw).length=u.fns.length * 2:=by
 refine⟨?_,funs_at hg (stU_at hf _) hne,?_⟩
 ·refine h.owns (fid,_) ?_
  rw [untE_own fid gs (stU_ne hf _)]
  exact List.mem_cons_self
 have:(stU tf u k f1).fns.length=u.fns.length:=by
  show((mixL tf u.fns k).set k f1).length=_
  rw [List.length_set,mixL_len]
 rw [List.length_map,funsE_len (by rw [this,hl]),this]
end
section
variable {d:BI} {b:Block}
theorem par_chg(h:b.params≠[]){m:List Int}(hl:m.length=b.params.length):Chg d.p (b.params.map aI) (m.map aI) (ownL (blkE d b)) (ownL (blkE d ⟨m,b.ins,b.term⟩))∧blkC d ⟨m,b.ins,b.term⟩=blkC d b:=by
 refine⟨?_,?_⟩
 ·rw [blkE_own,blkE_own]
  exact(rwI_chg d.p h hl).right _
 unfold blkC
 simp only
 rw [rwI_raw d.p hl]
theorem par_mem(h:b.params≠[]):(d.p,b.params.map aI)∈ownL (blkE d b):=by
 rw [blkE_own,rwI_own d.p h]
 exact List.mem_append_left _ (List.mem_singleton.2 rfl)
theorem ins_mem(h:b.ins≠[]):(d.i,(inssE d.ia b.ins).map OC.raw)∈ownL (blkE d b):=by
 rw [blkE_own,rwT_own d.i 4 _ _ (fun q=>h (List.length_eq_zero_iff.1 q))]
 exact List.mem_append_right _ (List.mem_append_left _ List.mem_cons_self)
theorem iarg_mem{i a:Nat}{x:Ins}(ha:d.ia[i]?=some a)(hx:b.ins[i]?=some x)(hne:x.args≠[]):(a,x.args.map aI)∈ownL (blkE d b):=by
 have h:b.ins.length≠0:=by have:=lt_of_getElem? hx;omega
 rw [blkE_own,rwT_own d.i 4 _ _ h]
 refine List.mem_append_right _ (List.mem_append_left _ (List.mem_cons_of_mem _ (inss_mem ha hx ?_)))
 rw [rwI_own a hne]
 exact List.mem_singleton.2 rfl
theorem to_mem(h:b.term.to≠[]):(d.t,(edgsE d.ta b.term.to).map OC.raw)∈ownL (blkE d b):=by
 rw [blkE_own,rwT_own d.t 2 _ _ (fun q=>h (List.length_eq_zero_iff.1 q))]
 exact List.mem_append_right _ (List.mem_append_right _ List.mem_cons_self)
theorem earg_mem{i a:Nat}{x:Edge}(ha:d.ta[i]?=some a)(hx:b.term.to[i]?=some x)(hne:x.args≠[]):(a,x.args.map aI)∈ownL (blkE d b):=by
 have h:b.term.to.length≠0:=by have:=lt_of_getElem? hx;omega
 rw [blkE_own,rwT_own d.t 2 _ _ h]
 refine List.mem_append_right _ (List.mem_append_right _ (List.mem_cons_of_mem _ (edgs_mem ha hx ?_)))
 rw [rwI_own a hne]
 exact List.mem_singleton.2 rfl
theorem into_chg{i a:Nat}{x y:Ins}(ha:d.ia[i]?=some a)(hx:b.ins[i]?=some x)(e1:y.op=x.op)(e2:y.n=x.n)(e3:y.args=x.args) :
  Chg d.i ((inssE d.ia b.ins).map OC.raw) (((inssE d.ia b.ins).map OC.raw).set (i * 4) (aI y.to)) (ownL (blkE d b)) (ownL (blkE d ⟨b.params,b.ins.set i y,b.term⟩))∧blkC d ⟨b.params,b.ins.set i y,b.term⟩=blkC d b:=by
 have h:b.ins.length≠0:=by have:=lt_of_getElem? hx;omega
 refine⟨?_,?_⟩
 ·rw [blkE_own,blkE_own,rwT_own d.i 4 _ _ h,rwT_own d.i 4 _ _ (by rw [List.length_set];exact h),inss_raw ha hx e1 e2 (by rw [e3]),inss_same hx e3]
  exact((Chg.here _ _ _ _).right _).left _
 unfold blkC
 simp only [List.length_set]
theorem iarg_chg{i a:Nat}{x y:Ins}(ha:d.ia[i]?=some a)(hx:b.ins[i]?=some x)(e0:y.to=x.to)(e1:y.op=x.op)(e2:y.n=x.n)(hne:x.args≠[])(e3:y.args.length=x.args.length) :
  Chg a (x.args.map aI) (y.args.map aI) (ownL (blkE d b)) (ownL (blkE d ⟨b.params,b.ins.set i y,b.term⟩))∧blkC d ⟨b.params,b.ins.set i y,b.term⟩=blkC d b:=by
 have h:b.ins.length≠0:=by have:=lt_of_getElem? hx;omega
 refine⟨?_,?_⟩
 ·have hat:((inssE d.ia b.ins).map OC.raw)[i * 4]?=some (aI y.to):=by
   have:=congrArg (fun l=>l[0]?) (inss_at ha hx)
   simp only [List.getElem?_take,List.getElem?_drop,Nat.add_zero] at this
   rw [e0]
   simpa using this
  rw [blkE_own,blkE_own,rwT_own d.i 4 _ _ h,rwT_own d.i 4 _ _ (by rw [List.length_set];exact h),inss_raw ha hx e1 e2 e3,setAt_same hat]
  exact(((inss_chg ha hx (rwI_chg a hne e3)).cons _).right _).left _
 unfold blkC
 simp only [List.length_set]
theorem earg_chg{i a:Nat}{x y:Edge}(ha:d.ta[i]?=some a)(hx:b.term.to[i]?=some x)(e0:y.block=x.block)(hne:x.args≠[])(e3:y.args.length=x.args.length) :
  Chg a (x.args.map aI) (y.args.map aI) (ownL (blkE d b)) (ownL (blkE d ⟨b.params,b.ins,⟨b.term.kind,b.term.arg,b.term.n,b.term.cases,b.term.to.set i y⟩⟩))∧blkC d ⟨b.params,b.ins,⟨b.term.kind,b.term.arg,b.term.n,b.term.cases,b.term.to.set i y⟩⟩=blkC d b:=by
 have h:b.term.to.length≠0:=by have:=lt_of_getElem? hx;omega
 refine⟨?_,?_⟩
 ·rw [blkE_own,blkE_own]
  show Chg _ _ _ _ (_++(_++(rwT d.t 2 (b.term.to.set i y).length (edgsE d.ta (b.term.to.set i y))).own))
  rw [rwT_own d.t 2 _ _ h,rwT_own d.t 2 _ _ (by rw [List.length_set];exact h),edgs_raw ha hx e0 e3]
  exact(((edgs_chg ha hx (rwI_chg a hne e3)).cons _).left _).left _
 unfold blkC
 simp only [List.length_set]
theorem arg_chg(a:Int):ownL (blkE d ⟨b.params,b.ins,⟨b.term.kind,a,b.term.n,b.term.cases,b.term.to⟩⟩)=ownL (blkE d b)∧blkC d ⟨b.params,b.ins,⟨b.term.kind,a,b.term.n,b.term.cases,b.term.to⟩⟩=(blkC d b).set 3 (aI a):=by
 refine⟨?_,rfl⟩
 rw [blkE_own,blkE_own]
end
end Go.Proofs.Ytkhnjeblbiocaaa
