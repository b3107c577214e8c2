/-
  Texts bound together by a program of mine: YtkhnjeblbiocaaaPxa, YtkhnjeblbiocaaaPxb, YtkhnjeblbiocaaaPum, YtakdmelemfnmdaaAvv, YtkhnjeblbiocaaaT146, YtkhnjeblbiocaaaT147, YtkhnjeblbiocaaaT148, YtkhnjeblbiocaaaPxc, YtkhnjeblbiocaaaT63, YtkhnjeblbiocaaaT149.
-/
import Derived.Test.YtkhnjeblbiocaaaJ4
import Derived.KernelRfl
set_option linter.all false
set_option maxRecDepth 100000
set_option maxHeartbeats 4000000

namespace Go.Av
theorem cert_append_mm{P:Program}{tab:Tab}(hT:TabOK P tab){o:Oper}{σ:St}{t e:TypeId}{x y:Operand}{ti te:TInfo}{id h c off n d:Nat}{cs:List AVal}
  (ho:o.op=.call ⟨.builtin .append,#[x,y],#[t,t]⟩) (hd:∀d,o.dst=some d→d<σ.n) (ht:tab t=some ti) (hdesc:ti.desc=.slice e) (he:tab e=some te) (hx:σ.ev x=some (.ms id 0 h c)) (hob:σ.objs[id]?=some (.cells cs)) (hy:σ.ev y=some (.ms id off n d))
  (hroom:h+n≤c) (hin:(h+n) * te.size≤cs.length) (hoff:off+n * te.size≤cs.length) (h62:h+n≤2 ^ 62) :
  Cert P o σ (.ms id 0 (h+n) c) (.write (σ.objs.set id (.cells (splice cs (h * te.size) ((cs.drop off).take (n * te.size)))))) :=
 Cert.ofRun hd fun base σ' a g hrel hh ho'=>by
  have hO:g.objs=σ.objs:=ho'.resolve_left (by simp)
  have hg:=hrel.good
  have hu:=slice_desc hT ht hdesc
  have hx':=hh x (by simp [ho,Op.operands,Call.operands]) _ hx
  have hy':=hh y (by simp [ho,Op.operands,Call.operands]) _ hy
  obtain⟨l,o1,q1,q2,q3,hlc,hmax,cap',hcap,eu⟩:=hx'.ms_inv
  obtain⟨l2,o2,p1,p2,p3,hlc2,hmax2,cap2,hcap2,ey⟩:=hy'.ms_inv
  rw [q1] at p1
  simp only [Option.some.injEq] at p1
  subst p1
  obtain⟨⟨i,z,h1,h2,h3,h4,h5,h6,h7,h8,h9⟩,_⟩:=hT e te he
  have hob':g.objs[id]?=some (.cells cs):=by rw [hO];exact hob
  obtain⟨arr,t',hlo,hrow,hlen,hcs,hcsc,hlsz⟩:=hg.row hob' q1
  have hexec:=run_builtin1 (P:=P) ho a g.w
  simp only [builtin,List.map_toArray,List.map_cons,List.map_nil] at hexec
  obtain⟨m,hm⟩:∃m,m=n * te.size:=⟨_,rfl⟩
  obtain⟨ys,hys⟩:∃ys,ys=(cs.drop off).take m:=⟨_,rfl⟩
  obtain⟨news,hnews⟩:∃news,news=(arr.toList.drop off).take m:=⟨_,rfl⟩
  have hmul:(h+n) * te.size=h * te.size+m:=by rw [Nat.add_mul,hm]
  rw [hmul] at hin
  rw [←hm] at hoff ⊢
  rw [←hys]
  have hnl:news.length=m:=by
   rw [hnews,List.length_take,List.length_drop,Array.length_toList]
   omega
  have hyl:ys.length=m:=by
   rw [hys,List.length_take,List.length_drop]
   omega
  have hyr:RVs g ys news.toArray:=by
   refine⟨by simp [hnl,hyl],fun j b u hj hu=>?_⟩
   have hlt:=lt_of_getElem? hj
   rw [hys,List.getElem?_take,if_pos (by omega),List.getElem?_drop] at hj
   refine hcs (off+j) b u hj ?_
   simp only [List.getElem?_toArray,hnews] at hu
   rw [List.getElem?_take,if_pos (by omega),List.getElem?_drop] at hu
   simpa using hu
  have hysc:∀b∈ys,b.scalar:=fun b hb=>by
   rw [hys] at hb
   exact hcsc b (List.mem_of_mem_drop (List.mem_of_mem_take hb))
  have hload:(Builtin.firstCells i.size n (a.eval y)).run P g.w=.ok news.toArray g.w:=by
   rw [ey,h2]
   simp only [Builtin.firstCells]
   rw [←hm]
   have:=run_loadCells (P:=P) g.w ⟨l.block,off,none⟩ m (fun j=>arr.getD (off+j) undef) (fun j hj=>by
    rw [addr_add]
    have:g.w.cell? ⟨l.block,off+j,none⟩=arr[off+j]?:=cell_of_row (w:=g.w) hrow (off+j)
    rw [this]
    simp [Array.getD_eq_getD_getElem?,show off+j<arr.size by omega])
   rw [list_eq_range news m _ hnl (fun j hj=>by
    rw [hnews,List.getElem?_take,if_pos hj,List.getElem?_drop]
    simp [Array.getD_eq_getD_getElem?,show off+j<arr.size by omega])] at this
   exact this
  obtain⟨arr',harr'⟩:∃arr',arr'=(arr.toList.take (h * te.size)++news++arr.toList.drop (h * te.size+news.length)).toArray:=⟨_,rfl⟩
  have hst:=run_storeCells_at P l.block (h * te.size) t' news 0 arr g.w hrow (by rw [hnl];omega) (fun u hu=>by
   obtain⟨j,hj⟩:=List.getElem?_of_mem hu
   have hlt:=lt_of_getElem? hj
   rw [hnl,←hyl] at hlt
   have hc:=List.getElem?_eq_getElem hlt
   exact((hyr.2 j _ u hc (by simpa using hj)).scalar_cell (hysc _ (List.mem_of_getElem? hc))).1)
  simp only [Nat.add_zero] at hst
  rw [←harr'] at hst
  have hrun:=run_append_in (P:=P) g.w (g.w.setRow l.block arr') t o.type e i hu h1 ⟨l.block,0,none⟩ h cap' n (a.eval y) news (fun w=>by rw [ey];simp [Builtin.lenOf]) hload (by omega) (by rw [addr_add,h2,Nat.zero_add];exact hst)
  rw [←eu] at hrun
  have hturn:=turns_cells (cs':=splice cs (h * te.size) ys) hob' q1 hlo arr'
  have hle:=Le.turn hg hturn
  have hsp:=RVs.splice ⟨hlen,hcs⟩ hyr (off:=h * te.size) (by rw [hyl];omega)
  rw [←harr'] at hsp
  have hlt:=lt_of_getElem? hob'
  have hlt2:=env_lt hg hob'
  refine⟨.slice (some ⟨l.block,0,none⟩) (h+n) cap',g.turn id (some l) (.cells (splice cs (h * te.size) ys)) (g.w.setRow l.block arr'),?_,hle,Good.turn hg hturn ?_ ?_,?_,?_⟩
  ·refine .inl ?_
   rw [hexec]
   simp [hrun,G.turn]
  ·refine⟨l,arr',t',rfl,hlo,?_,hsp.1,fun j c u a b=>(hsp.2 j c u a b).mono hle,fun c hc=>?_,?_⟩
   ·exact setRow_heap g.w l.block arr arr' t' (0,0) hrow
   ·simp only [splice,List.mem_append] at hc
    rcases hc with hc | hc | hc
    ·exact hcsc c (List.mem_of_mem_take hc)
    ·exact hysc c hc
    exact hcsc c (List.mem_of_mem_drop hc)
   rw [harr']
   simp only [List.size_toArray,List.length_append,List.length_take,List.length_drop,Array.length_toList]
   omega
  ·intro l1 h1 _
   simp only [Option.some.injEq] at h1
   subst h1
   rw [setRow_size]
   exact lt_of_getElem?' hrow
  ·simp only [G.turn,Mode.post,hO]
  refine .ms (l:=l) (o:=.cells (splice cs (h * te.size) ys)) ?_ ?_ (by simp [AObj.isSpare]) hroom hcap h62
  ·simp only [G.turn]
   rw [List.getElem?_set_self hlt2]
  simp only [G.turn]
  rw [List.getElem?_set_self hlt]
theorem cert_slice_end{P:Program}{tab:Tab}(hT:TabOK P tab){o:Oper}{σ:St}{t e:TypeId}{x q:Operand}{ti te:TInfo}{id off len cap:Nat}{k:IntKind}
  (ho:o.op=.slice t x (some q) none none) (hd:∀d,o.dst=some d→d<σ.n) (ht:tab t=some ti) (hdesc:ti.desc=.slice e) (he:tab e=some te) (hx:σ.ev x=some (.ms id off len cap))
  (hq:σ.ev q=some (.v (.int k (len:Int)))):Cert P o σ (.lst te.size [] .sh) .pure :=
 Cert.ofQuiet .pure (.inl rfl) hd fun a g _ hh _=>by
  have hu:=slice_desc hT ht hdesc
  have hx':=hh x (by simp [ho,Op.operands]) _ hx
  have hl:=(hh q (by simp [ho,Op.operands]) _ hq).v_inv.1
  have hexec:execOp a.eval o=(do pure (.value (←Instr.sliceAt t (a.eval x) (some (a.eval q)) none none))):=by
   simp [execOp,ho]
  obtain⟨lc,o1,q1,q2,q3,hlc,hmax,cap',hcap,eu⟩:=hx'.ms_inv
  have bounds:(Instr.sliceBounds true len cap' (some (a.eval q)) none none).run P g.w=.ok (len,len,cap') g.w:=by
   have e2:=run_sliceBound (P:=P) k len len .sliceB g.w (by omega) (by omega)
   simp [Instr.sliceBounds,hl,e2]
  have hsize:=(hT e te he).sizeOf g.w
  refine⟨.slice (some (if cap'=len then ⟨lc.block,off,none⟩ else ((⟨lc.block,off,none⟩:Addr).add (len * te.size)))) 0 (cap' - len),?_,?_⟩
  ·rw [hexec]
   by_cases hc:cap'=len
   ·subst hc
    simp [Instr.sliceAt,run_underlying hu,Instr.slice,eu,bounds,hsize]
   simp [Instr.sliceAt,run_underlying hu,Instr.slice,eu,bounds,hsize,hc]
  have:RV g (.lst te.size [] .sh) (.slice (some (if cap'=len then ⟨lc.block,off,none⟩ else ((⟨lc.block,off,none⟩:Addr).add (len * te.size)))) ([]:List AVal).length (cap' - len)) :=
   .lst (fun x hx=>by cases hx) (fun x hx=>by cases hx) (by simp) (by simp) (fun h=>absurd rfl h) (fun _=>undef) (fun j c hc=>by simp [cellsAll] at hc) (fun j c hc=>by simp [cellsAll] at hc) trivial
  exact this
theorem cert_slice3{P:Program}{tab:Tab}(hT:TabOK P tab){o:Oper}{σ:St}{t e:TypeId}{x ql qh qm:Operand}{ti te:TInfo}{id off len cap l h m:Nat}{k k' k'':IntKind}
  (ho:o.op=.slice t x (some ql) (some qh) (some qm)) (hd:∀d,o.dst=some d→d<σ.n) (ht:tab t=some ti) (hdesc:ti.desc=.slice e) (he:tab e=some te) (hx:σ.ev x=some (.ms id off len cap))
  (hql:σ.ev ql=some (.v (.int k (l:Int)))) (hqh:σ.ev qh=some (.v (.int k' (h:Int)))) (hqm:σ.ev qm=some (.v (.int k'' (m:Int)))) (h1:l≤h) (h2:h≤m) (h3:m≤cap) (h4:l<m) (h62:m≤2 ^ 62):Cert P o σ (.ms id (off+l * te.size) (h - l) (m - l)) .pure :=
 Cert.ofQuiet .pure (.inl rfl) hd fun a g _ hh _=>by
  have hu:=slice_desc hT ht hdesc
  have hx':=hh x (by simp [ho,Op.operands]) _ hx
  have el:=(hh ql (by simp [ho,Op.operands]) _ hql).v_inv.1
  have eh:=(hh qh (by simp [ho,Op.operands]) _ hqh).v_inv.1
  have em:=(hh qm (by simp [ho,Op.operands]) _ hqm).v_inv.1
  have hexec:execOp a.eval o=(do pure (.value (←Instr.sliceAt t (a.eval x) (some (a.eval ql)) (some (a.eval qh)) (some (a.eval qm))))):=by
   simp [execOp,ho]
  obtain⟨lc,o1,q1,q2,q3,hlc,hmax,cap',hcap,eu⟩:=hx'.ms_inv
  have bounds:(Instr.sliceBounds true len cap' (some (a.eval ql)) (some (a.eval qh)) (some (a.eval qm))).run P g.w=.ok (l,h,m) g.w:=by
   have e1:=run_sliceBound (P:=P) k'' m cap' .slice3Acap g.w (by omega) (by omega)
   have e2:=run_sliceBound (P:=P) k' h m .slice3B g.w (by omega) (by omega)
   have e3:=run_sliceBound (P:=P) k l h .slice3C g.w (by omega) (by omega)
   simp [Instr.sliceBounds,el,eh,em,e1,e2,e3]
  have hsize:=(hT e te he).sizeOf g.w
  refine⟨.slice (some ((⟨lc.block,off,none⟩:Addr).add (l * te.size))) (h - l) (m - l),?_,?_⟩
  ·rw [hexec]
   simp [Instr.sliceAt,run_underlying hu,Instr.slice,eu,bounds,hsize,show m≠l by omega]
  rw [addr_add]
  exact .ms q1 q2 q3 (by omega) (by omega) (by omega)
end Go.Av
namespace Go.Proofs.Ytkhnjeblbiocaaa
open Go.Av
abbrev Mv:=Int×Int
abbrev eM(p:Mv):AVal:=.agg [aI p.1,aI p.2]
def mC(l:List Mv):List AVal:=l.flatMap fun p=>[aI p.1,aI p.2]
theorem mC_len(l:List Mv):(mC l).length=l.length * 2:=by
 unfold mC
 induction l with
 | nil=>rfl
 | cons p r ih =>
  rw [List.flatMap_cons,List.length_append,ih]
  show 2+r.length * 2=(r.length+1) * 2
  omega
theorem mC_app(l m:List Mv):mC (l++m)=mC l++mC m:=List.flatMap_append ..
theorem mC_cons(p:Mv)(m:List Mv):mC (p::m)=aI p.1::aI p.2::mC m:=rfl
theorem mC_cells(l:List Mv):cellsAll (l.map eM)=mC l:=by
 unfold mC cellsAll
 rw [List.flatMap_map]
 rfl
theorem mC_split{l:List Mv}{k:Nat}{p:Mv}(h:l[k]?=some p):mC l=mC (l.take k)++(aI p.1::aI p.2::mC (l.drop (k+1))):=by
 obtain⟨hk,e⟩:=List.getElem?_eq_some_iff.1 h
 have:l=l.take k++(p::l.drop (k+1)):=by rw [←e,←List.drop_eq_getElem_cons hk,List.take_append_drop]
 rw [←mC_cons,←mC_app,←this]
theorem mC_at{l:List Mv}{k:Nat}{p:Mv}(h:l[k]?=some p)(J:List AVal):((mC l++J).drop (k * 2)).take 2=[aI p.1,aI p.2]∧(mC l++J)[k * 2]?=some (aI p.1)∧(mC l++J)[k * 2+1]?=some (aI p.2):=by
 have hk:=(List.getElem?_eq_some_iff.1 h).1
 have hl:(mC (l.take k)).length=k * 2:=by rw [mC_len,List.length_take];omega
 rw [mC_split h,List.append_assoc]
 have e:((mC (l.take k)++(aI p.1::aI p.2::mC (l.drop (k+1))++J)).drop (k * 2))=aI p.1::aI p.2::mC (l.drop (k+1))++J:=by rw [←hl,List.drop_left]
 have g:∀i,(mC (l.take k)++(aI p.1::aI p.2::mC (l.drop (k+1))++J))[k * 2+i]?=(aI p.1::aI p.2::mC (l.drop (k+1))++J)[i]?:=fun i=>(List.getElem?_drop ..).symm.trans (by rw [e])
 exact⟨by rw [e];rfl,g 0,g 1⟩
theorem mC_set{l:List Mv}{k:Nat}{p:Mv}(h:l[k]?=some p)(q:Mv)(J:List AVal):splice (mC l++J) (k * 2) [aI q.1,aI q.2]=mC (l.set k q)++J:=by
 have hk:=(List.getElem?_eq_some_iff.1 h).1
 have hl:(mC (l.take k)).length=k * 2:=by rw [mC_len,List.length_take];omega
 have hs:(l.set k q)[k]?=some q:=List.getElem?_set_self hk
 have h1:(l.set k q).take k=l.take k:=by
  apply List.ext_getElem?
  intro i
  simp only [List.getElem?_take,List.getElem?_set]
  split
  ·rw [if_neg (by omega)]
  rfl
 have h2:(l.set k q).drop (k+1)=l.drop (k+1):=by
  apply List.ext_getElem?
  intro i
  simp only [List.getElem?_drop,List.getElem?_set]
  rw [if_neg (by omega)]
 rw [mC_split h,mC_split hs,h1,h2]
 unfold splice
 rw [List.append_assoc,←hl,List.take_left]
 simp only [List.length_cons,List.length_nil]
 rw [List.drop_length_add_append]
 simp
theorem mC_set2{l:List Mv}{k:Nat}{p:Mv}(h:l[k]?=some p)(v:Int)(J:List AVal):splice (mC l++J) (k * 2+1) [aI v]=mC (l.set k (p.1,v))++J:=by
 rw [←mC_set h (p.1,v) J]
 obtain⟨h1,h2,h3⟩:=mC_at h J
 have hk:=(List.getElem?_eq_some_iff.1 h).1
 have hl:(mC (l.take k)).length=k * 2:=by rw [mC_len,List.length_take];omega
 rw [mC_split h,List.append_assoc]
 unfold splice
 simp only [List.length_cons,List.length_nil]
 rw [←hl,List.take_left,List.take_length_add_append,List.drop_length_add_append,show(mC (l.take k)).length+1+(0+1)=(mC (l.take k)).length+2 by omega,List.drop_length_add_append]
 simp
theorem setM_same{α:Type}{l:List α}{j:Nat}{v:α}(h:l[j]?=some v):l.set j v=l:=by
 apply List.ext_getElem?
 intro i
 rw [List.getElem?_set]
 split
 ·rename_i e
  rw [←e,if_pos (lt_of_getElem? h),h]
 rfl
def idxFrom(q:Mv→Bool):List Mv→Nat→Int
 | [],_=>-1
 | x::r,k=>if q x then (k:Int) else idxFrom q r (k+1)
def idxM(q:Mv→Bool)(l:List Mv):Int:=idxFrom q l 0
theorem idxFrom_spec(q:Mv→Bool):∀(l:List Mv) (k:Nat),(idxFrom q l k=-1∧∀x∈l,q x=false)∨∃(j:Nat) (x:Mv),idxFrom q l k=((k+j:Nat):Int)∧l[j]?=some x∧q x=true∧∀y∈l.take j,q y=false
 | [],k=>.inl ⟨rfl,fun x hx=>by cases hx⟩
 | a::r,k=>by
  cases hq:q a with
  | true =>
   refine .inr ⟨0,a,?_,rfl,hq,fun y hy=>by cases hy⟩
   rw [idxFrom,if_pos hq]
   rfl
  | false =>
   rw [idxFrom,if_neg (by simp [hq])]
   rcases idxFrom_spec q r (k+1) with⟨h1,h2⟩ | ⟨j,x,h1,h2,h3,h4⟩
   ·refine .inl ⟨h1,fun x hx=>?_⟩
    rcases List.mem_cons.1 hx with e | e
    ·rw [e];exact hq
    exact h2 x e
   refine .inr ⟨j+1,x,by rw [h1];congr 1;omega,h2,h3,fun y hy=>?_⟩
   rw [List.take_succ_cons] at hy
   rcases List.mem_cons.1 hy with e | e
   ·rw [e];exact hq
   exact h4 y e
theorem idxM_spec(q:Mv→Bool)(l:List Mv):(idxM q l=-1∧∀x∈l,q x=false)∨∃(j:Nat) (x:Mv),idxM q l=(j:Int)∧l[j]?=some x∧q x=true∧∀y∈l.take j,q y=false:=by
 rcases idxFrom_spec q l 0 with h | ⟨j,x,h1,h2⟩
 ·exact .inl h
 exact .inr ⟨j,x,by rw [Nat.zero_add] at h1;exact h1,h2⟩
theorem idxM_any(q:Mv→Bool)(l:List Mv):decide (0≤idxM q l)=l.any q:=by
 rcases idxM_spec q l with⟨h1,h2⟩ | ⟨j,x,h1,h2,h3,_⟩
 ·rw [h1,List.any_eq_false.2 fun x hx=>by simp [h2 x hx]]
  rfl
 rw [h1,List.any_eq_true.2 ⟨x,List.mem_of_getElem? h2,h3⟩]
 exact decide_eq_true (by omega)
def dropQ(l:List Mv):List Mv:=l.filter fun x=>!decide (x.1=x.2)
def freeQ(left:List Mv)(x:Mv):Bool:=!left.any fun y=>decide (y.2=x.1)
def breakQ(v spare:Int)(y:Mv):Mv:=if y.2=v then (y.1,spare) else y
def seqStep(spare:Int)(left:List Mv):List Mv×List Mv :=
 match left with
 | []=>([],[])
 | x0::r =>
  if idxM (freeQ left) left<0 then (((x0::r).map (breakQ x0.1 spare)).tail,[(spare,x0.1),breakQ x0.1 spare x0])
  else ((x0::r).eraseIdx (idxM (freeQ left) left).toNat,[((x0::r)[(idxM (freeQ left) left).toNat]?).getD (0,0)])
def seqRun(spare:Int):Nat→List Mv→List Mv
 | 0,_=>[]
 | n+1,left=>if left=[] then [] else (seqStep spare left).2++seqRun spare n (seqStep spare left).1
def seqM(l:List Mv)(spare:Int):List Mv:=seqRun spare l.length (dropQ l)
end Go.Proofs.Ytkhnjeblbiocaaa
namespace Go.Av

def RetAll(tab:Tab)(rv:List ResultVar)(R:AVal→List AObj→Prop):AEx→St→Prop
 | .exit _,_=>False
 | _,σ=>on (retVals tab σ rv) fun rs=>R (mkRet rs) σ.objs
theorem ecall_all{P:Program}{tab:Tab}(hT:TabOK P tab){f:FuncId}{fn:Func}{c:Code}{O:List AObj}{args:List AVal}{R:AVal→List AObj→Prop}(hf:P.funcs[f]?=some fn)(hb:fn.body=some c)
  (hname : (fn.name == "runtime.NumGoroutine") = false) (hn : args.length ≤ fn.ntmps) (h : AWP P O.length c (RetAll tab fn.results.toList R) ⟨fn.ntmps, slotsOf 0 args, O⟩) : ECall P f O args R := by
 refine⟨⟨fn,hf,hname,by simp [hb]⟩,fun g vs hg ho ha=>?_⟩
 refine calls_of_wp hf hb ?_
 have hrel:Rel g ⟨fn.ntmps,slotsOf 0 args,O⟩ { tmps:=vs++Array.replicate (fn.ntmps - vs.size) undef,defers:=[] } g:={
  le:=Le.refl g
  good:=hg
  objs:=ho
  size:=by
   have:=ha.1
   simp only [Array.size_append,Array.size_replicate]
   omega
  defers:=rfl
  slot:=fun s x hx=>by
   obtain⟨_,h1⟩:=look_slotsOf args 0 s x hx
   simp only [Nat.sub_zero] at h1
   have hlt:=lt_of_getElem? h1
   have hlt':s<vs.size:=by rw [ha.1];exact hlt
   refine⟨vs[s],?_,ha.2 s x _ h1 (by simp [hlt'])⟩
   simp only
   rw [Array.getElem?_append,if_pos hlt']
   simp [hlt'] }
 refine wp_mono (h g _ g (by rw [ho];exact Nat.le_refl _) hrel) fun e a w hp=>?_
 have key:∀g' σ',g'.w=w→Rel g σ' a g'→(on (retVals tab σ' fn.results.toList) fun rs=>R (Av.mkRet rs) σ'.objs) →
   a.defers=[]∧∃v,(results fn a.tmps).run P w=.ok v w∧∃g' v' r,Ending.returned v=.returned v'∧g'.w=w∧Le g g'∧Good g'∧RV g' r v'∧R r g'.objs:=by
  intro g' σ' hw hr hq
  subst hw
  obtain⟨rs,hrs,h4⟩:=on_elim hq
  obtain⟨us,q1,q2⟩:=retVals_spec hT hr hrs
  have hO:g'.objs=σ'.objs:=hr.objs
  refine⟨hr.defers,(if h:us.toArray.size=1 then us.toArray[0] else .tuple us.toArray),?_,g',_,_,rfl,rfl,hr.le,hr.good,RV.mkRet q2,by rw [hO];exact h4⟩
  have hm:fn.results.mapM (retSem a)=Functor.map List.toArray (fn.results.toList.mapM (retSem a)):=Array.mapM_eq_mapM_toList
  have hres:results fn a.tmps=(do
   let vs ←fn.results.mapM (retSem a)
   pure (if h:vs.size=1 then vs[0] else .tuple vs)):=rfl
  rw [hres,hm]
  simp only [Sem.run_bind,Sem.run_map,q1,Result.andThen_ok,Sem.run_pure]
 cases e with
 | normal =>
  obtain⟨g',σ',h1,h2,h3⟩:=hp
  exact key g' σ' h1 h2 h3
 | ret =>
  obtain⟨g',σ',h1,h2,h3⟩:=hp
  exact key g' σ' h1 h2 h3
 | exit id =>
  obtain⟨g',σ',h1,h2,h3⟩:=hp
  exact h3.elim
 | goto l=>exact hp.elim
 | panic c=>exact hp.elim
 | outgrown=>exact hp.elim


def ChP(P:Program)(all:List Oper)(k:Nat)(σ:St)(ks:List Kind)(R:St→List Kind→Prop):Prop :=
 ∃(ρ:St) (ks':List Kind),ks'.length+k=all.length∧Chain P all.toArray ((ks'.zipIdx k).map fun p=>(p.2,p.1)) σ ρ∧R ρ (ks++ks')
theorem ChP.fin{P:Program}{all:List Oper}{k:Nat}{σ:St}{ks:List Kind}{R:St→List Kind→Prop}(hk:k=all.length)(h:R σ ks):ChP P all k σ ks R :=
 ⟨σ,[],by simpa using hk,Same.refl σ,by simpa using h⟩
theorem ChP.op{P:Program}{all:List Oper}{k:Nat}{σ:St}{ks:List Kind}{R:St→List Kind→Prop}{o:Oper}{x:AVal}{m:Mode}(ho:all[k]?=some o)(hg:o.guard=none)(hc:Cert P o σ x m)
  (h:ChP P all (k+1) ⟨σ.n,putO o.dst x σ.slots,m.post σ.objs⟩ (ks++[m.kind]) R):ChP P all k σ ks R:=by
 obtain⟨ρ,ks',h1,h2,h3⟩:=h
 refine⟨ρ,m.kind::ks',by simp only [List.length_cons];omega,?_,by simpa using h3⟩
 rw [List.zipIdx_cons,List.map_cons]
 exact⟨_,⟨o,by simpa using ho,.inl ⟨by simp [wantedA,hg],x,m,hc,rfl,rfl⟩⟩,h2⟩
theorem chain_app{P:Program}{ops:Array Oper}:∀{l1 l2:List (Nat×Kind)} {σ τ ρ:St},Chain P ops l1 σ τ→Chain P ops l2 τ ρ→Chain P ops (l1++l2) σ ρ
 | [],_,_,_,_,h1,h2=>h2.same h1.symm
 | _::_,_,_,_,_,⟨σ',h,h1⟩,h2=>⟨σ',h,chain_app h1 h2⟩
theorem chain_off{P:Program}{ops all:Array Oper}{k:Nat}(hk:∀i o,ops[i]?=some o→all[k+i]?=some o)(hg:∀o∈all.toList,o.guard=none):∀{l:List (Nat×Kind)} {σ τ:St},Chain P ops l σ τ→Chain P all (l.map fun p=>(k+p.1,p.2)) σ τ
 | [],_,_,h=>h
 | (i,q)::r,_,_,h=>by
  obtain⟨σ',⟨o,ho,h1⟩,h2⟩:=h
  refine⟨σ',⟨o,hk i o ho,?_⟩,chain_off hk hg h2⟩
  have ho':=hk i o ho
  have hgo:o.guard=none:=hg o (by
   rw [←Array.getElem?_toList] at ho'
   exact List.mem_of_getElem? ho')
  have w1:∀(a:Array Oper) (σ:St),wantedA a o σ=some true:=fun a σ=>by simp [wantedA,hgo]
  rcases h1 with⟨_,h1⟩ | ⟨h1,_⟩
  ·exact .inl ⟨w1 _ _,h1⟩
  rw [w1] at h1
  cases h1
theorem ChP.seg{P:Program}{tab:Tab}(md:Md)(hT:TabOK P tab){all l1:List Oper}{k:Nat}{σ:St}{ks:List Kind}{R:St→List Kind→Prop}(n:Nat)(h1:(all.drop k).take n=l1)(hn:l1.length=n)(hg:∀o∈all,o.guard=none)
  (h:vcOps P tab md l1 0 [] σ [] fun τ ks1=>ChP P all (k+n) τ (ks++ks1.reverse) R):ChP P all k σ ks R:=by
 obtain⟨τ,ks1,c1,n1,ρ,ks2,h3,c2,hR⟩:=vcOps_sound (all:=l1.toArray) hT l1 0 [] σ [] (fun j=>by simp) (fun j t hj=>by simp [slotAt] at hj) h
 have hl:k+n≤all.length:=by
  have:l1.length≤all.length - k:=by rw [←h1,List.length_take,List.length_drop];omega
  by_cases hz:n=0
  ·omega
  omega
 have d1:=chain_off (all:=all.toArray) (k:=k) (fun i o hi=>by
  have hi':l1[i]?=some o:=by simpa using hi
  rw [←h1,List.getElem?_take] at hi'
  split at hi'
  ·rw [List.getElem?_drop] at hi'
   simpa using hi'
  cases hi') (by simpa using hg) c1
 refine⟨ρ,ks1++ks2,by rw [List.length_append];omega,?_,by simpa using hR⟩
 rw [List.zipIdx_append,List.map_append]
 have e1:(ks1.zipIdx k).map (fun p=>(p.2,p.1))=((ks1.zipIdx 0).map fun p=>(p.2,p.1)).map fun p=>(k+p.1,p.2):=by
  apply List.ext_getElem?
  intro i
  simp only [List.getElem?_map,List.getElem?_zipIdx]
  cases ks1[i]?<;>simp
 rw [e1]
 refine chain_app d1 ?_
 rw [show k+ks1.length=k+n by omega]
 exact c2
theorem awp_pieces{P:Program}{kb:Nat}(hm:P.follows .mixedOrders=true){id:Nat}{l:List Oper}{draw:Bool}{Q:AEx→St→Prop}{σ:St}
  (h:ChP P l 0 σ [] fun τ ks=>Draws draw (fun _=>OrderOK l.toArray ks)∧At τ (Q .norm)):AWP P kb (.region id l.toArray draw) Q σ:=by
 obtain⟨τ,ks,h1,h2,h3,h4⟩:=h
 intro base a g hb hr
 have hch:Chain P l.toArray ((List.range l.toArray.size).map fun i=>(i,ks.getD i .write)) σ τ:=by
  have e:(ks.zipIdx 0).map (fun p=>(p.2,p.1))=(List.range l.toArray.size).map fun i=>(i,ks.getD i .write):=by
   apply List.ext_getElem?
   intro i
   simp only [List.getElem?_map]
   have hlen:ks.length=l.toArray.size:=by simpa using h1
   by_cases hi:i<l.toArray.size
   ·have hi':i<ks.length:=by omega
    rw [List.getElem?_range hi]
    simp [hi']
   rw [List.getElem?_eq_none (by simp only [List.length_zipIdx];omega),List.getElem?_eq_none (by simp only [List.length_range];omega)]
   rfl
  rw [←e]
  exact h2
 cases draw with
 | false=>exact wp_region_lex hch hr fun a g hr'=>⟨g,τ,rfl,hr',h4⟩
 | true =>
  have hB:=h3 rfl
  simp only [List.nil_append] at hB
  exact wp_region_chain hm hB hch hr fun a g hr'=>⟨g,τ,rfl,hr',h4⟩
end Go.Av
namespace Go.Proofs.Ytkhnjeblbiocaaa
open Go.Av
theorem drop_mv{l:List Mv}{j:Nat}{x:Mv}(h:l[j]?=some x):l.drop j=x::l.drop (j+1):=by
 obtain⟨hk,e⟩:=List.getElem?_eq_some_iff.1 h
 rw [←e,←List.drop_eq_getElem_cons hk]
theorem q1_spec{O:List AObj}(hup:∀o∈O,o.upto O.length)(X:Nat)(a b:Int)(hX:O[X]?=some (.cells [aI a,aI b]))(y:Mv):ECall Try.prog 45 O [eM y,.mp X 0] fun r O'=>r=.v (.bool (decide (y.1=a)))∧O'=O:=by
 have hXl:=lt_of_getElem? hX
 have h1:∀Y,(O++Y)[X]?=some (.cells [aI a,aI b]):=fun Y=>at_left hX
 have h2:∀Y Z,(O++Y::Z)[O.length]?=some Y:=fun Y Z=>by simp
 have hkk:O.length≤O.length:=Nat.le_refl _
 refine ecall_of hT true (O.length) Try.func45 rfl (by kernel_rfl) (by simp [Try.ntmps45]) (by assumption) ?_
 show AWP Try.prog _ _ _ ⟨9,_,_⟩
 dsimp only [Tmp,TypeId,slotsOf]
 refine zh1 (za0 ?_)
 refine zg1 ?_
 simp -dsimp only [simprocAttr,↓vpre,zp,h1,h2]
 refine za0 ?_
 refine awp_ret ?_
 simp -dsimp only [simprocAttr,↓vpre,zp,zr,Try.results45,List.take_left]
 exact hup
theorem q2_spec(y:Mv):PCall Try.prog 48 [eM y] (.v (.bool (decide (y.1=y.2)))):=by
 refine zf true 0 Try.func48 Try.ntmps48 ?_
 dsimp only [Tmp,TypeId,slotsOf]
 refine zh1 (za0 ?_)
 refine zh1 (za0 ?_)
 refine awp_ret ?_
 simp -dsimp only [simprocAttr,↓vpre,zp,zr,Try.results48]
theorem q31_spec{O:List AObj}(hup:∀o∈O,o.upto O.length)(X:Nat)(a b:Int)(hX:O[X]?=some (.cells [aI a,aI b]))(y:Mv):ECall Try.prog 51 O [eM y,.mp X 0] fun r O'=>r=.v (.bool (decide (y.2=a)))∧O'=O:=by
 have hXl:=lt_of_getElem? hX
 have h1:∀Y,(O++Y)[X]?=some (.cells [aI a,aI b]):=fun Y=>at_left hX
 have h2:∀Y Z,(O++Y::Z)[O.length]?=some Y:=fun Y Z=>by simp
 have hkk:O.length≤O.length:=Nat.le_refl _
 refine ecall_of hT true (O.length) Try.func51 rfl (by kernel_rfl) (by simp [Try.ntmps51]) (by assumption) ?_
 show AWP Try.prog _ _ _ ⟨9,_,_⟩
 dsimp only [Tmp,TypeId,slotsOf]
 refine zh1 (za0 ?_)
 refine zg1 ?_
 simp -dsimp only [simprocAttr,↓vpre,zp,h1,h2]
 refine za0 ?_
 refine awp_ret ?_
 simp -dsimp only [simprocAttr,↓vpre,zp,zr,Try.results51,List.take_left]
 exact hup
theorem idxL_spec{O:List AObj}(f':Nat)(caps:List AVal)(q:Mv→Bool)(l:List Mv)(hq:∀x∈l,ECall Try.prog f' O (eM x::caps) fun r O'=>r=.v (.bool (q x))∧O'=O) :
  ECall Try.prog 49 O [.lst 2 (l.map eM) .sh,.fn (.func f') [] caps] fun r O'=>r=aI (idxM q l)∧O'=O:=by
 obtain⟨R,hR⟩:∃R,R=idxM q l:=⟨_,rfl⟩
 rw [←hR]
 refine ecall_all hT Try.func49 rfl (by kernel_rfl) (by simp [Try.ntmps49]) ?_
 show AWP Try.prog _ _ _ ⟨19,_,_⟩
 dsimp only [Tmp,TypeId,slotsOf]
 refine zh1 (za0 ?_)
 refine awp_len 0 rfl (fun hll=>?_)
 simp only [List.length_map] at hll
 refine zh2 (za0 ?_)
 refine awp_block (awp_loop (ι:={k:Nat // k≤l.length∧R=idxFrom q (l.drop k) k}) (fun k=>⟨19,[(0,.lst 2 (l.map eM) .sh),(1,.fn (.func f') [] caps),(7,aI l.length),(8,aI k.1)],O⟩) (fun k=>l.length - k.1) ⟨0,by omega,hR⟩ ?_ ?_)
 ·refine zq rfl ?_ ?_
  simp -dsimp only [simprocAttr,↓vpre,zp,zc]
  all_goals rfl
 rintro⟨k,hk,hke⟩
 refine zh1 (za0 ?_)
 apply zk1 rfl<;>intro h
 ·refine zb0 ?_
  have hlt:k<l.length:=by simpa using h
  obtain⟨x,hx⟩:∃x,l[k]?=some x:=⟨l[k],List.getElem?_eq_getElem hlt⟩
  have hqx:=hq x (List.mem_of_getElem? hx)
  rw [drop_mv hx,idxFrom] at hke
  refine awp_seq (awp_block ?_)
  refine zh1 (za0 ?_)
  refine zg1 ?_
  simp -dsimp only [simprocAttr,↓vpre,zp,hx]
  repeat(refine⟨by omega,?_⟩)
  refine .inr (.inr ⟨_,hqx,later_intro (zj ?_)⟩)
  refine za0 ?_
  apply zk0 rfl<;>intro h
  ·refine zh1 (za0 ?_)
   refine awp_ret ?_
   simp -dsimp only [simprocAttr,↓vpre,zp,RetAll,Try.results49,retVals,retVal,mkRet,seqPost_ret,blockPost_ret,loopPost_ret]
   rw [hke,if_pos h]
  refine zb1 ?_
  rw [if_neg (by simp [h])] at hke
  refine zh0 ?_
  repeat(refine⟨by omega,?_⟩)
  refine zl0 ?_
  refine⟨⟨k+1,hlt,hke⟩,by show l.length - (k+1)<l.length - k;omega,?_⟩
  refine zq rfl ?_ ?_
  simp -dsimp only [simprocAttr,↓vpre,zp,zc]
  all_goals first | rfl | exact Sub.int (by simp)
 refine awp_exit ?_
 simp -dsimp only [vend,ne_eq,Nat.reduceEqDiff,reduceCtorEq]
 have hkl:k=l.length:=by
  have:=of_decide_eq_false h
  omega
 subst hkl
 rw [List.drop_length] at hke
 refine zh1 (za0 ?_)
 refine awp_ret ?_
 simp -dsimp only [simprocAttr,↓vpre,zp,RetAll,Try.results49,retVals,retVal,mkRet,seqPost_ret,blockPost_ret,loopPost_ret]
 rw [hke]
 rfl
theorem idxO_spec{O:List AObj}(id c:Nat)(J:List AVal)(l:List Mv)(hO:O[id]?=some (.cells (mC l++J)))(hl40:l.length≤2 ^ 40)(f':Nat)(caps:List AVal)(q:Mv→Bool)
  (hq:∀x∈l,ECall Try.prog f' O (eM x::caps) fun r O'=>r=.v (.bool (q x))∧O'=O) :
  ECall Try.prog 49 O [.ms id 0 l.length c,.fn (.func f') [] caps] fun r O'=>r=aI (idxM q l)∧O'=O:=by
 obtain⟨R,hR⟩:∃R,R=idxM q l:=⟨_,rfl⟩
 rw [←hR]
 have hlen:(mC l++J).length=l.length * 2+J.length:=by rw [List.length_append,mC_len]
 refine ecall_all hT Try.func49 rfl (by kernel_rfl) (by simp [Try.ntmps49]) ?_
 show AWP Try.prog _ _ _ ⟨19,_,_⟩
 dsimp only [Tmp,TypeId,slotsOf]
 refine zh1 (za0 ?_)
 refine zh2 (za0 ?_)
 refine awp_block (awp_loop (ι:={k:Nat // k≤l.length∧R=idxFrom q (l.drop k) k}) (fun k=>⟨19,[(0,.ms id 0 l.length c),(1,.fn (.func f') [] caps),(7,aI l.length),(8,aI k.1)],O⟩) (fun k=>l.length - k.1) ⟨0,by omega,hR⟩ ?_ ?_)
 ·refine zq rfl ?_ ?_
  simp -dsimp only [simprocAttr,↓vpre,zp,zc]
  all_goals rfl
 rintro⟨k,hk,hke⟩
 refine zh1 (za0 ?_)
 apply zk1 rfl<;>intro h
 ·refine zb0 ?_
  have hlt:k<l.length:=by simpa using h
  obtain⟨x,hx⟩:∃x,l[k]?=some x:=⟨l[k],List.getElem?_eq_getElem hlt⟩
  have hqx:=hq x (List.mem_of_getElem? hx)
  obtain⟨hat,-,-⟩:=mC_at hx J
  rw [drop_mv hx,idxFrom] at hke
  refine awp_seq (awp_block ?_)
  refine zh1 (za0 ?_)
  generalize mC l++J=C at *
  refine zg1 ?_
  simp -dsimp only [simprocAttr,↓vpre,zp,hO,hat,hlen]
  repeat(refine⟨by omega,?_⟩)
  refine .inr (.inr ⟨_,hqx,later_intro (zj ?_)⟩)
  refine za0 ?_
  apply zk0 rfl<;>intro h
  ·refine zh1 (za0 ?_)
   refine awp_ret ?_
   simp -dsimp only [simprocAttr,↓vpre,zp,RetAll,Try.results49,retVals,retVal,mkRet,seqPost_ret,blockPost_ret,loopPost_ret]
   rw [hke,if_pos h]
  refine zb1 ?_
  rw [if_neg (by simp [h])] at hke
  refine zh0 ?_
  repeat(refine⟨by omega,?_⟩)
  refine zl0 ?_
  refine⟨⟨k+1,hlt,hke⟩,by show l.length - (k+1)<l.length - k;omega,?_⟩
  refine zq rfl ?_ ?_
  simp -dsimp only [simprocAttr,↓vpre,zp,zc]
  all_goals first | rfl | exact Sub.int (by simp)
 refine awp_exit ?_
 simp -dsimp only [vend,ne_eq,Nat.reduceEqDiff,reduceCtorEq]
 have hkl:k=l.length:=by
  have:=of_decide_eq_false h
  omega
 subst hkl
 rw [List.drop_length] at hke
 refine zh1 (za0 ?_)
 refine awp_ret ?_
 simp -dsimp only [simprocAttr,↓vpre,zp,RetAll,Try.results49,retVals,retVal,mkRet,seqPost_ret,blockPost_ret,loopPost_ret]
 rw [hke]
 rfl
theorem conL_spec{O:List AObj}(f':Nat)(caps:List AVal)(q:Mv→Bool)(l:List Mv)(hq:∀x∈l,ECall Try.prog f' O (eM x::caps) fun r O'=>r=.v (.bool (q x))∧O'=O) :
  ECall Try.prog 44 O [.lst 2 (l.map eM) .sh,.fn (.func f') [] caps] fun r O'=>r=.v (.bool (l.any q))∧O'=O:=by
 have hi:=idxL_spec f' caps q l hq
 have ha:=idxM_any q l
 refine ecall_all hT Try.func44 rfl (by kernel_rfl) (by simp [Try.ntmps44]) ?_
 show AWP Try.prog _ _ _ ⟨9,_,_⟩
 dsimp only [Tmp,TypeId,slotsOf]
 refine zh1 (za0 ?_)
 refine zh1 ?_
 refine .inr (.inr ⟨_,hi,later_intro (zj ?_)⟩)
 refine za0 ?_
 refine awp_ret ?_
 simp -dsimp only [simprocAttr,↓vpre,zp,RetAll,Try.results44,retVals,retVal,mkRet,seqPost_ret,blockPost_ret,loopPost_ret]
 rw [ha]
theorem conO_spec{O:List AObj}(id c:Nat)(J:List AVal)(l:List Mv)(hO:O[id]?=some (.cells (mC l++J)))(hl40:l.length≤2 ^ 40)(f':Nat)(caps:List AVal)(q:Mv→Bool)
  (hq:∀x∈l,ECall Try.prog f' O (eM x::caps) fun r O'=>r=.v (.bool (q x))∧O'=O) :
  ECall Try.prog 44 O [.ms id 0 l.length c,.fn (.func f') [] caps] fun r O'=>r=.v (.bool (l.any q))∧O'=O:=by
 have hi:=idxO_spec id c J l hO hl40 f' caps q hq
 have ha:=idxM_any q l
 refine ecall_all hT Try.func44 rfl (by kernel_rfl) (by simp [Try.ntmps44]) ?_
 show AWP Try.prog _ _ _ ⟨9,_,_⟩
 dsimp only [Tmp,TypeId,slotsOf]
 refine zh1 (za0 ?_)
 refine zh1 ?_
 refine .inr (.inr ⟨_,hi,later_intro (zj ?_)⟩)
 refine za0 ?_
 refine awp_ret ?_
 simp -dsimp only [simprocAttr,↓vpre,zp,RetAll,Try.results44,retVals,retVal,mkRet,seqPost_ret,blockPost_ret,loopPost_ret]
 rw [ha]
theorem q3_spec{O:List AObj}(hup:∀o∈O,o.upto O.length)(id L c:Nat)(J:List AVal)(l:List Mv)(x:Mv)(hL:O[L]?=some (.cells [.ms id 0 l.length c]))(hO:O[id]?=some (.cells (mC l++J)))(hl40:l.length≤2 ^ 40) :
  ECall Try.prog 50 O [eM x,.mp L 0] fun r O'=>r=.v (.bool (freeQ l x))∧O'=O:=by
 have hLl:=lt_of_getElem? hL
 have h1:∀Y,(O++Y)[L]?=some (.cells [.ms id 0 l.length c]):=fun Y=>at_left hL
 have hc0:=conO_spec (O:=O++[.cells [aI x.1,aI x.2]]) id c J l (at_left hO) hl40 51 [.mp O.length 0] (fun y=>decide (y.2=x.1)) fun y _=>q31_spec (fun o ho=>by
  rw [List.length_append]
  rcases List.mem_append.1 ho with q | q
  ·exact AObj.upto_mono (by simp) (hup o q)
  rw [List.mem_singleton.1 q]
  exact⟨trivial,trivial,trivial⟩) O.length x.1 x.2 (snoc_get _ _) y
 have hkk:O.length≤O.length:=Nat.le_refl _
 unfold freeQ
 refine ecall_of hT true (O.length) Try.func50 rfl (by kernel_rfl) (by simp [Try.ntmps50]) (by assumption) ?_
 show AWP Try.prog _ _ _ ⟨8,_,_⟩
 dsimp only [Tmp,TypeId,slotsOf]
 refine zh1 (za0 ?_)
 refine zg1 ?_
 simp -dsimp only [simprocAttr,↓vpre,zp,h1]
 refine .inr (.inr ⟨_,hc0,later_intro (zj ?_)⟩)
 refine za0 ?_
 refine awp_ret ?_
 simp -dsimp only [simprocAttr,↓vpre,zp,zr,Try.results50,List.take_left]
 exact hup
theorem cloneM_spec{O:List AObj}(l:List Mv)(hl:l≠[])(hll:l.length≤2 ^ 40) :
  ECall Try.prog 47 O [.lst 2 (l.map eM) .nn] fun r O'=>r=.ms O.length 0 l.length l.length∧O'=O++[.cells (mC l)]:=by
 have hl0:¬l.length=0:=fun e=>hl (List.length_eq_zero_iff.1 e)
 have hc:=mC_cells l
 have hs:(l.map eM).map AVal.share=l.map eM:=by
  rw [List.map_map]
  exact List.map_congr_left fun x _=>rfl
 refine ecall_all hT Try.func47 rfl (by kernel_rfl) (by simp [Try.ntmps47]) ?_
 show AWP Try.prog _ _ _ ⟨8,_,_⟩
 dsimp only [Tmp,TypeId,slotsOf]
 refine zh1 (za0 ?_)
 refine zh2 (za0 ?_)
 refine zu0 rfl ?_
 refine zb0 ?_
 refine zm1 ?_
 simp -dsimp only [simprocAttr,↓vpre,zp,hc,hs,List.length_map]
 repeat(refine⟨by omega,?_⟩)
 refine za0 ?_
 refine awp_ret ?_
 simp -dsimp only [simprocAttr,↓vpre,zp,RetAll,Try.results47,retVals,retVal,mkRet,seqPost_ret,blockPost_ret,loopPost_ret]
theorem take_set_eq{l:List Mv}{k:Nat}{x:Mv}(h:k<l.length):(l.set k x).take (k+1)=l.take k++[x]:=by
 rw [List.take_add_one,List.getElem?_set_self h]
 congr 1
 apply List.ext_getElem?
 intro i
 simp only [List.getElem?_take,List.getElem?_set]
 split
 ·rw [if_neg (by omega)]
 rfl
theorem dropQ_app(l m:List Mv):dropQ (l++m)=dropQ l++dropQ m:=List.filter_append ..
theorem dropQ_keep{l:List Mv}(h:∀x∈l,decide (x.1=x.2)=false):dropQ l=l:=by
 unfold dropQ
 rw [List.filter_eq_self]
 intro x hx
 rw [h x hx]
 rfl
theorem mC_zero(n:Nat):(List.replicate n [aI 0,aI 0]).flatten=List.replicate (n * 2) (aI 0):=by
 induction n with
 | zero=>rfl
 | succ n ih =>
  rw [List.replicate_succ,List.flatten_cons,ih,show(n+1) * 2=n * 2+1+1 by omega,List.replicate_succ,List.replicate_succ]
  rfl
theorem mC_cut(F:List Mv){k n:Nat}(hk:k≤n)(hF:F.length=n):splice (mC F) (k * 2) (List.replicate ((n - k) * 2) (aI 0))=mC (F.take k)++List.replicate ((n - k) * 2) (aI 0):=by
 have e:mC F=mC (F.take k)++mC (F.drop k):=by rw [←mC_app,List.take_append_drop]
 have hl:(mC (F.take k)).length=k * 2:=by rw [mC_len,List.length_take];omega
 have hd:(mC (F.drop k)).length=(n - k) * 2:=by rw [mC_len,List.length_drop];omega
 unfold splice
 rw [e,←hl,List.take_left,List.length_replicate,←hd,List.drop_length_add_append,List.drop_length,List.append_nil]
theorem delF_spec{O:List AObj}(hup:∀o∈O,o.upto O.length)(id:Nat)(l:List Mv)(hl:l≠[])(hO:O[id]?=some (.cells (mC l)))(hl40:l.length≤2 ^ 40) :
  ECall Try.prog 46 O [.ms id 0 l.length l.length,.fn (.func 48) [] []] fun r O'=>r=.ms id 0 (dropQ l).length l.length∧O'=O.set id (.cells (mC (dropQ l)++List.replicate ((l.length - (dropQ l).length) * 2) (aI 0))):=by
 have hid:=lt_of_getElem? hO
 obtain⟨n,hn⟩:∃n,n=l.length:=⟨_,rfl⟩
 have hn1:0<n:=by rw [hn];exact List.length_pos_iff.2 hl
 have hi:=idxO_spec (O:=O) id l.length [] l (by rw [List.append_nil];exact hO) hl40 48 [] (fun x=>decide (x.1=x.2)) fun x _=>(q2_spec x).use (by simp [uptoL,AVal.upto,aI_upto]) O
 rw [←hn] at hi ⊢
 rcases idxM_spec (fun x:Mv=>decide (x.1=x.2)) l with⟨e1,e2⟩ | ⟨j0,x0,e1,e2,e3,e4⟩
 ·rw [e1] at hi
  rw [dropQ_keep e2,←hn,Nat.sub_self,Nat.zero_mul,List.replicate_zero,List.append_nil,setM_same hO]
  refine ecall_all hT Try.func46 rfl (by kernel_rfl) (by simp [Try.ntmps46]) ?_
  show AWP Try.prog _ _ _ ⟨42,_,_⟩
  dsimp only [Tmp,TypeId,slotsOf]
  refine zh1 (za0 ?_)
  refine zh1 ?_
  refine .inr (.inr ⟨_,hi,later_intro (zj ?_)⟩)
  refine za0 ?_
  refine zh2 (za0 ?_)
  refine zw0 rfl ?_
  refine zh1 (za0 ?_)
  refine awp_ret ?_
  simp -dsimp only [simprocAttr,↓vpre,zp,RetAll,Try.results46,retVals,retVal,mkRet,seqPost_ret,blockPost_ret,loopPost_ret]
 rw [e1] at hi
 have hj0:=lt_of_getElem? e2
 obtain⟨D,hD⟩:∃D,D=dropQ l:=⟨_,rfl⟩
 rw [←hD]
 have hdl:∀m:List Mv,(dropQ m).length≤m.length:=fun m=>List.length_filter_le ..
 have hst:dropQ (l.take (j0+1))=l.take j0:=by
  rw [List.take_add_one,e2,dropQ_app,dropQ_keep e4]
  show l.take j0++dropQ [x0]=_
  have:dropQ [x0]=[]:=by
   unfold dropQ
   simp at e3
   simp [e3]
  rw [this,List.append_nil]
 have hdj:decide ((j0:Int)=-1)=false:=decide_eq_false (by omega)
 refine ecall_all hT Try.func46 rfl (by kernel_rfl) (by simp [Try.ntmps46]) ?_
 show AWP Try.prog _ _ _ ⟨42,_,_⟩
 dsimp only [Tmp,TypeId,slotsOf]
 refine zh1 (za0 ?_)
 refine zh1 ?_
 refine .inr (.inr ⟨_,hi,later_intro (zj ?_)⟩)
 refine za0 ?_
 refine zg2 ?_
 simp -dsimp only [simprocAttr,↓vpre,zp,hdj]
 refine za0 ?_
 apply zk0 rfl<;>intro h
 ·cases h
 refine zb0 ?_
 refine zh2 ?_
 repeat(refine⟨by omega,?_⟩)
 refine za0 ?_
 refine awp_block (awp_loop (ι:={X:Nat×Nat×List Mv // X.1≤n∧X.2.2.length=n∧X.2.2.drop X.1=l.drop X.1∧X.2.2.take X.2.1=dropQ (l.take X.1)∧X.2.1<X.1∧X.2.1=(dropQ (l.take X.1)).length}) (fun X=>⟨42,[(0,.ms id 0 n n),(1,.fn (.func 48) [] []),(5,aI X.1.2.1),(6,aI X.1.1)],O.set id (.cells (mC X.1.2.2))⟩) (fun X=>n - X.1.1) ⟨(j0+1,j0,l),by simp only;omega,hn.symm,rfl,hst.symm,by simp only;omega,by simp only [hst,List.length_take];omega⟩ ?_ ?_)
 ·refine zq rfl ?_ ?_
  simp -dsimp only [simprocAttr,↓vpre,zp,zc]
  ·exact Sub.int (by simp)
  exact(setM_same hO).symm
 rintro⟨⟨j,k,F⟩,hj,hF1,hF2,hF3,hF4,hk⟩
 simp only at hj hF1 hF2 hF3 hF4 hk
 have hOF:(O.set id (.cells (mC F)))[id]?=some (.cells (mC F++[])):=by rw [List.append_nil];exact List.getElem?_set_self hid
 have hFl:(mC F++[]).length=n * 2:=by rw [List.append_nil,mC_len,hF1]
 have hss:∀y,(O.set id (.cells (mC F))).set id y=O.set id y:=fun y=>List.set_set ..
 refine zh2 (za0 ?_)
 apply zk0 rfl<;>intro h
 ·refine zb0 ?_
  have hlt:j<n:=by simpa using h
  obtain⟨x,hx⟩:∃x,l[j]?=some x:=⟨l[j]'(by omega),List.getElem?_eq_getElem _⟩
  have hFx:F[j]?=some x:=by
   have:=congrArg (fun z=>z[0]?) hF2
   simp only [List.getElem?_drop,Nat.add_zero] at this
   rw [this,hx]
  obtain⟨hat,-,-⟩:=mC_at hFx []
  have htk:l.take (j+1)=l.take j++[x]:=by rw [List.take_add_one,hx];rfl
  have hq:=q2_spec x
  have hup2:∀o∈O.set id (.cells (mC F)),o.upto (O.set id (.cells (mC F))).length:=by
   rw [List.length_set]
   refine uptoO_set hup ?_
   rw [←mC_cells]
   show uptoL _ _
   rw [uptoL_iff]
   intro y hy
   unfold cellsAll at hy
   rw [List.mem_flatMap] at hy
   obtain⟨z,hz,hy⟩:=hy
   obtain⟨p,_,rfl⟩:=List.mem_map.1 hz
   simp [AVal.cells] at hy
   rcases hy with rfl | rfl<;>trivial
  have hFk:∃y,F[k]?=some y:=⟨F[k]'(by omega),List.getElem?_eq_getElem _⟩
  obtain⟨y,hFk⟩:=hFk
  have hms:=mC_set hFk x []
  have hms:splice (mC F++[]) (k * 2) [aI x.1,aI x.2]=mC (F.set k x):=by rw [hms,List.append_nil]
  have hFd:∀(m:Nat),j<m→(F.set k x).drop m=F.drop m:=fun m hm=>by
   apply List.ext_getElem?
   intro i
   simp only [List.getElem?_drop,List.getElem?_set]
   rw [if_neg (by omega)]
  have hFd1:F.drop (j+1)=l.drop (j+1):=by
   have:=congrArg (fun z=>z.drop 1) hF2
   simpa [List.drop_drop] using this
  have hk2:((k:Nat):Int)+1≤9223372036854775807:=by omega
  refine awp_seq (awp_block ?_)
  generalize mC F++[]=C at *
  refine zg1 ?_
  simp -dsimp only [simprocAttr,↓vpre,zp,hOF,hat,hFl]
  repeat(refine⟨by omega,?_⟩)
  refine za0 ?_
  refine awp_local 7 ([aI x.1,aI x.2]) [(0,.ms id 0 n n),(1,.fn (.func 48) [] []),(5,aI k),(6,aI j),(7,.ip none [aI x.1,aI x.2])] (by simp [putS,dropS,Go.Av.look]) (by rfl) (by simp) (by simp [putS,dropS,Go.Av.look]) ?_ ?_ ?_
  ·exact hup2
  ·simp [AVal.upto,uptoL,aI_upto]
   omega
  refine zh1 ?_
  refine zi hq ?_
  refine za0 ?_
  apply zk0 rfl<;>intro h
  ·have hxq:decide (x.1=x.2)=false:=by simpa using h
   have hdr:dropQ (l.take (j+1))=dropQ (l.take j)++[x]:=by
    rw [htk,dropQ_app,dropQ_keep (l:=[x]) (fun y hy=>by rw [List.mem_singleton.1 hy];exact hxq)]
   refine zg1 ?_
   simp -dsimp only [simprocAttr,↓vpre,zp,hOF,hFl]
   repeat(refine⟨by omega,?_⟩)
   refine za0 ?_
   rw [hms,hss]
   refine zh0 ?_
   repeat(refine⟨by omega,?_⟩)
   refine za0 ?_
   refine zh0 ?_
   repeat(refine⟨by omega,?_⟩)
   refine zl0 ?_
   refine⟨⟨(j+1,k+1,F.set k x),hlt,by simp only [List.length_set,hF1],by simp only;rw [hFd _ (by omega),hFd1],by simp only [hdr];rw [take_set_eq (by omega),hF3],by simp only;omega,by simp only [hdr,List.length_append,List.length_singleton];omega⟩,by show n - (j+1)<n - j;omega,?_⟩
   refine zq rfl ?_ ?_
   simp -dsimp only [simprocAttr,↓vpre,zp,zc]
   ·exact⟨Sub.int (by simp),Sub.int (by simp)⟩
   rfl
  refine zb1 ?_
  have hxq:decide (x.1=x.2)=true:=by simpa using h
  have hdr:dropQ (l.take (j+1))=dropQ (l.take j):=by
   have:dropQ [x]=[]:=by
    unfold dropQ
    simp at hxq
    simp [hxq]
   rw [htk,dropQ_app,this,List.append_nil]
  refine zh0 ?_
  repeat(refine⟨by omega,?_⟩)
  refine zl0 ?_
  refine⟨⟨(j+1,k,F),hlt,hF1,hFd1,by simp only [hdr];exact hF3,by simp only;omega,by simp only [hdr];exact hk⟩,by show n - (j+1)<n - j;omega,?_⟩
  refine zq rfl ?_ ?_
  simp -dsimp only [simprocAttr,↓vpre,zp,zc]
  ·exact Sub.int (by simp)
  rfl
 refine awp_exit ?_
 simp -dsimp only [vend,ne_eq,Nat.reduceEqDiff,reduceCtorEq]
 have hjn:j=n:=by
  have:=of_decide_eq_false h
  omega
 subst hjn
 rw [List.take_of_length_le (l:=l) (by omega),←hD] at hF3 hk
 subst hk
 have hcut:=mC_cut F (k:=D.length) (n:=j) (by omega) hF1
 rw [hF3] at hcut
 have hrep:(List.replicate (j - D.length) [aI 0,aI 0]).flatten=List.replicate ((j - D.length) * 2) (aI 0):=mC_zero _
 have hOF2:(O.set id (.cells (mC F)))[id]?=some (.cells (mC F)):=List.getElem?_set_self hid
 have hFl2:(mC F).length=j * 2:=by rw [mC_len,hF1]
 generalize mC F=C at *
 refine zg1 ?_
 simp -dsimp only [simprocAttr,↓vpre,zp,hOF2,hFl2,hrep]
 repeat(refine⟨by omega,?_⟩)
 refine za0 ?_
 rw [hcut,hss]
 refine zh1 ?_
 repeat(refine⟨by omega,?_⟩)
 refine za0 ?_
 refine awp_ret ?_
 simp -dsimp only [simprocAttr,↓vpre,zp,RetAll,Try.results46,retVals,retVal,mkRet,seqPost_ret,blockPost_ret,loopPost_ret]
 rw [Nat.sub_zero,Nat.sub_zero]
theorem del_cells{l:List Mv}{i:Nat}(hi:i<l.length)(J:List AVal) :
  splice (splice (mC l++J) (i * 2) (((mC l++J).drop ((i+1) * 2)).take ((l.length - (i+1)) * 2))) ((l.length - 1) * 2) [aI 0,aI 0]=mC (l.eraseIdx i)++(aI 0::aI 0::J):=by
 obtain⟨p,hp⟩:∃p,l[i]?=some p:=⟨l[i],List.getElem?_eq_getElem hi⟩
 have e1:=mC_split hp
 have e2:l.eraseIdx i=l.take i++l.drop (i+1):=List.eraseIdx_eq_take_drop_succ ..
 have hA:(mC (l.take i)).length=i * 2:=by rw [mC_len,List.length_take];omega
 have hB:(mC (l.drop (i+1))).length=(l.length - (i+1)) * 2:=by rw [mC_len,List.length_drop]
 obtain⟨n,hn⟩:∃n,n=l.length:=⟨_,rfl⟩
 rw [e2,mC_app,e1,←hn]
 rw [←hn] at hB hi
 generalize mC (l.take i)=A at *
 generalize mC (l.drop (i+1))=B at *
 have hd:((A++aI p.1::aI p.2::B)++J).drop ((i+1) * 2)=B++J:=by
  rw [List.append_assoc,show(i+1) * 2=A.length+2 by omega,List.drop_length_add_append]
  rfl
 rw [hd,←hB,List.take_left]
 have hX:splice ((A++aI p.1::aI p.2::B)++J) (i * 2) B=A++(B++((aI p.1::aI p.2::B)++J).drop B.length):=by
  unfold splice
  rw [List.append_assoc,←hA,List.take_left,List.drop_length_add_append]
 rw [hX]
 obtain⟨D,hD⟩:∃D,D=((aI p.1::aI p.2::B)++J).drop B.length:=⟨_,rfl⟩
 have hD2:D.drop 2=J:=by
  rw [hD,List.drop_drop,show B.length+2=(aI p.1::aI p.2::B).length by simp,List.drop_left]
 rw [←hD]
 unfold splice
 rw [show(n - 1) * 2=(A++B).length by rw [List.length_append];omega,←List.append_assoc A B D,List.take_left,List.drop_length_add_append]
 simp only [List.length_cons,List.length_nil]
 rw [show 0+1+1=2 from rfl,hD2]
 simp
theorem del_spec{O:List AObj}(id c:Nat)(J:List AVal)(l:List Mv)(i:Nat)(hi:i<l.length)(hc:l.length≤c)(hO:O[id]?=some (.cells (mC l++J)))(hl40:l.length≤2 ^ 40)(hc40:c≤2 ^ 40) :
  ECall Try.prog 52 O [.ms id 0 l.length c,aI i,aI (i+1)] fun r O'=>r=.ms id 0 (l.length - 1) c∧O'=O.set id (.cells (mC (l.eraseIdx i)++(aI 0::aI 0::J))):=by
 have hid:=lt_of_getElem? hO
 have hdc:=del_cells hi J
 have hCl:(mC l++J).length=l.length * 2+J.length:=by rw [List.length_append,mC_len]
 obtain⟨n,hn⟩:∃n,n=l.length:=⟨_,rfl⟩
 rw [←hn] at hi hc hl40 hdc hCl ⊢
 have hdi:decide ((i:Int)=i+1)=false:=decide_eq_false (by omega)
 generalize mC (l.eraseIdx i)++(aI 0::aI 0::J)=E at *
 generalize mC l++J=C at *
 have hss:∀y z,(O.set id y).set id z=O.set id z:=fun y z=>List.set_set ..
 refine ecall_all hT Try.func52 rfl (by kernel_rfl) (by simp [Try.ntmps52]) ?_
 show AWP Try.prog _ _ _ ⟨33,_,_⟩
 dsimp only [Tmp,TypeId,slotsOf]
 refine zh1 (za0 ?_)
 refine awp_seq (awp_mid_op ⟨false,false⟩ hT 5 rfl rfl rfl (by simp) ?_)
 simp -dsimp only [simprocAttr,↓vpre,zp]
 refine⟨_,_,cert_slice3 (l:=i) (h:=i+1) (m:=n) hT rfl (by simp) tab_63 rfl tab_64 rfl rfl rfl rfl (by omega) (by omega) (by omega) (by omega) (by omega),?_⟩
 simp -dsimp only [simprocAttr,↓vpre,zp]
 refine za0 ?_
 refine zg2 ?_
 simp -dsimp only [simprocAttr,↓vpre,zp,hdi]
 refine za0 ?_
 apply zk0 rfl<;>intro h
 ·cases h
 refine zb0 ?_
 refine zh1 (za0 ?_)
 have hOs:∀y,(O.set id y)[id]?=some y:=fun y=>List.getElem?_set_self hid
 by_cases hlast:i+1=n
 ·have htk:(C.drop ((i+1) * 2)).take ((n - (i+1)) * 2)=[]:=by rw [show n - (i+1)=0 by omega,Nat.zero_mul,List.take_zero]
  rw [htk] at hdc
  refine awp_seq (awp_pieces hm (ChP.seg ⟨false,false⟩ hT 5 rfl rfl (by simp) ?_))
  simp -dsimp only [simprocAttr,↓vpre,zp]
  repeat(refine⟨by omega,?_⟩)
  refine ChP.op rfl rfl (cert_slice_end (k:=.i64) hT rfl (by simp) tab_63 rfl tab_64 rfl (by rw [←hlast];rfl)) ?_
  simp -dsimp only [simprocAttr,↓vpre,zp]
  refine ChP.seg ⟨false,false⟩ hT 2 rfl rfl (by simp) ?_
  simp -dsimp only [simprocAttr,↓vpre,zp,hO]
  repeat(refine⟨by omega,?_⟩)
  refine ChP.fin rfl ⟨ob (by kernel_rfl),?_⟩
  refine za0 ?_
  obtain⟨E1,hE1⟩:∃E1,E1=splice C (i * 2) []:=⟨_,rfl⟩
  rw [←hE1] at hdc
  show AWP Try.prog _ _ _ ⟨_,(0,.ms id 0 i c)::_,O.set id (.cells (splice C (i * 2) []))⟩
  rw [←hE1]
  have hE1l:E1.length=C.length:=by
   rw [hE1,splice_length]
   simp;omega
  have hE1o:∀y,(O.set id y)[id]?=some y:=hOs
  have hnq:n - i=1:=by omega
  have hz:(List.replicate 1 [aI 0,aI 0]).flatten=[aI 0,aI 0]:=rfl
  refine zg1 ?_
  simp -dsimp only [simprocAttr,↓vpre,zp,hE1o,hE1l,hnq,hz]
  repeat(refine⟨by omega,?_⟩)
  refine za0 ?_
  rw [hss]
  refine zh1 (za0 ?_)
  refine awp_ret ?_
  simp -dsimp only [simprocAttr,↓vpre,zp,RetAll,Try.results52,retVals,retVal,mkRet,seqPost_ret,blockPost_ret,loopPost_ret]
  have hqn:i=n - 1:=by omega
  rw [hqn,←hdc]
  exact⟨rfl,rfl⟩
 have hln:(i+(n - (i+1))) * 2≤C.length:=by omega
 have hln2:(i+1) * 2+(n - (i+1)) * 2≤C.length:=by omega
 refine awp_seq (awp_pieces hm (ChP.seg ⟨false,false⟩ hT 6 rfl rfl (by simp) ?_))
 simp -dsimp only [simprocAttr,↓vpre,zp]
 repeat(refine⟨by omega,?_⟩)
 refine ChP.op rfl rfl ((cert_append_mm hT rfl (by simp) tab_63 rfl tab_64 rfl hO rfl (by omega) hln hln2 (by omega)).close keep_set) ?_
 simp -dsimp only [simprocAttr,↓vpre,zp]
 refine ChP.seg ⟨false,false⟩ hT 1 rfl rfl (by simp) ?_
 simp -dsimp only [simprocAttr,↓vpre,zp]
 refine ChP.fin rfl ⟨ob (by kernel_rfl),?_⟩
 refine za0 ?_
 obtain⟨E1,hE1⟩:∃E1,E1=splice C (i * 2) ((C.drop ((i+1) * 2)).take ((n - (i+1)) * 2)):=⟨_,rfl⟩
 rw [←hE1] at hdc
 show AWP Try.prog _ _ _ ⟨_,(0,.ms id 0 (i+(n - (i+1))) c)::_,O.set id (.cells (splice C (i * 2) ((C.drop ((i+1) * 2)).take ((n - (i+1)) * 2))))⟩
 rw [←hE1]
 generalize hq:i+(n - (i+1))=q at *
 have hE1l:E1.length=C.length:=by
  rw [hE1,splice_length]
  rw [List.length_take,List.length_drop];omega
 have hE1o:∀y,(O.set id y)[id]?=some y:=hOs
 have hnq:n - q=1:=by omega
 have hz:(List.replicate 1 [aI 0,aI 0]).flatten=[aI 0,aI 0]:=rfl
 refine zg1 ?_
 simp -dsimp only [simprocAttr,↓vpre,zp,hE1o,hE1l,hnq,hz]
 repeat(refine⟨by omega,?_⟩)
 refine za0 ?_
 rw [hss]
 refine zh1 (za0 ?_)
 refine awp_ret ?_
 simp -dsimp only [simprocAttr,↓vpre,zp,RetAll,Try.results52,retVals,retVal,mkRet,seqPost_ret,blockPost_ret,loopPost_ret]
 have hqn:q=n - 1:=by omega
 rw [hqn,←hdc]
 exact⟨rfl,rfl⟩
def mixQ(v s:Int)(l:List Mv)(j:Nat):List Mv:=(l.take j).map (breakQ v s)++l.drop j
theorem mixQ_zero(v s:Int)(l:List Mv):mixQ v s l 0=l:=by simp [mixQ]
theorem mixQ_all(v s:Int)(l:List Mv):mixQ v s l l.length=l.map (breakQ v s):=by simp [mixQ]
theorem mixQ_len(v s:Int)(l:List Mv)(j:Nat):(mixQ v s l j).length=l.length:=by
 unfold mixQ
 rw [List.length_append,List.length_map,List.length_take,List.length_drop]
 omega
theorem mixQ_at(v s:Int){l:List Mv}{j:Nat}{x:Mv}(h:l[j]?=some x):(mixQ v s l j)[j]?=some x:=by
 have hl:=lt_of_getElem? h
 unfold mixQ
 rw [List.getElem?_append_right (by rw [List.length_map,List.length_take];omega),List.length_map,List.length_take,show j - min j l.length=0 by omega,List.getElem?_drop,Nat.add_zero,h]
theorem mixQ_step(v s:Int){l:List Mv}{j:Nat}{x:Mv}(h:l[j]?=some x):(mixQ v s l j).set j (breakQ v s x)=mixQ v s l (j+1):=by
 have hl:=lt_of_getElem? h
 unfold mixQ
 rw [drop_mv h,List.set_append_right _ _ (by rw [List.length_map,List.length_take];omega),List.length_map,List.length_take,show j - min j l.length=0 by omega,List.set_cons_zero,List.take_add_one,h,List.map_append,List.append_assoc]
 rfl
theorem mC_upto(n:Nat)(l:List Mv):uptoL n (mC l):=by
 rw [uptoL_iff]
 intro y hy
 unfold mC at hy
 rw [List.mem_flatMap] at hy
 obtain⟨p,_,hy⟩:=hy
 simp at hy
 rcases hy with rfl | rfl<;>trivial
theorem eMs_upto(n:Nat):∀l:List Mv,uptoL n (l.map eM)
 | []=>trivial
 | x::r=>⟨⟨trivial,trivial,trivial⟩,eMs_upto n r⟩
theorem seqStep_at(spare:Int){left:List Mv}(hne:left≠[]):∃(L2 ex:List Mv) (k:Nat) (x:Mv),L2.length=left.length∧L2[k]?=some x∧seqStep spare left=(L2.eraseIdx k,ex++[x]) ∧
  (idxM (freeQ left) left<0→k=0∧∃x0,left[0]?=some x0∧L2=left.map (breakQ x0.1 spare)∧ex=[(spare,x0.1)])∧(0≤idxM (freeQ left) left→idxM (freeQ left) left=(k:Int)∧L2=left∧ex=[]):=by
 match left,hne with
 | x0::r,_ =>
  by_cases h:idxM (freeQ (x0::r)) (x0::r)<0
  ·refine⟨(x0::r).map (breakQ x0.1 spare),[(spare,x0.1)],0,breakQ x0.1 spare x0,List.length_map _,rfl,?_,fun _=>⟨rfl,x0,rfl,rfl,rfl⟩,fun q=>by omega⟩
   unfold seqStep
   simp only
   rw [if_pos h]
   rfl
  rcases idxM_spec (freeQ (x0::r)) (x0::r) with⟨e,_⟩ | ⟨j,x,e,hj,_,_⟩
  ·omega
  refine⟨x0::r,[],j,x,rfl,hj,?_,fun q=>by omega,fun _=>⟨e,rfl,rfl⟩⟩
  unfold seqStep
  simp only
  rw [if_neg h,e,Int.toNat_natCast,hj]
  rfl
theorem seq_spec(l:List Mv)(spare:Int)(hne:l≠[])(hl:l.length≤2 ^ 30)(hpos:∀x∈l,0≤x.1∧0≤x.2)(hdis:∀(i j:Nat)(x y:Mv),i<j→l[i]?=some x→l[j]?=some y→x.1≠y.1)(hsp:∀x∈l,x.1≠spare∧x.2≠spare) :
  PCall Try.prog 25 [.lst 2 (l.map eM) .sh,aI spare] (.tup [.lst 2 ((seqM l spare).map eM) .sh,aI 0]):=by
 obtain⟨n,hn⟩:∃n,n=l.length:=⟨_,rfl⟩
 obtain⟨R,hR⟩:∃R,R=seqM l spare:=⟨_,rfl⟩
 rw [←hR]
 refine zf true 0 Try.func25 Try.ntmps25 ?_
 dsimp only [Tmp,TypeId,slotsOf]
 refine awp_nilsplit 0 rfl (fun e=>absurd (List.map_eq_nil_iff.1 e) hne) ?_
 simp -dsimp only [simprocAttr,↓vpre,zp]
 refine zh1 (za0 ?_)
 refine awp_len 0 rfl (fun hll=>?_)
 simp only [List.length_map] at hll
 refine zg2 ?_
 simp -dsimp only [simprocAttr,↓vpre,zp,←hn]
 refine za0 ?_
 refine awp_block (awp_loop (ι:={k:Nat // k≤n}) (fun k=>⟨99,[(0,.lst 2 (l.map eM) .nn),(1,aI spare),(13,.lst 2 (l.map eM) .nn),(14,aI n),(15,aI k.1)],[]⟩) (fun k=>n - k.1) ⟨0,by omega⟩ ?_ ?_)
 ·refine zq rfl ?_ ?_
  simp -dsimp only [simprocAttr,↓vpre,zp,zc]
  all_goals rfl
 rintro⟨k,hk⟩
 refine zh1 (za0 ?_)
 apply zk1 rfl<;>intro h
 ·refine zb0 ?_
  have hlt:k<n:=by simpa using h
  obtain⟨x,hx⟩:∃x,l[k]?=some x:=⟨l[k]'(by omega),List.getElem?_eq_getElem _⟩
  have hxm:=List.mem_of_getElem? hx
  obtain⟨p1,p2⟩:=hpos x hxm
  obtain⟨s1,s2⟩:=hsp x hxm
  have d1:decide (x.1<0)=false:=decide_eq_false (by omega)
  have d2:decide (x.2<0)=false:=decide_eq_false (by omega)
  have d3:decide (x.1=spare)=false:=decide_eq_false s1
  have d4:decide (x.2=spare)=false:=decide_eq_false s2
  have hup:∀o∈[AObj.cells [aI x.1,aI x.2]],o.upto [AObj.cells [aI x.1,aI x.2]].length:=fun o ho=>by
   rw [List.mem_singleton.1 ho]
   exact⟨trivial,trivial,trivial⟩
  have hany:(l.take k).any (fun y=>decide (y.1=x.1))=false:=by
   rw [List.any_eq_false]
   intro y hy
   obtain⟨i,hi⟩:=List.mem_iff_getElem?.1 hy
   have hik:=lt_of_getElem? hi
   rw [List.length_take] at hik
   rw [List.getElem?_take,if_pos (by omega)] at hi
   simpa using hdis i k y x (by omega) hi hx
  have hcl:=conL_spec (O:=[AObj.cells [aI x.1,aI x.2]]) 45 [.mp 0 0] (fun y=>decide (y.1=x.1)) (l.take k) fun y _=>q1_spec hup 0 x.1 x.2 rfl y
  rw [hany,List.map_take] at hcl
  refine awp_seq (awp_block ?_)
  refine zg1 ?_
  simp -dsimp only [simprocAttr,↓vpre,zp,hx]
  repeat(refine⟨by omega,?_⟩)
  refine za0 ?_
  refine awp_block ?_
  refine zg1 ?_
  simp -dsimp only [simprocAttr,↓vpre,zp,d1,d2]
  refine za0 ?_
  apply zk0 rfl<;>intro h
  ·cases h
  refine zg1 ?_
  simp -dsimp only [simprocAttr,↓vpre,zp,hll]
  repeat(refine⟨by omega,?_⟩)
  refine .inr (.inr ⟨_,hcl,later_intro (zj ?_)⟩)
  refine za0 ?_
  apply zk0 rfl<;>intro h
  ·cases h
  refine zg1 ?_
  simp -dsimp only [simprocAttr,↓vpre,zp,d3,d4]
  refine za0 ?_
  apply zk0 rfl<;>intro h
  ·cases h
  refine zb2 ?_
  refine awp_trunc' 0 [(0,.lst 2 (l.map eM) .nn),(1,aI spare),(13,.lst 2 (l.map eM) .nn),(14,aI n),(15,aI k)] (by omega) (by omega) [] ?_ ?_ ?_ ?_ ?_
  ·rfl
  ·simp
  ·simp [Says,St.get,putS,dropS,Go.Av.look,Sub.refl]
  ·simp [uptoL,AVal.upto,aI_upto,eMs_upto]
  refine zh0 ?_
  repeat(refine⟨by omega,?_⟩)
  refine zl0 ?_
  refine⟨⟨k+1,hlt⟩,by show n - (k+1)<n - k;omega,?_⟩
  refine zq rfl ?_ ?_
  simp -dsimp only [simprocAttr,↓vpre,zp,zc]
  ·exact Sub.int (by simp)
  rfl
 refine awp_exit ?_
 simp -dsimp only [vend,ne_eq,Nat.reduceEqDiff,reduceCtorEq]
 clear hk
 have hcl:=cloneM_spec (O:=[]) l hne (by omega)
 have hdf:=delF_spec (O:=[AObj.cells (mC l)]) (fun o ho=>by rw [List.mem_singleton.1 ho];exact mC_upto _ _) 0 l hne rfl (by omega)
 rw [←hn] at hcl hdf
 have hset0:[AObj.cells (mC l)].set 0 (.cells (mC (dropQ l)++List.replicate ((n - (dropQ l).length) * 2) (aI 0)))=[.cells (mC (dropQ l)++List.replicate ((n - (dropQ l).length) * 2) (aI 0))]:=rfl
 rw [hset0] at hdf
 have hdl:(dropQ l).length≤n:=by rw [hn];exact List.length_filter_le ..
 have hRn:R=seqRun spare n (dropQ l):=by rw [hR,hn];rfl
 generalize dropQ l=D at *
 have hJ0:∀y∈List.replicate ((n - D.length) * 2) (aI 0),y=aI 0:=fun y hy=>(List.mem_replicate.1 hy).2
 generalize List.replicate ((n - D.length) * 2) (aI 0)=J0 at *
 refine zh1 ?_
 refine .inr (.inl ⟨_,_,hcl,.inl (later_intro (zj ?_))⟩)
 refine .inr (.inl ⟨_,_,hdf,.inl (later_intro (zj ?_))⟩)
 refine za0 ?_
 refine zh1 (za0 ?_)
 refine awp_own 9 rfl ?_
 simp -dsimp only [simprocAttr,↓vpre,zp]
 show AWP Try.prog _ _ _ ⟨_,_,[.cells (mC D++J0),.cells [.ms 0 0 D.length n],.spare 0]⟩
 refine awp_seq (awp_block (awp_loop (ι:={X:List Mv×List AVal×List Mv×Nat // X.1.length≤n∧X.1.length≤X.2.2.2∧R=X.2.2.1++seqRun spare X.2.2.2 X.1∧X.2.2.1.length≤2 * (n - X.1.length)∧∀y∈X.2.1,y=aI 0}) (fun X=>⟨99,[(1,aI spare),(8,.mp 1 0),(9,.lst 2 (X.1.2.2.1.map eM) (.tok 2))],[.cells (mC X.1.1++X.1.2.1),.cells [.ms 0 0 X.1.1.length n],.spare X.1.2.2.1.length]⟩) (fun X=>X.1.1.length) ⟨(D,J0,[],n),hdl,hdl,hRn,by simp,hJ0⟩ ?_ ?_))
 ·refine zq rfl ?_ ?_
  simp -dsimp only [simprocAttr,↓vpre,zp,zc]
  all_goals rfl
 rintro⟨⟨left,J,out,fuel⟩,hln,hlf,hRe,hol,hJ⟩
 simp only at hln hlf hRe hol hJ
 obtain⟨m,hm⟩:∃m,m=left.length:=⟨_,rfl⟩
 have hup:∀o∈[AObj.cells (mC left++J),.cells [.ms 0 0 left.length n],.spare out.length],o.upto [AObj.cells (mC left++J),.cells [.ms 0 0 left.length n],.spare out.length].length:=fun o ho=>by
  simp only [List.mem_cons,List.not_mem_nil,or_false] at ho
  rcases ho with rfl | rfl | rfl
  ·show uptoL _ _
   rw [uptoL_iff]
   intro y hy
   rcases List.mem_append.1 hy with q | q
   ·exact uptoL_iff.1 (mC_upto _ _) y q
   rw [hJ y q]
   trivial
  ·exact⟨show 0<3 by omega,trivial⟩
  trivial
 refine zh2 (za0 ?_)
 apply zk0 rfl<;>intro h
 ·refine zb0 ?_
  have hm0:left≠[]:=fun e=>by rw [e] at h;simp at h
  have hmp:0<left.length:=List.length_pos_iff.2 hm0
  obtain⟨L2,ex,k,x,g1,g2,g3,g4,g5⟩:=seqStep_at spare hm0
  have hk2:=lt_of_getElem? g2
  rw [g1] at hk2
  have hix:=idxO_spec (O:=[AObj.cells (mC left++J),.cells [.ms 0 0 left.length n],.spare out.length]) 0 n J left rfl (by omega) 50 [.mp 1 0] (freeQ left) fun y _=>q3_spec hup 0 1 n J left y rfl rfl (by omega)
  obtain⟨ix,hxe⟩:∃ix,ix=idxM (freeQ left) left:=⟨_,rfl⟩
  rw [←hxe] at hix g4 g5
  refine awp_block ?_
  refine zh1 ?_
  refine .inr (.inr ⟨_,hix,later_intro (zj ?_)⟩)
  refine za0 ?_
  refine awp_mid (⟨99,[(1,aI spare),(8,.mp 1 0),(9,.lst 2 ((out++ex).map eM) (.tok 2)),(10,aI k)],[.cells (mC L2++J),.cells [.ms 0 0 left.length n],.spare (out++ex).length]⟩) ?_ ?_
  ·by_cases hneg:ix<0
   ·obtain⟨rfl,x0,hx0,rfl,rfl⟩:=g4 hneg
    have hdn:decide (ix<0)=true:=decide_eq_true hneg
    obtain⟨-,hc0,-⟩:=mC_at hx0 J
    have hCl:(mC left++J).length=left.length * 2+J.length:=by rw [List.length_append,mC_len]
    rw [Nat.zero_mul] at hc0
    refine zg1 ?_
    simp -dsimp only [simprocAttr,↓vpre,zp,hdn]
    refine za0 ?_
    apply zk0 rfl<;>intro h
    ·generalize hCe:mC left++J=C at *
     refine zg1 ?_
     simp -dsimp only [simprocAttr,↓vpre,zp,hc0,hCl]
     repeat(refine⟨by omega,?_⟩)
     refine za0 ?_
     refine zh1 ?_
     repeat(refine⟨by omega,?_⟩)
     refine za0 ?_
     have hmap:out.map eM++[.agg [aI spare,aI x0.1]]=(out++[(spare,x0.1)]).map eM:=by simp
     rw [hmap]
     have hol2:(out++[(spare,x0.1)]).length=out.length+1:=by simp
     rw [hol2]
     generalize out++[(spare,x0.1)]=out2 at *
     obtain⟨v,hv⟩:∃v,v=x0.1:=⟨_,rfl⟩
     rw [←hv]
     refine zh2 (za0 ?_)
     have hz0:mC (mixQ v spare left 0)=mC left:=by rw [mixQ_zero]
     have hbr:left.map (breakQ v spare)=mixQ v spare left left.length:=(mixQ_all ..).symm
     have hobj:[AObj.cells C,AObj.cells [AVal.ms 0 0 left.length n],AObj.spare (out.length+1)]=[.cells (mC (mixQ v spare left 0)++J),.cells [.ms 0 0 left.length n],.spare (out.length+1)]:=by rw [hz0,hCe]
     refine awp_block (awp_loop (ι:={j:Nat // j≤left.length}) (fun j=>⟨99,[(1,aI spare),(8,.mp 1 0),(9,.lst 2 (out2.map eM) (.tok 2)),(11,aI v),(69,aI left.length),(70,aI j.1)],[.cells (mC (mixQ v spare left j.1)++J),.cells [.ms 0 0 left.length n],.spare (out.length+1)]⟩) (fun j=>left.length - j.1) ⟨0,by omega⟩ ?_ ?_)
     ·refine zq rfl ?_ ?_
      simp -dsimp only [simprocAttr,↓vpre,zp,zc]
      all_goals exact hobj
     rintro⟨j,hj⟩
     refine zh1 (za0 ?_)
     apply zk1 rfl<;>intro h
     ·refine zb0 ?_
      have hlj:j<left.length:=by simpa using h
      obtain⟨y,hy⟩:∃y,left[j]?=some y:=⟨left[j]'(by omega),List.getElem?_eq_getElem _⟩
      have hy':=mixQ_at v spare hy
      obtain⟨-,-,hc1⟩:=mC_at hy' J
      have hCl:(mC (mixQ v spare left j)++J).length=left.length * 2+J.length:=by rw [List.length_append,mC_len,mixQ_len]
      have hms:=mC_set2 hy' spare J
      have hst:=mixQ_step v spare hy
      generalize hCf:mC (mixQ v spare left j)++J=C2 at *
      refine awp_seq (awp_block ?_)
      refine zh1 (za0 ?_)
      refine zg1 ?_
      simp -dsimp only [simprocAttr,↓vpre,zp,hc1,hCl]
      repeat(refine⟨by omega,?_⟩)
      refine za0 ?_
      apply zk0 rfl<;>intro h
      ·have hyv:y.2=v:=by simpa using h
       unfold breakQ at hst
       rw [if_pos hyv] at hst
       rw [hst] at hms
       refine zg0 ?_
       simp -dsimp only [simprocAttr,↓vpre,zp,hCl]
       repeat(refine⟨by omega,?_⟩)
       refine za0 ?_
       rw [hms]
       refine zh0 ?_
       repeat(refine⟨by omega,?_⟩)
       refine zl0 ?_
       refine⟨⟨j+1,hlj⟩,by show left.length - (j+1)<left.length - j;omega,?_⟩
       refine zq rfl ?_ ?_
       simp -dsimp only [simprocAttr,↓vpre,zp,zc]
       ·exact Sub.int (by simp)
       rfl
      refine zb1 ?_
      have hyv:¬y.2=v:=by simpa using h
      unfold breakQ at hst
      rw [if_neg hyv,setM_same hy'] at hst
      refine zh0 ?_
      repeat(refine⟨by omega,?_⟩)
      refine zl0 ?_
      refine⟨⟨j+1,hlj⟩,by show left.length - (j+1)<left.length - j;omega,?_⟩
      refine zq rfl ?_ ?_
      simp -dsimp only [simprocAttr,↓vpre,zp,zc]
      ·exact Sub.int (by simp)
      rw [←hCf,hst]
     refine awp_exit ?_
     simp -dsimp only [vend,ne_eq,Nat.reduceEqDiff,reduceCtorEq]
     have hjl:j=left.length:=by
      have:=of_decide_eq_false h
      omega
     subst hjl
     rw [←hbr]
     refine zh0 ?_
     refine at_intro ?_
     show Covers _ _
     refine zq rfl ?_ ?_
     simp -dsimp only [simprocAttr,↓vpre,zp,zc]
     rw [←hol2]
    cases h
   have hdn:decide (ix<0)=false:=decide_eq_false hneg
   obtain⟨hik,rfl,rfl⟩:=g5 (by omega)
   rw [List.append_nil]
   refine zg1 ?_
   simp -dsimp only [simprocAttr,↓vpre,zp,hdn]
   refine za0 ?_
   refine zu0 rfl ?_
   refine awp_skip ?_
   show Covers _ _
   refine zq rfl ?_ ?_
   simp -dsimp only [simprocAttr,↓vpre,zp,zc]
   ·exact Sub.of_eq (by rw [hik])
   rfl
  obtain⟨hat,-,-⟩:=mC_at g2 J
  have hCl:(mC L2++J).length=left.length * 2+J.length:=by rw [List.length_append,mC_len,g1]
  have hex:ex.length≤1:=by
   by_cases hneg:ix<0
   ·obtain⟨_,_,_,_,rfl⟩:=g4 hneg
    simp
   obtain⟨_,_,rfl⟩:=g5 (by omega)
   simp
  have hoe:(out++ex).length≤out.length+1:=by rw [List.length_append];omega
  generalize ho2:out++ex=o2 at *
  have hdel:=del_spec (O:=[AObj.cells (mC L2++J),.cells [.ms 0 0 left.length n],.spare (o2.length+1)]) 0 n J L2 k (by omega) (by omega) rfl (by omega) (by omega)
  rw [g1] at hdel
  have hset:([AObj.cells (mC L2++J),.cells [.ms 0 0 left.length n],.spare (o2.length+1)]:List AObj).set 0 (.cells (mC (L2.eraseIdx k)++(aI 0::aI 0::J)))=[.cells (mC (L2.eraseIdx k)++(aI 0::aI 0::J)),.cells [.ms 0 0 left.length n],.spare (o2.length+1)]:=rfl
  rw [hset] at hdel
  obtain⟨C,hC⟩:∃C,C=mC L2++J:=⟨_,rfl⟩
  rw [←hC] at hat hCl hdel
  rw [←hC]
  have hmap:o2.map eM++[.agg [aI x.1,aI x.2]]=(o2++[x]).map eM:=by simp
  refine zg1 ?_
  simp -dsimp only [simprocAttr,↓vpre,zp,hat,hCl]
  repeat(refine⟨by omega,?_⟩)
  refine za0 ?_
  rw [hmap]
  refine zh0 ?_
  repeat(refine⟨by omega,?_⟩)
  refine .inr (.inl ⟨_,_,hdel,.inl (later_intro (zj ?_))⟩)
  refine zl1 ?_
  have hel:(L2.eraseIdx k).length=left.length - 1:=by rw [List.length_eraseIdx,if_pos (by omega),g1]
  have hxl:(o2++[x]).length=o2.length+1:=by rw [List.length_append];rfl
  have hobj2:[AObj.cells (mC (L2.eraseIdx k)++aI 0::aI 0::J),AObj.cells [AVal.ms 0 0 (left.length - 1) n],AObj.spare (o2.length+1)]=[AObj.cells (mC (L2.eraseIdx k)++aI 0::aI 0::J),AObj.cells [AVal.ms 0 0 (L2.eraseIdx k).length n],AObj.spare (o2++[x]).length]:=by rw [hxl,hel]
  have hnx:R=o2++[x]++seqRun spare (fuel - 1) (L2.eraseIdx k):=by
   rw [hRe,show fuel=fuel - 1+1 by omega,seqRun,if_neg hm0,g3,←ho2]
   simp
  refine⟨⟨(L2.eraseIdx k,aI 0::aI 0::J,o2++[x],fuel - 1),by simp only;omega,by simp only;omega,hnx,by simp only;omega,fun y hy=>?_⟩,by show(L2.eraseIdx k).length<left.length;omega,?_⟩
  ·simp only [List.mem_cons] at hy
   rcases hy with q | q | q
   ·exact q
   ·exact q
   exact hJ y q
  refine zq rfl ?_ ?_
  simp -dsimp only [simprocAttr,↓vpre,zp,zc]
  exact hobj2
 refine awp_exit ?_
 simp -dsimp only [vend,ne_eq,Nat.reduceEqDiff,reduceCtorEq]
 have hl0:left=[]:=by
  have:=of_decide_eq_false h
  exact List.length_eq_zero_iff.1 (by omega)
 have hRo:R=out:=by
  rw [hRe,hl0]
  cases fuel<;>simp [seqRun]
 refine zh1 (za0 ?_)
 refine awp_ret ?_
 simp -dsimp only [simprocAttr,↓vpre,zp,zr,Try.results25]
 exact⟨⟨⟨eMs_upto _ _,trivial⟩,trivial,trivial⟩,by rw [hRo]⟩
def mvCycle(n i:Nat):List Mv:=(List.range n).map fun k=>(((i * n+k:Nat):Int),((i * n+(k+1) % n:Nat):Int))
def mvL(n c:Nat):List Mv:=(List.range c).flatMap (mvCycle n)++[(100,0),(101,101)]
def mvOK(n c:Nat):Bool:=(seqM (mvL n c) 200).length == c * (n+1)+1
theorem mv_ok:((List.range 5).all fun a=>(List.range 5).all fun c=>mvOK (a+2) c)=true:=by kernel_rfl
theorem mv_len{n c:Nat}(h1:2≤n)(h2:n<7)(h3:c<5):(seqM (mvL n c) 200).length=c * (n+1)+1:=by
 have h:=mv_ok
 rw [List.all_eq_true] at h
 have h:=h (n - 2) (List.mem_range.2 (by omega))
 rw [List.all_eq_true] at h
 have h:=h c (List.mem_range.2 h3)
 rw [show n - 2+2=n by omega] at h
 exact eq_of_beq h
def pairB:List Mv→Bool
 | []=>true
 | x::r=>r.all (fun y=>decide (x.1≠y.1))&&pairB r
theorem pairB_spec:∀{l:List Mv},pairB l=true→∀(i j:Nat) (x y:Mv),i<j→l[i]?=some x→l[j]?=some y→x.1≠y.1
 | [],_,i,j,x,y,_,h,_=>by simp at h
 | a::r,hb,i,j,x,y,hij,h1,h2=>by
  simp only [pairB,Bool.and_eq_true,List.all_eq_true,decide_eq_true_eq] at hb
  cases j with
  | zero=>omega
  | succ j =>
   rw [List.getElem?_cons_succ] at h2
   cases i with
   | zero =>
    simp only [List.getElem?_cons_zero,Option.some.injEq] at h1
    subst h1
    exact hb.1 y (List.mem_of_getElem? h2)
   | succ i=>exact pairB_spec hb.2 i j x y (by omega) (by simpa using h1) h2
def mvFit(n c:Nat):Bool:=pairB (mvL n c)&&(mvL n c).all fun x=>decide (0≤x.1∧0≤x.2∧x.1≠200∧x.2≠200)
theorem mv_fit_all:((List.range 5).all fun a=>(List.range 5).all fun c=>mvFit (a+2) c)=true:=by kernel_rfl
theorem mv_fit{n c:Nat}(h1:2≤n)(h2:n<7)(h3:c<5):(∀x∈mvL n c,0≤x.1∧0≤x.2)∧(∀(i j:Nat) (x y:Mv),i<j→(mvL n c)[i]?=some x→(mvL n c)[j]?=some y→x.1≠y.1)∧∀x∈mvL n c,x.1≠200∧x.2≠200:=by
 have h:=mv_fit_all
 rw [List.all_eq_true] at h
 have h:=h (n - 2) (List.mem_range.2 (by omega))
 rw [List.all_eq_true] at h
 have h:=h c (List.mem_range.2 h3)
 rw [show n - 2+2=n by omega] at h
 unfold mvFit at h
 rw [Bool.and_eq_true,List.all_eq_true] at h
 have hx:∀x∈mvL n c,0≤x.1∧0≤x.2∧x.1≠200∧x.2≠200:=fun x hx=>of_decide_eq_true (h.2 x hx)
 exact⟨fun x q=>⟨(hx x q).1,(hx x q).2.1⟩,pairB_spec h.1,fun x q=>(hx x q).2.2⟩
theorem mvL_len(n c:Nat):(mvL n c).length=c * n+2:=by
 unfold mvL
 rw [List.length_append]
 have:((List.range c).flatMap (mvCycle n)).length=c * n:=by
  induction c with
  | zero=>simp
  | succ c ih =>
   rw [List.range_succ,List.flatMap_append,List.length_append,ih,Nat.add_mul]
   simp [mvCycle]
 rw [this]
 rfl
def wthM(n m:Int):Int:=if n.tmod m<0 then n.tmod m+m else n.tmod m
theorem wth_range(n:Int){m:Int}(h:0<m):(-m<n.tmod m∧n.tmod m<m)∧0≤wthM n m∧wthM n m<m:=by
 have h1:=Int.tmod_lt_of_pos n h
 have h2:-m<n.tmod m:=by
  by_cases hn:0≤n
  ·have:=Int.tmod_nonneg m hn
   omega
  have h3:=Int.tmod_lt_of_pos (-n) h
  rw [Int.neg_tmod] at h3
  omega
 unfold wthM
 refine⟨⟨h2,h1⟩,?_,?_⟩<;>split<;>omega
theorem wth_spec(n m:Int)(h:0<m)(hm2:m≤2 ^ 47):PCall Try.prog 15 [aI n,aI m] (aI (wthM n m)):=by
 have hr:=(wth_range n h).1
 have h0:(m=0)=False:=eq_false (by omega)
 obtain⟨r,hre⟩:∃r,r=n.tmod m:=⟨_,rfl⟩
 unfold wthM
 rw [←hre] at hr ⊢
 by_cases hn:r<0
 ·have hd:decide (r<0)=true:=decide_eq_true hn
  rw [if_pos hn]
  refine zf true 0 Try.func15 Try.ntmps15 ?_
  dsimp only [Tmp,TypeId,slotsOf]
  refine zh1 (za0 ?_)
  refine zg2 ?_
  simp -dsimp only [simprocAttr,↓vpre,zp,h0,if_false,←hre]
  repeat(refine⟨by omega,?_⟩)
  refine za0 ?_
  refine zg1 ?_
  simp -dsimp only [simprocAttr,↓vpre,zp,hd]
  refine za0 ?_
  refine zw0 rfl ?_
  refine zh0 ?_
  repeat(refine⟨by omega,?_⟩)
  refine za0 ?_
  refine zh1 (za0 ?_)
  refine awp_ret ?_
  simp -dsimp only [simprocAttr,↓vpre,zp,zr,Try.results15]
 have hd:decide (r<0)=false:=decide_eq_false hn
 rw [if_neg hn]
 refine zf true 0 Try.func15 Try.ntmps15 ?_
 dsimp only [Tmp,TypeId,slotsOf]
 refine zh1 (za0 ?_)
 refine zg2 ?_
 simp -dsimp only [simprocAttr,↓vpre,zp,h0,if_false,←hre]
 repeat(refine⟨by omega,?_⟩)
 refine za0 ?_
 refine zg1 ?_
 simp -dsimp only [simprocAttr,↓vpre,zp,hd]
 refine za0 ?_
 refine zu0 rfl ?_
 refine zb0 ?_
 refine zh1 (za0 ?_)
 refine awp_ret ?_
 simp -dsimp only [simprocAttr,↓vpre,zp,zr,Try.results15]
theorem movesCopies_law(a:Int)(_:fitI a)(b:Int)(_:fitI b):PCall Try.prog 7 [aI a,aI b] (.v (.bool true)):=by
 have hwk:=works_spec
 have hwa:=wth_spec a 5 (by omega) (by omega)
 have hwb:=wth_spec b 5 (by omega) (by omega)
 obtain⟨_,a1,a2⟩:=wth_range a (m:=5) (by omega)
 obtain⟨_,b1,b2⟩:=wth_range b (m:=5) (by omega)
 obtain⟨n,hn⟩:∃n:Nat,(n:Int)=2+wthM a 5:=⟨(2+wthM a 5).toNat,by omega⟩
 obtain⟨c,hc⟩:∃c:Nat,(c:Int)=wthM b 5:=⟨(wthM b 5).toNat,by omega⟩
 have hn2:2≤n:=by omega
 have hn7:n<7:=by omega
 have hc5:c<5:=by omega
 obtain⟨f1,f2,f3⟩:=mv_fit hn2 hn7 hc5
 have hml:=mvL_len n c
 have hcn:c * n≤4 * 6:=Nat.mul_le_mul (by omega) (by omega)
 have hsq:=seq_spec (mvL n c) 200 (fun q=>by rw [q] at hml;simp at hml) (by omega) f1 f2 f3
 have hlen:=mv_len hn2 hn7 hc5
 rw [←hc] at hwb
 have hwa2:wthM a 5=(n:Int) - 2:=by omega
 rw [hwa2] at hwa
 refine zf true 0 Try.func7 Try.ntmps7 ?_
 dsimp only [Tmp,TypeId,slotsOf]
 refine zh1 (za0 ?_)
 refine zh1 ?_
 refine .inl ⟨_,hwa,by simp only [uptoL,AVal.upto,zt,zu,aI_upto,eMs_upto],later_intro ?_⟩
 simp -dsimp only [simprocAttr,↓vpre,zp]
 repeat(refine⟨by omega,?_⟩)
 refine .inl ⟨_,hwb,by simp only [uptoL,AVal.upto,zt,zu,aI_upto,eMs_upto],later_intro ?_⟩
 simp -dsimp only [simprocAttr,↓vpre,zp]
 refine za0 ?_
 refine zh2 ?_
 refine .inl ⟨_,hwk,by simp only [uptoL,AVal.upto,zt,zu,aI_upto,eMs_upto],later_intro ?_⟩
 simp -dsimp only [simprocAttr,↓vpre,zp]
 refine za0 ?_
 apply zk0 rfl<;>intro h
 ·cases h
 refine zb0 ?_
 refine zh1 (za0 ?_)
 refine awp_own 5 rfl ?_
 simp -dsimp only [simprocAttr,↓vpre,zp]
 show AWP Try.prog _ _ _ ⟨_,_,[.spare 0]⟩
 refine zh2 (za0 ?_)
 have hrow:∀i:Nat,(List.range (i+1)).flatMap (mvCycle n)=(List.range i).flatMap (mvCycle n)++mvCycle n i:=fun i=>by
  rw [List.range_succ,List.flatMap_append]
  simp
 have hcl:∀i:Nat,(mvCycle n i).length=n:=fun i=>by simp [mvCycle]
 have hrl:∀i:Nat,((List.range i).flatMap (mvCycle n)).length=i * n:=fun i=>by
  induction i with
  | zero=>simp
  | succ i ih=>rw [hrow,List.length_append,ih,hcl,Nat.add_mul,Nat.one_mul]
 refine awp_block (awp_loop (ι:={i:Nat // i≤c}) (fun i=>⟨66,[(0,aI n),(1,aI c),(4,.v (.bool false)),(5,.lst 2 (((List.range i.1).flatMap (mvCycle n)).map eM) (.tok 0)),(17,aI c),(18,aI i.1)],[.spare ((List.range i.1).flatMap (mvCycle n)).length]⟩) (fun i=>c - i.1) ⟨0,by omega⟩ ?_ ?_)
 ·refine zq rfl ?_ ?_
  simp -dsimp only [simprocAttr,↓vpre,zp,zc]
  ·exact⟨Sub.int (by omega),Sub.refl _⟩
  rfl
 rintro⟨i,hi⟩
 refine zh1 (za0 ?_)
 apply zk1 rfl<;>intro h
 ·refine zb0 ?_
  have hli:i<c:=by simpa using h
  have hin:i * n≤4 * 6:=Nat.mul_le_mul (by omega) (by omega)
  obtain⟨p,hp⟩:∃p,p=i * n:=⟨_,rfl⟩
  have hpi:(i:Int) * (n:Int)=(p:Int):=by rw [hp];simp
  obtain⟨B,hB⟩:∃B,B=(List.range i).flatMap (mvCycle n):=⟨_,rfl⟩
  have hBl:=hrl i
  rw [←hB,←hp] at hBl
  rw [←hB]
  refine awp_seq (awp_block ?_)
  refine zh1 (za0 ?_)
  refine zh1 (za0 ?_)
  have hob:[AObj.spare B.length]=[AObj.spare (B++(mvCycle n i).take 0).length]:=by simp
  have hsl:B.map eM=(B++(mvCycle n i).take 0).map eM:=by simp
  refine awp_block (awp_loop (ι:={k:Nat // k≤n}) (fun k=>⟨66,[(0,aI n),(1,aI c),(4,.v (.bool false)),(5,.lst 2 ((B++(mvCycle n i).take k.1).map eM) (.tok 0)),(17,aI c),(18,aI i),(6,aI i),(21,aI n),(22,aI k.1)],[.spare (B++(mvCycle n i).take k.1).length]⟩) (fun k=>n - k.1) ⟨0,by omega⟩ ?_ ?_)
  ·refine zq rfl ?_ ?_
   simp -dsimp only [simprocAttr,↓vpre,zp,zc]
   all_goals exact hob
  rintro⟨k,hk⟩
  refine zh1 (za0 ?_)
  apply zk1 rfl<;>intro h
  ·refine zb0 ?_
   have hlk:k<n:=by simpa using h
   have hf:mvCycle n i=(mvCycle n i).take k++(((p+k:Nat):Int),((p+(k+1) % n:Nat):Int))::(mvCycle n i).drop (k+1):=by
    have hk2:(mvCycle n i)[k]?=some (((p+k:Nat):Int),((p+(k+1) % n:Nat):Int)):=by
     unfold mvCycle
     rw [List.getElem?_map,List.getElem?_range hlk,hp]
     rfl
    rw [←drop_mv hk2,List.take_append_drop]
   have htk:(mvCycle n i).take (k+1)=(mvCycle n i).take k++[(((p+k:Nat):Int),((p+(k+1) % n:Nat):Int))]:=by
    rw [List.take_add_one]
    congr 1
    unfold mvCycle
    rw [List.getElem?_map,List.getElem?_range hlk,hp]
    rfl
   have hrl2:(B++(mvCycle n i).take k).length=p+k:=by
    rw [List.length_append,hBl,List.length_take,hcl,Nat.min_eq_left (by omega)]
   have hml2:(k+1) % n<n:=Nat.mod_lt _ (by omega)
   have hmod:((k:Int)+1).tmod (n:Int)=(((k+1) % n:Nat):Int):=by
    rw [←Int.natCast_succ]
    exact Int.ofNat_tmod _ _
   have hn0:((n:Int)=0)=False:=eq_false (by omega)
   have hmap:(B++(mvCycle n i).take k).map eM++[.agg [aI ((p:Int)+k),aI ((p:Int)+(((k+1) % n:Nat):Int))]]=(B++(mvCycle n i).take (k+1)).map eM:=by
    rw [htk]
    simp
   have hol:(B++(mvCycle n i).take (k+1)).length=(B++(mvCycle n i).take k).length+1:=by
    rw [htk]
    simp
    omega
   have hsum:B.length+((mvCycle n i).take k).length=p+k:=by rw [←hrl2,List.length_append]
   generalize (k+1) % n=q at *
   refine awp_seq (awp_block ?_)
   refine zh1 (za0 ?_)
   refine zg0 ?_
   simp -dsimp only [simprocAttr,↓vpre,zp,hpi,hmod,hn0]
   repeat(refine⟨by omega,?_⟩)
   refine za0 ?_
   rw [hmap]
   refine zh0 ?_
   repeat(refine⟨by omega,?_⟩)
   refine zl0 ?_
   refine⟨⟨k+1,hlk⟩,by show n - (k+1)<n - k;omega,?_⟩
   refine zq rfl ?_ ?_
   simp -dsimp only [simprocAttr,↓vpre,zp,zc]
   ·exact Sub.int (by simp)
   show [AObj.spare _]=[AObj.spare _]
   rw [hol,List.length_append]
  refine awp_exit ?_
  simp -dsimp only [vend,ne_eq,Nat.reduceEqDiff,reduceCtorEq]
  have hkn:k=n:=by
   have:=of_decide_eq_false h
   omega
  subst hkn
  rw [List.take_of_length_le (by rw [hcl];exact Nat.le_refl _),hB,←hrow]
  refine zh0 ?_
  repeat(refine⟨by omega,?_⟩)
  refine zl0 ?_
  refine⟨⟨i+1,hli⟩,by show c - (i+1)<c - i;omega,?_⟩
  refine zq rfl ?_ ?_
  simp -dsimp only [simprocAttr,↓vpre,zp,zc]
  ·exact Sub.int (by simp)
  show [AObj.spare _]=[AObj.spare _]
  rw [hrow,List.length_append]
 refine awp_exit ?_
 simp -dsimp only [vend,ne_eq,Nat.reduceEqDiff,reduceCtorEq]
 have hic:i=c:=by
  have:=of_decide_eq_false h
  omega
 subst hic
 have hmap:((List.range i).flatMap (mvCycle n)).map eM++[.agg [aI 100,aI 0],.agg [aI 101,aI 101]]=(mvL n i).map eM:=by
  unfold mvL
  simp
 have hrl2:=hrl i
 have hin:(i:Int) * ((n:Int)+1)=((i * (n+1):Nat):Int):=by simp
 have hb:i * (n+1)≤4 * 7:=Nat.mul_le_mul (by omega) (by omega)
 have hdl:((seqM (mvL n i) 200).length:Int)=((i * (n+1):Nat):Int)+1:=by rw [hlen];simp
 obtain⟨E,hE⟩:∃E,E=i * (n+1):=⟨_,rfl⟩
 rw [←hE] at hin hb hdl
 have hb2:((List.range i).flatMap (mvCycle n)).length≤24:=by
  rw [hrl2]
  exact Nat.mul_le_mul (by omega:i≤4) (by omega:n≤6)
 refine zh1 ?_
 repeat(refine⟨by omega,?_⟩)
 refine za0 ?_
 rw [hmap]
 generalize seqM (mvL n i) 200=out at *
 refine zh1 ?_
 refine .inl ⟨_,hsq,by simp only [uptoL,AVal.upto,zt,zu,aI_upto,eMs_upto],later_intro ?_⟩
 simp -dsimp only [simprocAttr,↓vpre,zp]
 refine za0 ?_
 refine zg1 ?_
 simp -dsimp only [simprocAttr,↓vpre,zp,hin,hdl,List.length_map]
 repeat(refine⟨by omega,?_⟩)
 refine za0 ?_
 refine awp_ret ?_
 simp -dsimp only [simprocAttr,↓vpre,zp,zr,Try.results7]
end Go.Proofs.Ytkhnjeblbiocaaa
