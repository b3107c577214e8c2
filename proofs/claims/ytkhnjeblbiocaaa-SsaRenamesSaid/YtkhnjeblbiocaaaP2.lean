/-
  Texts bound together by a program of mine: YtkhnjeblbiocaaaPws, YtkhnjeblbiocaaaPwi, YtkhnjeblbiocaaaT131, YtkhnjeblbiocaaaT123, YtkhnjeblbiocaaaT136, YtkhnjeblbiocaaaT145.
-/
import Derived.Test.YtkhnjeblbiocaaaP1
set_option linter.all false
set_option maxRecDepth 100000
set_option maxHeartbeats 4000000

namespace Go.Proofs.Ytkhnjeblbiocaaa
open Go.Av
theorem grp_one:∀l:List AVal,grp l.length 1 l=l
 | []=>rfl
 | x::r=>by
  rw [List.length_cons,grp,show(x::r).drop 1=r from rfl,grp_one r]
  rfl
theorem rwI_told(id:Nat)(l:List Int):(rwI id l).told=eIs l:=by
 have e:∀m:List Int,toldL (m.map fun x=>OC.val (aI x))=m.map aI:=fun m=>by
  rw [toldL_map,List.map_map]
  exact List.map_congr_left fun x _=>by show(OC.val (aI x)).told=_;rw [OC.told]
 unfold rwI rwT
 by_cases h:l.length=0
 ·rw [if_pos h,OC.told,List.length_eq_zero_iff.1 h]
  rfl
 have:=grp_one (l.map aI)
 rw [List.length_map] at this
 rw [if_neg h,OC.told,e,this]
theorem rwT_told(id sz n:Nat)(cs:List OC)(xs:List AVal)(h0:n=0→xs=[])(h:n≠0→grp n sz (toldL cs)=xs):(rwT id sz n cs).told=.lst sz xs .sh:=by
 unfold rwT
 by_cases hn:n=0
 ·rw [if_pos hn,OC.told,h0 hn]
 rw [if_neg hn,OC.told,h hn]
theorem toldL_app(cs ds:List OC):toldL (cs++ds)=toldL cs++toldL ds:=by
 rw [toldL_map,toldL_map,toldL_map,List.map_append]
theorem inssE_told:∀{ns:List Nat} {l:List Ins},ns.length=l.length→grp l.length 4 (toldL (inssE ns l))=l.map Ins.enc
 | [],[],_=>rfl
 | a::ns,i::l,h=>by
  have e:toldL (insE a i)=[aI i.to,aI i.op,aI i.n,eIs i.args]:=by
   unfold insE
   simp only [toldL,OC.told,rwI_told]
  rw [inssE,toldL_app,e,List.length_cons,grp]
  show elt [aI i.to,aI i.op,aI i.n,eIs i.args]::grp l.length 4 (toldL (inssE ns l))=_
  rw [inssE_told (by simpa using h)]
  rfl
theorem edgs_told:∀{ns:List Nat} {l:List Edge},ns.length=l.length→grp l.length 2 (toldL (edgsE ns l))=l.map Edge.enc
 | [],[],_=>rfl
 | a::ns,i::l,h=>by
  have e:toldL (edgE a i)=[aI i.block,eIs i.args]:=by
   unfold edgE
   simp only [toldL,OC.told,rwI_told]
  rw [edgsE,toldL_app,e,List.length_cons,grp]
  show elt [aI i.block,eIs i.args]::grp l.length 2 (toldL (edgsE ns l))=_
  rw [edgs_told (by simpa using h)]
  rfl
theorem blk_told{d:BI}{b:Block}(h:d.Ok b):toldL (blkE d b)=b.enc.cells:=by
 unfold blkE
 simp only [toldL,OC.told,rwI_told]
 rw [rwT_told d.i 4 _ _ (b.ins.map Ins.enc) (fun q=>by rw [List.length_eq_zero_iff.1 q];rfl) (fun _=>inssE_told h.ia),rwT_told d.t 2 _ _ (b.term.to.map Edge.enc) (fun q=>by rw [List.length_eq_zero_iff.1 q];rfl) (fun _=>edgs_told h.ta)]
 rfl
theorem blks_told:∀{ds:List BI} {l:List Block},ds.length=l.length→(∀(j:Nat) (d:BI) (b:Block),ds[j]?=some d→l[j]?=some b→d.Ok b)→grp l.length 7 (toldL (blksE ds l))=l.map Block.enc
 | [],[],_,_=>rfl
 | d::ds,b::l,h,ho=>by
  rw [blksE,toldL_app,blk_told (ho 0 d b rfl rfl),List.length_cons,grp]
  show elt [_,_,_,_,_,_,_]::grp l.length 7 (toldL (blksE ds l))=_
  rw [blks_told (by simpa using h) fun j d b h1 h2=>ho (j+1) d b h1 h2]
  rfl
theorem fun_told{g:FI}{f:Func}(h:g.Ok f):toldL (funE g f)=f.enc.cells:=by
 unfold funE
 simp only [toldL,OC.told]
 rw [rwT_told g.b 7 _ _ (f.blocks.map Block.enc) (fun q=>by rw [List.length_eq_zero_iff.1 q];rfl) (fun _=>blks_told h.len h.all)]
 rfl
theorem funs_told:∀{gs:List FI} {l:List Func},gs.length=l.length→(∀(j:Nat) (d:FI) (b:Func),gs[j]?=some d→l[j]?=some b→d.Ok b)→grp l.length 2 (toldL (funsE gs l))=l.map Func.enc
 | [],[],_,_=>rfl
 | d::ds,b::l,h,ho=>by
  rw [funsE,toldL_app,fun_told (ho 0 d b rfl rfl),List.length_cons,grp]
  show elt [_,_]::grp l.length 2 (toldL (funsE ds l))=_
  rw [funs_told (by simpa using h) fun j d b h1 h2=>ho (j+1) d b h1 h2]
  rfl
theorem unt_told(fid:Nat){gs:List FI}{u:Unt}(h:gs.length=u.fns.length)(ho:∀(j:Nat)(d:FI)(b:Func),gs[j]?=some d→u.fns[j]?=some b→d.Ok b):toldL (untE fid gs u)=[eFuncs u.fns,aI u.main]:=by
 unfold untE
 simp only [toldL,OC.told]
 rw [rwT_told fid 2 _ _ (u.fns.map Func.enc) (fun q=>by rw [List.length_eq_zero_iff.1 q];rfl) (fun _=>funs_told h ho)]
theorem val_fit(x:Int):(OC.val (aI x)).fit 0:=⟨trivial,rfl,trivial⟩
theorem inss_fit:∀{ns:List Nat} {l:List Ins},fitL 0 (inssE ns l)
 | [],_=>by rw [inssE.eq_def];trivial
 | _::_,[]=>trivial
 | a::ns,i::l=>fitL_app ⟨val_fit _,val_fit _,val_fit _,rwI_fit _ _ _,trivial⟩ inss_fit
theorem edgs_fit:∀{ns:List Nat} {l:List Edge},fitL 0 (edgsE ns l)
 | [],_=>by rw [edgsE.eq_def];trivial
 | _::_,[]=>trivial
 | a::ns,i::l=>fitL_app ⟨val_fit _,rwI_fit _ _ _,trivial⟩ edgs_fit
theorem blk_fit{d:BI}{b:Block}(h:d.Ok b):fitL 0 (blkE d b) :=
 ⟨rwI_fit _ _ _,rwT_fit (inssE_len h.ia) inss_fit,val_fit _,val_fit _,val_fit _,⟨trivial,rfl,⟨by rw [uptoL_iff];intro x hx;obtain⟨y,_,rfl⟩:=List.mem_map.1 hx;trivial,trivial⟩⟩,rwT_fit (edgsE_len h.ta) edgs_fit,trivial⟩
theorem blks_fit:∀{ds:List BI} {l:List Block},(∀(j:Nat) (d:BI) (b:Block),ds[j]?=some d→l[j]?=some b→d.Ok b)→fitL 0 (blksE ds l)
 | [],_,_=>by rw [blksE.eq_def];trivial
 | _::_,[],_=>trivial
 | d::ds,b::l,h=>fitL_app (blk_fit (h 0 d b rfl rfl)) (blks_fit fun j d b h1 h2=>h (j+1) d b h1 h2)
theorem funs_fit:∀{gs:List FI} {l:List Func},(∀(j:Nat) (d:FI) (b:Func),gs[j]?=some d→l[j]?=some b→d.Ok b)→fitL 0 (funsE gs l)
 | [],_,_=>by rw [funsE.eq_def];trivial
 | _::_,[],_=>trivial
 | g::gs,f::l,h=>fitL_app ⟨val_fit _,rwT_fit (blksE_len (h 0 g f rfl rfl).len) (blks_fit (h 0 g f rfl rfl).all),trivial⟩ (funs_fit fun j d b h1 h2=>h (j+1) d b h1 h2)
theorem unt_fit(fid:Nat){gs:List FI}{u:Unt}(h:gs.length=u.fns.length)(ho:∀(j:Nat)(d:FI)(b:Func),gs[j]?=some d→u.fns[j]?=some b→d.Ok b):fitL 0 (untE fid gs u) :=
 ⟨rwT_fit (funsE_len h) (funs_fit ho),val_fit _,trivial⟩
theorem BI.Ok.tr{d:BI}{b:Block}(h:d.Ok b)(s:Int→Int):d.Ok (trB s (fun k=>k) [] b) :=
 ⟨by rw [h.ia];show _=([]++b.ins.map (trI s)).length;simp,by rw [h.ta];show _=(b.term.to.map (trE s fun k=>k)).length;simp⟩
theorem FI.Ok.tr{g:FI}{f:Func}(h:g.Ok f)(s:Int→Int):g.Ok (renF s f):=by
 refine⟨by rw [h.len];show _=(f.blocks.map _).length;simp,fun j d b h1 h2=>?_⟩
 have h2:(f.blocks.map (trB s (fun k=>k) []))[j]?=some b:=h2
 rw [List.getElem?_map,Option.map_eq_some_iff] at h2
 obtain⟨b0,h3,rfl⟩:=h2
 exact(h.all j d b0 h1 h3).tr s
def setI(O:List AObj)(id:Nat)(l:List Int)(w:Int):List AObj:=if l=[] then O else O.set id (.cells ((l.map (shiftV w)).map aI))
section
variable {tb:Block→Block} {tf:Func→Func} {u:Unt} {k j:Nat} {f:Func} {b:Block} {g:FI} {d:BI} {gs:List FI} {fid:Nat} {w:Int} {O0 O:List AObj}
theorem ints_upto(n:Nat)(l:List Int):uptoL n (l.map aI):=by
 rw [uptoL_iff]
 intro x hx
 obtain⟨y,_,rfl⟩:=List.mem_map.1 hx
 trivial
theorem TrS.par{b1:Block}(h:TrS O0 O (ownL (untE fid gs (stU tf u k (stF tb f j b1)))))(hg:gs[k]?=some g)(hf:u.fns[k]?=some f)(hd:g.bs[j]?=some d)(hb:f.blocks[j]?=some b) :
  (b1.params≠[]→O[d.p]?=some (.cells (b1.params.map aI)))∧TrS O0 (setI O d.p b1.params w) (ownL (untE fid gs (stU tf u k (stF tb f j ⟨b1.params.map (shiftV w),b1.ins,b1.term⟩)))):=by
 by_cases hp:b1.params=[]
 ·refine⟨fun q=>absurd hp q,?_⟩
  unfold setI
  rw [if_pos hp]
  have e:(⟨b1.params.map (shiftV w),b1.ins,b1.term⟩:Block)=b1:=by
   cases b1
   simp only at hp
   subst hp
   rfl
  rw [e]
  exact h
 obtain⟨c1,c2⟩:=par_chg (d:=d) hp (m:=b1.params.map (shiftV w)) (List.length_map _)
 refine⟨fun _=>h.row hg hf hd hb (par_mem hp),?_⟩
 unfold setI
 rw [if_neg hp]
 exact h.put (st_chg hg hf hd hb c1 c2) (ints_upto _ _)
theorem TrS.iarg{b1:Block}(h:TrS O0 O (ownL (untE fid gs (stU tf u k (stF tb f j b1)))))(hg:gs[k]?=some g)(hf:u.fns[k]?=some f)(hd:g.bs[j]?=some d)(hb:f.blocks[j]?=some b){i a:Nat}{x:Ins}(ha:d.ia[i]?=some a)(hx:b1.ins[i]?=some x) :
  (x.args≠[]→O[a]?=some (.cells (x.args.map aI)))∧TrS O0 (setI O a x.args w) (ownL (untE fid gs (stU tf u k (stF tb f j ⟨b1.params,b1.ins.set i ⟨x.to,x.op,x.n,x.args.map (shiftV w)⟩,b1.term⟩)))):=by
 by_cases hp:x.args=[]
 ·refine⟨fun q=>absurd hp q,?_⟩
  unfold setI
  rw [if_pos hp]
  have e:(⟨x.to,x.op,x.n,x.args.map (shiftV w)⟩:Ins)=x:=by
   cases x
   simp only at hp
   subst hp
   rfl
  rw [e,setAt_same hx]
  exact h
 obtain⟨c1,c2⟩:=iarg_chg (d:=d) (y:=⟨x.to,x.op,x.n,x.args.map (shiftV w)⟩) ha hx rfl rfl rfl hp (List.length_map _)
 refine⟨fun _=>h.row hg hf hd hb (iarg_mem ha hx hp),?_⟩
 unfold setI
 rw [if_neg hp]
 exact h.put (st_chg hg hf hd hb c1 c2) (ints_upto _ _)
theorem TrS.earg{b1:Block}(h:TrS O0 O (ownL (untE fid gs (stU tf u k (stF tb f j b1)))))(hg:gs[k]?=some g)(hf:u.fns[k]?=some f)(hd:g.bs[j]?=some d)(hb:f.blocks[j]?=some b){i a:Nat}{x:Edge}(ha:d.ta[i]?=some a)(hx:b1.term.to[i]?=some x) :
  (x.args≠[]→O[a]?=some (.cells (x.args.map aI)))∧TrS O0 (setI O a x.args w) (ownL (untE fid gs (stU tf u k (stF tb f j ⟨b1.params,b1.ins,⟨b1.term.kind,b1.term.arg,b1.term.n,b1.term.cases,b1.term.to.set i ⟨x.block,x.args.map (shiftV w)⟩⟩⟩)))):=by
 by_cases hp:x.args=[]
 ·refine⟨fun q=>absurd hp q,?_⟩
  unfold setI
  rw [if_pos hp]
  have e:(⟨x.block,x.args.map (shiftV w)⟩:Edge)=x:=by
   cases x
   simp only at hp
   subst hp
   rfl
  rw [e,setAt_same hx]
  exact h
 obtain⟨c1,c2⟩:=earg_chg (d:=d) (y:=⟨x.block,x.args.map (shiftV w)⟩) ha hx rfl hp (List.length_map _)
 refine⟨fun _=>h.row hg hf hd hb (earg_mem ha hx hp),?_⟩
 unfold setI
 rw [if_neg hp]
 exact h.put (st_chg hg hf hd hb c1 c2) (ints_upto _ _)
theorem TrS.into{b1:Block}(h:TrS O0 O (ownL (untE fid gs (stU tf u k (stF tb f j b1)))))(hg:gs[k]?=some g)(hf:u.fns[k]?=some f)(hd:g.bs[j]?=some d)(hb:f.blocks[j]?=some b)(hia:d.ia.length=b1.ins.length){i a:Nat}{x:Ins}(ha:d.ia[i]?=some a)(hx:b1.ins[i]?=some x)(t:Int) :
  ∃I,O[d.i]?=some (.cells I)∧(I.drop (i * 4)).take 4=[aI x.to,aI x.op,aI x.n,(rwI a x.args).raw]∧I.length=b1.ins.length * 4∧TrS O0 (O.set d.i (.cells (I.set (i * 4) (aI t)))) (ownL (untE fid gs (stU tf u k (stF tb f j ⟨b1.params,b1.ins.set i ⟨t,x.op,x.n,x.args⟩,b1.term⟩)))):=by
 have hne:b1.ins≠[]:=fun q=>by rw [q] at hx;simp at hx
 have hO:=h.row hg hf hd hb (ins_mem (d:=d) hne)
 obtain⟨c1,c2⟩:=into_chg (d:=d) (y:=⟨t,x.op,x.n,x.args⟩) ha hx rfl rfl rfl
 refine⟨(inssE d.ia b1.ins).map OC.raw,hO,inss_at ha hx,by rw [List.length_map,inssE_len hia],h.put (st_chg hg hf hd hb c1 c2) ?_⟩
 have hu:uptoL O.length ((inssE d.ia b1.ins).map OC.raw):=h.up _ (List.mem_of_getElem? hO)
 rw [uptoL_iff] at hu ⊢
 intro y hy
 rcases List.mem_or_eq_of_mem_set hy with q | q
 ·exact hu y q
 rw [q]
 trivial
theorem TrS.term{b1:Block}(h:TrS O0 O (ownL (untE fid gs (stU tf u k (stF tb f j b1)))))(hg:gs[k]?=some g)(hf:u.fns[k]?=some f)(hd:g.bs[j]?=some d)(hb:f.blocks[j]?=some b)(hl:g.bs.length=f.blocks.length)(t:Int) :
  ∃C,O[g.b]?=some (.cells C)∧(C.drop (j * 7)).take 7=blkC d b1∧C.length=f.blocks.length * 7∧TrS O0 (O.set g.b (.cells (C.set (j * 7+3) (aI t)))) (ownL (untE fid gs (stU tf u k (stF tb f j ⟨b1.params,b1.ins,⟨b1.term.kind,t,b1.term.n,b1.term.cases,b1.term.to⟩⟩)))):=by
 obtain⟨hO,hC,hCl⟩:=h.blk hg hf hd hb hl
 obtain⟨c1,c2⟩:=arg_chg (d:=d) (b:=b1) t
 refine⟨_,hO,hC,hCl,h.put (st_arg hg hf hd hb c1 c2) ?_⟩
 have hu:uptoL O.length ((blksE g.bs (stF tb f j b1).blocks).map OC.raw):=h.up _ (List.mem_of_getElem? hO)
 rw [uptoL_iff] at hu ⊢
 intro y hy
 rcases List.mem_or_eq_of_mem_set hy with q | q
 ·exact hu y q
 rw [q]
 trivial
end
theorem drop_get{C D:List AVal}{p n:Nat}(h:(C.drop p).take n=D)(i:Nat)(hi:i<n):C[p+i]?=D[i]?:=by
 rw [←h,List.getElem?_take,if_pos hi,List.getElem?_drop]
theorem blk_cells{C:List AVal}{j:Nat}{d:BI}{b:Block}(h:(C.drop (j * 7)).take 7=blkC d b) :
  C[j * 7]?=some (rwI d.p b.params).raw∧C[j * 7+1]?=some (rwT d.i 4 b.ins.length []).raw∧C[j * 7+2]?=some (aI b.term.kind)∧C[j * 7+3]?=some (aI b.term.arg)∧C[j * 7+6]?=some (rwT d.t 2 b.term.to.length []).raw :=
 ⟨drop_get h 0 (by omega),drop_get h 1 (by omega),drop_get h 2 (by omega),drop_get h 3 (by omega),drop_get h 6 (by omega)⟩
theorem ins_cells{I:List AVal}{i a:Nat}{x:Ins}(h:(I.drop (i * 4)).take 4=[aI x.to,aI x.op,aI x.n,(rwI a x.args).raw]):I[i * 4]?=some (aI x.to)∧I[i * 4+3]?=some (rwI a x.args).raw :=
 ⟨drop_get h 0 (by omega),drop_get h 3 (by omega)⟩
theorem lenA_rwT(id sz n:Nat)(cs:List OC):lenA (rwT id sz n cs).raw=some n:=by
 unfold rwT
 split
 ·rename_i h
  rw [h]
  rfl
 rfl
theorem rwT_os{n:Nat}(h:n≠0)(id sz:Nat)(cs:List OC):(rwT id sz n cs).raw=.os id n sz:=by
 unfold rwT
 rw [if_neg h]
 rfl
theorem rwI_share(id:Nat)(l:List Int):(rwI id l).raw.shareCell=(rwI id l).raw:=by
 unfold rwI rwT
 split<;>rfl
theorem rwI_upto{id:Nat}{l:List Int}{n:Nat}(h:l≠[]→id<n):(rwI id l).raw.upto n:=by
 unfold rwI rwT
 split
 ·exact⟨trivial,trivial⟩
 rename_i q
 exact h fun e=>q (by rw [e];rfl)
end Go.Proofs.Ytkhnjeblbiocaaa
namespace Go.Proofs.Ytkhnjeblbiocaaa
open Go.Av


theorem sm_w{f:Func}(hfit:f.fit)(hc:checkFuncM f=0):SmW f:=by
 have hw:=checkFunc_ok hfit hc
 have hg:=hw.gr
 have hpar:∀b∈f.blocks,b.params.length≤4096:=fun b hb=>by
  have:=(hw.blk b hb).few
  omega
 exact {
  few:=hw.few
  params:=hpar
  ins:=hw.ins
  iargs:=fun b hb i hi=>(form_ok ((hw.blk b hb).forms i hi)).len
  cases:=fun b hb=>(end_ok (hw.blk b hb).fin).cases
  to:=fun b hb=>hg.to b hb
  eargs:=fun b hb e he=>by
   have h1:=(end_ok (hw.blk b hb).fin).edges e he
   rw [h1.2]
   have hr:=hg.edges b hb e he
   have hx:f.blocks[e.block.toNat]?=some (f.blocks[e.block.toNat]'(by omega)):=List.getElem?_eq_getElem _
   have:blkOf f e.block=f.blocks[e.block.toNat]'(by omega):=by simp [blkOf,hx]
   rw [this]
   exact hpar _ (List.getElem_mem _) }

theorem shift_row(O:List AObj)(id:Nat)(l:List Int)(n0 w:Int)(hw:w=wthM n0 4096)(hO:l≠[]→O[id]?=some (.cells (l.map aI)))(hl:l.length≤2 ^ 40)(hr:∀v∈l,0≤v∧v≤4095) :
  ECall Try.prog 14 O [(rwI id l).raw,.ip none [aI n0]] fun r O1=>r=.tup []∧O1=setI O id l w:=by
 by_cases h:l=[]
 ·subst h
  have:=(shift_nil n0).use ⟨⟨trivial,trivial⟩,⟨⟨trivial,trivial⟩,trivial⟩⟩ O
  unfold setI
  rw [if_pos rfl]
  exact this
 have:=shift_os O id l n0 w hw (hO h) hl hr
 unfold setI rwI rwT
 rw [if_neg h,if_neg (fun q=>h (List.length_eq_zero_iff.1 q))]
 exact this
theorem untT_fit(k:Nat)(u:Unt):fitL k (untT u):=by
 have e:∀l:List Func,fitL k (l.flatMap funT):=fun l=>by
  induction l with
  | nil=>trivial
  | cons f r ih=>exact fitL_app (funT_fit k f) ih
 exact⟨rwT_fit (funT_len _) (e _),⟨trivial,rfl,trivial⟩,trivial⟩
theorem par_val{f:Func}{b:Block}(hb:b∈f.blocks){v:Int}(hv:v∈b.params):v∈valsF f:=by
 unfold valsF
 exact List.mem_flatMap.2 ⟨b,hb,List.mem_append_left _ hv⟩
theorem into_val{f:Func}{b:Block}(hb:b∈f.blocks){x:Ins}(hx:x∈b.ins):x.to∈valsF f:=by
 unfold valsF
 exact List.mem_flatMap.2 ⟨b,hb,List.mem_append_right _ (List.mem_map.2 ⟨x,hx,rfl⟩)⟩
theorem take_three{O:List AObj}(h:∀i,i<3→O[i]?=some .gone):O.take 3=[.gone,.gone,.gone]:=by
 have h0:=h 0 (by omega)
 have h1:=h 1 (by omega)
 have h2:=h 2 (by omega)
 match O,h0,h1,h2 with
 | [],h0,_,_=>simp at h0
 | [a],_,h1,_=>simp at h1
 | [a,b],_,_,h2=>simp at h2
 | a::b::c::r,h0,h1,h2 =>
  simp only [List.getElem?_cons_zero,List.getElem?_cons_succ,Option.some.injEq] at h0 h1 h2
  subst h0 h1 h2
  rfl
theorem ssaRenames_law(u:Unt)(hfit:u.fit)(n0:Int)(_:fitI n0):PCall Try.prog 3 [u.enc,aI n0] (.v (.bool true)):=by
 have hwk:=works_spec
 have hrun:=run_spec u hfit 2000
 by_cases he:(runM u 2000).e=0
 ·have hc:checkM u=0:=Classical.byContradiction fun q=>by
   unfold runM at he
   rw [if_pos q] at he
   exact q he
  obtain⟨w,hw⟩:∃w,w=wthM n0 4096:=⟨_,rfl⟩
  obtain⟨_,w1,w2⟩:=wth_range n0 (m:=4096) (by omega)
  rw [←hw] at w1 w2
  obtain⟨k1,k2,k3,k4,k5,k6⟩:=check_parts hc
  have hW:=check_ok hfit hc
  have hfit':=renU_fit hfit hc w
  have hc':=renU_check hfit hc ⟨w1,w2⟩
  have hrun2:=run_spec _ hfit' 2000
  have hne:u.fns≠[]:=fun q=>k1 (by rw [q];rfl)
  have hA:runM u 2000=performM u 2000:=by
   unfold runM
   rw [if_neg (by simp [hc]),if_neg (by decide)]
  have hA':runM (renU (shiftV w) u) 2000=runM u 2000:=by
   rw [hA]
   rw [hA] at he
   rw [←renU_law hfit hc ⟨w1,w2⟩ (F:=2000) (by omega) he]
   unfold runM
   rw [if_neg (by simp [hc']),if_neg (by decide)]
  rw [hA'] at hrun2
  have hvals:∀f∈u.fns,FnV f:=fun f hf=>checkFunc_v (hfit.2.2 f hf) (k4 f hf)
  have hsm:∀f∈u.fns,SmW f:=fun f hf=>sm_w (hfit.2.2 f hf) (k4 f hf)
  have hcu0:=copyU_tree u hne k2 fun f hf=>⟨hsm f hf,(hW.fns f hf).ne⟩
  have hcu:=ecall_tree (O:=[AObj.gone,.gone,.gone]) (untT_fit 3 u) (fun o ho=>by simp at ho;subst ho;trivial) hcu0
  have hl3:labL ([AObj.gone,.gone,.gone]:List AObj).length (untT u)=labL 3 (untT u):=rfl
  rw [hl3] at hcu
  have hnd3:((ownL (labL 3 (untT u))).map Prod.fst).Nodup:=by
   rw [labL_ids]
   exact List.nodup_range'
  have htr3:TrO ([AObj.gone,.gone,.gone]++objL (labL 3 (untT u))) 3 (labL 3 (untT u)):=objL_tr (O:=[AObj.gone,.gone,.gone])
  obtain⟨fid,gs,hE,hgl,hok⟩:=unt_inv hne (cs:=labL 3 (untT u)) (labL_labL 0 3 _)
  rw [hE] at hcu htr3
  have hfitE:=unt_fit fid hgl hok
  obtain⟨N,hN⟩:∃N,N=u.fns.length:=⟨_,rfl⟩
  have hraw:(untE fid gs u).map OC.raw=[.os fid N 2,aI u.main]:=by
   unfold untE rwT
   rw [if_neg k1,←hN]
   rfl
  rw [hraw] at hcu
  generalize runM u 2000=A at *
  obtain⟨out,fin,val,n,e⟩:=A
  simp only at he
  subst he
  unfold Ans.enc at hrun hrun2
  simp only at hrun hrun2
  have hUe:u.enc=.agg [eFuncs u.fns,aI u.main]:=rfl
  have hVe:(renU (shiftV w) u).enc=.agg [eFuncs (u.fns.map (renF (shiftV w))),aI u.main]:=rfl
  rw [hUe] at hrun hcu ⊢
  rw [hVe] at hrun2
  have hsr:=sameResult_spec out out fin fin val val
  unfold eRes at hsr
  simp only [decide_true,Bool.and_self] at hsr
  refine zf true 0 Try.func3 Try.ntmps3 ?_
  dsimp only [Tmp,TypeId,slotsOf]
  refine zh1 (za0 ?_)
  refine awp_freeze1 2 0 (.ip none [eFuncs u.fns,aI u.main]) rfl (by simp [AObj.isSpare]) trivial rfl ?_ ?_
  rotate_left
  simp -dsimp only [simprocAttr,↓vpre,zp]
  rotate_left
  ·exact FSub.mp rfl rfl
  refine awp_freeze1 3 1 (.ip none [aI n0]) rfl (by simp [AObj.isSpare]) trivial rfl ?_ ?_
  rotate_left
  simp -dsimp only [simprocAttr,↓vpre,zp]
  rotate_left
  ·exact FSub.mp rfl rfl
  refine zh2 ?_
  refine zi hwk ?_
  refine za0 ?_
  apply zk0 rfl<;>intro h
  ·cases h
  refine zb0 ?_
  refine zh1 ?_
  refine zi hrun ?_
  refine za0 ?_
  refine awp_freeze1 5 2 (.ip none [.lst 1 (out.map aI) .sh,aI fin,aI val]) rfl (by simp [AObj.isSpare]) trivial rfl ?_ ?_
  rotate_left
  simp -dsimp only [simprocAttr,↓vpre,zp]
  rotate_left
  ·exact FSub.mp rfl rfl
  refine zh2 (za0 ?_)
  apply zk0 rfl<;>intro h
  ·cases h
  refine zb0 ?_
  refine zh1 ?_
  refine .inr (.inl ⟨_,_,hcu,.inl (later_intro ?_)⟩)
  have hup1:∀o∈[AObj.gone,.gone,.gone]++objL (untE fid gs u),o.upto ([AObj.gone,.gone,.gone]++objL (untE fid gs u)).length:=fun o ho=>by
   rcases List.mem_append.1 ho with q | q
   ·simp at q
    subst q
    trivial
   unfold objL at q
   obtain⟨p,hp,rfl⟩:=List.mem_map.1 q
   exact ownL_upto hfitE (fun x hx=>htr3.lt x hx) p hp
  have hlow:∀i,i<3→([AObj.gone,.gone,.gone]++objL (untE fid gs u))[i]?=some .gone:=fun i hi=>by
   match i,hi with
   | 0,_=>rfl
   | 1,_=>rfl
   | 2,_=>rfl
  generalize [AObj.gone,.gone,.gone]++objL (untE fid gs u)=O1 at *
  simp -dsimp only [simprocAttr,↓vpre,zp]
  refine za0 ?_
  obtain⟨V,hV⟩:∃V,V=O1.length:=⟨_,rfl⟩
  have hV3:3≤V:=by
   have:=lt_of_getElem? (hlow 2 (by omega))
   omega
  have hVlt:=fun p (hp:p∈ownL (untE fid gs u))=>htr3.lt p hp
  obtain⟨O0,hO0⟩:∃O0,O0=O1++[AObj.cells [.os fid N 2,aI u.main]]:=⟨_,rfl⟩
  have h0l:O0.length=V+1:=by rw [hO0,List.length_append,hV];rfl
  have h0V:O0[V]?=some (.cells [.os fid N 2,aI u.main]):=by rw [hO0,hV];exact snoc_get _ _
  have h0k:∀i,i<V→O0[i]?=O1[i]?:=fun i hi=>by rw [hO0];exact List.getElem?_append_left (by omega)
  have hfidV:fid<V:=by
   rw [hV]
   refine hVlt (fid,(funsE gs u.fns).map OC.raw) ?_
   rw [untE_own fid gs hne]
   exact List.mem_cons_self
  have hS0:TrS O0 O0 (ownL (untE fid gs ⟨mixL (renF (shiftV w)) u.fns 0,u.main⟩)):=by
   rw [mixL_zero]
   refine⟨rfl,fun o ho=>?_,fun p hp=>?_,by rw [←hE];exact hnd3,fun _ _=>rfl,fun i hi=>by obtain⟨p,hp,rfl⟩:=List.mem_map.1 hi;have:=hVlt p hp;have:=htr3.lo p hp;omega⟩
   ·rw [h0l]
    rw [hO0] at ho
    rcases List.mem_append.1 ho with q | q
    ·exact AObj.upto_mono (by omega) (hup1 o q)
    rw [List.mem_singleton.1 q]
    exact⟨show fid<V+1 by omega,trivial,trivial⟩
   rw [h0k _ (by have:=hVlt p hp;omega)]
   exact htr3.owns p hp
  show AWP Try.prog _ _ _ ⟨_,_,O1++[AObj.cells [.os fid N 2,aI u.main]]⟩
  rw [←hO0,←hV]
  clear hO0 hnd3 htr3
  refine zh1 (za0 ?_)
  refine zg2 ?_
  simp -dsimp only [simprocAttr,↓vpre,zp,h0V]
  refine za0 ?_
  refine awp_block (awp_loop (ι:={X:Nat×List AObj // X.1≤N∧TrS O0 X.2 (ownL (untE fid gs ⟨mixL (renF (shiftV w)) u.fns X.1,u.main⟩))}) (fun X=>⟨164,[(5,.ip none [.lst 1 (out.map aI) .sh,aI fin,aI val]),(6,aI n),(8,.mp V 0),(9,.fn (.func 14) [] [.ip none [aI n0]]),(36,.os fid N 2),(37,aI N),(38,aI X.1.1)],X.1.2⟩) (fun X=>N - X.1.1) ⟨(0,O0),by simp,hS0⟩ ?_ ?_)
  ·refine zq rfl ?_ ?_
   simp -dsimp only [simprocAttr,↓vpre,zp,zc]
   all_goals rfl
  rintro⟨⟨k,O⟩,hk,hS⟩
  simp only at hk hS
  refine zh1 (za0 ?_)
  apply zk1 rfl<;>intro h
  ·refine zb0 ?_
   have hlt:k<N:=by simpa using h
   obtain⟨f,hf⟩:∃f,u.fns[k]?=some f:=⟨u.fns[k]'(by omega),List.getElem?_eq_getElem _⟩
   obtain⟨g,hg⟩:∃g,gs[k]?=some g:=⟨gs[k]'(by omega),List.getElem?_eq_getElem _⟩
   have hfm:=List.mem_of_getElem? hf
   have hokf:=hok k g f hg hf
   have hFn:=hW.fns f hfm
   have hv:=hvals f hfm
   have hSm:=hsm f hfm
   have hwrap:(⟨mixL (renF (shiftV w)) u.fns k,u.main⟩:Unt)=stU (renF (shiftV w)) u k f:=by
    unfold stU
    rw [setAt_same (mixL_at _ hf)]
   rw [hwrap] at hS
   obtain⟨hF,hF2,hFl⟩:=hS.fun hg hf hFn.ne hgl
   have hSl:=hS.len
   have hSu:=hS.up
   obtain⟨nb,hnb⟩:∃m,m=f.blocks.length:=⟨_,rfl⟩
   have hnb2:nb≤128:=by have:=hSm.few;omega
   have hgbl:g.b<O.length:=by
    have:=hS.low g.b (List.mem_map.2 ⟨(g.b,_),by rw [untE_own fid gs (stU_ne hf _)];exact List.mem_cons_of_mem _ (funs_mem hg (stU_at hf _) (by rw [funE_own g _ hFn.ne];exact List.mem_cons_self)),rfl⟩)
    omega
   rw [←hnb] at hF2
   rw [←hN] at hFl
   generalize (funsE gs (stU (renF (shiftV w)) u k f).fns).map OC.raw=F at *
   refine awp_seq (awp_block ?_)
   refine zg1 ?_
   simp -dsimp only [simprocAttr,↓vpre,zp,hF,hF2,hFl]
   repeat(refine⟨by omega,?_⟩)
   refine za0 ?_
   refine awp_local 11 ([aI f.name,.os g.b nb 7]) [(5,.ip none [.lst 1 (out.map aI) .sh,aI fin,aI val]),(6,aI n),(8,.mp V 0),(9,.fn (.func 14) [] [.ip none [aI n0]]),(36,.os fid N 2),(37,aI N),(38,aI k),(11,.ip none [aI f.name,.os g.b nb 7])] (by simp [putS,dropS,Go.Av.look]) (by rfl) (by omega) (by simp [putS,dropS,Go.Av.look]) ?_ ?_ ?_
   ·exact hSu
   ·simp [AVal.upto,uptoL,aI_upto]
    omega
   refine zh1 (za0 ?_)
   have hS1:TrS O0 O (ownL (untE fid gs (stU (renF (shiftV w)) u k ⟨f.name,mixL (trB (shiftV w) (fun k=>k) []) f.blocks 0⟩))):=by
    rw [mixL_zero]
    exact hS
   clear hF hF2 hFl hS
   refine awp_block (awp_loop (ι:={X:Nat×List AObj // X.1≤nb∧TrS O0 X.2 (ownL (untE fid gs (stU (renF (shiftV w)) u k ⟨f.name,mixL (trB (shiftV w) (fun k=>k) []) f.blocks X.1⟩)))}) (fun X=>⟨164,[(5,.ip none [.lst 1 (out.map aI) .sh,aI fin,aI val]),(6,aI n),(8,.mp V 0),(9,.fn (.func 14) [] [.ip none [aI n0]]),(36,.os fid N 2),(37,aI N),(38,aI k),(11,.ip none [aI f.name,.os g.b nb 7]),(44,aI nb),(45,aI X.1.1)],X.1.2⟩) (fun X=>nb - X.1.1) ⟨(0,O),by simp,hS1⟩ ?_ ?_)
   ·refine zq rfl ?_ ?_
    simp -dsimp only [simprocAttr,↓vpre,zp,zc]
    all_goals rfl
   rintro⟨⟨j,O⟩,hj,hS⟩
   simp only at hj hS
   refine zh1 (za0 ?_)
   apply zk1 rfl<;>intro h
   ·refine zb0 ?_
    have hlj:j<nb:=by simpa using h
    obtain⟨b,hb⟩:∃b,f.blocks[j]?=some b:=⟨f.blocks[j]'(by omega),List.getElem?_eq_getElem _⟩
    obtain⟨d,hd⟩:∃d,g.bs[j]?=some d:=⟨g.bs[j]'(by rw [hokf.len];omega),List.getElem?_eq_getElem _⟩
    have hbm:=List.mem_of_getElem? hb
    have hdk:=hokf.all j d b hd hb
    have hwrap:(⟨f.name,mixL (trB (shiftV w) (fun k=>k) []) f.blocks j⟩:Func)=stF (trB (shiftV w) (fun k=>k) []) f j b:=by
     unfold stF
     rw [setAt_same (mixL_at _ hb)]
    rw [hwrap] at hS
    obtain⟨hC,hC7,hCl⟩:=hS.blk hg hf hd hb hokf.len
    obtain⟨c0,-,-,-,-⟩:=blk_cells hC7
    obtain⟨hp1,hp2⟩:=hS.par (w:=w) hg hf hd hb
    have hsh:=shift_row O d.p b.params n0 w hw hp1 (by have:=hSm.params b hbm;omega) (fun v hv'=>hv.vals v (par_val hbm hv'))
    rw [←hnb] at hCl
    generalize (blksE g.bs (stF (trB (shiftV w) (fun k=>k) []) f j b).blocks).map OC.raw=C at *
    refine awp_seq (awp_block ?_)
    refine zh1 (za0 ?_)
    refine zg1 ?_
    simp -dsimp only [simprocAttr,↓vpre,zp,hCl]
    repeat(refine⟨by omega,?_⟩)
    refine za0 ?_
    generalize (rwI d.p b.params).raw=pr at *
    refine zg1 ?_
    simp -dsimp only [simprocAttr,↓vpre,zp,hC,c0,hCl]
    repeat(refine⟨by omega,?_⟩)
    refine .inr (.inl ⟨_,_,hsh,.inl (later_intro (zj ?_))⟩)
    refine za0 ?_
    generalize setI O d.p b.params w=O2 at *
    clear hC hC7 hCl c0 hsh hp1 hS
    have hS2:TrS O0 O2 (ownL (untE fid gs (stU (renF (shiftV w)) u k (stF (trB (shiftV w) (fun k=>k) []) f j ⟨b.params.map (shiftV w),mixL (trI (shiftV w)) b.ins 0,b.term⟩)))):=by
     rw [mixL_zero]
     exact hp2
    obtain⟨hC,hC7,hCl⟩:=hS2.blk hg hf hd hb hokf.len
    obtain⟨-,c1,-,-,-⟩:=blk_cells hC7
    rw [←hnb] at hCl
    rw [mixL_len] at c1
    generalize (blksE g.bs (stF (trB (shiftV w) (fun k=>k) []) f j ⟨b.params.map (shiftV w),mixL (trI (shiftV w)) b.ins 0,b.term⟩).blocks).map OC.raw=C at *
    obtain⟨ni,hni⟩:∃m,m=b.ins.length:=⟨_,rfl⟩
    have hni2:ni≤1024:=by have:=hSm.ins b hbm;omega
    rw [←hni] at c1
    refine zg2 ?_
    simp -dsimp only [simprocAttr,↓vpre,zp,hC,c1,hCl,lenA_rwT]
    repeat(refine⟨by omega,?_⟩)
    refine za0 ?_
    clear hC hC7 hCl c1 hp2
    refine awp_block (awp_loop (ι:={X:Nat×List AObj // X.1≤ni∧TrS O0 X.2 (ownL (untE fid gs (stU (renF (shiftV w)) u k (stF (trB (shiftV w) (fun k=>k) []) f j ⟨b.params.map (shiftV w),mixL (trI (shiftV w)) b.ins X.1,b.term⟩))))}) (fun X=>⟨164,[(5,.ip none [.lst 1 (out.map aI) .sh,aI fin,aI val]),(6,aI n),(8,.mp V 0),(9,.fn (.func 14) [] [.ip none [aI n0]]),(36,.os fid N 2),(37,aI N),(38,aI k),(11,.ip none [aI f.name,.os g.b nb 7]),(44,aI nb),(45,aI j),(13,.mp g.b (j * 7)),(62,aI ni),(63,aI X.1.1)],X.1.2⟩) (fun X=>ni - X.1.1) ⟨(0,O2),by simp,hS2⟩ ?_ ?_)
    ·refine zq rfl ?_ ?_
     simp -dsimp only [simprocAttr,↓vpre,zp,zc]
     all_goals rfl
    rintro⟨⟨i,O⟩,hi,hS⟩
    simp only at hi hS
    refine zh1 (za0 ?_)
    apply zk1 rfl<;>intro h
    ·refine zb0 ?_
     have hli:i<ni:=by simpa using h
     obtain⟨x,hx⟩:∃x,b.ins[i]?=some x:=⟨b.ins[i]'(by omega),List.getElem?_eq_getElem _⟩
     obtain⟨a,ha⟩:∃a,d.ia[i]?=some a:=⟨d.ia[i]'(by rw [hdk.ia];omega),List.getElem?_eq_getElem _⟩
     have hxm:=List.mem_of_getElem? hx
     have hx':=mixL_at (trI (shiftV w)) hx
     obtain⟨hC,hC7,hCl⟩:=hS.blk hg hf hd hb hokf.len
     obtain⟨-,c1,-,-,-⟩:=blk_cells hC7
     simp only [mixL_len,←hni] at c1
     rw [rwT_os (by omega)] at c1
     rw [←hnb] at hCl
     generalize (blksE g.bs (stF (trB (shiftV w) (fun k=>k) []) f j ⟨b.params.map (shiftV w),mixL (trI (shiftV w)) b.ins i,b.term⟩).blocks).map OC.raw=C at *
     obtain⟨I,hI,hI4,hIl,hS3⟩:=hS.into hg hf hd hb (by simp only [mixL_len];exact hdk.ia) ha hx' (shiftV w x.to)
     obtain⟨i0,-⟩:=ins_cells hI4
     simp only [mixL_len,←hni] at hIl
     have hSl2:=hS.len
     have hSu2:=hS.up
     have hdil:=lt_of_getElem? hI
     obtain⟨M,hM⟩:∃M,M=O.length:=⟨_,rfl⟩
     have hx01:0≤x.to∧x.to≤4095:=hv.vals x.to (into_val hbm hxm)
     have hsx:=shift_os (O++[AObj.cells [aI x.to]]) M [x.to] n0 w hw (by rw [hM];exact snoc_get _ _) (by simp) (fun v hv'=>by rw [List.mem_singleton.1 hv'];exact hx01)
     have hset:(O++[AObj.cells [aI x.to]]).set M (.cells (([x.to].map (shiftV w)).map aI))=O++[AObj.cells [aI (shiftV w x.to)]]:=by rw [hM];exact snoc_set _ _ _
     rw [hset] at hsx
     refine awp_seq (awp_block ?_)
     refine zh1 (za0 ?_)
     refine awp_seq (awp_mid_op ⟨false,false⟩ hT 8 rfl rfl rfl (by simp) ?_)
     simp -dsimp only [simprocAttr,↓vpre,zp,hC,c1,hCl,hI,i0,hIl]
     refine⟨by omega,?_⟩
     refine midOp_os hT rfl rfl (by simp) rfl rfl rfl (by simp) rfl (by intro p hp;simp at hp;subst hp;trivial) rfl rfl (by intro x hx;simp at hx;subst hx;rfl) (by simp) (by simp) ?_
     simp -dsimp only [simprocAttr,↓vpre,zp]
     refine za0 ?_
     show AWP Try.prog _ _ _ ⟨_,_,O++[.cells [aI x.to]]⟩
     refine zg1 ?_
     simp -dsimp only [simprocAttr,↓vpre,zp,←hM]
     refine .inr (.inl ⟨_,_,hsx,.inl (later_intro ?_)⟩)
     obtain⟨O2,hO2⟩:∃O2,O2=O++[AObj.cells [aI (shiftV w x.to)]]:=⟨_,rfl⟩
     rw [←hO2]
     have g1:O2[g.b]?=some (.cells C):=by rw [hO2];exact at_left hC
     have g2:O2[d.i]?=some (.cells I):=by rw [hO2];exact at_left hI
     have g3:O2[M]?=some (.cells [aI (shiftV w x.to)]):=by rw [hO2,hM];exact snoc_get _ _
     have g5:O2.length=M+1:=by rw [hO2,hM];simp
     have g4:(O2.set d.i (.cells (I.set (i * 4) (aI (shiftV w x.to))))).take M=O.set d.i (.cells (I.set (i * 4) (aI (shiftV w x.to)))):=by
      rw [hO2,List.set_append_left _ _ hdil,List.take_append_of_le_length (by rw [List.length_set];omega),List.take_of_length_le (by rw [List.length_set];omega)]
     simp -dsimp only [simprocAttr,↓vpre,zp]
     refine za0 ?_
     refine zg1 ?_
     simp -dsimp only [simprocAttr,↓vpre,zp,g1,g2,g3,c1,hCl,i0,hIl]
     repeat(refine⟨by omega,?_⟩)
     refine⟨ob (by kernel_rfl),?_⟩
     refine za0 ?_
     rw [splice_one _ (by omega)]
     have hup4:∀o∈O.set d.i (.cells (I.set (i * 4) (aI (shiftV w x.to)))),o.upto M:=fun o ho=>by
      have:=hS3.up o ho
      rw [List.length_set,←hM] at this
      exact this
     refine awp_trunc' M [(5,.ip none [.lst 1 (out.map aI) .sh,aI fin,aI val]),(6,aI n),(8,.mp V 0),(9,.fn (.func 14) [] [.ip none [aI n0]]),(36,.os fid N 2),(37,aI N),(38,aI k),(11,.ip none [aI f.name,.os g.b nb 7]),(44,aI nb),(45,aI j),(13,.mp g.b (j * 7)),(62,aI ni),(63,aI i),(14,aI i)] (by rw [List.length_set,g5];omega) (Nat.zero_le _) _ g4 hup4 ?_ ?_ ?_
     ·simp [Says,St.get,putS,dropS,Go.Av.look,Sub.refl]
     ·simp [uptoL,AVal.upto,aI_upto]
      omega
     generalize O.set d.i (.cells (I.set (i * 4) (aI (shiftV w x.to))))=O4 at *
     clear g1 g2 g3 g4 g5 hI hI4 i0 hIl hC hC7 c1 hCl hsx hset hO2 hdil
     have hx2:(mixL (trI (shiftV w)) b.ins i).set i ⟨shiftV w x.to,x.op,x.n,x.args⟩=(mixL (trI (shiftV w)) b.ins i).set i ⟨shiftV w x.to,x.op,x.n,x.args⟩:=rfl
     have hx3:((mixL (trI (shiftV w)) b.ins i).set i ⟨shiftV w x.to,x.op,x.n,x.args⟩)[i]?=some ⟨shiftV w x.to,x.op,x.n,x.args⟩:=List.getElem?_set_self (by rw [mixL_len];omega)
     obtain⟨hC,hC7,hCl⟩:=hS3.blk hg hf hd hb hokf.len
     obtain⟨-,c1,-,-,-⟩:=blk_cells hC7
     simp only [List.length_set,mixL_len,←hni] at c1
     rw [rwT_os (by omega)] at c1
     rw [←hnb] at hCl
     obtain⟨I,hI,hI4,hIl,-⟩:=hS3.into hg hf hd hb (by simp only [List.length_set,mixL_len];exact hdk.ia) ha hx3 0
     obtain⟨-,i3⟩:=ins_cells hI4
     simp only [List.length_set,mixL_len,←hni] at hIl
     obtain⟨hp1,hp2⟩:=hS3.iarg (w:=w) hg hf hd hb ha hx3
     have hsh:=shift_row O4 a x.args n0 w hw hp1 (by have:=hSm.iargs b hbm x hxm;omega) (fun v hv'=>hv.vals v (fine_val (hv.uses.ins j b hb i x hx v hv')))
     generalize (blksE g.bs (stF (trB (shiftV w) (fun k=>k) []) f j ⟨b.params.map (shiftV w),(mixL (trI (shiftV w)) b.ins i).set i ⟨shiftV w x.to,x.op,x.n,x.args⟩,b.term⟩).blocks).map OC.raw=C at *
     generalize (rwI a x.args).raw=pr at *
     refine zg0 ?_
     simp -dsimp only [simprocAttr,↓vpre,zp,hC,c1,hCl,hI,i3,hIl]
     repeat(refine⟨by omega,?_⟩)
     refine .inr (.inl ⟨_,_,hsh,.inl (later_intro (zj ?_))⟩)
     refine za0 ?_
     simp only [List.set_set] at hp2
     rw [show(⟨shiftV w x.to,x.op,x.n,x.args.map (shiftV w)⟩:Ins)=trI (shiftV w) x from rfl,mixL_step _ hx] at hp2
     generalize setI O4 a x.args w=O5 at *
     refine zh0 ?_
     repeat(refine⟨by omega,?_⟩)
     refine zl0 ?_
     refine⟨⟨(i+1,O5),hli,hp2⟩,by show ni - (i+1)<ni - i;omega,?_⟩
     refine zq rfl ?_ ?_
     simp -dsimp only [simprocAttr,↓vpre,zp,zc]
     ·exact Sub.int (by simp)
     rfl
    refine awp_exit ?_
    simp -dsimp only [vend,ne_eq,Nat.reduceEqDiff,reduceCtorEq]
    have hin:i=ni:=by
     have:=of_decide_eq_false h
     omega
    subst hin
    rw [hni,mixL_all] at hS
    obtain⟨C,hC,hC7,hCl,hS4⟩:=hS.term hg hf hd hb hokf.len (shiftV w b.term.arg)
    obtain⟨-,-,c2,c3,-⟩:=blk_cells hC7
    simp only at c2 c3
    rw [←hnb] at hCl
    obtain⟨kd,hkd⟩:∃x,x=b.term.kind:=⟨_,rfl⟩
    rw [←hkd] at c2
    obtain⟨O3,hO3⟩:∃O3,O3=if kd=1∨kd=4 then O else O.set g.b (.cells (C.set (j * 7+3) (aI (shiftV w b.term.arg)))):=⟨_,rfl⟩
    obtain⟨X3,hX3⟩:∃X3,X3=if kd=1∨kd=4 then O else (O++[AObj.cells [aI (shiftV w b.term.arg)]]).set g.b (.cells (C.set (j * 7+3) (aI (shiftV w b.term.arg)))):=⟨_,rfl⟩
    obtain⟨M,hM⟩:∃M,M=O.length:=⟨_,rfl⟩
    have hgb2:=lt_of_getElem? hC
    refine awp_mid (⟨164,[(5,.ip none [.lst 1 (out.map aI) .sh,aI fin,aI val]),(6,aI n),(8,.mp V 0),(9,.fn (.func 14) [] [.ip none [aI n0]]),(36,.os fid N 2),(37,aI N),(38,aI k),(11,.ip none [aI f.name,.os g.b nb 7]),(44,aI nb),(45,aI j),(13,.mp g.b (j * 7))],X3⟩) ?_ ?_
    ·by_cases h1:kd=1
     ·rw [if_pos (.inl h1)] at hX3
      subst hX3
      rw [h1] at c2
      refine zg1 ?_
      simp -dsimp only [simprocAttr,↓vpre,zp,hC,c2,hCl]
      refine za0 ?_
      refine zu0 rfl ?_
      refine awp_skip ?_
      show Covers _ _
      refine zq rfl ?_ ?_
      simp -dsimp only [simprocAttr,↓vpre,zp,zc]
      rfl
     have d1:decide (kd=1)=false:=decide_eq_false h1
     by_cases h4:kd=4
     ·rw [if_pos (.inr h4)] at hX3
      subst hX3
      rw [h4] at c2 d1
      refine zg1 ?_
      simp -dsimp only [simprocAttr,↓vpre,zp,hC,c2,hCl]
      refine za0 ?_
      refine zu0 rfl ?_
      refine awp_skip ?_
      show Covers _ _
      refine zq rfl ?_ ?_
      simp -dsimp only [simprocAttr,↓vpre,zp,zc]
      rfl
     have d4:decide (kd=4)=false:=decide_eq_false h4
     rw [if_neg (fun q=>q.elim h1 h4)] at hX3
     refine zg1 ?_
     simp -dsimp only [simprocAttr,↓vpre,zp,hC,c2,hCl,d1,d4,h1,h4]
     refine za0 ?_
     refine zw0 rfl ?_
     have hx01:0≤b.term.arg∧b.term.arg≤4095:=hv.vals _ (fine_val (hv.uses.arg j b hb (by rw [←hkd];exact h1) (by rw [←hkd];exact h4)))
     generalize b.term.arg=ag at *
     have hsx:=shift_os (O++[AObj.cells [aI ag]]) M [ag] n0 w hw (by rw [hM];exact snoc_get _ _) (by simp) (fun v hv'=>by rw [List.mem_singleton.1 hv'];exact hx01)
     have hset:(O++[AObj.cells [aI ag]]).set M (.cells (([ag].map (shiftV w)).map aI))=O++[AObj.cells [aI (shiftV w ag)]]:=by rw [hM];exact snoc_set _ _ _
     rw [hset] at hsx
     refine awp_seq (awp_mid_op ⟨false,false⟩ hT 5 rfl rfl rfl (by simp) ?_)
     simp -dsimp only [simprocAttr,↓vpre,zp,hC,c3,hCl]
     refine midOp_os hT rfl rfl (by simp) rfl rfl rfl (by simp) rfl (by intro p hp;simp at hp;subst hp;trivial) rfl rfl (by intro x hx;simp at hx;subst hx;rfl) (by simp) (by simp) ?_
     simp -dsimp only [simprocAttr,↓vpre,zp]
     refine za0 ?_
     show AWP Try.prog _ _ _ ⟨_,_,O++[.cells [aI ag]]⟩
     refine zg1 ?_
     simp -dsimp only [simprocAttr,↓vpre,zp,←hM]
     refine .inr (.inl ⟨_,_,hsx,.inl (later_intro ?_)⟩)
     have g1:∀X,(O++X)[g.b]?=some (.cells C):=fun X=>at_left hC
     have g3:(O++[AObj.cells [aI (shiftV w ag)]])[M]?=some (.cells [aI (shiftV w ag)]):=by rw [hM];exact snoc_get _ _
     generalize hO2:O++[AObj.cells [aI (shiftV w ag)]]=O2 at *
     have g2:O2[g.b]?=some (.cells C):=by rw [←hO2];exact g1 _
     simp -dsimp only [simprocAttr,↓vpre,zp]
     refine za0 ?_
     refine zg0 ?_
     simp -dsimp only [simprocAttr,↓vpre,zp,g2,g3,c3,hCl]
     repeat(refine⟨by omega,?_⟩)
     refine at_intro ?_
     rw [splice_one _ (by omega)]
     show Covers _ _
     refine zq rfl ?_ ?_
     simp -dsimp only [simprocAttr,↓vpre,zp,zc]
     exact hX3.symm
    obtain⟨ag,hag⟩:∃ag,ag=if kd=1∨kd=4 then b.term.arg else shiftV w b.term.arg:=⟨_,rfl⟩
    have hS5:TrS O0 O3 (ownL (untE fid gs (stU (renF (shiftV w)) u k (stF (trB (shiftV w) (fun k=>k) []) f j ⟨b.params.map (shiftV w),b.ins.map (trI (shiftV w)),⟨b.term.kind,ag,b.term.n,b.term.cases,mixL (trE (shiftV w) fun k=>k) b.term.to 0⟩⟩)))):=by
     rw [mixL_zero,hO3,hag]
     by_cases hq:kd=1∨kd=4
     ·rw [if_pos hq,if_pos hq]
      exact hS
     rw [if_neg hq,if_neg hq]
     exact hS4
    have hX3l:M≤X3.length:=by
     rw [hX3]
     split
     ·omega
     rw [List.length_set,List.length_append]
     omega
    have hX3t:X3.take M=O3:=by
     rw [hX3,hO3]
     by_cases hq:kd=1∨kd=4
     ·rw [if_pos hq,if_pos hq,hM,List.take_of_length_le (Nat.le_refl _)]
     rw [if_neg hq,if_neg hq,List.set_append_left _ _ hgb2,List.take_append_of_le_length (by rw [List.length_set];omega),List.take_of_length_le (by rw [List.length_set];omega)]
    have hSl5:=hS5.len
    have hM0:M=O0.length:=by rw [hM,hS.len]
    refine awp_trunc' M [(5,.ip none [.lst 1 (out.map aI) .sh,aI fin,aI val]),(6,aI n),(8,.mp V 0),(9,.fn (.func 14) [] [.ip none [aI n0]]),(36,.os fid N 2),(37,aI N),(38,aI k),(11,.ip none [aI f.name,.os g.b nb 7]),(44,aI nb),(45,aI j),(13,.mp g.b (j * 7))] hX3l (Nat.zero_le _) _ hX3t (fun o ho=>by rw [hM0,←hSl5];exact hS5.up o ho) ?_ ?_ ?_
    ·simp [Says,St.get,putS,dropS,Go.Av.look,Sub.refl]
    ·simp [uptoL,AVal.upto,aI_upto]
     omega
    clear hX3t hX3l hX3 hO3 hS4 hC hC7 hCl c2 c3 hgb2
    obtain⟨hC,hC7,hCl⟩:=hS5.blk hg hf hd hb hokf.len
    obtain⟨-,-,-,-,c6⟩:=blk_cells hC7
    rw [←hnb] at hCl
    obtain⟨nt,hnt⟩:∃m,m=b.term.to.length:=⟨_,rfl⟩
    have hnt2:nt≤257:=by have:=hSm.to b hbm;omega
    simp only [mixL_len,←hnt] at c6
    generalize (blksE g.bs (stF (trB (shiftV w) (fun k=>k) []) f j ⟨b.params.map (shiftV w),b.ins.map (trI (shiftV w)),⟨b.term.kind,ag,b.term.n,b.term.cases,mixL (trE (shiftV w) fun k=>k) b.term.to 0⟩⟩).blocks).map OC.raw=C at *
    refine zg1 ?_
    simp -dsimp only [simprocAttr,↓vpre,zp,hC,c6,hCl,lenA_rwT]
    repeat(refine⟨by omega,?_⟩)
    refine za0 ?_
    clear hC hC7 hCl
    generalize htv:(rwT d.t 2 nt []).raw=tv at *
    refine awp_block (awp_loop (ι:={X:Nat×List AObj // X.1≤nt∧TrS O0 X.2 (ownL (untE fid gs (stU (renF (shiftV w)) u k (stF (trB (shiftV w) (fun k=>k) []) f j ⟨b.params.map (shiftV w),b.ins.map (trI (shiftV w)),⟨b.term.kind,ag,b.term.n,b.term.cases,mixL (trE (shiftV w) fun k=>k) b.term.to X.1⟩⟩))))}) (fun X=>⟨164,[(5,.ip none [.lst 1 (out.map aI) .sh,aI fin,aI val]),(6,aI n),(8,.mp V 0),(9,.fn (.func 14) [] [.ip none [aI n0]]),(36,.os fid N 2),(37,aI N),(38,aI k),(11,.ip none [aI f.name,.os g.b nb 7]),(44,aI nb),(45,aI j),(13,.mp g.b (j * 7)),(133,tv),(134,aI nt),(135,aI X.1.1)],X.1.2⟩) (fun X=>nt - X.1.1) ⟨(0,O3),by simp,hS5⟩ ?_ ?_)
    ·refine zq rfl ?_ ?_
     simp -dsimp only [simprocAttr,↓vpre,zp,zc]
     all_goals rfl
    rintro⟨⟨z,O⟩,hz,hS⟩
    simp only at hz hS
    refine zh1 (za0 ?_)
    apply zk1 rfl<;>intro h
    ·refine zb0 ?_
     have hlz:z<nt:=by simpa using h
     rw [rwT_os (by omega)] at htv
     subst htv
     obtain⟨x,hx⟩:∃x,b.term.to[z]?=some x:=⟨b.term.to[z]'(by omega),List.getElem?_eq_getElem _⟩
     obtain⟨a,ha⟩:∃a,d.ta[z]?=some a:=⟨d.ta[z]'(by rw [hdk.ta];omega),List.getElem?_eq_getElem _⟩
     have hxm:=List.mem_of_getElem? hx
     have hx':=mixL_at (trE (shiftV w) fun k=>k) hx
     have hE:=hS.row hg hf hd hb (to_mem (d:=d) (by simp only;intro q;rw [q] at hx';simp at hx'))
     have hE2:=edgs_at ha hx'
     have hEl:((edgsE d.ta (mixL (trE (shiftV w) fun k=>k) b.term.to z)).map OC.raw).length=nt * 2:=by rw [List.length_map,edgsE_len (by rw [mixL_len];exact hdk.ta),mixL_len,hnt]
     simp only at hE
     have hdtl:=lt_of_getElem? hE
     obtain⟨hp1,hp2⟩:=hS.earg (w:=w) hg hf hd hb ha hx'
     have hsh:=shift_row O a x.args n0 w hw hp1 (by have:=hSm.eargs b hbm x hxm;omega) (fun v hv'=>hv.vals v (fine_val (hv.uses.args j b hb x hxm v hv')))
     have hpsh:=rwI_share a x.args
     have hpu:(rwI a x.args).raw.upto O.length:=rwI_upto fun q=>lt_of_getElem? (hp1 q)
     generalize (edgsE d.ta (mixL (trE (shiftV w) fun k=>k) b.term.to z)).map OC.raw=E at *
     generalize (rwI a x.args).raw=pr at *
     have hOup:=hS.up
     have hOl:=hS.len
     refine awp_seq (awp_block ?_)
     refine zg1 ?_
     simp -dsimp only [simprocAttr,↓vpre,zp,hE,hE2,hEl]
     repeat(refine⟨by omega,?_⟩)
     refine za0 ?_
     refine awp_local 18 [aI x.block,pr] [(5,.ip none [.lst 1 (out.map aI) .sh,aI fin,aI val]),(6,aI n),(8,.mp V 0),(9,.fn (.func 14) [] [.ip none [aI n0]]),(36,.os fid N 2),(37,aI N),(38,aI k),(11,.ip none [aI f.name,.os g.b nb 7]),(44,aI nb),(45,aI j),(13,.mp g.b (j * 7)),(133,.os d.t nt 2),(134,aI nt),(135,aI z),(18,.ip none [aI x.block,pr])] (by simp [putS,dropS,Go.Av.look]) (by simp only [List.map_cons,List.map_nil,shareCell_v,hpsh]) (by omega) (by simp [putS,dropS,Go.Av.look]) hOup ?_ ?_
     ·simp [uptoL,AVal.upto,aI_upto,hpu]
      omega
     refine zh0 ?_
     refine .inr (.inl ⟨_,_,hsh,.inl (later_intro (zj ?_))⟩)
     refine za0 ?_
     generalize setI O a x.args w=O5 at *
     refine zh0 ?_
     repeat(refine⟨by omega,?_⟩)
     refine zl0 ?_
     have hxb:=hv.edges b hbm x hxm
     rw [show(⟨x.block,x.args.map (shiftV w)⟩:Edge)=trE (shiftV w) (fun k=>k) x by unfold trE;rw [Int.toNat_of_nonneg (by omega)]] at hp2
     simp only at hp2
     rw [mixL_step _ hx] at hp2
     refine⟨⟨(z+1,O5),hlz,hp2⟩,by show nt - (z+1)<nt - z;omega,?_⟩
     refine zq rfl ?_ ?_
     simp -dsimp only [simprocAttr,↓vpre,zp,zc]
     ·exact Sub.int (by simp)
     rfl
    refine awp_exit ?_
    simp -dsimp only [vend,ne_eq,Nat.reduceEqDiff,reduceCtorEq]
    have hzn:z=nt:=by
     have:=of_decide_eq_false h
     omega
    subst hzn
    rw [hnt,mixL_all] at hS
    have hbt:(⟨b.params.map (shiftV w),b.ins.map (trI (shiftV w)),⟨b.term.kind,ag,b.term.n,b.term.cases,b.term.to.map (trE (shiftV w) fun k=>k)⟩⟩:Block)=trB (shiftV w) (fun k=>k) [] b:=by
     unfold trB
     rw [hag,hkd,List.nil_append]
    rw [hbt] at hS
    unfold stF at hS
    rw [mixL_step _ hb] at hS
    refine zh0 ?_
    repeat(refine⟨by omega,?_⟩)
    refine zl0 ?_
    refine⟨⟨(j+1,O),hlj,hS⟩,by show nb - (j+1)<nb - j;omega,?_⟩
    refine zq rfl ?_ ?_
    simp -dsimp only [simprocAttr,↓vpre,zp,zc]
    ·exact Sub.int (by simp)
    rfl
   refine awp_exit ?_
   simp -dsimp only [vend,ne_eq,Nat.reduceEqDiff,reduceCtorEq]
   have hjn:j=nb:=by
    have:=of_decide_eq_false h
    omega
   subst hjn
   rw [hnb,mixL_all] at hS
   rw [show(⟨f.name,f.blocks.map (trB (shiftV w) (fun k=>k) [])⟩:Func)=renF (shiftV w) f from rfl] at hS
   unfold stU at hS
   rw [mixL_step _ hf] at hS
   refine zh0 ?_
   repeat(refine⟨by omega,?_⟩)
   refine zl0 ?_
   refine⟨⟨(k+1,O),hlt,hS⟩,by show N - (k+1)<N - k;omega,?_⟩
   refine zq rfl ?_ ?_
   simp -dsimp only [simprocAttr,↓vpre,zp,zc]
   ·exact Sub.int (by simp)
   rfl
  refine awp_exit ?_
  simp -dsimp only [vend,ne_eq,Nat.reduceEqDiff,reduceCtorEq]
  have hkN:k=N:=by
   have:=of_decide_eq_false h
   omega
  subst hkN
  rw [hN,mixL_all] at hS
  have hVi:V ∉ (ownL (untE fid gs ⟨u.fns.map (renF (shiftV w)),u.main⟩)).map Prod.fst:=fun q=>by
   have:=hS.low V q
   omega
  have hgl2:gs.length=(⟨u.fns.map (renF (shiftV w)),u.main⟩:Unt).fns.length:=by rw [hgl];simp
  have hok2:∀(j:Nat) (g:FI) (f:Func),gs[j]?=some g→(⟨u.fns.map (renF (shiftV w)),u.main⟩:Unt).fns[j]?=some f→g.Ok f:=fun j g f h1 h2=>by
   have h2:(u.fns.map (renF (shiftV w)))[j]?=some f:=h2
   rw [List.getElem?_map,Option.map_eq_some_iff] at h2
   obtain⟨f0,h3,rfl⟩:=h2
   exact(hok j g f0 h1 h3).tr _
  have hraw2:(untE fid gs ⟨u.fns.map (renF (shiftV w)),u.main⟩).map OC.raw=[.os fid k 2,aI u.main]:=by
   unfold untE rwT
   rw [if_neg (by simp only [List.length_map];omega)]
   simp [hN]
   exact⟨rfl,rfl⟩
  have hOV:=(hS.keep V hVi).trans h0V
  have hl0:=hS.len
  have hlow3:∀i,i<3→i ∉ (ownL (untE fid gs ⟨u.fns.map (renF (shiftV w)),u.main⟩)).map Prod.fst:=fun i hi q=>by
   have:=hS.low i q
   omega
  refine awp_tellL V (untE fid gs ⟨u.fns.map (renF (shiftV w)),u.main⟩) [] O (by rw [hraw2];exact hOV) (fun d hd=>by cases hd) (fitL_wf (unt_fit fid hgl2 hok2)) hS.owns (List.nodup_cons.2 ⟨hVi,hS.nd⟩) fun O' e1 e2 e3=>?_
  rw [unt_told fid hgl2 hok2,List.nil_append] at e2
  refine awp_freeze1 8 V (o:=.cells [eFuncs (u.fns.map (renF (shiftV w))),aI u.main]) (.ip none [eFuncs (u.fns.map (renF (shiftV w))),aI u.main]) e2 (by simp [AObj.isSpare]) trivial rfl (FSub.mp e2 rfl) ?_
  simp -dsimp only [simprocAttr,↓vpre,zp]
  refine awp_trunc' 3 [(5,.ip none [.lst 1 (out.map aI) .sh,aI fin,aI val]),(6,aI n),(8,.ip none [eFuncs (u.fns.map (renF (shiftV w))),aI u.main])] (by rw [List.length_set];omega) (Nat.zero_le _) [.gone,.gone,.gone] (take_three fun i hi=>?_) ?_ ?_ ?_ ?_
  ·rw [List.getElem?_set_ne (by omega),e3 i (by simp only [List.mem_cons,not_or];exact⟨by omega,hlow3 i hi⟩),hS.keep i (hlow3 i hi),h0k i (by omega),hlow i hi]
  ·simp [AObj.upto]
  ·simp [Says,St.get,putS,dropS,Go.Av.look,Sub.refl]
  ·simp [uptoL,AVal.upto,aI_upto,Func.map_upto]
   rw [←List.map_map]
   exact Func.map_upto _ _
  refine zh1 ?_
  refine zi hrun2 ?_
  refine za0 ?_
  refine awp_freeze1 19 3 (.ip none [.lst 1 (out.map aI) .sh,aI fin,aI val]) rfl (by simp [AObj.isSpare]) trivial rfl ?_ ?_
  rotate_left
  simp -dsimp only [simprocAttr,↓vpre,zp]
  ·refine zh1 ?_
   refine zi hsr ?_
   refine za0 ?_
   refine awp_ret ?_
   simp -dsimp only [simprocAttr,↓vpre,zp,zr,Try.results3]
  exact FSub.mp rfl rfl
 generalize runM u 2000=A at *
 obtain⟨out,fin,val,n,e⟩:=A
 simp only at he
 unfold Ans.enc at hrun
 have de:decide (e=0)=false:=decide_eq_false he
 refine zf true 0 Try.func3 Try.ntmps3 ?_
 dsimp only [Tmp,TypeId,slotsOf]
 refine zh1 (za0 ?_)
 refine awp_freeze1 2 0 (.ip none [eFuncs u.fns,aI u.main]) rfl (by simp [AObj.isSpare]) trivial rfl ?_ ?_
 rotate_left
 simp -dsimp only [simprocAttr,↓vpre,zp]
 rotate_left
 ·exact FSub.mp rfl rfl
 refine awp_freeze1 3 1 (.ip none [aI n0]) rfl (by simp [AObj.isSpare]) trivial rfl ?_ ?_
 rotate_left
 simp -dsimp only [simprocAttr,↓vpre,zp]
 rotate_left
 ·exact FSub.mp rfl rfl
 refine zh2 ?_
 refine zi hwk ?_
 refine za0 ?_
 refine zu0 rfl ?_
 refine zb0 ?_
 refine zh1 ?_
 refine zi hrun ?_
 refine za0 ?_
 refine zg2 ?_
 simp -dsimp only [simprocAttr,↓vpre,zp,de]
 refine za0 ?_
 refine zw0 rfl ?_
 refine zh1 (za0 ?_)
 refine awp_ret ?_
 simp -dsimp only [simprocAttr,↓vpre,zp,zr,Try.results3]
end Go.Proofs.Ytkhnjeblbiocaaa
