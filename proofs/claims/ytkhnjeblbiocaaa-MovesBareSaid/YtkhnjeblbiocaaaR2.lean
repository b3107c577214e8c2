/-
  Texts bound together by a program of mine: YtkhnjeblbiocaaaPwc, YtkhnjeblbiocaaaPxk, YtkhnjeblbiocaaaT121, YtkhnjeblbiocaaaT122, YtkhnjeblbiocaaaT123, YtkhnjeblbiocaaaT126, YtkhnjeblbiocaaaT156, YtkhnjeblbiocaaaPxf, YtkhnjeblbiocaaaT155, YtkhnjeblbiocaaaT157, YtkhnjeblbiocaaaT132, YtkhnjeblbiocaaaT158, YtkhnjeblbiocaaaT159, YtkhnjeblbiocaaaT160.
-/
import Derived.Test.YtkhnjeblbiocaaaR1
set_option linter.all false
set_option maxRecDepth 100000
set_option maxHeartbeats 4000000

namespace Go.Proofs.Ytkhnjeblbiocaaa
open Go.Av
def cntE(t:Int)(es:List Edge):Nat:=es.countP fun e=>decide (e.block=t)
def cntL(t:Int)(ls:List (List Edge)):Nat:=(ls.map (cntE t)).sum
def cntB(t:Int)(bs:List Block):Nat:=cntL t (bs.map fun b=>b.term.to)
theorem sumN_set:∀{l:List Nat} {k:Nat} {a:Nat},l[k]?=some a→∀v,(l.set k v).sum+a=l.sum+v
 | [],k,a,h,v=>by simp at h
 | x::l,0,a,h,v=>by
  simp only [List.getElem?_cons_zero,Option.some.injEq] at h
  subst h
  simp only [List.set_cons_zero,List.sum_cons]
  omega
 | x::l,k+1,a,h,v=>by
  have:=sumN_set (l:=l) (k:=k) (a:=a) (by simpa using h) v
  simp only [List.set_cons_succ,List.sum_cons]
  omega
theorem cntE_set(t:Int):∀{l:List Edge} {n:Nat} {x:Edge},l[n]?=some x→∀y,cntE t (l.set n y)+(if x.block=t then 1 else 0)=cntE t l+if y.block=t then 1 else 0
 | [],k,a,h,v=>by simp at h
 | x::l,0,a,h,v=>by
  simp only [List.getElem?_cons_zero,Option.some.injEq] at h
  subst h
  unfold cntE
  simp only [List.set_cons_zero,List.countP_cons,decide_eq_true_eq]
  omega
 | x::l,k+1,a,h,v=>by
  have:=cntE_set t (l:=l) (n:=k) (x:=a) (by simpa using h) v
  unfold cntE at this ⊢
  simp only [List.set_cons_succ,List.countP_cons]
  omega
theorem cntL_set(t:Int){ls:List (List Edge)}{k:Nat}{l:List Edge}(h:ls[k]?=some l)(m:List Edge):cntL t (ls.set k m)+cntE t l=cntL t ls+cntE t m:=by
 unfold cntL
 rw [List.map_set]
 exact sumN_set (by rw [List.getElem?_map,h];rfl) _
theorem predE_cnt{k:Nat}{ls:List (List Int)}{e:Edge}{j:Nat}(hj:j<ls.length)(he:0≤e.block):((predE k ls e)[j]?.getD []).length=(ls[j]?.getD []).length+if e.block=(j:Int) then 1 else 0:=by
 unfold predE
 rw [List.getElem?_set]
 by_cases h:e.block.toNat=j
 ·rw [if_pos h,h,if_pos hj,if_pos (by omega),Option.getD_some,List.length_append]
  rfl
 rw [if_neg h,if_neg (by omega)]
 rfl
theorem predB_cnt{k:Nat}{j:Nat}:∀(es:List Edge) (ls:List (List Int)),j<ls.length→(∀e∈es,0≤e.block)→((predB k ls es)[j]?.getD []).length=(ls[j]?.getD []).length+cntE (j:Int) es
 | [],ls,_,_=>rfl
 | e::r,ls,hj,he=>by
  show((predB k (predE k ls e) r)[j]?.getD []).length=_
  rw [predB_cnt r (predE k ls e) (by rw [predE_len];exact hj) (fun x hx=>he x (List.mem_cons_of_mem _ hx)),predE_cnt hj (he e List.mem_cons_self)]
  unfold cntE
  simp only [List.countP_cons,decide_eq_true_eq]
  omega
theorem predL_cnt{j:Nat}:∀(bs:List Block) (k:Nat) (ls:List (List Int)),j<ls.length→(∀b∈bs,∀e∈b.term.to,0≤e.block)→((predL k ls bs)[j]?.getD []).length=(ls[j]?.getD []).length+cntB (j:Int) bs
 | [],k,ls,_,_=>rfl
 | b::r,k,ls,hj,he=>by
  show((predL (k+1) (predB k ls b.term.to) r)[j]?.getD []).length=_
  rw [predL_cnt r (k+1) _ (by rw [predB_len];exact hj) (fun x hx=>he x (List.mem_cons_of_mem _ hx)),predB_cnt _ _ hj (he b List.mem_cons_self)]
  unfold cntB cntL
  simp only [List.map_cons,List.sum_cons]
  omega
theorem preds_cnt{f:Func}(he:∀b∈f.blocks,∀e∈b.term.to,0≤e.block){t:Int}(h0:0≤t)(h1:t<f.blocks.length):(predsAt f t).length=cntB t f.blocks:=by
 unfold predsAt predsM
 rw [predL_cnt f.blocks 0 _ (by rw [List.length_replicate];omega) he,List.getElem?_replicate,if_pos (by omega)]
 rw [show((t.toNat:Nat):Int)=t by omega]
 simp
def cntS(t:Int)(S:Sp):Nat:=cntL t S.tos+cntB t S.news
structure SpT(f:Func)(k n:Nat)(S:Sp):Prop where
 i:SpI f S
 rest:∀(j:Nat) b,f.blocks[j]?=some b→k<j→S.tos[j]?=some b.term.to
 cur:∀b l,f.blocks[k]?=some b→S.tos[k]?=some l→∀m,n≤m→l[m]?=b.term.to[m]?
 done:∀(j:Nat) b l,f.blocks[j]?=some b→S.tos[j]?=some l→∀(m:Nat) e,(j<k∨j=k∧m<n)→l[m]?=some e→(f.blocks.length:Int)≤e.block∨critB f j e=false
 old:∀t:Int,t<f.blocks.length→cntS t S=cntB t f.blocks
 new:∀i:Nat,i<S.news.length→cntS ((f.blocks.length+i:Nat):Int) S=1
 none:∀i:Nat,S.news.length≤i→cntS ((f.blocks.length+i:Nat):Int) S=0
theorem spT_start{f:Func}(hr:∀b∈f.blocks,∀e∈b.term.to,e.block<f.blocks.length):SpT f 0 0 (spS f) where
 i:=spI_start f
 rest:=fun j b h _=>by
  unfold spS
  rw [List.getElem?_map,h]
  rfl
 cur:=fun b l h1 h2 m _=>by
  unfold spS at h2
  simp only [List.getElem?_map,h1,Option.map_some,Option.some.injEq] at h2
  rw [h2]
 done:=fun j b l _ _ m e h _=>by omega
 old:=fun t _=>Nat.add_zero _
 new:=fun i h=>by simp [spS] at h
 none:=fun i _=>by
  show cntL _ (f.blocks.map fun b=>b.term.to)+0=0
  unfold cntL
  rw [Nat.add_zero]
  have:∀l∈f.blocks.map (fun b=>b.term.to),cntE ((f.blocks.length+i:Nat):Int) l=0:=fun l hl=>by
   obtain⟨b,hb,rfl⟩:=List.mem_map.1 hl
   unfold cntE
   rw [List.countP_eq_zero]
   intro e he
   have:=hr b hb e he
   simp only [decide_eq_true_eq]
   omega
  generalize f.blocks.map (fun b=>b.term.to)=L at *
  induction L with
  | nil=>rfl
  | cons a r ih =>
   rw [List.map_cons,List.sum_cons,this a List.mem_cons_self,ih fun l hl=>this l (List.mem_cons_of_mem _ hl)]
theorem spT_step{f:Func}{k n:Nat}{S:Sp}(h:SpT f k n S)(hk:k<f.blocks.length)(hn:n<(toOf f (k:Int)).length):SpT f k (n+1) (spStep f k n S):=by
 obtain⟨b,hb⟩:∃b,f.blocks[k]?=some b:=⟨_,List.getElem?_eq_getElem hk⟩
 have hto:toOf f (k:Int)=b.term.to:=by simp [toOf,blkOf,hb]
 obtain⟨l,hl⟩:∃l,S.tos[k]?=some l:=⟨S.tos[k]'(by rw [h.i.w.len];exact hk),List.getElem?_eq_getElem _⟩
 obtain⟨x,hx⟩:∃x,(toOf f (k:Int))[n]?=some x:=⟨_,List.getElem?_eq_getElem hn⟩
 have hi:=spI_step (k:=k) (n:=n) h.i
 have hlx:l[n]?=some x:=by rw [h.cur b l hb hl n (Nat.le_refl _),←hto,hx]
 have hnl:=lt_of_getElem? hlx
 unfold spStep at hi ⊢
 rw [hx] at hi ⊢
 simp only at hi ⊢
 by_cases hc:critB f k x=true
 ·rw [if_pos hc] at hi ⊢
  rw [hl,Option.getD_some] at hi ⊢
  have hcs:∀t,cntS t ⟨S.tos.set k (l.set n ⟨((f.blocks.length+S.news.length:Nat):Int),[]⟩),S.news++[jumpB x]⟩=cntS t S+if ((f.blocks.length+S.news.length:Nat):Int)=t then 1 else 0:=fun t=>by
   have e1:=cntL_set t hl (l.set n ⟨((f.blocks.length+S.news.length:Nat):Int),[]⟩)
   have e2:=cntE_set t hlx ⟨((f.blocks.length+S.news.length:Nat):Int),[]⟩
   have e3:cntB t (S.news++[jumpB x])=cntB t S.news+if x.block=t then 1 else 0:=by
    unfold cntB cntL
    rw [List.map_append,List.map_append,List.sum_append]
    unfold jumpB cntE
    simp only [List.map_cons,List.map_nil,List.sum_cons,List.sum_nil,List.countP_cons,List.countP_nil,decide_eq_true_eq]
    omega
   unfold cntS
   simp only [e3]
   simp only at e2
   omega
  refine⟨hi,fun j c h1 h2=>?_,fun c m h1 h2 z hz=>?_,fun j c m h1 h2 z e h3 h4=>?_,fun t ht=>?_,fun i hi=>?_,fun i hi=>?_⟩
  ·simp only
   rw [List.getElem?_set_ne (by omega)]
   exact h.rest j c h1 h2
  ·simp only at h2
   rw [List.getElem?_set_self (lt_of_getElem? hl)] at h2
   simp only [Option.some.injEq] at h2
   rw [←h2,List.getElem?_set_ne (by omega)]
   exact h.cur c l h1 hl z (by omega)
  ·simp only at h2
   rw [List.getElem?_set] at h2
   split at h2
   ·rename_i hkj
    subst hkj
    rw [if_pos (lt_of_getElem? hl)] at h2
    simp only [Option.some.injEq] at h2
    rw [←h2,List.getElem?_set] at h4
    split at h4
    ·simp only [Option.some.injEq] at h4
     rw [←h4]
     exact .inl (by simp only;omega)
    exact h.done k c l h1 hl z e (by omega) h4
   exact h.done j c m h1 h2 z e (by omega) h4
  ·rw [hcs,h.old t ht,if_neg (by omega)]
   rfl
  ·rw [List.length_append,List.length_singleton] at hi
   rw [hcs]
   by_cases q:i=S.news.length
   ·subst q
    rw [if_pos rfl,h.none _ (Nat.le_refl _)]
   rw [if_neg (by omega),h.new i (by omega)]
  rw [List.length_append,List.length_singleton] at hi
  rw [hcs,if_neg (by omega),h.none i (by omega)]
 rw [if_neg hc] at hi ⊢
 refine⟨h.i,h.rest,fun c m h1 h2 z hz=>h.cur c m h1 h2 z (by omega),fun j c m h1 h2 z e h3 h4=>?_,h.old,h.new,h.none⟩
 by_cases q:j=k∧z=n
 ·obtain⟨q1,q2⟩:=q
  subst q1 q2
  rw [hl] at h2
  simp only [Option.some.injEq] at h2
  subst h2
  rw [hlx] at h4
  simp only [Option.some.injEq] at h4
  subst h4
  exact .inr (by simpa using hc)
 exact h.done j c m h1 h2 z e (by omega) h4
theorem spT_E{f:Func}{k:Nat}(hk:k<f.blocks.length):∀(m n:Nat) {S:Sp},n+m=(toOf f (k:Int)).length→SpT f k n S→SpT f k (n+m) (spE f k m n S)
 | 0,n,S,_,h=>h
 | m+1,n,S,hm,h=>by
  rw [show n+(m+1)=n+1+m by omega]
  exact spT_E hk m (n+1) (by omega) (spT_step h hk (by omega))
theorem spT_next{f:Func}{k:Nat}{S:Sp}(h:SpT f k (toOf f (k:Int)).length S):SpT f (k+1) 0 S where
 i:=h.i
 rest:=fun j b h1 h2=>h.rest j b h1 (by omega)
 cur:=fun b l h1 h2 m _=>by
  rw [h.rest (k+1) b h1 (by omega)] at h2
  simp only [Option.some.injEq] at h2
  rw [h2]
 done:=fun j b l h1 h2 m e h3 h4=>by
  by_cases q:j=k
  ·subst q
   have hto:toOf f (j:Int)=b.term.to:=by simp [toOf,blkOf,h1]
   have hw:=h.i.w.each j b l h1 h2
   have:=lt_of_getElem? h4
   exact h.done j b l h1 h2 m e (.inr ⟨rfl,by rw [hto];omega⟩) h4
  exact h.done j b l h1 h2 m e (by omega) h4
 old:=h.old
 new:=h.new
 none:=h.none
theorem spT_K{f:Func}:∀(m k:Nat) {S:Sp},k+m=f.blocks.length→SpT f k 0 S→SpT f (k+m) 0 (spK f m k S)
 | 0,k,S,_,h=>h
 | m+1,k,S,hm,h=>by
  rw [show k+(m+1)=k+1+m by omega]
  refine spT_K m (k+1) (by omega) (spT_next ?_)
  have:=spT_E (f:=f) (k:=k) (by omega) (toOf f (k:Int)).length 0 (S:=S) (by omega) h
  rwa [Nat.zero_add] at this
theorem split_t{f:Func}(hr:∀b∈f.blocks,∀e∈b.term.to,e.block<f.blocks.length):SpT f f.blocks.length 0 (spM f):=by
 have:=spT_K (f:=f) f.blocks.length 0 (S:=spS f) (by omega) (spT_start hr)
 rwa [Nat.zero_add] at this
theorem zip_to:∀{bs:List Block} {tos:List (List Edge)},tos.length=bs.length→(List.zipWith setTo bs tos).map (fun b=>b.term.to)=tos
 | [],[],_=>rfl
 | b::bs,l::tos,h=>by
  have:=zip_to (bs:=bs) (tos:=tos) (by simpa using h)
  simp only [List.zipWith_cons_cons,List.map_cons,this]
  rfl
 | [],l::tos,h=>by simp at h
 | b::bs,[],h=>by simp at h
theorem split_cnt(f:Func)(t:Int):cntB t (splitM f).blocks=cntS t (spM f):=by
 unfold cntS cntB splitM
 rw [List.map_append,zip_to (split_i f).w.len]
 unfold cntL
 rw [List.map_append,List.sum_append]
theorem split_bare{f:Func}(hg:GrW f)(hg':GrW (splitM f)){k:Nat}{c:Block}(hc:(splitM f).blocks[k]?=some c){e:Edge}(he:e∈c.term.to):critB (splitM f) k e=false:=by
 have hr:∀b∈f.blocks,∀e∈b.term.to,e.block<f.blocks.length:=fun b hb e he=>(hg.edges b hb e he).2
 have T:=split_t hr
 have hbk:blkOf (splitM f) (k:Int)=c:=by
  unfold blkOf
  rw [Int.toNat_natCast,hc]
  rfl
 have her:=hg'.edges c (List.mem_of_getElem? hc) e he
 have hpc:=preds_cnt (f:=splitM f) (fun b hb e he=>by have:=hg'.edges b hb e he;omega) (t:=e.block) (by omega) her.2
 rw [split_cnt] at hpc
 unfold critB
 rw [hbk]
 rcases split_case hc with⟨b,l,h1,h2,h3,h4⟩ | ⟨i,x,h1,h2,h3⟩
 ·subst h4
  obtain⟨m,hm⟩:=List.mem_iff_getElem?.1 he
  have hle:(setTo b l).term.to.length=b.term.to.length:=(split_i f).w.each k b l h2 h3
  rcases T.done k b l h2 h3 m e (.inl h1) hm with q | q
  ·obtain⟨i,hi⟩:∃i:Nat,e.block=((f.blocks.length+i:Nat):Int):=⟨(e.block - f.blocks.length).toNat,by omega⟩
   have hil:i<(spM f).news.length:=by
    have:=her.2
    rw [split_len] at this
    omega
   have:(predsAt (splitM f) e.block).length=1:=by rw [hpc,hi,T.new i hil]
   rw [this]
   simp
  rcases split_edge h2 h3 (e:=e) he with r | ⟨i,x,r1,r2,r3⟩
  ·have hef:=hg.edges b (List.mem_of_getElem? h2) e r
   have hpf:=preds_cnt (f:=f) (fun b hb e he=>by have:=hg.edges b hb e he;omega) (t:=e.block) (by omega) hef.2
   have hbf:blkOf f (k:Int)=b:=by
    unfold blkOf
    rw [Int.toNat_natCast,h2]
    rfl
   unfold critB at q
   rw [hbf] at q
   rw [hle,hpc,T.old _ hef.2,←hpf]
   exact q
  have hil:=lt_of_getElem? r2
  have:(predsAt (splitM f) e.block).length=1:=by rw [hpc,r1,T.new i hil]
  rw [this]
  simp
 have:c.term.to.length=1:=by rw [h3.1];rfl
 rw [this]
 rfl
section
variable {u:Unt} (hfit:u.fit) (hc:checkM u=0) (hm:∀f∈u.fns,f.blocks.length+(spM f).news.length≤128)
include hfit hc hm
end
end Go.Proofs.Ytkhnjeblbiocaaa
namespace Go.Proofs.Ytkhnjeblbiocaaa
open Go.Av
theorem fitI_0:fitI 0:=by unfold fitI;omega
theorem fitI_1:fitI 1:=by unfold fitI;omega
theorem fitI_100:fitI 100:=by unfold fitI;omega
theorem seqStep_all{P:Int→Prop}{sp:Int}(hsp:P sp){l:List Mv}(hl:∀x∈l,P x.1∧P x.2):(∀x∈(seqStep sp l).1,P x.1∧P x.2)∧∀x∈(seqStep sp l).2,P x.1∧P x.2:=by
 have hbr:∀v y,(P y.1∧P y.2)→P (breakQ v sp y).1∧P (breakQ v sp y).2:=fun v y h=>by
  unfold breakQ
  split
  ·exact⟨h.1,hsp⟩
  exact h
 match l,hl with
 | [],_=>exact⟨fun x h=>(by cases h),fun x h=>(by cases h)⟩
 | x0::r,hl =>
  unfold seqStep
  simp only
  split
  ·refine⟨fun x hx=>?_,fun x hx=>?_⟩
   ·have hx':x∈((x0::r).map (breakQ x0.1 sp)).tail:=hx
    have:=List.mem_of_mem_tail hx'
    obtain⟨y,hy,e⟩:=List.mem_map.1 this
    rw [←e]
    exact hbr _ _ (hl y hy)
   simp only [List.mem_cons,List.not_mem_nil,or_false] at hx
   rcases hx with rfl | rfl
   ·exact⟨hsp,(hl x0 List.mem_cons_self).1⟩
   exact hbr _ _ (hl x0 List.mem_cons_self)
  rename_i h
  refine⟨fun x hx=>hl x (List.mem_of_mem_eraseIdx hx),fun x hx=>?_⟩
  rcases idxM_spec (freeQ (x0::r)) (x0::r) with⟨e,_⟩ | ⟨j,y,e,hj,_,_⟩
  ·omega
  rw [e,Int.toNat_natCast,hj] at hx
  simp only [Option.getD_some,List.mem_cons,List.not_mem_nil,or_false] at hx
  rw [hx]
  exact hl y (List.mem_of_getElem? hj)
theorem seqRun_all{P:Int→Prop}{sp:Int}(hsp:P sp):∀(n:Nat) (l:List Mv),(∀x∈l,P x.1∧P x.2)→∀x∈seqRun sp n l,P x.1∧P x.2
 | 0,_,_,x,hx=>by simp [seqRun] at hx
 | n+1,l,hl,x,hx=>by
  unfold seqRun at hx
  split at hx
  ·simp at hx
  obtain⟨h1,h2⟩:=seqStep_all hsp hl
  rcases List.mem_append.1 hx with q | q
  ·exact h2 x q
  exact seqRun_all hsp n _ h1 x q
theorem seqM_all{P:Int→Prop}{sp:Int}(hsp:P sp){l:List Mv}(hl:∀x∈l,P x.1∧P x.2):∀x∈seqM l sp,P x.1∧P x.2 :=
 seqRun_all hsp _ _ fun x hx=>hl x (List.mem_filter.1 hx).1
theorem modB_all{Q Q':Nat→Block→Prop}{L:List Block}{k:Nat}{F:Block→Block}(h:∀j c,L[j]?=some c→Q j c)(h1:∀c,Q k c→Q' k (F c))(h2:∀j c,j≠k→Q j c→Q' j c):∀j c,(modB L k F)[j]?=some c→Q' j c:=fun j c hj=>by
 unfold modB at hj
 split at hj
 ·rename_i b hb
  rw [List.getElem?_set] at hj
  split at hj
  ·rename_i e
   subst e
   rw [if_pos (lt_of_getElem? hb)] at hj
   rw [←Option.some.inj hj]
   exact h1 b (h k b hb)
  rename_i e
  exact h2 j c (fun q=>e q.symm) (h j c hj)
 rename_i hb
 exact h2 j c (fun q=>by rw [q,hb] at hj;cases hj) (h j c hj)
theorem modB_len(L:List Block)(k:Nat)(F:Block→Block):(modB L k F).length=L.length:=by
 unfold modB
 split
 ·rw [List.length_set]
 rfl
def Ft(c:Block):Prop:=fitIs c.params∧c.params.length≤2 ^ 47∧(∀i∈c.ins,i.fit)∧c.term.fit
def Lq(g:Func)(k n m:Nat)(j:Nat)(c:Block):Prop:=∃b,g.blocks[j]?=some b∧c.term.to.map Edge.block=b.term.to.map Edge.block∧(∀i e,c.term.to[i]?=some e→j<k∨(j=k∧i<n)→e.args=[])∧Ft c∧c.ins.length≤m
section
variable {g:Func} {sp:Int} {k n m:Nat}
theorem lq_jump{L:List Block}(b:Block)(h:∀j c,L[j]?=some c→Lq g k n m j c):∀j c,(lvT k b L)[j]?=some c→Lq g k n m j c:=by
 unfold lvT
 split
 ·refine modB_all h (fun c hq=>?_) fun j c _ q=>q
  obtain⟨b,h1,h2,h3,⟨f1,f2,f3,t1,t2,t3,t4,t5,t6,t7⟩,h5⟩:=hq
  exact⟨b,h1,h2,h3,⟨f1,f2,f3,fitI_1,fitI_0,fitI_0,fun v hv=>(by cases hv),Nat.zero_le _,t6,t7⟩,h5⟩
 exact h
theorem lq_put{L:List Block}{x:Edge}{cp:List Ins}(o:Bool)(hf:∀i∈cp,i.fit)(hl:cp.length≤8192)(h:∀j c,L[j]?=some c→Lq g k n m j c):∀j c,(lvPut o cp k x L)[j]?=some c→Lq g k n (m+8192) j c:=by
 have hm:∀(k':Nat) j c,j≠k'→Lq g k n m j c→Lq g k n (m+8192) j c:=fun k' j c _ ⟨b,h1,h2,h3,h4,h5⟩=>⟨b,h1,h2,h3,h4,by omega⟩
 unfold lvPut
 split
 ·refine modB_all h (fun c hq=>?_) (hm _)
  obtain⟨b,h1,h2,h3,⟨f1,f2,f3,f4⟩,h5⟩:=hq
  refine⟨b,h1,h2,h3,⟨f1,f2,fun i hi=>?_,f4⟩,by simp [addEnd];omega⟩
  rcases List.mem_append.1 hi with q | q
  ·exact f3 i q
  exact hf i q
 refine modB_all h (fun c hq=>?_) (hm _)
 obtain⟨b,h1,h2,h3,⟨f1,f2,f3,f4⟩,h5⟩:=hq
 refine⟨b,h1,h2,h3,⟨f1,f2,fun i hi=>?_,f4⟩,by simp [addFront];omega⟩
 rcases List.mem_append.1 hi with q | q
 ·exact hf i q
 exact f3 i q
theorem lq_bare{L:List Block}(h:∀j c,L[j]?=some c→Lq g k n m j c):∀j c,(modB L k (bareE n))[j]?=some c→Lq g k (n+1) m j c:=by
 refine modB_all h (fun c hq=>?_) fun j c hj ⟨b,h1,h2,h3,h4,h5⟩=>⟨b,h1,h2,fun i e he hi=>h3 i e he (by omega),h4,h5⟩
 obtain⟨b,h1,h2,h3,⟨f1,f2,f3,t1,t2,t3,t4,t5,t6,t7⟩,h5⟩:=hq
 have hmap:(c.term.to.set n ⟨(c.term.to[n]?.getD ⟨0,[]⟩).block,[]⟩).map Edge.block=c.term.to.map Edge.block:=by
  rw [List.map_set]
  by_cases hn:n<c.term.to.length
  ·refine setM_same ?_
   rw [List.getElem?_map,List.getElem?_eq_getElem hn]
   rfl
  exact List.set_eq_of_length_le (by rw [List.length_map];omega)
 refine⟨b,h1,hmap.trans h2,fun i e he hi=>?_,⟨f1,f2,f3,t1,t2,t3,t4,t5,by simpa [bareE,setTo] using t6,fun e he=>?_⟩,h5⟩
 ·have he':(c.term.to.set n ⟨(c.term.to[n]?.getD ⟨0,[]⟩).block,[]⟩)[i]?=some e:=he
  rw [List.getElem?_set] at he'
  split at he'
  ·split at he'
   ·rw [←Option.some.inj he']
   cases he'
  exact h3 i e he' (by omega)
 have he':e∈c.term.to.set n ⟨(c.term.to[n]?.getD ⟨0,[]⟩).block,[]⟩:=he
 rcases List.mem_or_eq_of_mem_set he' with q | q
 ·exact t7 e q
 by_cases hn:n<c.term.to.length
 ·rw [q,List.getElem?_eq_getElem hn]
  exact⟨(t7 _ (List.getElem_mem hn)).1,fun v hv=>(by cases hv),by simp⟩
 rw [List.set_eq_of_length_le (by omega)] at he'
 exact t7 e he'
theorem lq_E{b:Block}(hcp:∀x∈b.term.to,(∀i∈copiesM g x sp,i.fit)∧(copiesM g x sp).length≤8192):∀(r:List Edge) {n m:Nat} {L:List Block},(∀x∈r,x∈b.term.to)→(∀j c,L[j]?=some c→Lq g k n m j c)→∀j c,(lvE g sp k b n r L)[j]?=some c→Lq g k (n+r.length) (m+r.length * 8192) j c
 | [],n,m,L,_,h=>by simpa [lvE] using h
 | x::r,n,m,L,hr,h=>by
  have hx:=hcp x (hr x List.mem_cons_self)
  have h1:=lq_E hcp r (fun y hy=>hr y (List.mem_cons_of_mem _ hy)) (lq_bare (lq_put (x:=x) (decide (b.term.to.length=1)) hx.1 hx.2 h))
  intro j c hj
  have:=h1 j c hj
  rw [List.length_cons,show n+(r.length+1)=n+1+r.length by omega,show m+(r.length+1) * 8192=m+8192+r.length * 8192 by omega]
  exact this
theorem lq_K(hcp:∀b∈g.blocks,∀x∈b.term.to,(∀i∈copiesM g x sp,i.fit)∧(copiesM g x sp).length≤8192)(hto:∀b∈g.blocks,b.term.to.length≤257):∀(r:List Block) {k m:Nat} {L:List Block},r=g.blocks.drop k→(∀j c,L[j]?=some c→Lq g k 0 m j c)→∀j c,(lvK g sp k r L)[j]?=some c→Lq g (k+r.length) 0 (m+r.length * 2105344) j c
 | [],k,m,L,_,h=>by simpa [lvK] using h
 | b::r,k,m,L,hr,h=>by
  have hb:g.blocks[k]?=some b:=by
   have:=congrArg (fun l=>l[0]?) hr
   simp only [List.getElem?_cons_zero,List.getElem?_drop,Nat.add_zero] at this
   exact this.symm
  have hr2:r=g.blocks.drop (k+1):=by
   rw [drop_at hb] at hr
   exact(List.cons.inj hr).2
  have hbm:=List.mem_of_getElem? hb
  have h1:=lq_E (sp:=sp) (hcp b hbm) b.term.to (fun x hx=>hx) (lq_jump b h)
  have hl:=hto b hbm
  have h2:∀j c,(lvE g sp k b 0 b.term.to (lvT k b L))[j]?=some c→Lq g (k+1) 0 (m+2105344) j c:=fun j c hj=>by
   obtain⟨b',e1,e2,e3,e4,e5⟩:=h1 j c hj
   refine⟨b',e1,e2,fun i e he hi=>e3 i e he ?_,e4,by omega⟩
   rcases Nat.lt_or_ge j k with q | q
   ·exact .inl q
   have hjk:j=k:=by omega
   refine .inr ⟨hjk,?_⟩
   rw [hjk,hb] at e1
   have:=lt_of_getElem? he
   have hle:=congrArg List.length e2
   rw [List.length_map,List.length_map,←Option.some.inj e1] at hle
   omega
  intro j c hj
  have:=lq_K hcp hto r hr2 h2 j c hj
  rw [List.length_cons,show k+(r.length+1)=k+1+r.length by omega,show m+(r.length+1) * 2105344=m+2105344+r.length * 2105344 by omega]
  exact this
end
theorem lvT_len(k:Nat)(b:Block)(L:List Block):(lvT k b L).length=L.length:=by
 unfold lvT
 split
 ·exact modB_len _ _ _
 rfl
theorem lvE_len{g:Func}{sp:Int}{k:Nat}{b:Block}:∀(r:List Edge) (n:Nat) (L:List Block),(lvE g sp k b n r L).length=L.length
 | [],_,_=>rfl
 | x::r,n,L=>by
  rw [lvE,lvE_len r,leaveStep,modB_len,lvPut]
  split<;>exact modB_len _ _ _
theorem lvK_len{g:Func}{sp:Int}:∀(r:List Block) (k:Nat) (L:List Block),(lvK g sp k r L).length=L.length
 | [],_,_=>rfl
 | b::r,k,L=>by rw [lvK,lvK_len r,lvE_len,lvT_len]
structure BareW(g G:Func):Prop where
 len:G.blocks.length=g.blocks.length
 blk:∀(j:Nat) c,G.blocks[j]?=some c→∃b,g.blocks[j]?=some b∧c.term.to.map Edge.block=b.term.to.map Edge.block∧(∀e∈c.term.to,e.args=[])∧(0<j→c.params=[])
 fit:G.fit
theorem leave_bare{g:Func}(hfit:g.fit)(hv:FnV g){sp:Int}(hsp:∀v∈valsF g,v<sp)(hs0:fitI sp)(hins:∀b∈g.blocks,b.ins.length≤1024):BareW g (leaveM g sp):=by
 have hg:=hv.fn.gr
 have hcp:∀b∈g.blocks,∀x∈b.term.to,(∀i∈copiesM g x sp,i.fit)∧(copiesM g x sp).length≤8192:=fun b hb x hx=>by
  have hM:=edge_mv hv hsp hb hx
  refine⟨fun i hi=>?_,copies_len hM⟩
  unfold copiesM at hi
  obtain⟨y,hy,rfl⟩:=List.mem_map.1 hi
  have hbk:blkOf g x.block∈g.blocks:=blkOf_mem hM.blk.1 hM.blk.2
  have hz:∀x'∈edgeMv g x,fitI x'.1∧fitI x'.2:=fun x' hx'=>by
   have h1:=List.of_mem_zip (a:=x'.1) (b:=x'.2) hx'
   exact⟨(hfit.2.2 _ hbk).1 _ h1.1,((hfit.2.2 _ hb).2.2.2.2.2.2.2.2.2.2 x hx).2.1 _ h1.2⟩
  have:=seqM_all hs0 hz y hy
  exact⟨this.1,fitI_100,fitI_0,fun v hv=>by
   simp only [cpI,List.mem_cons,List.not_mem_nil,or_false] at hv
   rw [hv]
   exact this.2,by simp [cpI]⟩
 have h0:∀j c,g.blocks[j]?=some c→Lq g 0 0 1024 j c:=fun j c hj=>by
  obtain⟨f1,f2,f3,f4,f5⟩:=hfit.2.2 c (List.mem_of_getElem? hj)
  exact⟨c,hj,rfl,fun i e _ hi=>by omega,⟨f1,f2,f4,f5⟩,hins c (List.mem_of_getElem? hj)⟩
 have hK:=lq_K (sp:=sp) hcp hg.to g.blocks (k:=0) (by simp) h0
 have hKl:=lvK_len (g:=g) (sp:=sp) g.blocks 0 g.blocks
 have hat:∀(j:Nat) c,(leaveM g sp).blocks[j]?=some c→∃c0,(lvK g sp 0 g.blocks g.blocks)[j]?=some c0∧c=if j=0 then c0 else noPar c0:=fun j c hj=>by
  have hj':(lvBare 0 (lvK g sp 0 g.blocks g.blocks))[j]?=some c:=hj
  have hjl:=lt_of_getElem? hj'
  rw [lvBare_len] at hjl
  have hc0:(lvK g sp 0 g.blocks g.blocks)[j]?=some ((lvK g sp 0 g.blocks g.blocks)[j]'hjl):=List.getElem?_eq_getElem _
  have:=lvBare_at (k:=0) hc0
  rw [Nat.zero_add,hj'] at this
  exact⟨_,hc0,Option.some.inj this⟩
 have hfew:=hg.few
 exact {
  len:=(lvBare_len 0 _).trans hKl
  blk:=fun j c hj=>by
   obtain⟨c0,h1,h2⟩:=hat j c hj
   obtain⟨b,e1,e2,e3,e4,e5⟩:=hK j c0 h1
   have hjl:=lt_of_getElem? e1
   have hto:c.term=c0.term:=by
    rw [h2]
    split<;>rfl
   refine⟨b,e1,by rw [hto];exact e2,fun e he=>?_,fun hj0=>?_⟩
   ·rw [hto] at he
    obtain⟨i,hi⟩:=List.mem_iff_getElem?.1 he
    exact e3 i e hi (.inl (by omega))
   rw [h2,if_neg (by omega)]
   rfl
  fit:=⟨hfit.1,by
   show(lvBare 0 _).length≤_
   rw [lvBare_len,hKl]
   omega,fun c hc=>by
   obtain⟨j,hj⟩:=List.mem_iff_getElem?.1 hc
   obtain⟨c0,h1,h2⟩:=hat j c hj
   obtain⟨b,e1,e2,e3,⟨f1,f2,f3,f4⟩,e5⟩:=hK j c0 h1
   have hi:c.ins=c0.ins∧c.term=c0.term:=by
    rw [h2]
    split<;>exact⟨rfl,rfl⟩
   have hp:fitIs c.params∧c.params.length≤2 ^ 47:=by
    rw [h2]
    split
    ·exact⟨f1,f2⟩
    exact⟨fun v hv=>(by cases hv),by simp [noPar]⟩
   exact⟨hp.1,hp.2,by rw [hi.1];omega,by rw [hi.1];exact f3,by rw [hi.2];exact f4⟩⟩ }
end Go.Proofs.Ytkhnjeblbiocaaa
namespace Go.Proofs.Ytkhnjeblbiocaaa
open Go.Av
theorem aI_shares(l:List Int):(l.map aI).map AVal.share=l.map aI:=by
 rw [List.map_map]
 rfl
theorem clone_spec(l:List Int)(hl:l.length≤2 ^ 43):PCall Try.prog 64 [eIs l] (eIs l):=by
 have hs:=aI_shares l
 refine zf true 0 Try.func64 Try.ntmps64 ?_
 dsimp only [Tmp,TypeId,slotsOf]
 refine zh1 (za0 ?_)
 refine awp_nil2 0 rfl (fun hn=>?_) ?_
 ·simp -dsimp only [simprocAttr,↓vpre,zp]
  refine zh2 (za0 ?_)
  refine zw0 rfl ?_
  refine zh1 (za0 ?_)
  refine awp_ret ?_
  simp -dsimp only [simprocAttr,↓vpre,zp,zr,Try.results64]
  exact⟨trivial,by show AVal.lst 1 [] Own.sh=.lst 1 (l.map aI) .sh;rw [hn]⟩
 simp -dsimp only [simprocAttr,↓vpre,zp]
 refine zh2 (za0 ?_)
 refine zu0 rfl ?_
 refine zb0 ?_
 refine zg1 ?_
 simp -dsimp only [simprocAttr,↓vpre,zp,hs]
 repeat(refine⟨by omega,?_⟩)
 refine za0 ?_
 refine awp_ret ?_
 simp -dsimp only [simprocAttr,↓vpre,zp,zr,Try.results64]
structure Cx where
 k:Nat
 bid:Nat
 ids:List Nat
 O:List AObj
structure Ci where
 j:Nat
 O:List AObj
structure Ce where
 z:Nat
 tid:Nat
 O:List AObj
theorem ins_take{l:List Ins}{j:Nat}{i:Ins}(h:l[j]?=some i):(l.take (j+1)).map Ins.enc=(l.take j).map Ins.enc++[i.enc]:=by
 rw [List.take_add_one,h,List.map_append]
 rfl
theorem own_norm(O:List AObj)(C0:List AVal):(O++[AObj.cells C0]++[AObj.spare 0]).set O.length (.cells (C0.set 1 (.lst 4 [] (.tok (O++[AObj.cells C0]).length))))=O++[.cells (C0.set 1 (.lst 4 [] (.tok (O.length+1)))),.spare 0]:=by simp
abbrev bcC0(id:Nat)(b:Block)(l:List AVal)(t:AVal):List AVal:=[eIs b.params,.lst 4 l (.tok id),aI b.term.kind,aI b.term.arg,aI b.term.n,eIs b.term.cases,t]
abbrev bcC(id:Nat)(b:Block)(l:List Ins)(t:AVal):List AVal:=[eIs b.params,.lst 4 (l.map Ins.enc) (.tok id),aI b.term.kind,aI b.term.arg,aI b.term.n,eIs b.term.cases,t]
theorem bcC_upto{n id:Nat}(b:Block)(l:List Ins){t:AVal}(h:id<n)(ht:t.upto n):uptoL n (bcC id b l t):=⟨⟨aI_upto _ _,trivial⟩,⟨Ins.map_upto _ _,h⟩,trivial,trivial,trivial,⟨aI_upto _ _,trivial⟩,ht,trivial⟩
theorem copy_spec(f:Func)(hs:SmW f)(hne:f.blocks≠[]):ECall Try.prog 41 [.gone,.cells [aI 0,.lst 7 [] .ex]] [f.enc] (CpR f):=by
 have hcl:=fun(l:List Int) (h:l.length≤4096)=>clone_spec l (by omega)
 have hS0:=copy_start f
 have hn:=hs.few
 obtain⟨N,hN⟩:∃N,N=f.blocks.length:=⟨_,rfl⟩
 rw [←hN] at hn
 refine ecall_all hT Try.func41 rfl (by kernel_rfl) (by simp [Try.ntmps41]) ?_
 show AWP Try.prog _ _ _ ⟨83,_,_⟩
 dsimp only [Tmp,TypeId,slotsOf]
 refine zh1 (za0 ?_)
 refine awp_freeze1 1 2 (.ip none [aI f.name,eBlocks f.blocks]) rfl (by simp [AObj.isSpare]) trivial rfl ?_ ?_
 rotate_left
 simp -dsimp only [simprocAttr,↓vpre,zp]
 ·refine zh1 (za0 ?_)
  refine zg2 ?_
  simp -dsimp only [simprocAttr,↓vpre,zp,←hN]
  refine za0 ?_
  show AWP Try.prog _ _ _ ⟨_,_,[.gone,.cells [aI 0,.lst 7 [] .ex],.gone,.cells [aI 0,.lst 7 [] .ex],.cells [aI f.name,.lst 7 [] .ex]]⟩
  generalize [AObj.gone,.cells [aI 0,.lst 7 [] .ex],.gone,.cells [aI 0,.lst 7 [] .ex],.cells [aI f.name,.lst 7 [] .ex]]=O0 at *
  refine awp_block (awp_loop (ι:={X:Cx // X.k≤N∧CpS f (f.blocks.take X.k) X.bid X.ids X.O}) (fun X=>⟨83,[(1,.ip none [aI f.name,eBlocks f.blocks]),(2,.mp 3 0),(3,.mp 4 0),(15,eBlocks f.blocks),(16,aI N),(17,aI X.1.k)],X.1.O⟩) (fun X=>N - X.1.k) ⟨⟨0,0,[],O0⟩,by simp,hS0⟩ ?_ ?_)
  ·refine zq rfl ?_ ?_
   simp -dsimp only [simprocAttr,↓vpre,zp,zc]
   all_goals rfl
  rintro⟨⟨k,bid,ids,O⟩,hk,hS⟩
  simp only at hk hS
  refine zh1 (za0 ?_)
  apply zk1 rfl<;>intro h
  ·refine zb0 ?_
   have hlt:k<N:=by simpa using h
   obtain⟨b,hb⟩:∃b,f.blocks[k]?=some b:=⟨f.blocks[k]'(by omega),List.getElem?_eq_getElem _⟩
   have hbm:=List.mem_of_getElem? hb
   have htk:f.blocks.take (k+1)=f.blocks.take k++[b]:=by rw [List.take_add_one,hb];rfl
   have hbp:=hs.params b hbm
   have hbi:=hs.ins b hbm
   have hba:=hs.iargs b hbm
   have hbc:=hs.cases b hbm
   have hbt:=hs.to b hbm
   have hbe:=hs.eargs b hbm
   have hcp:=hcl b.params (by omega)
   have hcc:=hcl b.term.cases (by omega)
   have h3l:=lt_of_getElem? hS.r3
   have h4l:=lt_of_getElem? hS.out
   refine awp_seq (awp_block ?_)
   refine zg1 ?_
   simp -dsimp only [simprocAttr,↓vpre,zp,hb]
   refine za0 ?_
   refine awp_local 5 ([eIs b.params,eInss b.ins,aI b.term.kind,aI b.term.arg,aI b.term.n,eIs b.term.cases,eEdges b.term.to]) [(1,.ip none [aI f.name,eBlocks f.blocks]),(2,.mp 3 0),(3,.mp 4 0),(15,eBlocks f.blocks),(16,aI N),(17,aI k),(5,.ip none [eIs b.params,eInss b.ins,aI b.term.kind,aI b.term.arg,aI b.term.n,eIs b.term.cases,eEdges b.term.to])] (by simp [putS,dropS,Go.Av.look]) (by rfl) (by omega) (by simp [putS,dropS,Go.Av.look]) ?_ ?_ ?_
   ·exact hS.up
   ·simp [AVal.upto,uptoL,aI_upto,Edge.map_upto,Ins.map_upto,Block.map_upto,h3l,h4l]
   refine zh1 ?_
   refine zi hcp ?_
   refine⟨ob (by kernel_rfl),?_⟩
   refine za0 ?_
   refine awp_ownCell O.length 1 (sz:=4) (xs:=[]) (snoc_get _ _) rfl ?_
   show AWP Try.prog _ _ _ ⟨_,_,(O++[AObj.cells [eIs b.params,.lst 4 [] .ex,aI b.term.kind,aI b.term.arg,aI b.term.n,eIs b.term.cases,eEdges b.term.to]]++[AObj.spare 0]).set O.length (.cells ([eIs b.params,.lst 4 [] .ex,aI b.term.kind,aI b.term.arg,aI b.term.n,eIs b.term.cases,eEdges b.term.to].set 1 (.lst 4 [] (.tok (O++[AObj.cells [eIs b.params,.lst 4 [] .ex,aI b.term.kind,aI b.term.arg,aI b.term.n,eIs b.term.cases,eEdges b.term.to]]).length))))⟩
   rw [own_norm]
   have hI:=CpI.start hS.up (cs:=bcC (O.length+1) b [] (eEdges b.term.to)) (bcC_upto b [] (by omega) ⟨Edge.map_upto _ _,trivial⟩)
   show AWP Try.prog _ _ _ ⟨_,_,O++[AObj.cells (bcC (O.length+1) b [] (eEdges b.term.to)),.spare 0]⟩
   generalize O++[AObj.cells (bcC (O.length+1) b [] (eEdges b.term.to)),.spare 0]=O2 at *
   refine zh2 (za0 ?_)
   refine awp_block (awp_loop (ι:={X:Ci // X.j≤b.ins.length∧CpI O (bcC (O.length+1) b (b.ins.take X.j) (eEdges b.term.to)) X.j X.O}) (fun X=>⟨83,[(1,.ip none [aI f.name,eBlocks f.blocks]),(2,.mp 3 0),(3,.mp 4 0),(15,eBlocks f.blocks),(16,aI N),(17,aI k),(5,.ip none [eIs b.params,eInss b.ins,aI b.term.kind,aI b.term.arg,aI b.term.n,eIs b.term.cases,eEdges b.term.to]),(6,.mp O.length 0),(28,eInss b.ins),(29,aI b.ins.length),(30,aI X.1.j)],X.1.O⟩) (fun X=>b.ins.length - X.1.j) ⟨⟨0,O2⟩,by simp,hI⟩ ?_ ?_)
   ·refine zq rfl ?_ ?_
    simp -dsimp only [simprocAttr,↓vpre,zp,zc]
    all_goals rfl
   rintro⟨⟨j,O2⟩,hj,hI⟩
   simp only at hj hI
   have hI2:=hI.len
   refine zh1 (za0 ?_)
   apply zk1 rfl<;>intro h
   ·refine zb0 ?_
    have hlj:j<b.ins.length:=by simpa using h
    obtain⟨i,hi⟩:∃i,b.ins[j]?=some i:=⟨b.ins[j],by simp [hlj]⟩
    have hci:=hcl i.args (by have:=hba i (List.mem_of_getElem? hi);omega)
    have hcell:=hI.cell
    have hsp:=hI.sp
    have htl:(b.ins.take j).length=j:=by rw [List.length_take];omega
    refine awp_seq (awp_block ?_)
    refine zg1 ?_
    simp -dsimp only [simprocAttr,↓vpre,zp,hi]
    refine za0 ?_
    refine zh1 ?_
    refine zi hci ?_
    refine za0 ?_
    refine awp_local 8 ([aI i.to,aI i.op,aI i.n,eIs i.args]) [(1,.ip none [aI f.name,eBlocks f.blocks]),(2,.mp 3 0),(3,.mp 4 0),(15,eBlocks f.blocks),(16,aI N),(17,aI k),(5,.ip none [eIs b.params,eInss b.ins,aI b.term.kind,aI b.term.arg,aI b.term.n,eIs b.term.cases,eEdges b.term.to]),(6,.mp O.length 0),(28,eInss b.ins),(29,aI b.ins.length),(30,aI j),(8,.ip none [aI i.to,aI i.op,aI i.n,eIs i.args])] (by simp [putS,dropS,Go.Av.look]) (by rfl) (by omega) (by simp [putS,dropS,Go.Av.look]) ?_ ?_ ?_
    ·exact hI.up
    ·have h6l:=lt_of_getElem? hcell
     simp [AVal.upto,uptoL,aI_upto,Edge.map_upto,Ins.map_upto,Block.map_upto,h6l,show 3<O2.length by omega,show 4<O2.length by omega]
    have hcell':∀y,(O2.set (O.length+1) y)[O.length]?=some (.cells (bcC (O.length+1) b (b.ins.take j) (eEdges b.term.to))):=fun y=>by rw [List.getElem?_set_ne (by omega)];exact hcell
    refine zg0 ?_
    simp -dsimp only [simprocAttr,↓vpre,zp,hcell,hcell',hsp,bcC,List.length_map,htl]
    repeat(refine⟨by omega,?_⟩)
    refine za0 ?_
    have hIn:=(hI.room (j+1)).one (cs':=bcC (O.length+1) b (b.ins.take (j+1)) (eEdges b.term.to)) (bcC_upto b _ (by omega) ⟨Edge.map_upto _ _,trivial⟩)
    show AWP Try.prog _ _ _ ⟨_,_,(O2.set (O.length+1) (AObj.spare (j+1))).set O.length (.cells (bcC0 (O.length+1) b ((b.ins.take j).map Ins.enc++[i.enc]) (eEdges b.term.to)))⟩
    rw [←ins_take hi]
    have hIn:CpI O _ _ ((O2.set (O.length+1) (AObj.spare (j+1))).set O.length (.cells (bcC0 (O.length+1) b ((b.ins.take (j+1)).map Ins.enc) (eEdges b.term.to)))):=hIn
    generalize (O2.set (O.length+1) (AObj.spare (j+1))).set O.length (.cells (bcC0 (O.length+1) b ((b.ins.take (j+1)).map Ins.enc) (eEdges b.term.to)))=O5 at *
    refine zh0 ?_
    repeat(refine⟨by omega,?_⟩)
    refine zl0 ?_
    refine⟨⟨⟨j+1,O5⟩,hlj,hIn⟩,by simp;omega,?_⟩
    refine zq rfl ?_ ?_
    simp -dsimp only [simprocAttr,↓vpre,zp,zc]
    ·exact Sub.int (by simp)
    rfl
   refine awp_exit ?_
   simp -dsimp only [vend,ne_eq,Nat.reduceEqDiff,reduceCtorEq]
   have hjl:b.ins.length≤j:=by
    have:=of_decide_eq_false h
    omega
   rw [List.take_of_length_le hjl] at hI
   have hcell:=hI.cell
   refine zg1 ?_
   simp -dsimp only [simprocAttr,↓vpre,zp,hcell]
   refine .inl ⟨_,hcc,by simp only [uptoL,AVal.upto,zt,zu,aI_upto],later_intro ?_⟩
   simp -dsimp only [simprocAttr,↓vpre,zp,hcell]
   refine za0 ?_
   have hIn:=hI.one (cs':=bcC (O.length+1) b b.ins (eEdges b.term.to)) (bcC_upto b _ (by omega) ⟨Edge.map_upto _ _,trivial⟩)
   show AWP Try.prog _ _ _ ⟨_,_,O2.set O.length (.cells (bcC (O.length+1) b b.ins (eEdges b.term.to)))⟩
   generalize O2.set O.length (.cells (bcC (O.length+1) b b.ins (eEdges b.term.to)))=O5 at *
   have hcell:=hIn.cell
   refine zg1 ?_
   simp -dsimp only [simprocAttr,↓vpre,zp,hcell]
   refine za0 ?_
   have h2l:=hIn.len
   have hnil:bcC (O.length+1) b b.ins (.lst 2 [] .ex)=[eIs b.params,.lst 4 (b.ins.map Ins.enc) (.tok (O.length+1)),aI b.term.kind,aI b.term.arg,aI b.term.n,eIs b.term.cases,.lst 2 [] .ex]:=rfl
   refine awp_retell2 O.length (bcC (O.length+1) b b.ins (.lst 2 [] .ex)) (List.getElem?_set_self (by omega)) rfl (fun d hd=>?_) (fun j c d hc hd=>?_) ?_
   ·simp only [bcC,bcC0,List.mem_cons,List.not_mem_nil,or_false] at hd
    rcases hd with rfl | rfl | rfl | rfl | rfl | rfl | rfl<;>trivial
   ·match j,hc,hd with
    | 0,hc,hd=>exact Sub.of_eq (by simpa [bcC,bcC0] using hc.symm.trans hd)
    | 1,hc,hd=>exact Sub.of_eq (by simpa [bcC,bcC0] using hc.symm.trans hd)
    | 2,hc,hd=>exact Sub.of_eq (by simpa [bcC,bcC0] using hc.symm.trans hd)
    | 3,hc,hd=>exact Sub.of_eq (by simpa [bcC,bcC0] using hc.symm.trans hd)
    | 4,hc,hd=>exact Sub.of_eq (by simpa [bcC,bcC0] using hc.symm.trans hd)
    | 5,hc,hd=>exact Sub.of_eq (by simpa [bcC,bcC0] using hc.symm.trans hd)
    | 6,hc,hd =>
     simp only [bcC,bcC0,List.getElem?_cons_succ,List.getElem?_cons_zero,Option.some.injEq] at hc hd
     subst hc
     subst hd
     exact Sub.nil_lst 2
    | j+7,hc,hd=>simp at hc
   rw [List.set_set]
   have hE:=CpE.start (cs:=bcC (O.length+1) b b.ins) (hIn.one (cs':=bcC (O.length+1) b b.ins (.lst 2 [] .ex)) (bcC_upto b _ (by omega) ⟨trivial,trivial⟩))
   generalize O5.set O.length (.cells (bcC (O.length+1) b b.ins (.lst 2 [] .ex)))=O6 at *
   refine zh2 (za0 ?_)
   refine awp_block (awp_loop (ι:={X:Ce // X.z≤b.term.to.length∧CpE O (bcC (O.length+1) b b.ins) X.tid (b.term.to.take X.z) X.O}) (fun X=>⟨83,[(1,.ip none [aI f.name,eBlocks f.blocks]),(2,.mp 3 0),(3,.mp 4 0),(15,eBlocks f.blocks),(16,aI N),(17,aI k),(5,.ip none [eIs b.params,eInss b.ins,aI b.term.kind,aI b.term.arg,aI b.term.n,eIs b.term.cases,eEdges b.term.to]),(6,.mp O.length 0),(55,eEdges b.term.to),(56,aI b.term.to.length),(57,aI X.1.z)],X.1.O⟩) (fun X=>b.term.to.length - X.1.z) ⟨⟨0,0,O6⟩,by simp,hE⟩ ?_ ?_)
   ·refine zq rfl ?_ ?_
    simp -dsimp only [simprocAttr,↓vpre,zp,zc]
    all_goals rfl
   rintro⟨⟨z,tid,O3⟩,hz,hE⟩
   simp only at hz hE
   have hE2:=hE.len
   refine zh1 (za0 ?_)
   apply zk1 rfl<;>intro h
   ·refine zb0 ?_
    have hlz:z<b.term.to.length:=by simpa using h
    obtain⟨e,he⟩:∃e,b.term.to[z]?=some e:=⟨b.term.to[z],by simp [hlz]⟩
    have hce:=hcl e.args (hbe e (List.mem_of_getElem? he))
    have hcell:=hE.cell
    have hti:b.term.to.take (z+1)=b.term.to.take z++[e]:=by rw [List.take_add_one,he];rfl
    have htl:(b.term.to.take z).length=z:=by rw [List.length_take];omega
    have h6l:=lt_of_getElem? hcell
    refine awp_seq (awp_block ?_)
    refine zg1 ?_
    simp -dsimp only [simprocAttr,↓vpre,zp,he]
    refine za0 ?_
    refine awp_local 10 ([aI e.block,eIs e.args]) [(1,.ip none [aI f.name,eBlocks f.blocks]),(2,.mp 3 0),(3,.mp 4 0),(15,eBlocks f.blocks),(16,aI N),(17,aI k),(5,.ip none [eIs b.params,eInss b.ins,aI b.term.kind,aI b.term.arg,aI b.term.n,eIs b.term.cases,eEdges b.term.to]),(6,.mp O.length 0),(55,eEdges b.term.to),(56,aI b.term.to.length),(57,aI z),(10,.ip none [aI e.block,eIs e.args])] (by simp [putS,dropS,Go.Av.look]) (by rfl) (by omega) (by simp [putS,dropS,Go.Av.look]) ?_ ?_ ?_
    ·exact hE.up
    ·simp [AVal.upto,uptoL,aI_upto,Edge.map_upto,Ins.map_upto,Block.map_upto,h6l,show 3<O3.length by omega,show 4<O3.length by omega]
    by_cases hzn:b.term.to.take z=[]
    ·have hox:outX tid (b.term.to.take z)=.lst 2 [] .ex:=if_pos hzn
     rw [hox] at hcell
     have hcell':∀X,(O3++X)[O.length]?=some (.cells (bcC (O.length+1) b b.ins (.lst 2 [] .ex))):=fun X=>at_left hcell
     refine zs0 ?_
     simp -dsimp only [simprocAttr,↓vpre,zp,hcell,hcell',bcC,cellsAll_v,cells_os']
     repeat(refine⟨by omega,?_⟩)
     refine .inl ⟨_,hce,by simp only [uptoL,AVal.upto,zt,zu,aI_upto],later_intro ?_⟩
     simp -dsimp only [simprocAttr,↓vpre,zp,hcell,hcell',bcC,cellsAll_v,cells_os']
     repeat(refine⟨by omega,?_⟩)
     refine⟨trivial,?_⟩
     refine⟨ob (by kernel_rfl),?_⟩
     refine za0 ?_
     have hput:CpE O (bcC (O.length+1) b b.ins) O3.length (b.term.to.take z++[e]) ((O3++[AObj.cells [aI e.block,eIs e.args]]).set O.length (.cells (bcC (O.length+1) b b.ins (.os O3.length 1 2)))):=hE.push e (fun v n hv hn=>bcC_upto b _ (by omega) hv) rfl hE.up (fun _ _=>rfl) (by rw [hzn];rfl) (by rw [hzn];rfl)
     show AWP Try.prog _ _ _ ⟨_,_,(O3++[AObj.cells [aI e.block,eIs e.args]]).set O.length (.cells (bcC (O.length+1) b b.ins (.os O3.length 1 2)))⟩
     generalize (O3++[AObj.cells [aI e.block,eIs e.args]]).set O.length (.cells (bcC (O.length+1) b b.ins (.os O3.length 1 2)))=O7 at *
     refine zh0 ?_
     repeat(refine⟨by omega,?_⟩)
     refine zl0 ?_
     refine⟨⟨⟨z+1,O3.length,O7⟩,hlz,by rw [hti];exact hput⟩,by simp;omega,?_⟩
     refine zq rfl ?_ ?_
     simp -dsimp only [simprocAttr,↓vpre,zp,zc]
     ·exact Sub.int (by simp)
     rfl
    obtain⟨o1,o2⟩:=hE.own hzn
    have hox:outX tid (b.term.to.take z)=.os tid z 2:=by
     unfold outX
     rw [if_neg hzn,htl]
    rw [hox] at hcell
    have hcell':∀X,(O3.set tid .gone++X)[O.length]?=some (.cells (bcC (O.length+1) b b.ins (.os tid z 2))):=fun X=>at_left (at_set_ne hcell (by omega))
    have hTT:(edC (b.term.to.take z)).take (z * 2)=edC (b.term.to.take z):=List.take_of_length_le (by rw [edC_len];omega)
    have hel:=edC_len (b.term.to.take z)
    rw [htl] at hel
    refine zg0 ?_
    simp -dsimp only [simprocAttr,↓vpre,zp,hcell,hcell',bcC,o2,hTT,hel,cellsAll_v,cells_os']
    repeat(refine⟨by omega,?_⟩)
    refine .inl ⟨_,hce,by simp only [uptoL,AVal.upto,zt,zu,aI_upto],later_intro ?_⟩
    simp -dsimp only [simprocAttr,↓vpre,zp,hcell,hcell',bcC,o2,hTT,hel,cellsAll_v,cells_os']
    repeat(refine⟨by omega,?_⟩)
    refine⟨trivial,?_⟩
    refine⟨ob (by kernel_rfl),?_⟩
    refine za0 ?_
    have hput:CpE O (bcC (O.length+1) b b.ins) O3.length (b.term.to.take z++[e]) ((O3.set tid .gone++[AObj.cells (edC (b.term.to.take z)++[aI e.block,eIs e.args])]).set O.length (.cells (bcC (O.length+1) b b.ins (.os O3.length (z+1) 2)))):=hE.push (O4:=O3.set tid .gone) e (fun v n hv hn=>bcC_upto b _ (by omega) hv) (List.length_set) (uptoO_set hE.up trivial) (fun k hk=>by rw [List.getElem?_set_ne (Ne.symm (hk hzn))]) (by rw [edC_snoc]) (by rw [htl])
    show AWP Try.prog _ _ _ ⟨_,_,(O3.set tid .gone++[AObj.cells (edC (b.term.to.take z)++[aI e.block,eIs e.args])]).set O.length (.cells (bcC (O.length+1) b b.ins (.os O3.length (z+1) 2)))⟩
    generalize (O3.set tid .gone++[AObj.cells (edC (b.term.to.take z)++[aI e.block,eIs e.args])]).set O.length (.cells (bcC (O.length+1) b b.ins (.os O3.length (z+1) 2)))=O7 at *
    refine zh0 ?_
    repeat(refine⟨by omega,?_⟩)
    refine zl0 ?_
    refine⟨⟨⟨z+1,O3.length,O7⟩,hlz,by rw [hti];exact hput⟩,by simp;omega,?_⟩
    refine zq rfl ?_ ?_
    simp -dsimp only [simprocAttr,↓vpre,zp,zc]
    ·exact Sub.int (by simp)
    rfl
   refine awp_exit ?_
   simp -dsimp only [vend,ne_eq,Nat.reduceEqDiff,reduceCtorEq]
   have hzl:b.term.to.length≤z:=by
    have:=of_decide_eq_false h
    omega
   rw [List.take_of_length_le hzl] at hE
   have hcell:=hE.cell
   have hout:=hS.out
   have ho4:=hE.keep 4 (by omega)
   rw [hout] at ho4
   have htkl:(f.blocks.take k).length=k:=by rw [List.length_take];omega
   have hown:=hE.own
   have h6l:=lt_of_getElem? hcell
   by_cases hdn:f.blocks.take k=[]
   ·have hob:outBl bid (f.blocks.take k)=.lst 7 [] .ex:=if_pos hdn
    rw [hob] at ho4
    have ho4':∀X,(O3++X)[4]?=some (.cells [aI f.name,.lst 7 [] .ex]):=fun X=>at_left ho4
    refine zs0 ?_
    simp -dsimp only [simprocAttr,↓vpre,zp,hcell,bcC,ho4,ho4',cellsAll_v,cells_os',outX_share,outE_share]
    repeat(refine⟨by omega,?_⟩)
    refine⟨trivial,?_⟩
    refine za0 ?_
    have hput:CpS f (f.blocks.take k++[b]) O3.length (ids++[tid]) ((O3++[AObj.cells (blC tid b)]).set 4 (.cells [aI f.name,.os O3.length 1 7])):=hS.snoc (by omega) hE.up (fun k hk _=>hE.keep k hk) (fun q=>⟨by have:=(hown q).1;omega,(hown q).2⟩) (by rw [blsC_snoc hS.cp.li,hdn];simp [blsC]) (by rw [hdn];rfl)
    show AWP Try.prog _ _ _ ⟨_,_,(O3++[AObj.cells (blC tid b)]).set 4 (.cells [aI f.name,.os O3.length 1 7])⟩
    generalize (O3++[AObj.cells (blC tid b)]).set 4 (.cells [aI f.name,.os O3.length 1 7])=O7 at *
    refine zh0 ?_
    repeat(refine⟨by omega,?_⟩)
    refine zl0 ?_
    refine⟨⟨⟨k+1,O3.length,ids++[tid],O7⟩,hlt,by rw [htk];exact hput⟩,by simp;omega,?_⟩
    refine zq rfl ?_ ?_
    simp -dsimp only [simprocAttr,↓vpre,zp,zc]
    ·exact Sub.int (by simp)
    rfl
   obtain⟨b1,b2⟩:=hS.blk hdn
   have hbl:=lt_of_getElem? b2
   have b3:=hE.keep bid hbl
   rw [b2] at b3
   have hob:outBl bid (f.blocks.take k)=.os bid k 7:=by
    unfold outBl
    rw [if_neg hdn,htkl]
   rw [hob] at ho4
   have ho4':∀X,(O3.set bid .gone++X)[4]?=some (.cells [aI f.name,.os bid k 7]):=fun X=>at_left (at_set_ne ho4 (by omega))
   have hbll:=blsC_len hS.cp.li
   rw [htkl] at hbll
   have hTT:(blsC ids (f.blocks.take k)).take (k * 7)=blsC ids (f.blocks.take k):=List.take_of_length_le (by omega)
   refine zg0 ?_
   simp -dsimp only [simprocAttr,↓vpre,zp,hcell,bcC,ho4,ho4',b3,hTT,hbll,cellsAll_v,cells_os',outX_share,outE_share]
   repeat(refine⟨by omega,?_⟩)
   refine⟨trivial,?_⟩
   refine za0 ?_
   have hput:CpS f (f.blocks.take k++[b]) O3.length (ids++[tid]) ((O3.set bid .gone++[AObj.cells (blsC ids (f.blocks.take k)++blC tid b)]).set 4 (.cells [aI f.name,.os O3.length (k+1) 7])):=by
    have:=hS.snoc (O1:=O3.set bid .gone) (b:=b) (tid:=tid) (by rw [List.length_set];omega) (by rw [List.length_set];exact uptoO_set hE.up trivial) (fun k hk hkb=>by rw [List.getElem?_set_ne (Ne.symm (hkb hdn))];exact hE.keep k hk) (fun q=>⟨by have:=(hown q).1;omega,by rw [List.getElem?_set_ne (by have:=(hown q).1;omega)];exact(hown q).2⟩) (blsC_snoc hS.cp.li tid b).symm rfl
    rw [List.length_set,htkl] at this
    exact this
   show AWP Try.prog _ _ _ ⟨_,_,(O3.set bid .gone++[AObj.cells (blsC ids (f.blocks.take k)++blC tid b)]).set 4 (.cells [aI f.name,.os O3.length (k+1) 7])⟩
   generalize (O3.set bid .gone++[AObj.cells (blsC ids (f.blocks.take k)++blC tid b)]).set 4 (.cells [aI f.name,.os O3.length (k+1) 7])=O7 at *
   refine zh0 ?_
   repeat(refine⟨by omega,?_⟩)
   refine zl0 ?_
   refine⟨⟨⟨k+1,O3.length,ids++[tid],O7⟩,hlt,by rw [htk];exact hput⟩,by simp;omega,?_⟩
   refine zq rfl ?_ ?_
   simp -dsimp only [simprocAttr,↓vpre,zp,zc]
   ·exact Sub.int (by simp)
   rfl
  refine awp_exit ?_
  simp -dsimp only [vend,ne_eq,Nat.reduceEqDiff,reduceCtorEq]
  have hkN:k=N:=by
   have:=of_decide_eq_false h
   omega
  subst hkN
  rw [List.take_of_length_le (by omega)] at hS
  have hout:=hS.out
  have hr3:=hS.r3
  have hob:outBl bid f.blocks=.os bid f.blocks.length 7:=if_neg hne
  rw [hob] at hout
  have hbl:=lt_of_getElem? (hS.blk hne).2
  have hR:=hS.done hne (cs:=[aI f.name,.os bid f.blocks.length 7]) ⟨trivial,hbl,trivial⟩
  have h3l:=lt_of_getElem? hr3
  have hr3':(O.set 3 (.cells [aI f.name,.os bid f.blocks.length 7]))[3]?=some (.cells [aI f.name,.os bid f.blocks.length 7]):=List.getElem?_set_self h3l
  refine zg1 ?_
  simp -dsimp only [simprocAttr,↓vpre,zp,hout,hr3]
  refine za0 ?_
  refine awp_ret ?_
  simp -dsimp only [simprocAttr,↓vpre,zp,RetAll,Try.results41,retVals,retVal,mkRet,seqPost_ret,blockPost_ret,loopPost_ret,hr3']
  exact hR
 exact FSub.mp rfl rfl
theorem sm_w{f:Func}(hfit:f.fit)(hc:checkFuncM f=0):SmW f:=by
 have hw:=checkFunc_ok hfit hc
 have hg:=hw.gr
 have hpar:∀b∈f.blocks,b.params.length≤4096:=fun b hb=>by
  have:=(hw.blk b hb).few
  omega
 exact {
  few:=hw.few
  params:=hpar
  ins:=hw.ins
  iargs:=fun b hb i hi=>(form_ok ((hw.blk b hb).forms i hi)).len
  cases:=fun b hb=>(end_ok (hw.blk b hb).fin).cases
  to:=fun b hb=>hg.to b hb
  eargs:=fun b hb e he=>by
   have h1:=(end_ok (hw.blk b hb).fin).edges e he
   rw [h1.2]
   have hr:=hg.edges b hb e he
   have hx:f.blocks[e.block.toNat]?=some (f.blocks[e.block.toNat]'(by omega)):=List.getElem?_eq_getElem _
   have:blkOf f e.block=f.blocks[e.block.toNat]'(by omega):=by simp [blkOf,hx]
   rw [this]
   exact hpar _ (List.getElem_mem _) }
def splitR(f:Func):AVal:=if checkFuncM f=0 then (if 128<f.blocks.length+(spM f).news.length then .tup [.agg [aI 0,.lst 7 [] .sh],aI 2] else .tup [(splitM f).enc,aI 0]) else .tup [.agg [aI 0,.lst 7 [] .sh],aI (checkFuncM f)]
structure Sx where
 k:Nat
 S:Sp
 bid:Nat
 O:List AObj
theorem spStep_news(f:Func)(k n:Nat)(S:Sp):(spStep f k n S).news.length≤S.news.length+1:=by
 unfold spStep
 split
 ·omega
 split
 ·simp
 omega
theorem eIss_up(n:Nat)(l:List (List Int)):uptoL n (l.map eIs):=by
 rw [uptoL_iff]
 intro c hc
 obtain⟨x,_,rfl⟩:=List.mem_map.1 hc
 exact⟨aI_upto _ _,trivial⟩
theorem split_spec(f:Func)(hfit:f.fit):PCall Try.prog 21 [f.enc] (splitR f):=by
 have hpr:=preds_spec f hfit
 unfold predsR at hpr
 unfold splitR
 by_cases hc:checkFuncM f=0
 ·rw [if_pos hc] at hpr ⊢
  have hg:=(checkFunc_ok hfit hc).gr
  have hsm:=sm_w hfit hc
  have hn:f.blocks.length≤128:=hg.few
  have hcp:=copy_spec f hsm hg.ne
  have hprl:=preds_len f
  obtain⟨R,hR0⟩:∃R,R=spM f:=⟨_,rfl⟩
  have hsp:splitM f=⟨f.name,List.zipWith setTo f.blocks R.tos++R.news⟩:=by rw [hR0];rfl
  rw [hsp,←hR0]
  unfold spM at hR0
  refine zf true 0 Try.func21 Try.ntmps21 ?_
  dsimp only [Tmp,TypeId,slotsOf]
  refine zh1 (za0 ?_)
  refine awp_freeze1 1 0 (.ip none [aI f.name,eBlocks f.blocks]) rfl (by simp [AObj.isSpare]) trivial rfl ?_ ?_
  rotate_left
  simp -dsimp only [simprocAttr,↓vpre,zp]
  ·refine zh1 ?_
   refine zi hpr ?_
   refine za0 ?_
   refine zh2 (za0 ?_)
   apply zk0 rfl<;>intro h
   ·cases h
   refine zb0 ?_
   refine awp_seq (awp_call_ex ⟨false,false⟩ hT 1 rfl rfl rfl (by simp) ?_)
   simp -dsimp only [simprocAttr,↓vpre,zp]
   refine⟨CpR f,cert_ecallE rfl (by simp) rfl rfl hcp,fun r O' hR=>?_⟩
   obtain⟨ids,bid,hr,hup,hg0,hg1,⟨hb5,hbO⟩,hco,hne⟩:=hR
   subst hr
   simp -dsimp only [simprocAttr,↓vpre,zp]
   refine za0 ?_
   have hS0:=SpO.start hup hg1 ⟨hb5,hbO⟩ hco hne
   generalize O'++[AObj.cells [aI f.name,.os bid f.blocks.length 7]]=O0 at *
   generalize O'.length=X0 at *
   refine zh2 (za0 ?_)
   refine awp_block (awp_loop (ι:={X:Sx // X.k≤f.blocks.length∧SpO f ids X0 X.S X.bid X.O∧R=spK f (f.blocks.length - X.k) X.k X.S∧X.S.news.length≤X.k * 257∧∀(j:Nat) b,X.k≤j→f.blocks[j]?=some b→X.S.tos[j]?=some b.term.to}) (fun X=>⟨78,[(1,.ip none [aI f.name,eBlocks f.blocks]),(2,.mp 1 0),(4,.lst 1 ((predsM f).map eIs) .sh),(6,.mp X0 0),(23,eBlocks f.blocks),(24,aI f.blocks.length),(25,aI X.1.k)],X.1.O⟩) (fun X=>f.blocks.length - X.1.k) ⟨⟨0,spS f,bid,O0⟩,by simp,hS0,by simpa using hR0,by simp [spS],fun j b _ h=>by simp [spS,h]⟩ ?_ ?_)
   ·refine zq rfl ?_ ?_
    simp -dsimp only [simprocAttr,↓vpre,zp,zc]
    all_goals rfl
   rintro⟨⟨k,S,bid,O⟩,hk,hS,hke,hnw,hrest⟩
   simp only at hk hS hke hnw hrest
   refine zh1 (za0 ?_)
   apply zk1 rfl<;>intro h
   ·refine zb0 ?_
    have hlt:k<f.blocks.length:=by simpa using h
    obtain⟨b,hb⟩:∃b,f.blocks[k]?=some b:=⟨_,List.getElem?_eq_getElem hlt⟩
    obtain⟨id,hid⟩:∃id,ids[k]?=some id:=⟨ids[k]'(by rw [hS.li];omega),List.getElem?_eq_getElem _⟩
    have hbo:blkOf f (k:Int)=b:=by simp [blkOf,hb]
    have hto:toOf f (k:Int)=b.term.to:=by unfold toOf;rw [hbo]
    have hbt:=hg.to b (List.mem_of_getElem? hb)
    have hbe:=hg.edges b (List.mem_of_getElem? hb)
    rw [show f.blocks.length - k=(f.blocks.length - (k+1))+1 by omega] at hke
    simp only [spK] at hke
    rw [hto] at hke
    obtain⟨S1,hS1⟩:∃S1,S1=spE f k b.term.to.length 0 S:=⟨_,rfl⟩
    rw [←hS1] at hke
    have hout:=hS.out
    have hbl:=hS.bl.2
    have hcell:=blsC_to (T:=cellsAll (S.news.map Block.enc)) hid hb
    have hcl:(blsC ids f.blocks++cellsAll (S.news.map Block.enc)).length=(f.blocks.length+S.news.length) * 7:=by
     rw [List.length_append,blsC_len hS.li,blocks_len]
     omega
    refine awp_seq (awp_block ?_)
    refine zh1 (za0 ?_)
    by_cases ht0:b.term.to=[]
    ·have hoe:outE id b.term.to=.lst 2 [] .sh:=if_pos ht0
     rw [hoe] at hcell
     refine zg1 ?_
     simp -dsimp only [simprocAttr,↓vpre,zp,hout,hbl,hcell,hcl,Int.toNat_natCast]
     repeat(refine⟨by omega,?_⟩)
     refine za0 ?_
     refine zh1 (za0 ?_)
     refine awp_block (awp_loop (ι:=Unit) (fun _=>⟨78,[(1,.ip none [aI f.name,eBlocks f.blocks]),(2,.mp 1 0),(4,.lst 1 ((predsM f).map eIs) .sh),(6,.mp X0 0),(23,eBlocks f.blocks),(24,aI f.blocks.length),(25,aI k),(36,aI 0),(37,aI 0)],O⟩) (fun _=>0) () ?_ ?_)
     ·refine zq rfl ?_ ?_
      simp -dsimp only [simprocAttr,↓vpre,zp,zc]
      all_goals rfl
     rintro⟨⟩
     refine zh1 (za0 ?_)
     refine zu1 rfl ?_
     refine awp_exit ?_
     simp -dsimp only [vend,ne_eq,Nat.reduceEqDiff,reduceCtorEq]
     have hS1e:S1=S:=by
      rw [hS1,ht0]
      rfl
     rw [hS1e] at hke
     refine zh0 ?_
     repeat(refine⟨by omega,?_⟩)
     refine zl0 ?_
     refine⟨⟨⟨k+1,S,bid,O⟩,hlt,hS,hke,by simp only;omega,fun j b hj=>hrest j b (by simp only at hj;omega)⟩,by simp;omega,?_⟩
     refine zq rfl ?_ ?_
     simp -dsimp only [simprocAttr,↓vpre,zp,zc]
     ·exact Sub.int (by simp)
     rfl
    have hoe:outE id b.term.to=.os id b.term.to.length 2:=if_neg ht0
    rw [hoe] at hcell
    refine zg1 ?_
    simp -dsimp only [simprocAttr,↓vpre,zp,hout,hbl,hcell,hcl,Int.toNat_natCast]
    repeat(refine⟨by omega,?_⟩)
    refine za0 ?_
    refine zh1 (za0 ?_)
    refine awp_block (awp_loop (ι:={X:Sx // X.k≤b.term.to.length∧SpO f ids X0 X.S X.bid X.O∧S1=spE f k (b.term.to.length - X.k) X.k X.S∧X.S.news.length≤k * 257+X.k∧(∀(j:Nat) c,k+1≤j→f.blocks[j]?=some c→X.S.tos[j]?=some c.term.to)∧∃l,X.S.tos[k]?=some l∧l.length=b.term.to.length∧l.drop X.k=b.term.to.drop X.k}) (fun X=>⟨78,[(1,.ip none [aI f.name,eBlocks f.blocks]),(2,.mp 1 0),(4,.lst 1 ((predsM f).map eIs) .sh),(6,.mp X0 0),(23,eBlocks f.blocks),(24,aI f.blocks.length),(25,aI k),(8,.os id b.term.to.length 2),(35,.os id b.term.to.length 2),(36,aI b.term.to.length),(37,aI X.1.k)],X.1.O⟩) (fun X=>b.term.to.length - X.1.k) ⟨⟨0,S,bid,O⟩,by simp,hS,by simpa using hS1,by simpa using hnw,fun j c hj=>hrest j c (by omega),b.term.to,hrest k b (Nat.le_refl _) hb,rfl,rfl⟩ ?_ ?_)
    ·refine zq rfl ?_ ?_
     simp -dsimp only [simprocAttr,↓vpre,zp,zc]
     all_goals rfl
    rintro⟨⟨n,S,bid,O⟩,hz,hS,hze,hnw,hrest,l,hl,hll,hld⟩
    simp only at hz hS hze hnw hrest hl hld
    refine zh1 (za0 ?_)
    apply zk1 rfl<;>intro h
    ·refine zb0 ?_
     have hlz:n<b.term.to.length:=by simpa using h
     obtain⟨x,hx⟩:∃x,b.term.to[n]?=some x:=⟨b.term.to[n],by simp [hlz]⟩
     have hlx:l[n]?=some x:=by
      have h1:(l.drop n)[0]?=(b.term.to.drop n)[0]?:=by rw [hld]
      rw [List.getElem?_drop,List.getElem?_drop,Nat.add_zero,hx] at h1
      exact h1
     have hxe:=hbe x (List.mem_of_getElem? hx)
     obtain⟨o1,o2,o3,o4⟩:=hS.own k id b l hid hb hl ht0
     have h2:=edC_two hlx
     have hel:=edC_len l
     have hil:=lt_of_getElem? o4
     have hXl:=lt_of_getElem? hS.out
     have hBl:=lt_of_getElem? hS.bl.2
     have h1l:=lt_of_getElem? hS.r1
     rw [show b.term.to.length - n=(b.term.to.length - (n+1))+1 by omega] at hze
     simp only [spE] at hze
     obtain⟨p,hp⟩:∃p,p=predsAt f x.block:=⟨_,rfl⟩
     have hpp:(predsM f)[x.block.toNat]?=some p:=by
      rw [hp]
      unfold predsAt
      rw [List.getElem?_eq_getElem (by rw [hprl];omega)]
      rfl
     have hst:spStep f k n S=if critB f k x then ⟨S.tos.set k (l.set n ⟨((f.blocks.length+S.news.length:Nat):Int),[]⟩),S.news++[jumpB x]⟩ else S:=by
      unfold spStep
      rw [hto,hx,hl]
      rfl
     have hcr:critB f k x=(decide (2≤b.term.to.length)&&decide (2≤p.length)):=by
      unfold critB
      rw [hbo,hp]
     rw [hst] at hze
     have hnn:=spStep_news f k n S
     refine awp_seq (awp_block ?_)
     refine zg1 ?_
     simp -dsimp only [simprocAttr,↓vpre,zp,o4,h2,hel]
     repeat(refine⟨by omega,?_⟩)
     refine za0 ?_
     refine awp_local 10 ([aI x.block,eIs x.args]) [(1,.ip none [aI f.name,eBlocks f.blocks]),(2,.mp 1 0),(4,.lst 1 ((predsM f).map eIs) .sh),(6,.mp X0 0),(23,eBlocks f.blocks),(24,aI f.blocks.length),(25,aI k),(8,.os id b.term.to.length 2),(35,.os id b.term.to.length 2),(36,aI b.term.to.length),(37,aI n),(9,aI n),(10,.ip none [aI x.block,eIs x.args])] (by simp [putS,dropS,Go.Av.look]) (by rfl) (by omega) (by simp [putS,dropS,Go.Av.look]) ?_ ?_ ?_
     ·exact hS.up
     ·simp [AVal.upto,uptoL,aI_upto,Edge.map_upto,Ins.map_upto,Block.map_upto,eIss_up,hXl,hBl,h1l,hil]
     by_cases c1:2≤b.term.to.length
     ·have g1:decide ((b.term.to.length:Int)<2)=false:=decide_eq_false (by omega)
      by_cases c2:2≤p.length
      ·have g2:decide ((p.length:Int)<2)=false:=decide_eq_false (by omega)
       rw [if_pos (by rw [hcr,decide_eq_true c1,decide_eq_true c2];rfl)] at hze
       refine zg2 ?_
       simp -dsimp only [simprocAttr,↓vpre,zp,g1,hpp,g2]
       repeat(refine⟨by omega,?_⟩)
       refine za0 ?_
       apply zk0 rfl<;>intro h
       ·cases h
       refine zb0 ?_
       have hout:=hS.out
       refine zg1 ?_
       simp -dsimp only [simprocAttr,↓vpre,zp,hout,o4,hel,Int.toNat_natCast]
       repeat(refine⟨by omega,?_⟩)
       refine za0 ?_
       have hsub:=fun(j:Nat) c d=>sub_splice (O:=O.set id (.cells (splice (edC l) (n * 2) [aI ((f.blocks.length+S.news.length:Nat):Int),.lst 1 [] .ex]))) (cs:=edC l) (xs:=[aI ((f.blocks.length+S.news.length:Nat):Int),.lst 1 [] .ex]) (ys:=[aI ((f.blocks.length+S.news.length:Nat):Int),eIs []]) (i:=n * 2) rfl (by rw [hel];simp;omega) (fun j c d h1 h2=>by
        match j,h1,h2 with
        | 0,h1,h2=>exact Sub.of_eq (by simpa using h1.symm.trans h2)
        | 1,h1,h2 =>
         simp only [List.getElem?_cons_succ,List.getElem?_cons_zero,Option.some.injEq] at h1 h2
         subst h1
         subst h2
         exact fun _ _ _ h=>h.lst_share
        | j+2,h1,h2=>simp at h1) j c d
       have hput:=edC_put (es:=l) (n:=n) (by omega) ⟨((f.blocks.length+S.news.length:Nat):Int),[]⟩
       have hput':splice (edC l) (n * 2) [aI ((f.blocks.length+S.news.length:Nat):Int),eIs []]=edC (l.set n ⟨((f.blocks.length+S.news.length:Nat):Int),[]⟩):=hput
       rw [hput'] at hsub
       refine awp_retell2 id (edC (l.set n ⟨((f.blocks.length+S.news.length:Nat):Int),[]⟩)) (List.getElem?_set_self hil) (by rw [←hput',splice_length (by rw [hel];simp;omega),splice_length (by rw [hel];simp;omega)]) (edC_scalar _) hsub ?_
       rw [List.set_set]
       have hS2:=hS.edge hid hb hl ht0 (m:=l.set n ⟨((f.blocks.length+S.news.length:Nat):Int),[]⟩) (List.length_set)
       generalize O.set id (.cells (edC (l.set n ⟨((f.blocks.length+S.news.length:Nat):Int),[]⟩)))=O5 at *
       have hout2:=hS2.out
       have hbl2:=hS2.bl.2
       have hxb:=hS2.xb
       have hout2':∀Y,(O5.set bid .gone++Y)[X0]?=some (.cells [aI f.name,.os bid (f.blocks.length+S.news.length) 7]):=fun Y=>at_left (at_set_ne hout2 hxb)
       have hcl2:(blsC ids f.blocks++cellsAll (S.news.map Block.enc)).length=(f.blocks.length+S.news.length) * 7:=by
        rw [List.length_append,blsC_len hS.li,blocks_len]
        omega
       have hTT:(blsC ids f.blocks++cellsAll (S.news.map Block.enc)).take ((f.blocks.length+S.news.length) * 7)=blsC ids f.blocks++cellsAll (S.news.map Block.enc):=List.take_of_length_le (by omega)
       refine zg0 ?_
       simp -dsimp only [simprocAttr,↓vpre,zp,hout2,hout2',hbl2,hcl2,hTT,cellsAll_v,cells_os']
       repeat(refine⟨by omega,?_⟩)
       refine⟨trivial,?_⟩
       refine za0 ?_
       have hS3:SpO f ids X0 ⟨S.tos.set k (l.set n ⟨((f.blocks.length+S.news.length:Nat):Int),[]⟩),S.news++[jumpB x]⟩ O5.length ((O5.set bid .gone++[AObj.cells (blsC ids f.blocks++(cellsAll (S.news.map Block.enc)++[.lst 1 [] .sh,.lst 4 [] .sh,aI 1,aI 0,aI 0,.lst 1 [] .sh,.lst 2 [x.enc] .sh]))]).set X0 (.cells [aI f.name,.os O5.length (f.blocks.length+S.news.length+1) 7])):=by
        have:=hS2.block (jumpB x) rfl rfl
        rw [List.append_assoc] at this
        exact this
       show AWP Try.prog _ _ _ ⟨_,_,(O5.set bid .gone++[AObj.cells (blsC ids f.blocks++(cellsAll (S.news.map Block.enc)++[.lst 1 [] .sh,.lst 4 [] .sh,aI 1,aI 0,aI 0,.lst 1 [] .sh,.lst 2 [x.enc] .sh]))]).set X0 (.cells [aI f.name,.os O5.length (f.blocks.length+S.news.length+1) 7])⟩
       generalize (O5.set bid .gone++[AObj.cells (blsC ids f.blocks++(cellsAll (S.news.map Block.enc)++[.lst 1 [] .sh,.lst 4 [] .sh,aI 1,aI 0,aI 0,.lst 1 [] .sh,.lst 2 [x.enc] .sh]))]).set X0 (.cells [aI f.name,.os O5.length (f.blocks.length+S.news.length+1) 7])=O7 at *
       refine zh0 ?_
       repeat(refine⟨by omega,?_⟩)
       refine zl0 ?_
       refine⟨⟨⟨n+1,_,O5.length,O7⟩,hlz,hS3,hze,by simp only [List.length_append,List.length_singleton];omega,fun j c hj hc=>by
        simp only at hj ⊢
        rw [List.getElem?_set_ne (by omega)]
        exact hrest j c hj hc,l.set n ⟨((f.blocks.length+S.news.length:Nat):Int),[]⟩,by simp only;rw [List.getElem?_set_self (lt_of_getElem? hl)],by rw [List.length_set,hll],by
        simp only
        rw [List.drop_set_of_lt (by omega),←List.drop_drop,hld,List.drop_drop]⟩,by simp;omega,?_⟩
       refine zq rfl ?_ ?_
       simp -dsimp only [simprocAttr,↓vpre,zp,zc]
       ·exact Sub.int (by simp)
       rfl
      have g2:decide ((p.length:Int)<2)=true:=decide_eq_true (by omega)
      rw [if_neg (by rw [hcr,decide_eq_false c2];simp)] at hze
      refine zg2 ?_
      simp -dsimp only [simprocAttr,↓vpre,zp,g1,hpp,g2]
      repeat(refine⟨by omega,?_⟩)
      refine za0 ?_
      refine zw0 rfl ?_
      refine awp_exit ?_
      simp -dsimp only [vend,ne_eq,Nat.reduceEqDiff,reduceCtorEq]
      refine zh0 ?_
      repeat(refine⟨by omega,?_⟩)
      refine zl0 ?_
      refine⟨⟨⟨n+1,S,bid,O⟩,hlz,hS,by simp only;rw [show b.term.to.length - (n+1)=b.term.to.length - (n+1) from rfl];exact hze,by simp only;omega,hrest,l,hl,hll,by simp only;rw [←List.drop_drop,hld,List.drop_drop]⟩,by simp;omega,?_⟩
      refine zq rfl ?_ ?_
      simp -dsimp only [simprocAttr,↓vpre,zp,zc]
      ·exact Sub.int (by simp)
      rfl
     have g1:decide ((b.term.to.length:Int)<2)=true:=decide_eq_true (by omega)
     rw [if_neg (by rw [hcr,decide_eq_false c1];simp)] at hze
     refine zg2 ?_
     simp -dsimp only [simprocAttr,↓vpre,zp,g1]
     repeat(refine⟨by omega,?_⟩)
     refine za0 ?_
     refine zw0 rfl ?_
     refine awp_exit ?_
     simp -dsimp only [vend,ne_eq,Nat.reduceEqDiff,reduceCtorEq]
     refine zh0 ?_
     repeat(refine⟨by omega,?_⟩)
     refine zl0 ?_
     refine⟨⟨⟨n+1,S,bid,O⟩,hlz,hS,by simp only;rw [show b.term.to.length - (n+1)=b.term.to.length - (n+1) from rfl];exact hze,by simp only;omega,hrest,l,hl,hll,by simp only;rw [←List.drop_drop,hld,List.drop_drop]⟩,by simp;omega,?_⟩
     refine zq rfl ?_ ?_
     simp -dsimp only [simprocAttr,↓vpre,zp,zc]
     ·exact Sub.int (by simp)
     rfl
    refine awp_exit ?_
    simp -dsimp only [vend,ne_eq,Nat.reduceEqDiff,reduceCtorEq]
    have hzl:b.term.to.length≤n:=by
     have:=of_decide_eq_false h
     omega
    rw [show b.term.to.length - n=0 by omega] at hze
    simp only [spE] at hze
    subst hze
    refine zh0 ?_
    repeat(refine⟨by omega,?_⟩)
    refine zl0 ?_
    refine⟨⟨⟨k+1,S1,bid,O⟩,hlt,hS,hke,by simp only;omega,hrest⟩,by simp;omega,?_⟩
    refine zq rfl ?_ ?_
    simp -dsimp only [simprocAttr,↓vpre,zp,zc]
    ·exact Sub.int (by simp)
    rfl
   refine awp_exit ?_
   simp -dsimp only [vend,ne_eq,Nat.reduceEqDiff,reduceCtorEq]
   have hkN:f.blocks.length≤k:=by
    have:=of_decide_eq_false h
    omega
   rw [show f.blocks.length - k=0 by omega] at hke
   simp only [spK] at hke
   subst hke
   have hout:=hS.out
   have hr1:=hS.r1
   have h1l:=lt_of_getElem? hr1
   have hx5:=hS.x5
   by_cases hm:128<f.blocks.length+R.news.length
   ·have g1:decide ((128:Int)<((f.blocks.length+R.news.length:Nat):Int))=true:=decide_eq_true (by omega)
    rw [if_pos hm]
    refine zg2 ?_
    simp -dsimp only [simprocAttr,↓vpre,zp,hout,g1]
    refine za0 ?_
    refine zw0 rfl ?_
    have hr1':(O.set 1 (.cells [aI 0,.lst 7 [] .ex]))[1]?=some (.cells [aI 0,.lst 7 [] .ex]):=List.getElem?_set_self h1l
    refine zg1 ?_
    simp -dsimp only [simprocAttr,↓vpre,zp,hr1]
    refine za0 ?_
    refine awp_ret ?_
    simp -dsimp only [simprocAttr,↓vpre,zp,zr,Try.results21,hr1']
    simp [uptoL,AVal.upto]
   have g1:decide ((128:Int)<((f.blocks.length+R.news.length:Nat):Int))=false:=decide_eq_false (by omega)
   rw [if_neg hm]
   have hzl:(List.zipWith setTo f.blocks R.tos).length=f.blocks.length:=by
    rw [List.length_zipWith,hS.w.len]
    omega
   have hbs:=blsC_set (ids:=ids) hS.w.len hS.w.each
   have hel:∀(j id:Nat) (c:Block),ids[j]?=some id→(List.zipWith setTo f.blocks R.tos)[j]?=some c→c.term.to≠[]→∃b l,f.blocks[j]?=some b∧R.tos[j]?=some l∧c=setTo b l∧b.term.to≠[]:=fun j id c h1 h2 h3=>by
    rw [List.getElem?_zipWith] at h2
    cases hb:f.blocks[j]? with
    | none=>rw [hb] at h2;cases h2
    | some b =>
     cases hl:R.tos[j]? with
     | none=>rw [hb,hl] at h2;cases h2
     | some l =>
      rw [hb,hl] at h2
      simp only [Option.some.injEq] at h2
      refine⟨b,l,rfl,rfl,h2.symm,fun q=>h3 ?_⟩
      have:=hS.w.each j b l hb hl
      rw [q] at this
      rw [←h2]
      exact List.length_eq_zero_iff.1 this
   refine zg2 ?_
   simp -dsimp only [simprocAttr,↓vpre,zp,hout,g1]
   refine za0 ?_
   refine zu0 rfl ?_
   refine zb0 ?_
   refine zg1 ?_
   simp -dsimp only [simprocAttr,↓vpre,zp,hout,hr1]
   refine za0 ?_
   refine awp_blocks2 (ids:=ids) (bs:=List.zipWith setTo f.blocks R.tos) (T:=R.news) (X:=1) (oid:=bid) (name:=f.name) (by rw [hzl,hS.li]) (by have:=hS.bl.1;omega) (by rw [hzl];exact List.getElem?_set_self h1l) (by rw [hbs,List.getElem?_set_ne (by have:=hS.bl.1;omega)];exact hS.bl.2) (fun j id c h1 h2 h3=>?_) (fun i j id c d h1 h2 h3 h4 h5 h6=>?_) fun O1 hO1 hO11=>?_
   ·obtain⟨b,l,q1,q2,q3,q4⟩:=hel j id c h1 h2 h3
    obtain⟨o1,o2,o3,o4⟩:=hS.own j id b l h1 q1 q2 q4
    exact⟨o2,by omega,by rw [List.getElem?_set_ne (by omega),q3];exact o4⟩
   ·obtain⟨b,l,q1,q2,q3,q4⟩:=hel i id c h1 h3 h5
    obtain⟨b',l',r1,r2,r3,r4⟩:=hel j id d h2 h4 h6
    exact hS.inj i j id b b' h1 h2 q1 r1 q4 r4
   generalize List.zipWith setTo f.blocks R.tos++R.news=GB at hO11 ⊢
   refine awp_ret ?_
   simp -dsimp only [simprocAttr,↓vpre,zp,zr,Try.results21,hO11]
   refine⟨?_,rfl⟩
   simp [uptoL,AVal.upto,aI_upto,Block.map_upto]
  exact FSub.mp rfl rfl
 rw [if_neg hc] at hpr ⊢
 obtain⟨e,he⟩:∃e,e=checkFuncM f:=⟨_,rfl⟩
 rw [←he] at hc hpr ⊢
 have hde:decide (e=0)=false:=decide_eq_false hc
 refine zf true 0 Try.func21 Try.ntmps21 ?_
 dsimp only [Tmp,TypeId,slotsOf]
 refine zh1 (za0 ?_)
 refine awp_freeze1 1 0 (.ip none [aI f.name,eBlocks f.blocks]) rfl (by simp [AObj.isSpare]) trivial rfl ?_ ?_
 rotate_left
 simp -dsimp only [simprocAttr,↓vpre,zp]
 ·refine zh1 ?_
  refine zi hpr ?_
  refine za0 ?_
  refine zg2 ?_
  simp -dsimp only [simprocAttr,↓vpre,zp,hde]
  refine za0 ?_
  refine zw0 rfl ?_
  refine zh1 (za0 ?_)
  refine awp_ret ?_
  simp -dsimp only [simprocAttr,↓vpre,zp,zr,Try.results21]
  simp [uptoL,AVal.upto]
 exact FSub.mp rfl rfl
theorem copies_spec2{O:List AObj}(hup:∀o∈O,o.upto O.length)(g:Func)(e:Edge)(spare:Int)(hW:MvW g e spare)(hsl:(seqM (edgeMv g e) spare).length≤2 ^ 40) :
  ECall Try.prog 65 O [g.enc,e.enc,aI spare] fun r O1=>r=.lst 4 ((copiesM g e spare).map Ins.enc) (.tok (O.length+3))∧O1=O++[.gone,.gone,.spare (edgeMv g e).length,.spare (copiesM g e spare).length]:=by
 obtain⟨b0,b1⟩:=hW.blk
 have hB:=blkOf_at (f:=g) (k:=e.block) b0 (by omega)
 have hlen:=hW.len
 have hfew:=hW.few
 have hml:(edgeMv g e).length=(blkOf g e.block).params.length:=by
  unfold edgeMv
  rw [List.length_zip]
  omega
 have hsq:PCall Try.prog 25 [.lst 2 ((edgeMv g e).map eM) .sh,aI spare] (.tup [.lst 2 ((seqM (edgeMv g e) spare).map eM) .sh,aI 0]):=by
  by_cases hne:edgeMv g e=[]
  ·rw [hne]
   exact seq_nil spare
  exact seq_spec _ spare hne (by omega) hW.pos hW.dis hW.sp
 unfold copiesM
 rw [List.length_map]
 have hat:∀(k:Nat) (v a:Int),(blkOf g e.block).params[k]?=some v→e.args[k]?=some a→(edgeMv g e).take (k+1)=(edgeMv g e).take k++[(v,a)]:=fun k v a h1 h2=>by
  rw [List.take_add_one]
  congr 1
  unfold edgeMv
  have hz:((blkOf g e.block).params.zip e.args)[k]?=some (v,a):=List.getElem?_zip_eq_some.2 ⟨h1,h2⟩
  rw [hz]
  rfl
 generalize seqM (edgeMv g e) spare=out at *
 generalize edgeMv g e=M at *
 generalize blkOf g e.block=B at *
 clear hW
 refine ecall_all hT Try.func65 rfl (by kernel_rfl) (by simp [Try.ntmps65]) ?_
 show AWP Try.prog _ _ _ ⟨60,_,_⟩
 dsimp only [Tmp,TypeId,slotsOf]
 refine zh1 (za0 ?_)
 refine awp_frzk 3 0 ([aI g.name,eBlocks g.blocks]) rfl rfl (by rfl) ?_
 simp -dsimp only [simprocAttr,↓vpre,zp]
 refine awp_frzk 4 1 ([aI e.block,eIs e.args]) rfl rfl (by rfl) ?_
 simp -dsimp only [simprocAttr,↓vpre,zp]
 refine zh1 (za0 ?_)
 refine awp_own 7 rfl ?_
 simp -dsimp only [simprocAttr,↓vpre,zp]
 show AWP Try.prog _ _ _ ⟨_,_,O++[.gone,.gone,.spare 0]⟩
 refine zg2 ?_
 simp -dsimp only [simprocAttr,↓vpre,zp,hB]
 repeat(refine⟨by omega,?_⟩)
 refine za0 ?_
 refine awp_block (awp_loop (ι:={k:Nat // k≤B.params.length}) (fun k=>⟨60,[(2,aI spare),(4,.ip none [aI e.block,eIs e.args]),(7,.lst 2 ((M.take k.1).map eM) (.tok (O.length+2))),(19,eIs B.params),(20,aI B.params.length),(21,aI k.1)],O++[.gone,.gone,.spare (M.take k.1).length]⟩) (fun k=>B.params.length - k.1) ⟨0,by omega⟩ ?_ ?_)
 ·refine zq rfl ?_ ?_
  simp -dsimp only [simprocAttr,↓vpre,zp,zc]
  all_goals rfl
 rintro⟨k,hk⟩
 refine zh1 (za0 ?_)
 apply zk1 rfl<;>intro h
 ·refine zb0 ?_
  have hlt:k<B.params.length:=by simpa using h
  obtain⟨v,hv⟩:∃v,B.params[k]?=some v:=⟨B.params[k],List.getElem?_eq_getElem hlt⟩
  obtain⟨a,ha⟩:∃a,e.args[k]?=some a:=⟨e.args[k]'(by omega),List.getElem?_eq_getElem _⟩
  have htk:=hat k v a hv ha
  have htl:(M.take k).length=k:=by rw [List.length_take];omega
  have hmap:(M.take k).map eM++[.agg [aI v,aI a]]=(M.take (k+1)).map eM:=by rw [htk];simp
  have htl2:(M.take (k+1)).length=k+1:=by rw [List.length_take];omega
  refine awp_seq (awp_block ?_)
  refine zg1 ?_
  simp -dsimp only [simprocAttr,↓vpre,zp,hv]
  repeat(refine⟨by omega,?_⟩)
  refine za0 ?_
  refine zg0 ?_
  simp -dsimp only [simprocAttr,↓vpre,zp,ha,htl]
  repeat(refine⟨by omega,?_⟩)
  refine za0 ?_
  rw [hmap]
  refine zh0 ?_
  repeat(refine⟨by omega,?_⟩)
  refine zl0 ?_
  refine⟨⟨k+1,hlt⟩,by show B.params.length - (k+1)<B.params.length - k;omega,?_⟩
  refine zq rfl ?_ ?_
  simp -dsimp only [simprocAttr,↓vpre,zp,zc]
  ·exact Sub.int (by simp)
  show O++[AObj.gone,AObj.gone,AObj.spare _]=O++[AObj.gone,AObj.gone,AObj.spare _]
  rw [htl2]
 refine awp_exit ?_
 simp -dsimp only [vend,ne_eq,Nat.reduceEqDiff,reduceCtorEq]
 have hkl:k=B.params.length:=by
  have:=of_decide_eq_false h
  omega
 subst hkl
 rw [List.take_of_length_le (by omega)]
 refine zh1 ?_
 refine .inl ⟨_,hsq,by simp only [uptoL,AVal.upto,zt,zu,aI_upto,eMs_upto],later_intro ?_⟩
 simp -dsimp only [simprocAttr,↓vpre,zp]
 refine za0 ?_
 refine zh1 (za0 ?_)
 refine awp_own 10 rfl ?_
 simp -dsimp only [simprocAttr,↓vpre,zp]
 show AWP Try.prog _ _ _ ⟨_,_,O++[.gone,.gone,.spare M.length,.spare 0]⟩
 refine zh2 (za0 ?_)
 refine awp_block (awp_loop (ι:={k:Nat // k≤out.length}) (fun k=>⟨60,[(10,.lst 4 (((out.take k.1).map cpI).map Ins.enc) (.tok (O.length+3))),(43,.lst 2 (out.map eM) .sh),(44,aI out.length),(45,aI k.1)],O++[.gone,.gone,.spare M.length,.spare (out.take k.1).length]⟩) (fun k=>out.length - k.1) ⟨0,by omega⟩ ?_ ?_)
 ·refine zq rfl ?_ ?_
  simp -dsimp only [simprocAttr,↓vpre,zp,zc]
  all_goals rfl
 rintro⟨k,hk⟩
 refine zh1 (za0 ?_)
 apply zk1 rfl<;>intro h
 ·refine zb0 ?_
  have hlt:k<out.length:=by simpa using h
  obtain⟨x,hx⟩:∃x,out[k]?=some x:=⟨out[k],List.getElem?_eq_getElem hlt⟩
  have htk:out.take (k+1)=out.take k++[x]:=by rw [List.take_add_one,hx];rfl
  have htl:(out.take k).length=k:=by rw [List.length_take];omega
  have htl2:(out.take (k+1)).length=k+1:=by rw [List.length_take];omega
  have hmap:((out.take k).map cpI).map Ins.enc++[.agg [aI x.1,aI 100,aI 0,.lst 1 [aI x.2] .sh]]=((out.take (k+1)).map cpI).map Ins.enc:=by
   rw [htk]
   simp
   rfl
  refine awp_seq (awp_block ?_)
  refine zg1 ?_
  simp -dsimp only [simprocAttr,↓vpre,zp,hx]
  repeat(refine⟨by omega,?_⟩)
  refine za0 ?_
  refine zg0 ?_
  simp -dsimp only [simprocAttr,↓vpre,zp,htl]
  repeat(refine⟨by omega,?_⟩)
  refine za0 ?_
  rw [hmap]
  have hupX:∀o∈O++[AObj.gone,.gone,.spare M.length,.spare (k+1)],o.upto (O.length+4):=fun o ho=>by
   rcases List.mem_append.1 ho with q | q
   ·exact AObj.upto_mono (by omega) (hup o q)
   simp only [List.mem_cons,List.not_mem_nil,or_false] at q
   rcases q with rfl | rfl | rfl | rfl<;>trivial
  refine awp_trunc' (O.length+4) [(10,.lst 4 (((out.take (k+1)).map cpI).map Ins.enc) (.tok (O.length+3))),(43,.lst 2 (out.map eM) .sh),(44,aI out.length),(45,aI k)] (by simp) (by omega) (O++[.gone,.gone,.spare M.length,.spare (k+1)]) ?_ hupX ?_ ?_ ?_
  ·simp [List.take_append]
   exact List.take_of_length_le (by omega)
  ·simp [Says,St.get,putS,dropS,Go.Av.look,Sub.refl]
  ·intro p hp
   simp only [List.mem_cons,List.not_mem_nil,or_false] at hp
   rcases hp with rfl | rfl | rfl | rfl
   ·exact⟨Ins.map_upto _ _,show O.length+3<O.length+4 by omega⟩
   ·exact⟨eMs_upto _ _,trivial⟩
   ·trivial
   trivial
  refine zh0 ?_
  repeat(refine⟨by omega,?_⟩)
  refine zl0 ?_
  refine⟨⟨k+1,hlt⟩,by show out.length - (k+1)<out.length - k;omega,?_⟩
  refine zq rfl ?_ ?_
  simp -dsimp only [simprocAttr,↓vpre,zp,zc]
  ·exact Sub.int (by simp)
  show O++[AObj.gone,AObj.gone,AObj.spare _,AObj.spare _]=O++[AObj.gone,AObj.gone,AObj.spare _,AObj.spare _]
  rw [htl2]
 refine awp_exit ?_
 simp -dsimp only [vend,ne_eq,Nat.reduceEqDiff,reduceCtorEq]
 have hkl:k=out.length:=by
  have:=of_decide_eq_false h
  omega
 subst hkl
 rw [List.take_of_length_le (Nat.le_refl _)]
 refine zh1 (za0 ?_)
 refine awp_ret ?_
 simp -dsimp only [simprocAttr,↓vpre,zp,RetAll,Try.results65,retVals,retVal,mkRet,seqPost_ret,blockPost_ret,loopPost_ret]
end Go.Proofs.Ytkhnjeblbiocaaa
namespace Go.Av
theorem cert_buildSlice_raw{P:Program}{tab:Tab}(hT:TabOK P tab){o:Oper}{σ:St}{t e:TypeId}{len:Nat}{parts:Array (Nat×Operand)}{ti te:TInfo}{ps:List (Nat×AVal)}{xs:List AVal}
  (ho:o.op=.buildSlice t len parts) (hd:∀d,o.dst=some d→d<σ.n) (ht:tab t=some ti) (hdesc:ti.desc=.slice e) (he:tab e=some te) (hpos:0<te.size) (hev:σ.evParts parts.toList=some ps) (hfl:∀p∈ps,p.2.flat)
  (hseq:seqParts 0 ps=some xs) (hlen:xs.length=len) (hsz:∀x∈xs,x.cells.length=te.size) (hsm:len * te.size≤2 ^ 24):Cert P o σ (.lst te.size xs .ex) .pure :=
 Cert.ofRun hd fun base σ' a g hrel h _=>by
  have hg:=hrel.good
  have hpr:=evParts_rel (a:=a) (g:=g) (fun x hx y hy=>h x (by simpa [ho,Op.operands] using hx) y hy) hev hfl
  have hu:=slice_desc hT ht hdesc
  obtain⟨⟨i,z,h1,h2,h3,h4,h5,h6,h7,h8,h9⟩,_⟩:=hT e te he
  have hps:=seqParts_eq hseq
  have hsc:∀x∈xs,∀c∈x.cells,c.scalar:=by
   have aux:∀{ps:List (Nat×AVal)} {vs:List (Nat×Value)},PRel g ps vs→∀p∈ps,∀c∈p.2.cells,c.scalar:=by
    intro ps vs hr
    induction hr with
    | nil=>intro p hp;cases hp
    | cons hx hf r ih =>
     intro p hp
     rcases List.mem_cons.1 hp with hp | hp
     ·subst hp
      exact hx.cells_scalar hf
     exact ih p hp
   intro x hx c hc
   have hmem:∃k,(k,x)∈ps:=by
    obtain⟨k,hk⟩:=List.getElem?_of_mem hx
    refine⟨0+k,?_⟩
    rw [hps,List.mem_map]
    refine⟨(x,0+k),?_,rfl⟩
    rw [List.mem_iff_getElem?]
    exact⟨k,by simp [hk]⟩
   obtain⟨k,hk⟩:=hmem
   exact aux hpr _ hk c hc
  by_cases hz:len=0
  ·subst hz
   have hxs:xs=[]:=List.length_eq_zero_iff.1 hlen
   subst hxs
   have hps0:ps=[]:=by rw [hps];rfl
   subst hps0
   have hpart:parts.toList=[]:=by
    cases hp:parts.toList with
    | nil=>rfl
    | cons p r =>
     obtain⟨i,x⟩:=p
     rw [hp] at hev
     simp only [St.evParts] at hev
     cases hx:σ.ev x with
     | none=>simp [hx] at hev
     | some y =>
      cases hr:σ.evParts r with
      | none=>simp [hx,hr] at hev
      | some ys=>simp [hx,hr] at hev
   have hpart':parts = #[]:=Array.toList_eq_nil_iff.1 hpart
   subst hpart'
   refine⟨.slice (some ⟨g.w.heap.size,0,none⟩) 0 0,g.push (.cells #[] e),.inl ?_,Le.push g hg _,hg.push _,rfl,?_⟩
   ·have er:Array.range 0 = #[]:=rfl
    simp [execOp,ho,Instr.buildSlice,run_underlying hu,Go.sizeOf,typeInfo,h1,Instr.fill,Go.newRow,G.push,er]
   exact RV.newRow (xs:=[]) hg (by simp) (by simp) (by simp) ⟨by simp [cellsAll],by simp [cellsAll]⟩
  have hne:¬len * i.size=0:=by
   rw [h2]
   intro e0
   rcases Nat.mul_eq_zero.1 e0 with q | q<;>omega
  obtain⟨zs,hzs⟩:∃zs:Array Value,zs=(Array.range (len * i.size)).map (z.cells[· % z.cells.size]!):=⟨_,rfl⟩
  have hzsz:zs.size=len * te.size:=by rw [hzs];simp [h2]
  obtain⟨zc,hzc,hzr,hzl⟩:∃zc:List AVal,(∀c∈zc,c.scalar)∧RVs g zc zs∧zc.length=len * te.size:=by
   refine⟨(List.range (len * te.size)).map fun j=>te.zero.getD (j % te.size) (.v (.bool false)),fun c hc=>?_,⟨by simp [hzsz],fun j c u hj hju=>?_⟩,by simp⟩
   ·rw [List.mem_map] at hc
    obtain⟨j,_,e⟩:=hc
    subst e
    have hlt:j % te.size<te.zero.length:=by rw [h6];exact Nat.mod_lt _ hpos
    rw [List.getD_eq_getElem?_getD,List.getElem?_eq_getElem hlt]
    exact h9 _ (List.getElem_mem hlt)
   have hj':=lt_of_getElem? hj
   simp only [List.length_map,List.length_range] at hj'
   rw [List.getElem?_map,List.getElem?_range hj'] at hj
   simp only [Option.map_some,Option.some.injEq] at hj
   subst hj
   have hlt:j % te.size<te.zero.length:=by rw [h6];exact Nat.mod_lt _ hpos
   have hlt':j % te.size<z.cells.size:=by rw [h5];exact hlt
   rw [hzs] at hju
   simp only [Array.getElem?_map,h2,Array.getElem?_range,if_pos hj',Option.map_some,Option.some.injEq] at hju
   subst hju
   rw [List.getD_eq_getElem?_getD,List.getElem?_eq_getElem hlt]
   refine h8 g (j % te.size) _ _ (List.getElem?_eq_getElem hlt) ?_
   rw [h5,h6]
   simp [hlt']
  have hfill:∃cs',fillA (fun i=>some (i * te.size,te.size)) zc ps=some cs':=by
   have aux:∀(ys:List AVal) (k:Nat) (cs:List AVal),(∀y∈ys,y.cells.length=te.size)→(k+ys.length) * te.size≤cs.length→∃cs',fillA (fun i=>some (i * te.size,te.size)) cs ((ys.zipIdx k).map fun p=>(p.2,p.1))=some cs':=by
    intro ys
    induction ys with
    | nil=>intro k cs _ _;exact⟨cs,rfl⟩
    | cons y ys ih =>
     intro k cs hy hl
     simp only [List.zipIdx_cons,List.map_cons,fillA]
     simp only [List.length_cons] at hl
     have hk1:(k+1) * te.size=k * te.size+te.size:=Nat.succ_mul k te.size
     have hmono:(k+1) * te.size≤(k+(ys.length+1)) * te.size:=Nat.mul_le_mul_right _ (by omega)
     have hc:y.cells.length=te.size∧k * te.size+te.size≤cs.length:=⟨hy y (by simp),by omega⟩
     rw [if_pos hc]
     refine ih (k+1) _ (fun z hz=>hy z (List.mem_cons_of_mem _ hz)) ?_
     rw [splice_length (by omega),show k+1+ys.length=k+(ys.length+1) by omega]
     exact hl
   rw [hps]
   exact aux xs 0 zc hsz (by rw [hzl,hlen,Nat.zero_add];exact Nat.le_refl _)
  obtain⟨cs',hcs'⟩:=hfill
  obtain⟨arr',q1,q2,_⟩:=fill_spec (fun i=>some (i * te.size,te.size)) hpr hzr hcs'
  obtain⟨e1,_⟩:=fillA_seq xs 0 zc cs' (by rw [←hps];exact hcs') (by rw [hzl,hlen,Nat.zero_add];exact Nat.le_refl _)
  have e2:cs'=cellsAll xs:=by
   rw [e1]
   simp only [Nat.zero_mul,List.take_zero,List.nil_append,Nat.zero_add]
   rw [List.drop_of_length_le (by rw [hzl,hlen];omega),List.append_nil]
  subst e2
  have hrun:(Instr.buildSlice t len (parts.map fun(i,x)=>(i,a.eval x))).run P g.w=.ok (.slice (some ⟨g.w.heap.size,0,none⟩) len len) (g.w.alloc (.cells arr' e)):=by
   have hbig:¬len * i.size > 2 ^ 24:=by rw [h2];omega
   rw [hzs,←h2] at q1
   have q1':Instr.fill (fun i_1=>some (i_1 * i.size,i.size)) ((Array.range (len * i.size)).map (z.cells[· % z.cells.size]!)) (parts.map fun(i,x)=>(i,a.eval x)).toList=some arr':=by
    rw [Array.toList_map]
    exact q1
   simp only [Instr.buildSlice,run_underlying hu,Go.sizeOf,typeInfo,Go.zeroValue,Sem.run_bind,run_program,Result.andThen_ok,h1,Sem.run_pure,Go.newRow]
   rw [if_neg hbig,if_neg hne]
   simp only [Sem.run_bind,Sem.run_pure,Result.andThen_ok,run_program,h1,h4,q1',run_newObj]
   rfl
  refine⟨.slice (some ⟨g.w.heap.size,0,none⟩) len len,g.push (.cells arr' e),.inl (by simp [execOp,ho,hrun,G.push]),Le.push g hg _,hg.push _,rfl,?_⟩
  have:=RV.newRow (xs:=xs) (sz:=te.size) (arr:=arr') (t:=e) hg hsz hsc (by
   have:len≤len * te.size:=Nat.le_mul_of_pos_right _ hpos
   omega) q2
  rw [hlen] at this
  exact this
theorem cert_append_osNew_raw{P:Program}{tab:Tab}(hT:TabOK P tab){o:Oper}{σ:St}{t e:TypeId}{x y:Operand}{ti te:TInfo}{sz:Nat}{xs ys:List AVal}{ow:Own}
  (ho:o.op=.call ⟨.builtin .append,#[x,y],#[t,t]⟩) (hd:∀d,o.dst=some d→d<σ.n) (ht:tab t=some ti) (hdesc:ti.desc=.slice e) (he:tab e=some te) (hsz:te.size=sz) (hx:σ.ev x=some (.lst sz xs .ex)) (hy:σ.ev y=some (.lst sz ys ow))
  (hn:ys.length≠0) (hlen:xs.length+ys.length≤2 ^ 62) (hb:(xs.length+ys.length) * te.bytes≤2 ^ 47) :
  Cert P o σ (.os σ.objs.length (xs.length+ys.length) sz) (.write (σ.objs++[.cells (cellsAll (xs++ys))])) :=
 Cert.ofRun hd fun base σ' a g hrel h ho'=>by
  have hO:g.objs=σ.objs:=ho'.resolve_left (by simp)
  have hg:=hrel.good
  have hu:=slice_desc hT ht hdesc
  subst hsz
  have hx':=h x (by simp [ho,Op.operands,Call.operands]) _ hx
  have hy':=h y (by simp [ho,Op.operands,Call.operands]) _ hy
  obtain⟨adx,capx,olds,ex,hx1,hx2,hx3,hx4,hx5,hx6⟩:=hx'.lst_read (P:=P)
  obtain⟨ady,capy,news,ey,hy1,hy2,hy3,hy4,hy5,hy6⟩:=hy'.lst_read (P:=P)
  obtain⟨⟨i,z,h1,h2,h3,h4,h5,h6,h7,h8,h9⟩,_⟩:=hT e te he
  have hcapx:capx=xs.length:=by
   rcases hx'.lst_inv with⟨q1,q2⟩ | ⟨ad,cap,f,q1,_,_,_,_,_,_,_,q2⟩
   ·rw [ex] at q1
    cases q2
    simp at q1
    simp [q1]
   rw [ex] at q1
   simp only [Value.slice.injEq] at q1
   rw [q1.2.2]
   exact q2
  subst hcapx
  have hexec:=run_builtin1 (P:=P) ho a g.w
  simp only [builtin,List.map_toArray,List.map_cons,List.map_nil] at hexec
  have hrun:=run_append_new (P:=P) g.w t o.type e i z hu h1 h4 adx xs.length xs.length ys.length (a.eval y) olds news hy1 (by rw [h2];exact hy2 g.w.drew rfl) (by rw [h2,←ex];exact hx2 g.w.drew rfl) (by omega) hlen (by rw [h3];exact hb)
  rw [←ex] at hrun
  obtain⟨cap,hcap⟩:∃cap,cap=grownCap g.w (xs.length+ys.length) xs.length e:=⟨_,rfl⟩
  obtain⟨rest,hrest⟩:∃rest,rest=Builtin.zeroCells z.cells (cap - (xs.length+ys.length)):=⟨_,rfl⟩
  have hge:=grownCap_ge g.w (xs.length+ys.length) xs.length e
  rw [←hcap] at hrun hge
  rw [←hrest] at hrun
  have hrs:rest.size=(cap - (xs.length+ys.length)) * te.size:=by rw [hrest,size_zeroCells,h5,h6]
  obtain⟨arr,harr⟩:∃arr,arr=olds.toArray++news.toArray++rest:=⟨_,rfl⟩
  rw [←harr] at hrun
  have hgd:=hg.heap (w':=g.w.drew) rfl rfl rfl rfl
  have hled:=Le.heap (g:=g) (w':=g.w.drew) rfl rfl rfl rfl
  obtain⟨g1,hg1⟩:∃g1:G,g1=⟨g.w.drew,g.fr,g.env,g.objs⟩:=⟨_,rfl⟩
  rw [←hg1] at hgd hled
  have hw1:g1.w=g.w.drew:=by rw [hg1]
  have ho1:g1.objs=σ.objs:=by rw [hg1];exact hO
  have hcells:=hx3.append hy3
  rw [←cellsAll_append] at hcells
  have hcl:(cellsAll (xs++ys)).length=(xs.length+ys.length) * te.size:=by
   rw [cellsAll_length (sz:=te.size) (fun x hx=>by
    rcases List.mem_append.1 hx with q | q
    ·exact hx4 x q
    exact hy4 x q)]
   simp
  have hasz:arr.size=cap * te.size:=by
   rw [harr]
   simp only [Array.size_append,List.size_toArray,hx6,hy6,hrs,←Nat.add_mul]
   rw [show xs.length+ys.length+(cap - (xs.length+ys.length))=cap by omega]
  have hle:=hled.trans (Le.alloc hgd (.cells arr e) 0 (.cells (cellsAll (xs++ys))))
  have hobj:Fits (g1.alloc (.cells arr e) 0 (.cells (cellsAll (xs++ys)))) (.cells arr e) (.cells (cellsAll (xs++ys))):=by
   refine⟨arr,e,rfl,by rw [hcl,hasz];exact Nat.mul_le_mul_right _ hge,fun j c u hj hu=>?_,fun c hc=>?_⟩
   ·have hlt:=lt_of_getElem? hj
    rw [hcl] at hlt
    rw [harr] at hu
    have hu2:=append_cells_get hu (by simp only [List.size_toArray,hx6,hy6,←Nat.add_mul];exact hlt)
    exact(hcells.2 j c u hj (by simpa using hu2)).mono hle
   rw [cellsAll_append] at hc
   rcases List.mem_append.1 hc with q | q
   ·exact hx5 c q
   exact hy5 c q
  have hgood:=Good.alloc hgd (.cells arr e) 0 (.cells (cellsAll (xs++ys))) (.inr rfl) hobj
  refine⟨.slice (some ⟨g.w.heap.size,0,none⟩) (xs.length+ys.length) cap,_,.inl ?_,hle,hgood,?_,?_⟩
  ·rw [hexec]
   simp [hrun,G.alloc,hw1]
  ·simp [G.alloc,ho1,Mode.post]
  rw [←ho1]
  have e1:(g.w.heap.size)=g1.w.heap.size:=by rw [hw1];rfl
  rw [e1]
  exact .os (l:=⟨g1.w.heap.size,0,arr.size⟩) (env_new hgd) objs_new (by simp [AObj.isSpare]) hge (by rw [hasz];exact Nat.le_refl _) hlen
theorem cert_append_os_raw{P:Program}{tab:Tab}(hT:TabOK P tab){o:Oper}{σ:St}{t e:TypeId}{x y:Operand}{ti te:TInfo}{id len sz:Nat}{cs ys:List AVal}{ow:Own}
  (ho:o.op=.call ⟨.builtin .append,#[x,y],#[t,t]⟩) (hd:∀d,o.dst=some d→d<σ.n) (ht:tab t=some ti) (hdesc:ti.desc=.slice e) (he:tab e=some te) (hsz:te.size=sz) (hx:σ.ev x=some (.os id len sz)) (hob:σ.objs[id]?=some (.cells cs)) (hy:σ.ev y=some (.lst sz ys ow))
  (hin:len * sz≤cs.length) (hn:ys.length≠0) (hlen:len+ys.length≤2 ^ 62) (hb:(len+ys.length) * te.bytes≤2 ^ 47) :
  Cert P o σ (.os σ.objs.length (len+ys.length) sz) (.write (σ.objs.set id .gone++[.cells (cs.take (len * sz)++cellsAll ys)])) :=
 Cert.ofRun hd fun base σ' a g hrel h ho'=>by
  have hO:g.objs=σ.objs:=ho'.resolve_left (by simp)
  have hg:=hrel.good
  have hu:=slice_desc hT ht hdesc
  subst hsz
  have hx':=h x (by simp [ho,Op.operands,Call.operands]) _ hx
  have hy':=h y (by simp [ho,Op.operands,Call.operands]) _ hy
  obtain⟨l,o1,cap,q1,q2,q3,hlc,hcb,hmax,eu⟩:=hx'.os_inv
  obtain⟨ady,capy,news,ey,hy1,hy2,hy3,hy4,hy5,hy6⟩:=hy'.lst_read (P:=P)
  obtain⟨⟨i,z,h1,h2,h3,h4,h5,h6,h7,h8,h9⟩,_⟩:=hT e te he
  have hob':g.objs[id]?=some (.cells cs):=by rw [hO];exact hob
  have hidlt:=lt_of_getElem? hob'
  obtain⟨arr,t',hlo,hrow,hclen,hcs,hcsc,hlsz⟩:=hg.row hob' q1
  have hexec:=run_builtin1 (P:=P) ho a g.w
  simp only [builtin,List.map_toArray,List.map_cons,List.map_nil] at hexec
  have hsh:=hy3
  have hcl:(cellsAll ys).length=ys.length * te.size:=cellsAll_length hy4
  obtain⟨m,hm⟩:∃m,m=len * te.size:=⟨_,rfl⟩
  obtain⟨olds,hol⟩:∃olds,olds=arr.toList.take m:=⟨_,rfl⟩
  obtain⟨ds,hds⟩:∃ds,ds=cs.take (len * te.size)++cellsAll ys:=⟨_,rfl⟩
  rw [←hm] at hds hin
  have hosz:olds.length=m:=by rw [hol];simp;omega
  have holds:RVs g (cs.take m) olds.toArray:=by
   refine⟨by simp [hosz];omega,fun j c u hj hu=>?_⟩
   have hlt:=lt_of_getElem? hj
   simp only [List.length_take] at hlt
   rw [List.getElem?_take,if_pos (by omega)] at hj
   refine hcs j c u hj ?_
   simp only [List.getElem?_toArray,hol] at hu
   rw [List.getElem?_take,if_pos (by omega)] at hu
   simpa using hu
  have hall:RVs g ds (olds++news).toArray:=by
   rw [hds]
   exact holds.append hsh
  have hdl:ds.length=m+ys.length * te.size:=by
   rw [hds,List.length_append,List.length_take,hcl]
   omega
  have hdsc:∀c∈ds,c.scalar:=fun c hc=>by
   rw [hds] at hc
   rcases List.mem_append.1 hc with hc | hc
   ·exact hcsc c (List.mem_of_mem_take hc)
   exact hy5 c hc
  have hml:(len+ys.length) * te.size=m+ys.length * te.size:=by rw [Nat.add_mul,hm]
  rw [←hm,←hds]
  by_cases hroom:len+ys.length≤cap
  ·have hfit:m+ys.length * te.size≤arr.size:=by
    have:=Nat.mul_le_mul_right te.size hroom
    omega
   obtain⟨arr',harr'⟩:∃arr',arr'=(arr.toList.take m++news++arr.toList.drop (m+news.length)).toArray:=⟨_,rfl⟩
   have hst:=run_storeCells_at P l.block m t' news 0 arr g.w hrow (by rw [hy6];omega) (fun u hu=>by
    obtain⟨j,hj⟩:=List.getElem?_of_mem hu
    have hlt:=lt_of_getElem? hj
    have hsz:=hy3.1
    simp only [List.size_toArray] at hsz
    rw [hsz] at hlt
    have hc:=List.getElem?_eq_getElem hlt
    exact((hy3.2 j _ u hc (by simpa using hj)).scalar_cell (hy5 _ (List.mem_of_getElem? hc))).1)
   simp only [Nat.add_zero] at hst
   rw [←harr'] at hst
   have hrun:=run_append_in (P:=P) g.w (g.w.setRow l.block arr') t o.type e i hu h1 ⟨l.block,0,none⟩ len cap ys.length (a.eval y) news hy1 (by rw [h2];exact hy2 g.w rfl) (by omega) (by rw [addr_add,h2,Nat.zero_add,←hm];exact hst)
   rw [←eu] at hrun
   have hturn:=turns_cells (cs':=ds) hob' q1 hlo arr'
   have hle:=Le.turn hg hturn
   have hasz:arr'.size=arr.size:=by
    rw [harr']
    simp only [List.size_toArray,List.length_append,List.length_take,List.length_drop,Array.length_toList,hy6]
    omega
   have hgood:=Good.turn hg hturn (by
    refine⟨l,arr',t',rfl,hlo,setRow_heap g.w l.block arr arr' t' (0,0) hrow,by rw [hdl,hasz];exact hfit,fun j c u hj hu'=>?_,hdsc,by rw [hasz];exact hlsz⟩
    have hlt:=lt_of_getElem? hj
    rw [hdl] at hlt
    have e1:arr'=olds.toArray++news.toArray++(arr.toList.drop (m+news.length)).toArray:=by
     rw [harr',hol]
     simp
    rw [e1] at hu'
    have hu2:=append_cells_get hu' (by simp only [List.size_toArray,hosz,hy6];exact hlt)
    exact(hall.2 j c u hj (by simpa using hu2)).mono hle) (fun l1 h1 _=>by
    simp only [Option.some.injEq] at h1
    subst h1
    rw [setRow_size]
    exact lt_of_getElem?' hrow)
   obtain⟨g1,hg1⟩:∃g1:G,g1=g.turn id (some l) (.cells ds) (g.w.setRow l.block arr'):=⟨_,rfl⟩
   rw [←hg1] at hle hgood
   have he1:g1.env[id]?=some (some l):=by
    rw [hg1]
    simp only [G.turn]
    rw [List.getElem?_set_self (env_lt hg hob')]
   have ho1:g1.objs[id]?=some (.cells ds):=by
    rw [hg1]
    simp only [G.turn]
    rw [List.getElem?_set_self hidlt]
   have hlen1:g1.objs.length=σ.objs.length:=by
    rw [hg1,←hO]
    simp [G.turn]
   refine⟨.slice (some ⟨l.block,0,none⟩) (len+ys.length) cap,g1.ren id l (.cells ds),.inl ?_,hle.trans (Le.ren hgood he1 ho1 trivial (by simp [AObj.isSpare])),Good.ren hgood he1 ho1,?_,?_⟩
   ·rw [hexec,hg1]
    simp [hrun,G.turn,G.ren]
   ·simp only [G.ren,hg1,G.turn,Mode.post,List.set_set,hO]
   refine .os (l:=l) (o:=.cells ds) ?_ ?_ (by simp [AObj.isSpare]) hroom hcb hlen
   ·simp only [G.ren]
    rw [←hlen1,←hgood.len]
    simp
   simp only [G.ren]
   rw [←hlen1]
   simp
  have hrun:=run_append_new (P:=P) g.w t o.type e i z hu h1 h4 (some ⟨l.block,0,none⟩) len cap ys.length (a.eval y) olds news hy1 (by rw [h2];exact hy2 g.w.drew rfl) (by
   rw [h2]
   simp only [Builtin.firstCells]
   rw [←hm]
   have:=run_loadCells (P:=P) g.w.drew ⟨l.block,0,none⟩ m (fun j=>arr.getD j undef) (fun j hj=>by
    rw [addr_add,Nat.zero_add]
    have:g.w.drew.cell? ⟨l.block,j,none⟩=arr[j]?:=cell_of_row (w:=g.w.drew) hrow j
    rw [this]
    simp [Array.getD_eq_getD_getElem?,show j<arr.size by omega])
   rw [list_eq_range olds m _ hosz (fun j hj=>by
    rw [hol,List.getElem?_take,if_pos hj]
    simp [Array.getD_eq_getD_getElem?,show j<arr.size by omega])] at this
   exact this) (by omega) hlen (by rw [h3];exact hb)
  rw [←eu] at hrun
  obtain⟨cap2,hcap⟩:∃cap2,cap2=grownCap g.w (len+ys.length) cap e:=⟨_,rfl⟩
  obtain⟨rest,hrest⟩:∃rest,rest=Builtin.zeroCells z.cells (cap2 - (len+ys.length)):=⟨_,rfl⟩
  have hge:=grownCap_ge g.w (len+ys.length) cap e
  rw [←hcap] at hrun hge
  rw [←hrest] at hrun
  have hrs:rest.size=(cap2 - (len+ys.length)) * te.size:=by rw [hrest,size_zeroCells,h5,h6]
  obtain⟨arr2,harr⟩:∃arr2,arr2=olds.toArray++news.toArray++rest:=⟨_,rfl⟩
  rw [←harr] at hrun
  have hgd:=hg.heap (w':=g.w.drew) rfl rfl rfl rfl
  have hled:=Le.heap (g:=g) (w':=g.w.drew) rfl rfl rfl rfl
  obtain⟨g1,hg1⟩:∃g1:G,g1=⟨g.w.drew,g.fr,g.env,g.objs⟩:=⟨_,rfl⟩
  rw [←hg1] at hgd hled
  have hw1:g1.w=g.w.drew:=by rw [hg1]
  have ho1:g1.objs=σ.objs:=by rw [hg1];exact hO
  have hasz:arr2.size=cap2 * te.size:=by
   rw [harr]
   simp only [Array.size_append,List.size_toArray,hosz,hy6,hrs]
   have:(len+ys.length) * te.size+(cap2 - (len+ys.length)) * te.size=cap2 * te.size:=by
    rw [←Nat.add_mul,show len+ys.length+(cap2 - (len+ys.length))=cap2 by omega]
   omega
  have hle:=hled.trans (Le.alloc hgd (.cells arr2 e) 0 (.cells ds))
  have hobj:Fits (g1.alloc (.cells arr2 e) 0 (.cells ds)) (.cells arr2 e) (.cells ds):=by
   refine⟨arr2,e,rfl,by rw [hdl,hasz,←hml];exact Nat.mul_le_mul_right _ hge,fun j c u hj hu=>?_,hdsc⟩
   have hlt:=lt_of_getElem? hj
   rw [hdl] at hlt
   rw [harr] at hu
   have hu2:=append_cells_get hu (by simp only [List.size_toArray,hosz,hy6];exact hlt)
   exact(hall.2 j c u hj (by simpa using hu2)).mono hle
  have hgood:=Good.alloc hgd (.cells arr2 e) 0 (.cells ds) (.inr rfl) hobj
  obtain⟨g2,hg2⟩:∃g2:G,g2=g1.alloc (.cells arr2 e) 0 (.cells ds):=⟨_,rfl⟩
  rw [←hg2] at hle hgood
  have henv2:g2.env[id]?=some (some l):=by
   rw [hg2]
   simp only [G.alloc]
   rw [List.getElem?_append,if_pos (by rw [hg1];exact env_lt hg hob'),hg1]
   exact q1
  have hobj2:g2.objs[id]?=some (.cells cs):=by
   rw [hg2]
   simp only [G.alloc]
   rw [List.getElem?_append,if_pos (by rw [hg1];exact hidlt),hg1]
   exact hob'
  have hturn:=turns_gone hobj2 henv2 (by simp [AObj.isSpare]) trivial
  have hw2:g2.w=g.w.drew.alloc (.cells arr2 e):=by rw [hg2,←hw1];rfl
  refine⟨.slice (some ⟨g.w.heap.size,0,none⟩) (len+ys.length) cap2,g2.turn id (some l) .gone g2.w,.inl ?_,hle.trans (Le.turn hgood hturn),Good.turn hgood hturn trivial (fun _ _ hh=>hh.elim),?_,?_⟩
  ·rw [hexec]
   simp [hrun,G.turn,hw2]
  ·simp only [G.turn,hg2,G.alloc,ho1,Mode.post]
   rw [List.set_append,if_pos (by rw [←hO];exact hidlt)]
  have e1:(g.w.heap.size)=g1.w.heap.size:=by rw [hw1];rfl
  have hidlt1:id<g1.objs.length:=by rw [hg1];exact hidlt
  rw [e1,←ho1]
  refine .os (l:=⟨g1.w.heap.size,0,arr2.size⟩) (o:=.cells ds) ?_ ?_ (by simp [AObj.isSpare]) hge (by rw [hasz];exact Nat.le_refl _) hlen
  ·simp only [G.turn,hg2,G.alloc]
   rw [List.getElem?_set_ne (by omega)]
   exact env_new hgd
  simp only [G.turn,hg2,G.alloc]
  rw [List.getElem?_set_ne (by omega)]
  exact objs_new
end Go.Av
namespace Go.Proofs.Ytkhnjeblbiocaaa
open Go.Av
structure Cy where
 k:Nat
 bid:Nat
 ids:List Nat
 ss:List Nat
 O:List AObj
theorem copy_spec2(f:Func)(hs:SmW f)(hne:f.blocks≠[]):ECall Try.prog 41 [.gone,.cells [aI 0,.lst 7 [] .ex]] [f.enc] (CpR2 f):=by
 have hcl:=fun(l:List Int) (h:l.length≤4096)=>clone_spec l (by omega)
 have hS0:=copy_start2 f
 have hn:=hs.few
 obtain⟨N,hN⟩:∃N,N=f.blocks.length:=⟨_,rfl⟩
 rw [←hN] at hn
 refine ecall_all hT Try.func41 rfl (by kernel_rfl) (by simp [Try.ntmps41]) ?_
 show AWP Try.prog _ _ _ ⟨83,_,_⟩
 dsimp only [Tmp,TypeId,slotsOf]
 refine zh1 (za0 ?_)
 refine awp_freeze1 1 2 (.ip none [aI f.name,eBlocks f.blocks]) rfl (by simp [AObj.isSpare]) trivial rfl ?_ ?_
 rotate_left
 simp -dsimp only [simprocAttr,↓vpre,zp]
 ·refine zh1 (za0 ?_)
  refine zg2 ?_
  simp -dsimp only [simprocAttr,↓vpre,zp,←hN]
  refine za0 ?_
  show AWP Try.prog _ _ _ ⟨_,_,[.gone,.cells [aI 0,.lst 7 [] .ex],.gone,.cells [aI 0,.lst 7 [] .ex],.cells [aI f.name,.lst 7 [] .ex]]⟩
  generalize [AObj.gone,.cells [aI 0,.lst 7 [] .ex],.gone,.cells [aI 0,.lst 7 [] .ex],.cells [aI f.name,.lst 7 [] .ex]]=O0 at *
  refine awp_block (awp_loop (ι:={X:Cy // X.k≤N∧CpS2 f (f.blocks.take X.k) X.bid X.ids X.ss X.O}) (fun X=>⟨83,[(1,.ip none [aI f.name,eBlocks f.blocks]),(2,.mp 3 0),(3,.mp 4 0),(15,eBlocks f.blocks),(16,aI N),(17,aI X.1.k)],X.1.O⟩) (fun X=>N - X.1.k) ⟨⟨0,0,[],[],O0⟩,by simp,hS0⟩ ?_ ?_)
  ·refine zq rfl ?_ ?_
   simp -dsimp only [simprocAttr,↓vpre,zp,zc]
   all_goals rfl
  rintro⟨⟨k,bid,ids,ss,O⟩,hk,hS⟩
  simp only at hk hS
  refine zh1 (za0 ?_)
  apply zk1 rfl<;>intro h
  ·refine zb0 ?_
   have hlt:k<N:=by simpa using h
   obtain⟨b,hb⟩:∃b,f.blocks[k]?=some b:=⟨f.blocks[k]'(by omega),List.getElem?_eq_getElem _⟩
   have hbm:=List.mem_of_getElem? hb
   have htk:f.blocks.take (k+1)=f.blocks.take k++[b]:=by rw [List.take_add_one,hb];rfl
   have hbp:=hs.params b hbm
   have hbi:=hs.ins b hbm
   have hba:=hs.iargs b hbm
   have hbc:=hs.cases b hbm
   have hbt:=hs.to b hbm
   have hbe:=hs.eargs b hbm
   have hcp:=hcl b.params (by omega)
   have hcc:=hcl b.term.cases (by omega)
   have h3l:=lt_of_getElem? hS.r3
   have h4l:=lt_of_getElem? hS.out
   refine awp_seq (awp_block ?_)
   refine zg1 ?_
   simp -dsimp only [simprocAttr,↓vpre,zp,hb]
   refine za0 ?_
   refine awp_local 5 ([eIs b.params,eInss b.ins,aI b.term.kind,aI b.term.arg,aI b.term.n,eIs b.term.cases,eEdges b.term.to]) [(1,.ip none [aI f.name,eBlocks f.blocks]),(2,.mp 3 0),(3,.mp 4 0),(15,eBlocks f.blocks),(16,aI N),(17,aI k),(5,.ip none [eIs b.params,eInss b.ins,aI b.term.kind,aI b.term.arg,aI b.term.n,eIs b.term.cases,eEdges b.term.to])] (by simp [putS,dropS,Go.Av.look]) (by rfl) (by omega) (by simp [putS,dropS,Go.Av.look]) ?_ ?_ ?_
   ·exact hS.up
   ·simp [AVal.upto,uptoL,aI_upto,Edge.map_upto,Ins.map_upto,Block.map_upto,h3l,h4l]
   refine zh1 ?_
   refine zi hcp ?_
   refine⟨ob (by kernel_rfl),?_⟩
   refine za0 ?_
   refine awp_ownCell O.length 1 (sz:=4) (xs:=[]) (snoc_get _ _) rfl ?_
   show AWP Try.prog _ _ _ ⟨_,_,(O++[AObj.cells [eIs b.params,.lst 4 [] .ex,aI b.term.kind,aI b.term.arg,aI b.term.n,eIs b.term.cases,eEdges b.term.to]]++[AObj.spare 0]).set O.length (.cells ([eIs b.params,.lst 4 [] .ex,aI b.term.kind,aI b.term.arg,aI b.term.n,eIs b.term.cases,eEdges b.term.to].set 1 (.lst 4 [] (.tok (O++[AObj.cells [eIs b.params,.lst 4 [] .ex,aI b.term.kind,aI b.term.arg,aI b.term.n,eIs b.term.cases,eEdges b.term.to]]).length))))⟩
   rw [own_norm]
   have hI:=CpI.start hS.up (cs:=bcC (O.length+1) b [] (eEdges b.term.to)) (bcC_upto b [] (by omega) ⟨Edge.map_upto _ _,trivial⟩)
   show AWP Try.prog _ _ _ ⟨_,_,O++[AObj.cells (bcC (O.length+1) b [] (eEdges b.term.to)),.spare 0]⟩
   generalize O++[AObj.cells (bcC (O.length+1) b [] (eEdges b.term.to)),.spare 0]=O2 at *
   refine zh2 (za0 ?_)
   refine awp_block (awp_loop (ι:={X:Ci // X.j≤b.ins.length∧CpI O (bcC (O.length+1) b (b.ins.take X.j) (eEdges b.term.to)) X.j X.O}) (fun X=>⟨83,[(1,.ip none [aI f.name,eBlocks f.blocks]),(2,.mp 3 0),(3,.mp 4 0),(15,eBlocks f.blocks),(16,aI N),(17,aI k),(5,.ip none [eIs b.params,eInss b.ins,aI b.term.kind,aI b.term.arg,aI b.term.n,eIs b.term.cases,eEdges b.term.to]),(6,.mp O.length 0),(28,eInss b.ins),(29,aI b.ins.length),(30,aI X.1.j)],X.1.O⟩) (fun X=>b.ins.length - X.1.j) ⟨⟨0,O2⟩,by simp,hI⟩ ?_ ?_)
   ·refine zq rfl ?_ ?_
    simp -dsimp only [simprocAttr,↓vpre,zp,zc]
    all_goals rfl
   rintro⟨⟨j,O2⟩,hj,hI⟩
   simp only at hj hI
   have hI2:=hI.len
   refine zh1 (za0 ?_)
   apply zk1 rfl<;>intro h
   ·refine zb0 ?_
    have hlj:j<b.ins.length:=by simpa using h
    obtain⟨i,hi⟩:∃i,b.ins[j]?=some i:=⟨b.ins[j],by simp [hlj]⟩
    have hci:=hcl i.args (by have:=hba i (List.mem_of_getElem? hi);omega)
    have hcell:=hI.cell
    have hsp:=hI.sp
    have htl:(b.ins.take j).length=j:=by rw [List.length_take];omega
    refine awp_seq (awp_block ?_)
    refine zg1 ?_
    simp -dsimp only [simprocAttr,↓vpre,zp,hi]
    refine za0 ?_
    refine zh1 ?_
    refine zi hci ?_
    refine za0 ?_
    refine awp_local 8 ([aI i.to,aI i.op,aI i.n,eIs i.args]) [(1,.ip none [aI f.name,eBlocks f.blocks]),(2,.mp 3 0),(3,.mp 4 0),(15,eBlocks f.blocks),(16,aI N),(17,aI k),(5,.ip none [eIs b.params,eInss b.ins,aI b.term.kind,aI b.term.arg,aI b.term.n,eIs b.term.cases,eEdges b.term.to]),(6,.mp O.length 0),(28,eInss b.ins),(29,aI b.ins.length),(30,aI j),(8,.ip none [aI i.to,aI i.op,aI i.n,eIs i.args])] (by simp [putS,dropS,Go.Av.look]) (by rfl) (by omega) (by simp [putS,dropS,Go.Av.look]) ?_ ?_ ?_
    ·exact hI.up
    ·have h6l:=lt_of_getElem? hcell
     simp [AVal.upto,uptoL,aI_upto,Edge.map_upto,Ins.map_upto,Block.map_upto,h6l,show 3<O2.length by omega,show 4<O2.length by omega]
    have hcell':∀y,(O2.set (O.length+1) y)[O.length]?=some (.cells (bcC (O.length+1) b (b.ins.take j) (eEdges b.term.to))):=fun y=>by rw [List.getElem?_set_ne (by omega)];exact hcell
    refine zg0 ?_
    simp -dsimp only [simprocAttr,↓vpre,zp,hcell,hcell',hsp,bcC,List.length_map,htl]
    repeat(refine⟨by omega,?_⟩)
    refine za0 ?_
    have hIn:=(hI.room (j+1)).one (cs':=bcC (O.length+1) b (b.ins.take (j+1)) (eEdges b.term.to)) (bcC_upto b _ (by omega) ⟨Edge.map_upto _ _,trivial⟩)
    show AWP Try.prog _ _ _ ⟨_,_,(O2.set (O.length+1) (AObj.spare (j+1))).set O.length (.cells (bcC0 (O.length+1) b ((b.ins.take j).map Ins.enc++[i.enc]) (eEdges b.term.to)))⟩
    rw [←ins_take hi]
    have hIn:CpI O _ _ ((O2.set (O.length+1) (AObj.spare (j+1))).set O.length (.cells (bcC0 (O.length+1) b ((b.ins.take (j+1)).map Ins.enc) (eEdges b.term.to)))):=hIn
    generalize (O2.set (O.length+1) (AObj.spare (j+1))).set O.length (.cells (bcC0 (O.length+1) b ((b.ins.take (j+1)).map Ins.enc) (eEdges b.term.to)))=O5 at *
    refine zh0 ?_
    repeat(refine⟨by omega,?_⟩)
    refine zl0 ?_
    refine⟨⟨⟨j+1,O5⟩,hlj,hIn⟩,by simp;omega,?_⟩
    refine zq rfl ?_ ?_
    simp -dsimp only [simprocAttr,↓vpre,zp,zc]
    ·exact Sub.int (by simp)
    rfl
   refine awp_exit ?_
   simp -dsimp only [vend,ne_eq,Nat.reduceEqDiff,reduceCtorEq]
   have hjl:b.ins.length≤j:=by
    have:=of_decide_eq_false h
    omega
   rw [List.take_of_length_le hjl] at hI
   have hcell:=hI.cell
   refine zg1 ?_
   simp -dsimp only [simprocAttr,↓vpre,zp,hcell]
   refine .inl ⟨_,hcc,by simp only [uptoL,AVal.upto,zt,zu,aI_upto],later_intro ?_⟩
   simp -dsimp only [simprocAttr,↓vpre,zp,hcell]
   refine za0 ?_
   have hIn:=hI.one (cs':=bcC (O.length+1) b b.ins (eEdges b.term.to)) (bcC_upto b _ (by omega) ⟨Edge.map_upto _ _,trivial⟩)
   show AWP Try.prog _ _ _ ⟨_,_,O2.set O.length (.cells (bcC (O.length+1) b b.ins (eEdges b.term.to)))⟩
   generalize O2.set O.length (.cells (bcC (O.length+1) b b.ins (eEdges b.term.to)))=O5 at *
   have hcell:=hIn.cell
   have hspI:=hIn.sp
   have hjl2:j=b.ins.length:=by omega
   rw [hjl2] at hspI
   refine zg1 ?_
   simp -dsimp only [simprocAttr,↓vpre,zp,hcell]
   refine za0 ?_
   have h2l:=hIn.len
   have hnil:bcC (O.length+1) b b.ins (.lst 2 [] .ex)=[eIs b.params,.lst 4 (b.ins.map Ins.enc) (.tok (O.length+1)),aI b.term.kind,aI b.term.arg,aI b.term.n,eIs b.term.cases,.lst 2 [] .ex]:=rfl
   refine awp_retell2 O.length (bcC (O.length+1) b b.ins (.lst 2 [] .ex)) (List.getElem?_set_self (by omega)) rfl (fun d hd=>?_) (fun j c d hc hd=>?_) ?_
   ·simp only [bcC,bcC0,List.mem_cons,List.not_mem_nil,or_false] at hd
    rcases hd with rfl | rfl | rfl | rfl | rfl | rfl | rfl<;>trivial
   ·match j,hc,hd with
    | 0,hc,hd=>exact Sub.of_eq (by simpa [bcC,bcC0] using hc.symm.trans hd)
    | 1,hc,hd=>exact Sub.of_eq (by simpa [bcC,bcC0] using hc.symm.trans hd)
    | 2,hc,hd=>exact Sub.of_eq (by simpa [bcC,bcC0] using hc.symm.trans hd)
    | 3,hc,hd=>exact Sub.of_eq (by simpa [bcC,bcC0] using hc.symm.trans hd)
    | 4,hc,hd=>exact Sub.of_eq (by simpa [bcC,bcC0] using hc.symm.trans hd)
    | 5,hc,hd=>exact Sub.of_eq (by simpa [bcC,bcC0] using hc.symm.trans hd)
    | 6,hc,hd =>
     simp only [bcC,bcC0,List.getElem?_cons_succ,List.getElem?_cons_zero,Option.some.injEq] at hc hd
     subst hc
     subst hd
     exact Sub.nil_lst 2
    | j+7,hc,hd=>simp at hc
   rw [List.set_set]
   have hE:=CpE.start (cs:=bcC (O.length+1) b b.ins) (hIn.one (cs':=bcC (O.length+1) b b.ins (.lst 2 [] .ex)) (bcC_upto b _ (by omega) ⟨trivial,trivial⟩))
   have hsp6:(O5.set O.length (.cells (bcC (O.length+1) b b.ins (.lst 2 [] .ex))))[O.length+1]?=some (.spare b.ins.length):=by
    rw [List.getElem?_set_ne (by omega)]
    exact hspI
   generalize O5.set O.length (.cells (bcC (O.length+1) b b.ins (.lst 2 [] .ex)))=O6 at *
   refine zh2 (za0 ?_)
   refine awp_block (awp_loop (ι:={X:Ce // X.z≤b.term.to.length∧CpE O (bcC (O.length+1) b b.ins) X.tid (b.term.to.take X.z) X.O∧X.O[O.length+1]?=some (.spare b.ins.length)}) (fun X=>⟨83,[(1,.ip none [aI f.name,eBlocks f.blocks]),(2,.mp 3 0),(3,.mp 4 0),(15,eBlocks f.blocks),(16,aI N),(17,aI k),(5,.ip none [eIs b.params,eInss b.ins,aI b.term.kind,aI b.term.arg,aI b.term.n,eIs b.term.cases,eEdges b.term.to]),(6,.mp O.length 0),(55,eEdges b.term.to),(56,aI b.term.to.length),(57,aI X.1.z)],X.1.O⟩) (fun X=>b.term.to.length - X.1.z) ⟨⟨0,0,O6⟩,by simp,hE,hsp6⟩ ?_ ?_)
   ·refine zq rfl ?_ ?_
    simp -dsimp only [simprocAttr,↓vpre,zp,zc]
    all_goals rfl
   rintro⟨⟨z,tid,O3⟩,hz,hE,hsp⟩
   simp only at hz hE hsp
   have hE2:=hE.len
   refine zh1 (za0 ?_)
   apply zk1 rfl<;>intro h
   ·refine zb0 ?_
    have hlz:z<b.term.to.length:=by simpa using h
    obtain⟨e,he⟩:∃e,b.term.to[z]?=some e:=⟨b.term.to[z],by simp [hlz]⟩
    have hce:=hcl e.args (hbe e (List.mem_of_getElem? he))
    have hcell:=hE.cell
    have hti:b.term.to.take (z+1)=b.term.to.take z++[e]:=by rw [List.take_add_one,he];rfl
    have htl:(b.term.to.take z).length=z:=by rw [List.length_take];omega
    have h6l:=lt_of_getElem? hcell
    refine awp_seq (awp_block ?_)
    refine zg1 ?_
    simp -dsimp only [simprocAttr,↓vpre,zp,he]
    refine za0 ?_
    refine awp_local 10 ([aI e.block,eIs e.args]) [(1,.ip none [aI f.name,eBlocks f.blocks]),(2,.mp 3 0),(3,.mp 4 0),(15,eBlocks f.blocks),(16,aI N),(17,aI k),(5,.ip none [eIs b.params,eInss b.ins,aI b.term.kind,aI b.term.arg,aI b.term.n,eIs b.term.cases,eEdges b.term.to]),(6,.mp O.length 0),(55,eEdges b.term.to),(56,aI b.term.to.length),(57,aI z),(10,.ip none [aI e.block,eIs e.args])] (by simp [putS,dropS,Go.Av.look]) (by rfl) (by omega) (by simp [putS,dropS,Go.Av.look]) ?_ ?_ ?_
    ·exact hE.up
    ·simp [AVal.upto,uptoL,aI_upto,Edge.map_upto,Ins.map_upto,Block.map_upto,h6l,show 3<O3.length by omega,show 4<O3.length by omega]
    by_cases hzn:b.term.to.take z=[]
    ·have hox:outX tid (b.term.to.take z)=.lst 2 [] .ex:=if_pos hzn
     rw [hox] at hcell
     have hcell':∀X,(O3++X)[O.length]?=some (.cells (bcC (O.length+1) b b.ins (.lst 2 [] .ex))):=fun X=>at_left hcell
     refine zs0 ?_
     simp -dsimp only [simprocAttr,↓vpre,zp,hcell,hcell',bcC,cellsAll_v,cells_os']
     repeat(refine⟨by omega,?_⟩)
     refine .inl ⟨_,hce,by simp only [uptoL,AVal.upto,zt,zu,aI_upto],later_intro ?_⟩
     simp -dsimp only [simprocAttr,↓vpre,zp,hcell,hcell',bcC,cellsAll_v,cells_os']
     repeat(refine⟨by omega,?_⟩)
     refine⟨trivial,?_⟩
     refine⟨ob (by kernel_rfl),?_⟩
     refine za0 ?_
     have hput:CpE O (bcC (O.length+1) b b.ins) O3.length (b.term.to.take z++[e]) ((O3++[AObj.cells [aI e.block,eIs e.args]]).set O.length (.cells (bcC (O.length+1) b b.ins (.os O3.length 1 2)))):=hE.push e (fun v n hv hn=>bcC_upto b _ (by omega) hv) rfl hE.up (fun _ _=>rfl) (by rw [hzn];rfl) (by rw [hzn];rfl)
     show AWP Try.prog _ _ _ ⟨_,_,(O3++[AObj.cells [aI e.block,eIs e.args]]).set O.length (.cells (bcC (O.length+1) b b.ins (.os O3.length 1 2)))⟩
     have hsp7:((O3++[AObj.cells [aI e.block,eIs e.args]]).set O.length (.cells (bcC (O.length+1) b b.ins (.os O3.length 1 2))))[O.length+1]?=some (.spare b.ins.length):=by
      rw [List.getElem?_set_ne (by omega)]
      exact at_left hsp
     generalize (O3++[AObj.cells [aI e.block,eIs e.args]]).set O.length (.cells (bcC (O.length+1) b b.ins (.os O3.length 1 2)))=O7 at *
     refine zh0 ?_
     repeat(refine⟨by omega,?_⟩)
     refine zl0 ?_
     refine⟨⟨⟨z+1,O3.length,O7⟩,hlz,by rw [hti];exact hput,hsp7⟩,by simp;omega,?_⟩
     refine zq rfl ?_ ?_
     simp -dsimp only [simprocAttr,↓vpre,zp,zc]
     ·exact Sub.int (by simp)
     rfl
    obtain⟨o1,o2⟩:=hE.own hzn
    have hox:outX tid (b.term.to.take z)=.os tid z 2:=by
     unfold outX
     rw [if_neg hzn,htl]
    rw [hox] at hcell
    have hcell':∀X,(O3.set tid .gone++X)[O.length]?=some (.cells (bcC (O.length+1) b b.ins (.os tid z 2))):=fun X=>at_left (at_set_ne hcell (by omega))
    have hTT:(edC (b.term.to.take z)).take (z * 2)=edC (b.term.to.take z):=List.take_of_length_le (by rw [edC_len];omega)
    have hel:=edC_len (b.term.to.take z)
    rw [htl] at hel
    refine zg0 ?_
    simp -dsimp only [simprocAttr,↓vpre,zp,hcell,hcell',bcC,o2,hTT,hel,cellsAll_v,cells_os']
    repeat(refine⟨by omega,?_⟩)
    refine .inl ⟨_,hce,by simp only [uptoL,AVal.upto,zt,zu,aI_upto],later_intro ?_⟩
    simp -dsimp only [simprocAttr,↓vpre,zp,hcell,hcell',bcC,o2,hTT,hel,cellsAll_v,cells_os']
    repeat(refine⟨by omega,?_⟩)
    refine⟨trivial,?_⟩
    refine⟨ob (by kernel_rfl),?_⟩
    refine za0 ?_
    have hput:CpE O (bcC (O.length+1) b b.ins) O3.length (b.term.to.take z++[e]) ((O3.set tid .gone++[AObj.cells (edC (b.term.to.take z)++[aI e.block,eIs e.args])]).set O.length (.cells (bcC (O.length+1) b b.ins (.os O3.length (z+1) 2)))):=hE.push (O4:=O3.set tid .gone) e (fun v n hv hn=>bcC_upto b _ (by omega) hv) (List.length_set) (uptoO_set hE.up trivial) (fun k hk=>by rw [List.getElem?_set_ne (Ne.symm (hk hzn))]) (by rw [edC_snoc]) (by rw [htl])
    show AWP Try.prog _ _ _ ⟨_,_,(O3.set tid .gone++[AObj.cells (edC (b.term.to.take z)++[aI e.block,eIs e.args])]).set O.length (.cells (bcC (O.length+1) b b.ins (.os O3.length (z+1) 2)))⟩
    have hsp7:((O3.set tid .gone++[AObj.cells (edC (b.term.to.take z)++[aI e.block,eIs e.args])]).set O.length (.cells (bcC (O.length+1) b b.ins (.os O3.length (z+1) 2))))[O.length+1]?=some (.spare b.ins.length):=by
     rw [List.getElem?_set_ne (by omega)]
     exact at_left (at_set_ne hsp (by omega))
    generalize (O3.set tid .gone++[AObj.cells (edC (b.term.to.take z)++[aI e.block,eIs e.args])]).set O.length (.cells (bcC (O.length+1) b b.ins (.os O3.length (z+1) 2)))=O7 at *
    refine zh0 ?_
    repeat(refine⟨by omega,?_⟩)
    refine zl0 ?_
    refine⟨⟨⟨z+1,O3.length,O7⟩,hlz,by rw [hti];exact hput,hsp7⟩,by simp;omega,?_⟩
    refine zq rfl ?_ ?_
    simp -dsimp only [simprocAttr,↓vpre,zp,zc]
    ·exact Sub.int (by simp)
    rfl
   refine awp_exit ?_
   simp -dsimp only [vend,ne_eq,Nat.reduceEqDiff,reduceCtorEq]
   have hzl:b.term.to.length≤z:=by
    have:=of_decide_eq_false h
    omega
   rw [List.take_of_length_le hzl] at hE
   have hcell:=hE.cell
   have hout:=hS.out
   have ho4:=hE.keep 4 (by omega)
   rw [hout] at ho4
   have htkl:(f.blocks.take k).length=k:=by rw [List.length_take];omega
   have hown:=hE.own
   have h6l:=lt_of_getElem? hcell
   have hlsl:=hS.ls
   have hss0:f.blocks.take k=[]→ss=[]:=fun q=>List.length_eq_zero_iff.1 (by rw [hlsl,q];rfl)
   by_cases hdn:f.blocks.take k=[]
   ·have hob:outBl bid (f.blocks.take k)=.lst 7 [] .ex:=if_pos hdn
    rw [hob] at ho4
    have ho4':∀X,(O3++X)[4]?=some (.cells [aI f.name,.lst 7 [] .ex]):=fun X=>at_left ho4
    have hput:CpS2 f (f.blocks.take k++[b]) O3.length (ids++[tid]) (ss++[O.length+1]) ((O3++[AObj.cells (blC2 (O.length+1) tid b)]).set 4 (.cells [aI f.name,.os O3.length 1 7])):=hS.snoc ⟨by omega,hsp⟩ (by omega) hE.up (fun k hk _=>hE.keep k hk) (fun q=>⟨by have:=(hown q).1;omega,(hown q).2⟩) (by rw [blsC2_snoc hS.ls hS.cp.li,hdn,hss0 hdn];simp [blsC2]) (by rw [hdn];rfl)
    refine awp_pieces hm (ChP.seg ⟨true,true⟩ hT 3 rfl rfl (by simp) ?_)
    simp -dsimp only [simprocAttr,↓vpre,zp,hcell,bcC,ho4]
    refine ChP.op rfl rfl (cert_buildSlice_raw hT rfl (by simp) tab_35 rfl tab_44 (by simp) rfl (by intro p hp;simp at hp;subst hp;trivial) rfl rfl (by intro x hx;simp at hx;subst hx;rfl) (by simp)) ?_
    simp -dsimp only [simprocAttr,↓vpre,zp]
    refine ChP.op rfl rfl (cert_append_osNew_raw hT rfl (by simp) tab_35 rfl tab_44 rfl rfl rfl (by simp) (by simp) (by simp)) ?_
    simp -dsimp only [simprocAttr,↓vpre,zp]
    refine ChP.seg ⟨true,true⟩ hT 2 rfl rfl (by simp) ?_
    simp -dsimp only [simprocAttr,↓vpre,zp,ho4',cellsAll_v,cells_os']
    repeat(refine⟨by omega,?_⟩)
    refine⟨trivial,?_⟩
    refine ChP.fin rfl ?_
    refine za0 ?_
    show AWP Try.prog _ _ _ ⟨_,_,(O3++[AObj.cells (blC2 (O.length+1) tid b)]).set 4 (.cells [aI f.name,.os O3.length 1 7])⟩
    generalize (O3++[AObj.cells (blC2 (O.length+1) tid b)]).set 4 (.cells [aI f.name,.os O3.length 1 7])=O7 at *
    refine zh0 ?_
    repeat(refine⟨by omega,?_⟩)
    refine zl0 ?_
    refine⟨⟨⟨k+1,O3.length,ids++[tid],ss++[O.length+1],O7⟩,hlt,by rw [htk];exact hput⟩,by simp;omega,?_⟩
    refine zq rfl ?_ ?_
    simp -dsimp only [simprocAttr,↓vpre,zp,zc]
    ·exact Sub.int (by simp)
    rfl
   obtain⟨b1,b2⟩:=hS.blk hdn
   have hbl:=lt_of_getElem? b2
   have b3:=hE.keep bid hbl
   rw [b2] at b3
   have hob:outBl bid (f.blocks.take k)=.os bid k 7:=by
    unfold outBl
    rw [if_neg hdn,htkl]
   rw [hob] at ho4
   have ho4':∀X,(O3.set bid .gone++X)[4]?=some (.cells [aI f.name,.os bid k 7]):=fun X=>at_left (at_set_ne ho4 (by omega))
   have hbll:=blsC2_len hS.ls hS.cp.li
   rw [htkl] at hbll
   have hTT:(blsC2 ss ids (f.blocks.take k)).take (k * 7)=blsC2 ss ids (f.blocks.take k):=List.take_of_length_le (by omega)
   have hput:CpS2 f (f.blocks.take k++[b]) O3.length (ids++[tid]) (ss++[O.length+1]) ((O3.set bid .gone++[AObj.cells (blsC2 ss ids (f.blocks.take k)++blC2 (O.length+1) tid b)]).set 4 (.cells [aI f.name,.os O3.length (k+1) 7])):=by
    have:=hS.snoc (O1:=O3.set bid .gone) (b:=b) (tid:=tid) (sid:=O.length+1) ⟨by omega,by rw [List.getElem?_set_ne (by omega)];exact hsp⟩ (by rw [List.length_set];omega) (by rw [List.length_set];exact uptoO_set hE.up trivial) (fun k hk hkb=>by rw [List.getElem?_set_ne (Ne.symm (hkb hdn))];exact hE.keep k hk) (fun q=>⟨by have:=(hown q).1;omega,by rw [List.getElem?_set_ne (by have:=(hown q).1;omega)];exact(hown q).2⟩) (blsC2_snoc hS.ls hS.cp.li (O.length+1) tid b).symm rfl
    rw [List.length_set,htkl] at this
    exact this
   refine awp_pieces hm (ChP.seg ⟨true,true⟩ hT 3 rfl rfl (by simp) ?_)
   simp -dsimp only [simprocAttr,↓vpre,zp,hcell,bcC,ho4]
   refine ChP.op rfl rfl (cert_buildSlice_raw hT rfl (by simp) tab_35 rfl tab_44 (by simp) rfl (by intro p hp;simp at hp;subst hp;trivial) rfl rfl (by intro x hx;simp at hx;subst hx;rfl) (by simp)) ?_
   simp -dsimp only [simprocAttr,↓vpre,zp]
   refine ChP.op rfl rfl (cert_append_os_raw hT rfl (by simp) tab_35 rfl tab_44 rfl rfl b3 rfl (by rw [hbll];exact Nat.le_refl _) (by simp) (by simp;omega) (by simp;omega)) ?_
   simp -dsimp only [simprocAttr,↓vpre,zp]
   refine ChP.seg ⟨true,true⟩ hT 2 rfl rfl (by simp) ?_
   simp -dsimp only [simprocAttr,↓vpre,zp,ho4',hTT,cellsAll_v,cells_os']
   repeat(refine⟨by omega,?_⟩)
   refine⟨trivial,?_⟩
   refine ChP.fin rfl ?_
   refine za0 ?_
   show AWP Try.prog _ _ _ ⟨_,_,(O3.set bid .gone++[AObj.cells (blsC2 ss ids (f.blocks.take k)++blC2 (O.length+1) tid b)]).set 4 (.cells [aI f.name,.os O3.length (k+1) 7])⟩
   generalize (O3.set bid .gone++[AObj.cells (blsC2 ss ids (f.blocks.take k)++blC2 (O.length+1) tid b)]).set 4 (.cells [aI f.name,.os O3.length (k+1) 7])=O7 at *
   refine zh0 ?_
   repeat(refine⟨by omega,?_⟩)
   refine zl0 ?_
   refine⟨⟨⟨k+1,O3.length,ids++[tid],ss++[O.length+1],O7⟩,hlt,by rw [htk];exact hput⟩,by simp;omega,?_⟩
   refine zq rfl ?_ ?_
   simp -dsimp only [simprocAttr,↓vpre,zp,zc]
   ·exact Sub.int (by simp)
   rfl
  refine awp_exit ?_
  simp -dsimp only [vend,ne_eq,Nat.reduceEqDiff,reduceCtorEq]
  have hkN:k=N:=by
   have:=of_decide_eq_false h
   omega
  subst hkN
  rw [List.take_of_length_le (by omega)] at hS
  have hout:=hS.out
  have hr3:=hS.r3
  have hob:outBl bid f.blocks=.os bid f.blocks.length 7:=if_neg hne
  rw [hob] at hout
  have hbl:=lt_of_getElem? (hS.blk hne).2
  have hR:=hS.fin hne (cs:=[aI f.name,.os bid f.blocks.length 7]) ⟨trivial,hbl,trivial⟩
  have h3l:=lt_of_getElem? hr3
  have hr3':(O.set 3 (.cells [aI f.name,.os bid f.blocks.length 7]))[3]?=some (.cells [aI f.name,.os bid f.blocks.length 7]):=List.getElem?_set_self h3l
  refine zg1 ?_
  simp -dsimp only [simprocAttr,↓vpre,zp,hout,hr3]
  refine za0 ?_
  refine awp_ret ?_
  simp -dsimp only [simprocAttr,↓vpre,zp,RetAll,Try.results41,retVals,retVal,mkRet,seqPost_ret,blockPost_ret,loopPost_ret,hr3']
  exact hR
 exact FSub.mp rfl rfl
def leaveR(f:Func):AVal:=if checkFuncM f=0 then (if 128<f.blocks.length+(spM f).news.length then .tup [.agg [aI 0,.lst 7 [] .sh],aI 2] else .tup [(leaveM (splitM f) (freshM f)).enc,aI 0]) else .tup [.agg [aI 0,.lst 7 [] .sh],aI (checkFuncM f)]
theorem lv_flat(id n sz:Nat):(AVal.os id n sz).flat=True:=by simp [AVal.flat]
theorem lv_flat2(n:Nat)(xs:List AVal)(ow:Own):(AVal.lst n xs ow).flat=True:=by simp [AVal.flat]
structure Lx where
 k:Nat
 ss:List Nat
 L:List Block
 O:List AObj
def lvRaw(b c:Block)(k id bid:Nat)(ss ids:List Nat)(L:List Block)(O:List AObj):List AObj:=if b.term.kind=3∧b.term.to.length=1 then O.set bid (.cells (splice (blsC2 ss ids L) (k * 7+2) [aI 1,aI 0,aI 0,.lst 1 [] .ex,.os id c.term.to.length 2])) else O
theorem lv_re{P:Program}{kb:Nat}{cd:Code}{Q:AEx→St→Prop}{n:Nat}{slots:List (Nat×AVal)}{name:Int}{ids ss:List Nat}{X bid:Nat}{L:List Block}{O:List AObj}(h:LvO name ids ss X bid L O){b c:Block}{k id s:Nat}(hs:ss[k]?=some s)(hid:ids[k]?=some id)(hc:L[k]?=some c)(hct:c.term.to.length=b.term.to.length)
  (hA:AWP P kb cd Q ⟨n,slots,O.set bid (.cells (blsC2 ss ids (lvT k b L)))⟩):AWP P kb cd Q ⟨n,slots,lvRaw b c k id bid ss ids L O⟩:=by
 unfold lvRaw
 by_cases hq:b.term.kind=3∧b.term.to.length=1
 ·rw [if_pos hq]
  rw [lvT,if_pos hq,modB_at hc] at hA
  have hne:c.term.to≠[]:=fun z=>by
   rw [z] at hct
   have:=hq.2
   simp at hct
   omega
  have hkl:=lt_of_getElem? hc
  have hcl:=blsC2_len h.ls h.li
  have hput:=blsC2_put (s':=s) (c:=lvJump c) (off:=2) (xs:=[aI 1,aI 0,aI 0,eIs [],.os id c.term.to.length 2]) hs hid hc (by
   unfold blC2 lvJump outX
   simp only
   rw [if_neg hne]
   rfl) (by simp)
  rw [setN_same hs] at hput
  have hsub:=fun(j:Nat) x y=>sub_splice (O:=O.set bid (.cells (splice (blsC2 ss ids L) (k * 7+2) [aI 1,aI 0,aI 0,.lst 1 [] .ex,.os id c.term.to.length 2]))) (cs:=blsC2 ss ids L) (xs:=[aI 1,aI 0,aI 0,.lst 1 [] .ex,.os id c.term.to.length 2]) (ys:=[aI 1,aI 0,aI 0,eIs [],.os id c.term.to.length 2]) (i:=k * 7+2) rfl (by rw [hcl];simp;omega) (fun j x y h1 h2=>by
   match j,h1,h2 with
   | 0,h1,h2=>exact Sub.of_eq (by simpa using h1.symm.trans h2)
   | 1,h1,h2=>exact Sub.of_eq (by simpa using h1.symm.trans h2)
   | 2,h1,h2=>exact Sub.of_eq (by simpa using h1.symm.trans h2)
   | 3,h1,h2 =>
    simp only [List.getElem?_cons_succ,List.getElem?_cons_zero,Option.some.injEq] at h1 h2
    subst h1
    subst h2
    exact fun _ _ _ h=>h.lst_share
   | 4,h1,h2=>exact Sub.of_eq (by simpa using h1.symm.trans h2)
   | j+5,h1,h2=>simp at h1) j x y
  rw [hput] at hsub
  refine awp_retell2 bid (blsC2 ss ids (L.set k (lvJump c))) (List.getElem?_set_self (lt_of_getElem? h.bl)) (by rw [←hput,splice_length (by rw [hcl];simp;omega),splice_length (by rw [hcl];simp;omega)]) (blsC2_scalar _ _ _) hsub ?_
  rw [List.set_set]
  exact hA
 rw [if_neg hq]
 rw [lvT,if_neg hq,setM_same h.bl] at hA
 exact hA
theorem leave_spec(f:Func)(hfit:f.fit):PCall Try.prog 53 [f.enc] (leaveR f):=by
 have hsp:=split_spec f hfit
 unfold splitR at hsp
 unfold leaveR
 by_cases hc:checkFuncM f=0
 ·rw [if_pos hc] at hsp ⊢
  by_cases hm:128<f.blocks.length+(spM f).news.length
  ·rw [if_pos hm] at hsp ⊢
   refine zf true 0 Try.func53 Try.ntmps53 ?_
   dsimp only [Tmp,TypeId,slotsOf]
   refine zh1 (za0 ?_)
   refine awp_freeze1 1 0 (.ip none [aI f.name,eBlocks f.blocks]) rfl (by simp [AObj.isSpare]) trivial rfl ?_ ?_
   rotate_left
   simp -dsimp only [simprocAttr,↓vpre,zp]
   ·refine zh1 ?_
    refine zi hsp ?_
    refine za0 ?_
    refine zh2 (za0 ?_)
    refine zw0 rfl ?_
    refine zh1 (za0 ?_)
    refine awp_ret ?_
    simp -dsimp only [simprocAttr,↓vpre,zp,zr,Try.results53]
    simp [uptoL,AVal.upto]
   exact FSub.mp rfl rfl
  rw [if_neg hm] at hsp ⊢
  have hfitg:=split_fit hfit (by omega)
  have hcg:=split_check hfit hc (by omega)
  have hvf:=checkFunc_v hfit hc
  have hv:=checkFunc_v hfitg hcg
  have hsm:=sm_w hfitg hcg
  have hcp:=copy_spec2 (splitM f) hsm hv.fn.ne
  have hfr:=fresh_spec f hvf.vals (by have:=hvf.fn.few;omega) (fun b hb=>by
   have h1:=(hvf.fn.blk b hb).few
   have h2:=hvf.fn.ins b hb
   omega)
  obtain⟨sp,hspe⟩:∃sp,sp=freshM f:=⟨_,rfl⟩
  rw [←hspe] at hfr ⊢
  have hbel:∀v∈valsF (splitM f),v<sp:=fun v h=>by
   rw [split_vals] at h
   rw [hspe]
   exact(hvf.below h).2.1
  generalize splitM f=g at *
  clear hspe
  refine zf true 0 Try.func53 Try.ntmps53 ?_
  dsimp only [Tmp,TypeId,slotsOf]
  refine zh1 (za0 ?_)
  refine awp_freeze1 1 0 (.ip none [aI f.name,eBlocks f.blocks]) rfl (by simp [AObj.isSpare]) trivial rfl ?_ ?_
  rotate_left
  simp -dsimp only [simprocAttr,↓vpre,zp]
  ·refine zh1 ?_
   refine zi hsp ?_
   refine za0 ?_
   show AWP Try.prog _ _ _ ⟨_,_,[.gone,.cells [aI 0,.lst 7 [] .ex]]++[.cells [aI g.name,eBlocks g.blocks]]⟩
   refine awp_local 4 ([aI g.name,eBlocks g.blocks]) [(1,.ip none [aI f.name,eBlocks f.blocks]),(2,.mp 1 0),(4,.ip none [aI g.name,eBlocks g.blocks]),(5,aI 0)] (by simp [putS,dropS,Go.Av.look]) (by rfl) (by omega) (by simp [putS,dropS,Go.Av.look]) ?_ ?_ ?_
   ·simp [AObj.upto,uptoL,AVal.upto,aI_upto]
   ·simp [AVal.upto,uptoL,aI_upto,Block.map_upto]
   refine zh2 (za0 ?_)
   apply zk0 rfl<;>intro h
   ·cases h
   refine zb0 ?_
   refine zh1 ?_
   refine zi hfr ?_
   refine za0 ?_
   refine awp_seq (awp_call_ex ⟨false,false⟩ hT 1 rfl rfl rfl (by simp) ?_)
   simp -dsimp only [simprocAttr,↓vpre,zp]
   refine⟨CpR2 g,cert_ecallE rfl (by simp) rfl rfl hcp,fun r O' hR=>?_⟩
   obtain⟨ids,ss0,bid,hr,hup,hg0,hg1,hbO,hco,hne,hls,hspr,hinj⟩:=hR
   subst hr
   simp -dsimp only [simprocAttr,↓vpre,zp]
   refine za0 ?_
   have hL0:=LvO.start hup hg1 hbO hco hne hls hspr hinj
   have hW0:=LvW.start g (m:=lvBd 0 0) (by rw [lvBd_zero];exact hsm.ins)
   generalize O'++[AObj.cells [aI g.name,.os bid g.blocks.length 7]]=O0 at *
   generalize O'.length=X at *
   obtain⟨R,hR0⟩:∃R,R=lvK g sp 0 g.blocks g.blocks:=⟨_,rfl⟩
   have hRe:leaveM g sp=⟨g.name,lvBare 0 R⟩:=by rw [hR0];rfl
   rw [hRe]
   refine zh2 (za0 ?_)
   refine awp_block (awp_loop (ι:={Y:Lx // Y.k≤g.blocks.length∧LvO g.name ids Y.ss X bid Y.L Y.O∧LvW g (lvBd Y.k 0) Y.L∧R=lvK g sp Y.k (g.blocks.drop Y.k) Y.L}) (fun Y=>⟨132,[(2,.mp 1 0),(4,.ip none [aI g.name,eBlocks g.blocks]),(6,aI sp),(7,.mp X 0),(29,eBlocks g.blocks),(30,aI g.blocks.length),(31,aI Y.1.k)],Y.1.O⟩) (fun Y=>g.blocks.length - Y.1.k) ⟨⟨0,ss0,g.blocks,O0⟩,by simp,hL0,hW0,by simpa using hR0⟩ ?_ ?_)
   ·refine zq rfl ?_ ?_
    simp -dsimp only [simprocAttr,↓vpre,zp,zc]
    all_goals rfl
   rintro⟨⟨k,ss,L,O⟩,hk,hL,hW,hke⟩
   simp only at hk hL hW hke
   refine zh1 (za0 ?_)
   apply zk1 rfl<;>intro h
   ·refine zb0 ?_
    have hlt:k<g.blocks.length:=by simpa using h
    obtain⟨b,hb⟩:∃b,g.blocks[k]?=some b:=⟨_,List.getElem?_eq_getElem hlt⟩
    obtain⟨c,hc⟩:∃c,L[k]?=some c:=⟨L[k]'(by rw [hW.len];exact hlt),List.getElem?_eq_getElem _⟩
    obtain⟨id,hid⟩:∃id,ids[k]?=some id:=⟨ids[k]'(by rw [hL.li,hW.len];exact hlt),List.getElem?_eq_getElem _⟩
    obtain⟨s,hs⟩:∃s,ss[k]?=some s:=⟨ss[k]'(by rw [hL.ls,hW.len];exact hlt),List.getElem?_eq_getElem _⟩
    have hbm:=List.mem_of_getElem? hb
    have hct:=hW.to k b c hb hc
    have hLl:=hW.len
    have hXl:=lt_of_getElem? hL.out
    have hBl:=lt_of_getElem? hL.bl
    have h1l:=lt_of_getElem? hL.r1
    rw [drop_at hb] at hke
    simp only [lvK] at hke
    refine awp_seq (awp_block ?_)
    refine zg1 ?_
    simp -dsimp only [simprocAttr,↓vpre,zp,hb]
    repeat(refine⟨by omega,?_⟩)
    refine za0 ?_
    refine awp_local 9 ([eIs b.params,eInss b.ins,aI b.term.kind,aI b.term.arg,aI b.term.n,eIs b.term.cases,eEdges b.term.to]) [(2,.mp 1 0),(4,.ip none [aI g.name,eBlocks g.blocks]),(6,aI sp),(7,.mp X 0),(29,eBlocks g.blocks),(30,aI g.blocks.length),(31,aI k),(8,aI k),(9,.ip none [eIs b.params,eInss b.ins,aI b.term.kind,aI b.term.arg,aI b.term.n,eIs b.term.cases,eEdges b.term.to])] (by simp [putS,dropS,Go.Av.look]) (by rfl) (by omega) (by simp [putS,dropS,Go.Av.look]) ?_ ?_ ?_
    ·exact hL.up
    ·simp [AVal.upto,uptoL,aI_upto,Edge.map_upto,Ins.map_upto,Block.map_upto,hXl,hBl,h1l]
    have hto:c.term.to.length=1→c.term.to≠[]:=fun q z=>by rw [z] at q;simp at q
    refine awp_mid (⟨132,[(2,.mp 1 0),(4,.ip none [aI g.name,eBlocks g.blocks]),(6,aI sp),(7,.mp X 0),(29,eBlocks g.blocks),(30,aI g.blocks.length),(31,aI k),(8,aI k),(9,.ip none [eIs b.params,eInss b.ins,aI b.term.kind,aI b.term.arg,aI b.term.n,eIs b.term.cases,eEdges b.term.to])],lvRaw b c k id bid ss ids L O⟩) ?_ ?_
    ·by_cases h3:b.term.kind=3
     ·have d3:decide (b.term.kind=3)=true:=decide_eq_true h3
      by_cases h1:b.term.to.length=1
      ·have d1:decide ((b.term.to.length:Int)=1)=true:=decide_eq_true (by omega)
       refine zg1 ?_
       simp -dsimp only [simprocAttr,↓vpre,zp,d3,d1]
       refine za0 ?_
       refine zw0 rfl ?_
       have hne:=hto (by omega)
       have hout:=hL.out
       have hbl:=hL.bl
       have hcell:(blsC2 ss ids L)[k * 7+6]?=some (.os id c.term.to.length 2):=by
        rw [blsC2_get hs hid hc 6 (by omega)]
        show some (outX id c.term.to)=_
        rw [outX,if_neg hne]
       have hcl:=blsC2_len hL.ls hL.li
       have hlT:lvT k b L=L.set k (lvJump c):=by rw [lvT,if_pos ⟨h3,h1⟩,modB_at hc]
       refine zg0 ?_
       simp -dsimp only [simprocAttr,↓vpre,zp,hout,hbl,hcell,hcl,Int.toNat_natCast,lv_flat,cells_os',List.length_cons,List.length_nil]
       repeat(refine⟨by omega,?_⟩)
       refine⟨orderB_ren [bid,X] O.length [.pure,.rd 1,.pure,.pure,.rd 1,.pure,.pure,.pure,.pure,.rd 0,.pure,.pure,.pure,.wr 2 [0]] (by simpa using hL.xb) (by simp;omega) rfl rfl (by kernel_rfl),at_intro ?_⟩
       show Covers _ _
       refine zq rfl ?_ ?_
       simp -dsimp only [simprocAttr,↓vpre,zp,zc]
       rw [lvRaw,if_pos ⟨h3,h1⟩]
      have d1:decide ((b.term.to.length:Int)=1)=false:=decide_eq_false (by omega)
      refine zg1 ?_
      simp -dsimp only [simprocAttr,↓vpre,zp,d3,d1]
      refine za0 ?_
      refine zu0 rfl ?_
      refine awp_skip ?_
      show Covers _ _
      refine zq rfl ?_ ?_
      simp -dsimp only [simprocAttr,↓vpre,zp,zc]
      rw [lvRaw,if_neg (fun q=>h1 q.2)]
     have d3:decide (b.term.kind=3)=false:=decide_eq_false h3
     refine zg1 ?_
     simp -dsimp only [simprocAttr,↓vpre,zp,d3]
     refine za0 ?_
     refine zu0 rfl ?_
     refine awp_skip ?_
     show Covers _ _
     refine zq rfl ?_ ?_
     simp -dsimp only [simprocAttr,↓vpre,zp,zc]
     rw [lvRaw,if_neg (fun q=>h3 q.1)]
    refine lv_re hL hs hid hc hct ?_
    have hL1:LvO g.name ids ss X bid (lvT k b L) (O.set bid (.cells (blsC2 ss ids (lvT k b L)))):=by
     by_cases hq:b.term.kind=3∧b.term.to.length=1
     ·rw [lvT,if_pos hq,modB_at hc]
      exact hL.row0 hc rfl rfl
     rw [lvT,if_neg hq,setM_same hL.bl]
     exact hL
    have hW1:LvW g (lvBd k 0) (lvT k b L):=by
     by_cases hq:b.term.kind=3∧b.term.to.length=1
     ·rw [lvT,if_pos hq,modB_at hc]
      exact hW.set hc rfl (hW.few c (List.mem_of_getElem? hc)) (Nat.le_refl _)
     rw [lvT,if_neg hq]
     exact hW
    generalize O.set bid (.cells (blsC2 ss ids (lvT k b L)))=O1 at hL1 ⊢
    generalize lvT k b L=L1 at hL1 hW1 hke ⊢
    obtain⟨L2,hL2⟩:∃L2,L2=lvE g sp k b 0 b.term.to L1:=⟨_,rfl⟩
    rw [←hL2] at hke
    refine zh1 ?_
    repeat(refine⟨by omega,?_⟩)
    refine za0 ?_
    refine awp_block (awp_loop (ι:={Y:Lx // Y.k≤b.term.to.length∧LvO g.name ids Y.ss X bid Y.L Y.O∧LvW g (lvBd k Y.k) Y.L∧L2=lvE g sp k b Y.k (b.term.to.drop Y.k) Y.L}) (fun Y=>⟨132,[(2,.mp 1 0),(4,.ip none [aI g.name,eBlocks g.blocks]),(6,aI sp),(7,.mp X 0),(29,eBlocks g.blocks),(30,aI g.blocks.length),(31,aI k),(8,aI k),(9,.ip none [eIs b.params,eInss b.ins,aI b.term.kind,aI b.term.arg,aI b.term.n,eIs b.term.cases,eEdges b.term.to]),(62,eEdges b.term.to),(63,aI b.term.to.length),(64,aI Y.1.k)],Y.1.O⟩) (fun Y=>b.term.to.length - Y.1.k) ⟨⟨0,ss,L1,O1⟩,by simp,hL1,hW1,by simpa using hL2⟩ ?_ ?_)
    ·refine zq rfl ?_ ?_
     simp -dsimp only [simprocAttr,↓vpre,zp,zc]
     all_goals rfl
    rintro⟨⟨n,ss,L,O⟩,hz,hL,hW,hze⟩
    simp only at hz hL hW hze
    refine zh1 (za0 ?_)
    apply zk1 rfl<;>intro h
    ·refine zb0 ?_
     have hlz:n<b.term.to.length:=by simpa using h
     obtain⟨x,hx⟩:∃x,b.term.to[n]?=some x:=⟨b.term.to[n],List.getElem?_eq_getElem hlz⟩
     have hxm:=List.mem_of_getElem? hx
     have hMv:=edge_mv hv hbel hbm hxm
     have hCl:=copies_len hMv
     have hxe:=hv.edges b hbm x hxm
     have hnf:=hsm.to b hbm
     have hXl:=lt_of_getElem? hL.out
     have hBl:=lt_of_getElem? hL.bl
     have h1l:=lt_of_getElem? hL.r1
     rw [drop_at hx] at hze
     simp only [lvE,leaveStep] at hze
     refine awp_seq (awp_block ?_)
     refine zg1 ?_
     simp -dsimp only [simprocAttr,↓vpre,zp,hx]
     repeat(refine⟨by omega,?_⟩)
     refine za0 ?_
     refine awp_local 11 ([aI x.block,eIs x.args]) [(2,.mp 1 0),(4,.ip none [aI g.name,eBlocks g.blocks]),(6,aI sp),(7,.mp X 0),(29,eBlocks g.blocks),(30,aI g.blocks.length),(31,aI k),(8,aI k),(9,.ip none [eIs b.params,eInss b.ins,aI b.term.kind,aI b.term.arg,aI b.term.n,eIs b.term.cases,eEdges b.term.to]),(62,eEdges b.term.to),(63,aI b.term.to.length),(64,aI n),(10,aI n),(11,.ip none [aI x.block,eIs x.args])] (by simp [putS,dropS,Go.Av.look]) (by rfl) (by omega) (by simp [putS,dropS,Go.Av.look]) ?_ ?_ ?_
     ·exact hL.up
     ·simp [AVal.upto,uptoL,aI_upto,Edge.map_upto,Ins.map_upto,Block.map_upto,hXl,hBl,h1l]
     refine zh1 ?_
     refine .inr (.inl ⟨_,_,(copies_spec2 hL.up g x sp hMv (by unfold copiesM at hCl;rw [List.length_map] at hCl;omega)),.inl (later_intro (zj ?_))⟩)
     refine za0 ?_
     generalize copiesM g x sp=cp at hCl hze ⊢
     have hLX:LvO g.name ids ss X bid L (O++[AObj.gone,.gone,.spare (edgeMv g x).length,.spare cp.length]):=hL.ext (fun o ho=>by
      simp only [List.mem_cons,List.not_mem_nil,or_false] at ho
      rcases ho with rfl | rfl | rfl | rfl<;>trivial)
     have hLl:=hW.len
     obtain⟨c,hc⟩:∃c,L[k]?=some c:=⟨L[k]'(by rw [hW.len];exact hlt),List.getElem?_eq_getElem _⟩
     obtain⟨s,hs⟩:∃s,ss[k]?=some s:=⟨ss[k]'(by rw [hL.ls,hW.len];exact hlt),List.getElem?_eq_getElem _⟩
     obtain⟨t,ht⟩:∃t,t=x.block.toNat:=⟨_,rfl⟩
     have htb:x.block=(t:Int):=by omega
     obtain⟨c2,hc2⟩:∃c,L[t]?=some c:=⟨L[t]'(by rw [hW.len];omega),List.getElem?_eq_getElem _⟩
     obtain⟨s2,hs2⟩:∃s,ss[t]?=some s:=⟨ss[t]'(by rw [hL.ls,hW.len];omega),List.getElem?_eq_getElem _⟩
     obtain⟨id2,hid2⟩:∃id,ids[t]?=some id:=⟨ids[t]'(by rw [hL.li,hW.len];omega),List.getElem?_eq_getElem _⟩
     have hTl:(O++[AObj.gone,.gone,.spare (edgeMv g x).length,.spare cp.length])[O.length+3]?=some (.spare cp.length):=by
      rw [List.getElem?_append_right (by omega),Nat.add_sub_cancel_left]
      rfl
     have hTs:O.length+3 ∉ ss:=fun q=>by
      obtain⟨j,hj⟩:=List.mem_iff_getElem?.1 q
      have hjl:=lt_of_getElem? hj
      have hd:L[j]?=some (L[j]'(by rw [←hL.ls];exact hjl)):=List.getElem?_eq_getElem _
      have:=lt_of_getElem? (hL.sp j _ _ hj hd).2
      omega
     have hx5:=hL.x5
     have hOXl:(O++[AObj.gone,.gone,.spare (edgeMv g x).length,.spare cp.length]).length=O.length+4:=by simp
     generalize O++[AObj.gone,.gone,.spare (edgeMv g x).length,.spare cp.length]=OX at hLX hTl hOXl ⊢
     obtain⟨T,hT3⟩:∃T,T=O.length+3:=⟨_,rfl⟩
     rw [←hT3] at hTl hTs ⊢
     obtain⟨ss3,O3,hL3,hone,htwo⟩:∃ss3 O3,LvO g.name ids ss3 X bid (lvPut (decide (b.term.to.length=1)) cp k x L) O3 ∧
       (b.term.to.length=1→O3=(OX.set s (.spare (c.ins.length+cp.length))).set bid (.cells (splice (blsC2 ss ids L) (k * 7+1) [.lst 4 (c.ins.map Ins.enc++cp.map Ins.enc) (.tok s)]))) ∧
       (b.term.to.length≠1→O3=(OX.set (T) (.spare (cp.length+c2.ins.length))).set bid (.cells (splice (blsC2 ss ids L) (t * 7+1) [.lst 4 (cp.map Ins.enc++c2.ins.map Ins.enc) (.tok (T))]))):=by
      by_cases h1:b.term.to.length=1
      ·have:=hLX.row (c:=addEnd cp c) (t:=s) hs hc rfl (.inl rfl)
       rw [←blsC2_put (off:=1) (xs:=[.lst 4 (c.ins.map Ins.enc++cp.map Ins.enc) (.tok s)]) hs hid hc (by simp [blC2,addEnd,splice]) (by simp)] at this
       refine⟨_,_,by rw [lvPut,if_pos (by simpa using h1),modB_at hc];exact this,fun _=>?_,fun q=>absurd h1 q⟩
       simp [addEnd]
      have:=hLX.row (c:=addFront cp c2) (t:=T) hs2 hc2 rfl (.inr ⟨by omega,hTs,_,hTl⟩)
      rw [←blsC2_put (off:=1) (xs:=[.lst 4 (cp.map Ins.enc++c2.ins.map Ins.enc) (.tok (T))]) hs2 hid2 hc2 (by simp [blC2,addFront,splice]) (by simp)] at this
      refine⟨_,_,by rw [lvPut,if_neg (by simpa using h1),←ht,modB_at hc2];exact this,fun q=>absurd q h1,fun _=>?_⟩
      simp [addFront]
     have hcw:=hW.few c (List.mem_of_getElem? hc)
     have hcw2:=hW.few c2 (List.mem_of_getElem? hc2)
     have hbd:=lvBd_le (k:=k) (n:=n) (by have:=hsm.few;omega) (by have:=hsm.to b hbm;omega)
     have hW3:LvW g (lvBd k (n+1)) (lvPut (decide (b.term.to.length=1)) cp k x L):=by
      have hst:=lvBd_step k n
      by_cases h1:b.term.to.length=1
      ·rw [lvPut,if_pos (by simpa using h1),modB_at hc]
       exact hW.set hc rfl (by simp [addEnd];omega) (by omega)
      rw [lvPut,if_neg (by simpa using h1),←ht,modB_at hc2]
      exact hW.set hc2 rfl (by simp [addFront];omega) (by omega)
     have hout:=hLX.out
     have hbl:=hLX.bl
     have hcl:=blsC2_len hL.ls hL.li
     refine awp_mid (⟨132,[(2,.mp 1 0),(4,.ip none [aI g.name,eBlocks g.blocks]),(6,aI sp),(7,.mp X 0),(29,eBlocks g.blocks),(30,aI g.blocks.length),(31,aI k),(8,aI k),(9,.ip none [eIs b.params,eInss b.ins,aI b.term.kind,aI b.term.arg,aI b.term.n,eIs b.term.cases,eEdges b.term.to]),(62,eEdges b.term.to),(63,aI b.term.to.length),(64,aI n),(10,aI n)],O3⟩) ?_ ?_
     ·by_cases h1:b.term.to.length=1
      ·have d1:decide ((b.term.to.length:Int)=1)=true:=decide_eq_true (by omega)
       have hcell:(blsC2 ss ids L)[k * 7+1]?=some (.lst 4 (c.ins.map Ins.enc) (.tok s)):=blsC2_get hs hid hc 1 (by omega)
       have hsp:=(hLX.sp k s c hs hc).2
       refine zg1 ?_
       simp -dsimp only [simprocAttr,↓vpre,zp,d1]
       refine za0 ?_
       refine zw0 rfl ?_
       have hsb:∀y,(OX.set s y)[bid]?=some (.cells (blsC2 ss ids L)):=fun y=>at_set_ne hbl (fun q=>by rw [←q,hsp] at hbl;simp at hbl)
       refine zg0 ?_
       simp -dsimp only [simprocAttr,↓vpre,zp,hout,hbl,hcell,hcl,hsp,hsb,Int.toNat_natCast,lv_flat2,List.length_cons,List.length_nil]
       repeat(refine⟨by omega,?_⟩)
       have hsbn:bid≠s:=fun q=>by rw [←q,hbl] at hsp;simp at hsp
       have hsX:X≠s:=fun q=>by rw [←q,hout] at hsp;simp at hsp
       have hsl:=lt_of_getElem? hsp
       refine⟨orderB_ren [bid,X,s] OX.length [.pure,.rd 1,.pure,.pure,.rd 1,.pure,.pure,.pure,.rd 0,.pure,.wr 3 [2],.pure,.pure,.wr 3 [0]] (by simp [hL.xb,hsbn,hsX]) (by simp;omega) (by simp only [List.length_set];rfl) rfl (by kernel_rfl),at_intro ?_⟩
       show Covers _ _
       refine zq rfl ?_ ?_
       simp -dsimp only [simprocAttr,↓vpre,zp,zc]
       rw [hone h1]
      have d1:decide ((b.term.to.length:Int)=1)=false:=decide_eq_false (by omega)
      have hcell:(blsC2 ss ids L)[t * 7+1]?=some (.lst 4 (c2.ins.map Ins.enc) (.tok s2)):=blsC2_get hs2 hid2 hc2 1 (by omega)
      refine zg1 ?_
      simp -dsimp only [simprocAttr,↓vpre,zp,d1]
      refine za0 ?_
      refine zu0 rfl ?_
      rw [htb]
      have hTb:∀y,(OX.set T y)[bid]?=some (.cells (blsC2 ss ids L)):=fun y=>at_set_ne hbl (by omega)
      refine zg1 ?_
      simp -dsimp only [simprocAttr,↓vpre,zp,hout,hbl,hcl,Int.toNat_natCast]
      repeat(refine⟨by omega,?_⟩)
      refine za0 ?_
      refine zg0 ?_
      simp -dsimp only [simprocAttr,↓vpre,zp,hout,hbl,hcell,hcl,hTl,hTb,Int.toNat_natCast,lv_flat2,List.length_cons,List.length_nil]
      repeat(refine⟨by omega,?_⟩)
      refine at_intro ?_
      show Covers _ _
      refine zq rfl ?_ ?_
      simp -dsimp only [simprocAttr,↓vpre,zp,zc]
      rw [htwo h1]
     generalize lvPut (decide (b.term.to.length=1)) cp k x L=L3 at hL3 hW3 hze
     obtain⟨c3,hc3⟩:∃c,L3[k]?=some c:=⟨L3[k]'(by rw [hW3.len];exact hlt),List.getElem?_eq_getElem _⟩
     obtain⟨s3,hs3⟩:∃s,ss3[k]?=some s:=⟨ss3[k]'(by rw [hL3.ls,hW3.len];exact hlt),List.getElem?_eq_getElem _⟩
     have hct3:=hW3.to k b c3 hb hc3
     have hne3:c3.term.to≠[]:=fun z=>by
      rw [z] at hct3
      simp at hct3
      omega
     obtain⟨o1,o2,o3,o4⟩:=hL3.own k id c3 hid hc3 hne3
     obtain⟨y,hy⟩:∃y,c3.term.to[n]?=some y:=⟨c3.term.to[n]'(by omega),List.getElem?_eq_getElem _⟩
     have hcell3:(blsC2 ss3 ids L3)[k * 7+6]?=some (.os id c3.term.to.length 2):=by
      rw [blsC2_get hs3 hid hc3 6 (by omega)]
      show some (outX id c3.term.to)=_
      rw [outX,if_neg hne3]
     have hcl3:=blsC2_len hL3.ls hL3.li
     have hel:=edC_len c3.term.to
     have hout3:=hL3.out
     have hbl3:=hL3.bl
     have hLl3:=hW3.len
     have hil:=lt_of_getElem? o4
     refine zg0 ?_
     simp -dsimp only [simprocAttr,↓vpre,zp,hout3,hbl3,hcell3,hcl3,o4,hel,Int.toNat_natCast,lv_flat2,List.length_cons,List.length_nil]
     repeat(refine⟨by omega,?_⟩)
     refine za0 ?_
     have hput:=edC_bare hy
     have hsub:=fun(j:Nat) u v=>sub_splice (O:=O3.set id (.cells (splice (edC c3.term.to) (n * 2+1) [.v (.slice none 0 0)]))) (cs:=edC c3.term.to) (xs:=[.v (.slice none 0 0)]) (ys:=[eIs []]) (i:=n * 2+1) rfl (by rw [hel];simp;omega) (fun j u v h1 h2=>by
      match j,h1,h2 with
      | 0,h1,h2 =>
       simp only [List.getElem?_cons_zero,Option.some.injEq] at h1 h2
       subst h1
       subst h2
       exact lv_nil _
      | j+1,h1,h2=>simp at h1) j u v
     rw [hput] at hsub
     refine awp_retell2 id (edC (c3.term.to.set n ⟨y.block,[]⟩)) (List.getElem?_set_self hil) (by rw [←hput,splice_length (by rw [hel];simp;omega),splice_length (by rw [hel];simp;omega)]) (edC_scalar _) hsub ?_
     rw [List.set_set]
     have hL4:=hL3.edge hid hc3 hne3 (l:=c3.term.to.set n ⟨y.block,[]⟩) List.length_set
     have hW4:LvW g (lvBd k (n+1)) (L3.set k (setTo c3 (c3.term.to.set n ⟨y.block,[]⟩))):=hW3.set hc3 (by simp [setTo]) (hW3.few c3 (List.mem_of_getElem? hc3)) (Nat.le_refl _)
     rw [modB_at hc3,bareE,hy] at hze
     simp only [Option.getD_some] at hze
     generalize O3.set id (.cells (edC (c3.term.to.set n ⟨y.block,[]⟩)))=O4 at hL4 ⊢
     refine zh0 ?_
     repeat(refine⟨by omega,?_⟩)
     refine zl0 ?_
     refine⟨⟨⟨n+1,ss3,_,O4⟩,hlz,hL4,hW4,hze⟩,by simp;omega,?_⟩
     refine zq rfl ?_ ?_
     simp -dsimp only [simprocAttr,↓vpre,zp,zc]
     ·exact Sub.int (by simp)
     rfl
    refine awp_exit ?_
    simp -dsimp only [vend,ne_eq,Nat.reduceEqDiff,reduceCtorEq]
    have hzl:b.term.to.length≤n:=by
     have:=of_decide_eq_false h
     omega
    rw [List.drop_eq_nil_of_le hzl] at hze
    simp only [lvE] at hze
    subst hze
    have hkf:=hsm.few
    refine zh0 ?_
    repeat(refine⟨by omega,?_⟩)
    refine zl0 ?_
    refine⟨⟨⟨k+1,ss,L2,O⟩,hlt,hL,hW.mono (lvBd_next (by have:=hsm.to b hbm;omega)),hke⟩,by simp;omega,?_⟩
    refine zq rfl ?_ ?_
    simp -dsimp only [simprocAttr,↓vpre,zp,zc]
    ·exact Sub.int (by simp)
    rfl
   refine awp_exit ?_
   simp -dsimp only [vend,ne_eq,Nat.reduceEqDiff,reduceCtorEq]
   have hkN:g.blocks.length≤k:=by
    have:=of_decide_eq_false h
    omega
   rw [List.drop_eq_nil_of_le hkN] at hke
   simp only [lvK] at hke
   subst hke
   have hLl:=hW.len
   have hout:=hL.out
   have hRf:=hsm.few
   refine zg2 ?_
   simp -dsimp only [simprocAttr,↓vpre,zp,hout]
   repeat(refine⟨by omega,?_⟩)
   refine za0 ?_
   refine awp_block (awp_loop (ι:={Y:Nat×List AObj // Y.1≤R.length∧LvO g.name ids ss X bid (lvBk Y.1 R) Y.2}) (fun Y=>⟨132,[(2,.mp 1 0),(7,.mp X 0),(119,aI R.length),(120,aI Y.1.1)],Y.1.2⟩) (fun Y=>R.length - Y.1.1) ⟨⟨0,O⟩,by simp,by rw [lvBk_zero];exact hL⟩ ?_ ?_)
   ·refine zq rfl ?_ ?_
    simp -dsimp only [simprocAttr,↓vpre,zp,zc]
    all_goals rfl
   rintro⟨⟨j,O⟩,hj,hL⟩
   simp only at hj hL
   have hlsl:=hL.ls
   have hlil:=hL.li
   rw [lvBk_len] at hlsl hlil
   refine zh1 (za0 ?_)
   apply zk1 rfl<;>intro h
   ·refine zb0 ?_
    have hlj:j<R.length:=by simpa using h
    obtain⟨c,hc⟩:∃c,R[j]?=some c:=⟨R[j],List.getElem?_eq_getElem hlj⟩
    have hcj:=lvBk_at hc
    have hst:=lvBk_step hc
    obtain⟨id,hid⟩:∃id,ids[j]?=some id:=⟨ids[j]'(by omega),List.getElem?_eq_getElem _⟩
    obtain⟨s,hs⟩:∃s,ss[j]?=some s:=⟨ss[j]'(by omega),List.getElem?_eq_getElem _⟩
    have hcl:=blsC2_len hL.ls hL.li
    have hbkl:=lvBk_len j R
    refine awp_seq (awp_block ?_)
    by_cases hj0:j=0
    ·have d1:decide ((0:Int)<(j:Int))=false:=decide_eq_false (by omega)
     refine zh1 ?_
     repeat(refine⟨by omega,?_⟩)
     refine za0 ?_
     refine zg1 ?_
     simp -dsimp only [simprocAttr,↓vpre,zp,d1]
     repeat(refine⟨by omega,?_⟩)
     refine za0 ?_
     refine zu0 rfl ?_
     refine zb1 ?_
     refine zh0 ?_
     repeat(refine⟨by omega,?_⟩)
     refine zl0 ?_
     refine⟨⟨⟨j+1,O⟩,hlj,by
      simp only
      rw [hst,if_pos hj0,setM_same hcj]
      exact hL⟩,by simp;omega,?_⟩
     refine zq rfl ?_ ?_
     simp -dsimp only [simprocAttr,↓vpre,zp,zc]
     ·exact Sub.int (by simp)
     rfl
    have d1:decide ((0:Int)<(j:Int))=true:=decide_eq_true (by omega)
    have hout:=hL.out
    have hbl:=hL.bl
    refine zh1 ?_
    repeat(refine⟨by omega,?_⟩)
    refine za0 ?_
    refine zg1 ?_
    simp -dsimp only [simprocAttr,↓vpre,zp,d1]
    repeat(refine⟨by omega,?_⟩)
    refine za0 ?_
    refine zw0 rfl ?_
    refine zg0 ?_
    simp -dsimp only [simprocAttr,↓vpre,zp,hout,hbl,hcl,Int.toNat_natCast,lv_flat2,List.length_cons,List.length_nil]
    repeat(refine⟨by omega,?_⟩)
    refine za0 ?_
    have hput:=blsC2_put (s':=s) (c:=noPar c) (off:=0) (xs:=[eIs []]) hs hid hcj rfl (by simp)
    rw [Nat.add_zero,setN_same hs] at hput
    have hsub:=fun(i:Nat) u v=>sub_splice (O:=O.set bid (.cells (splice (blsC2 ss ids (lvBk j R)) (j * 7) [.v (.slice none 0 0)]))) (cs:=blsC2 ss ids (lvBk j R)) (xs:=[.v (.slice none 0 0)]) (ys:=[eIs []]) (i:=j * 7) rfl (by rw [hcl];simp;omega) (fun i u v h1 h2=>by
     match i,h1,h2 with
     | 0,h1,h2 =>
      simp only [List.getElem?_cons_zero,Option.some.injEq] at h1 h2
      subst h1
      subst h2
      exact lv_nil _
     | i+1,h1,h2=>simp at h1) i u v
    rw [hput] at hsub
    refine awp_retell2 bid (blsC2 ss ids ((lvBk j R).set j (noPar c))) (List.getElem?_set_self (lt_of_getElem? hbl)) (by rw [←hput,splice_length (by rw [hcl];simp;omega),splice_length (by rw [hcl];simp;omega)]) (blsC2_scalar _ _ _) hsub ?_
    rw [List.set_set]
    have hL4:=hL.row0 hcj (c:=noPar c) rfl rfl
    generalize O.set bid (.cells (blsC2 ss ids ((lvBk j R).set j (noPar c))))=O4 at hL4 ⊢
    refine zh0 ?_
    repeat(refine⟨by omega,?_⟩)
    refine zl0 ?_
    refine⟨⟨⟨j+1,O4⟩,hlj,by
     simp only
     rw [hst,if_neg hj0]
     exact hL4⟩,by simp;omega,?_⟩
    refine zq rfl ?_ ?_
    simp -dsimp only [simprocAttr,↓vpre,zp,zc]
    ·exact Sub.int (by simp)
    rfl
   refine awp_exit ?_
   simp -dsimp only [vend,ne_eq,Nat.reduceEqDiff,reduceCtorEq]
   have hjl:R.length≤j:=by
    have:=of_decide_eq_false h
    omega
   rw [lvBk_all hjl] at hL
   have hBl:=lvBare_len 0 R
   generalize lvBare 0 R=B at hL hBl ⊢
   have hout:=hL.out
   have hr1:=hL.r1
   have hb5:=hL.b5
   have hx5:=hL.x5
   have h1l:=lt_of_getElem? hr1
   refine zg1 ?_
   simp -dsimp only [simprocAttr,↓vpre,zp,hout,hr1]
   refine za0 ?_
   refine awp_retell2 bid (blsC ids B) (at_set_ne hL.bl (by omega)) (by rw [blsC_len hL.li,blsC2_len hL.ls hL.li]) (blsC_scal _ _) (blsC2_sub _ hL.ls hL.li) ?_
   refine awp_blocks2 (ids:=ids) (bs:=B) (T:=[]) (X:=1) (oid:=bid) (name:=g.name) hL.li (by omega) (by rw [List.getElem?_set_ne (by omega)];exact List.getElem?_set_self h1l) (by rw [List.getElem?_set_self (by rw [List.length_set];exact lt_of_getElem? hL.bl)];simp [cellsAll]) (fun j id c h1 h2 h3=>?_) (fun i j id c d h1 h2 h3 h4 h5 h6=>hL.inj i j id c d h1 h2 h3 h4 h5 h6) fun O1 hO1 hO11=>?_
   ·obtain⟨o1,o2,o3,o4⟩:=hL.own j id c h1 h2 h3
    exact⟨o2,by omega,by rw [List.getElem?_set_ne (Ne.symm o2),List.getElem?_set_ne (by omega)];exact o4⟩
   rw [List.append_nil] at hO11
   refine awp_ret ?_
   simp -dsimp only [simprocAttr,↓vpre,zp,zr,Try.results53,hO11]
   refine⟨?_,rfl⟩
   simp [uptoL,AVal.upto,aI_upto,Block.map_upto]
  exact FSub.mp rfl rfl
 rw [if_neg hc] at hsp ⊢
 obtain⟨e,he⟩:∃e,e=checkFuncM f:=⟨_,rfl⟩
 rw [←he] at hc hsp ⊢
 have hde:decide (e=0)=false:=decide_eq_false hc
 refine zf true 0 Try.func53 Try.ntmps53 ?_
 dsimp only [Tmp,TypeId,slotsOf]
 refine zh1 (za0 ?_)
 refine awp_freeze1 1 0 (.ip none [aI f.name,eBlocks f.blocks]) rfl (by simp [AObj.isSpare]) trivial rfl ?_ ?_
 rotate_left
 simp -dsimp only [simprocAttr,↓vpre,zp]
 ·refine zh1 ?_
  refine zi hsp ?_
  refine za0 ?_
  refine zg2 ?_
  simp -dsimp only [simprocAttr,↓vpre,zp,hde]
  refine za0 ?_
  refine zw0 rfl ?_
  refine zh1 (za0 ?_)
  refine awp_ret ?_
  simp -dsimp only [simprocAttr,↓vpre,zp,zr,Try.results53]
  simp [uptoL,AVal.upto]
 exact FSub.mp rfl rfl
def firstE(er:Func→Int):List Func→Int
 | []=>0
 | f::r=>orE (er f) (firstE er r)
theorem firstE_zero{er:Func→Int}:∀{l:List Func},firstE er l=0→∀f∈l,er f=0
 | [],_,f,hf=>by cases hf
 | g::r,h,f,hf=>by
  have:=orE_eq h
  rcases List.mem_cons.1 hf with q | q
  ·subst q
   exact this.1
  exact firstE_zero this.2 f q
def chgR(gM:Func→Func)(er:Func→Int)(f:Func):AVal:=if er f=0 then .tup [(gM f).enc,aI 0] else .tup [.agg [aI 0,.lst 7 [] .sh],aI (er f)]
def lvF(f:Func):Func:=leaveM (splitM f) (freshM f)
def erL(f:Func):Int:=if 128<f.blocks.length+(spM f).news.length then 2 else 0
theorem leaveR_chg{f:Func}(hc:checkFuncM f=0):leaveR f=chgR lvF erL f:=by
 unfold leaveR chgR erL
 rw [if_pos hc]
 by_cases h:128<f.blocks.length+(spM f).news.length
 ·rw [if_pos h,if_pos h,if_neg (by decide)]
 rw [if_neg h,if_neg h,if_pos rfl]
 rfl
theorem erL_zero{f:Func}(h:erL f=0):f.blocks.length+(spM f).news.length≤128:=by
 unfold erL at h
 split at h
 ·simp at h
 omega
theorem firstL_two:∀{l:List Func},firstE erL l≠0→firstE erL l=2
 | [],h=>absurd rfl h
 | f::r,h=>by
  unfold firstE at h ⊢
  by_cases he:erL f=0
  ·rw [orE_zero he] at h ⊢
   exact firstL_two h
  rw [orE_ne he]
  unfold erL at he ⊢
  split at he
  ·rw [if_pos (by assumption)]
  exact absurd rfl he
def lvU(u:Unt):Unt:=⟨u.fns.map lvF,u.main⟩
def zU:AVal:=.agg [.lst 2 [] .sh,aI 0]
def leaveE(u:Unt):Int:=if checkM u=0 then (if firstE erL u.fns=0 then (if mCheckM (lvU u)=0 then 0 else 2) else 2) else checkM u
def leaveUR(u:Unt):AVal:=if leaveE u=0 then .tup [(lvU u).enc,aI 0] else .tup [zU,aI (leaveE u)]
theorem leaveU_spec(u:Unt)(hfit:u.fit)(hfit2:checkM u=0→firstE erL u.fns=0→(lvU u).fit):PCall Try.prog 26 [u.enc] (leaveUR u):=by
 have hck:=check_spec u hfit
 by_cases hc:checkM u=0
 ·have hce:leaveE u=if firstE erL u.fns=0 then (if mCheckM (lvU u)=0 then 0 else 2) else 2:=if_pos hc
  rw [hc] at hck
  have hfew:=(check_ok hfit hc).few
  have hcall:∀f∈u.fns,PCall Try.prog 53 [f.enc] (chgR lvF erL f):=fun f hf=>by
   rw [←leaveR_chg ((check_parts hc).2.2.2.1 f hf)]
   exact leave_spec f (hfit.2.2 f hf)
  obtain⟨R,hR⟩:∃R,R=firstE erL u.fns:=⟨_,rfl⟩
  have hmc:=fun h=>mcheck_spec (lvU u) (hfit2 hc h)
  obtain⟨Y,hY⟩:∃Y,Y=leaveUR u:=⟨_,rfl⟩
  rw [←hY]
  unfold leaveUR at hY
  rw [hce,←hR] at hY
  rw [←hR] at hmc
  refine zf true 0 Try.func26 Try.ntmps26 ?_
  dsimp only [Tmp,TypeId,slotsOf]
  refine zh1 (za0 ?_)
  refine awp_freeze1 1 0 (.ip none [eFuncs u.fns,aI u.main]) rfl (by simp [AObj.isSpare]) trivial rfl ?_ ?_
  rotate_left
  simp -dsimp only [simprocAttr,↓vpre,zp]
  ·refine zh2 ?_
   refine zi hck ?_
   refine za0 ?_
   refine zh1 (za0 ?_)
   apply zk0 rfl<;>intro h
   ·cases h
   refine zb0 ?_
   refine zh1 (za0 ?_)
   refine awp_ownCell 2 0 rfl rfl ?_
   simp -dsimp only [simprocAttr,↓vpre,zp]
   refine zh2 (za0 ?_)
   refine awp_block (awp_loop (ι:={k:Nat // k≤u.fns.length∧R=firstE erL (u.fns.drop k)}) (fun k=>⟨47,[(2,.mp 1 0),(3,aI 0),(5,.mp 2 0),(20,eFuncs u.fns),(21,aI u.fns.length),(22,aI k.1)],[.gone,.cells [.lst 2 [] .ex,aI 0],.cells [.lst 2 (((u.fns.take k.1).map lvF).map Func.enc) (.tok 3),aI u.main],.spare k.1]⟩) (fun k=>u.fns.length - k.1) ⟨0,by omega,hR⟩ ?_ ?_)
   ·refine zq rfl ?_ ?_
    simp -dsimp only [simprocAttr,↓vpre,zp,zc]
    all_goals rfl
   rintro⟨k,hk,hRk⟩
   refine zh1 (za0 ?_)
   apply zk1 rfl<;>intro h
   ·refine zb0 ?_
    have hlt:k<u.fns.length:=by simpa using h
    obtain⟨f,hf⟩:∃f,u.fns[k]?=some f:=⟨u.fns[k],by simp [hlt]⟩
    rw [drop_at hf] at hRk
    simp only [firstE] at hRk
    have hcf:=hcall f (List.mem_of_getElem? hf)
    unfold chgR at hcf
    have htk:(((u.fns.take (k+1)).map lvF).map Func.enc)=((u.fns.take k).map lvF).map Func.enc++[(lvF f).enc]:=by
     rw [List.take_add_one,hf]
     simp
    have htl:(((u.fns.take k).map lvF).map Func.enc).length=k:=by
     simp
     omega
    have hTu:∀n,uptoL n (((u.fns.take k).map lvF).map Func.enc):=fun n=>Func.map_upto n _
    have hTu2:∀n,uptoL n (((u.fns.take k).map lvF).map Func.enc++[(lvF f).enc]):=fun n=>by
     rw [←htk]
     exact Func.map_upto n _
    generalize ((u.fns.take k).map lvF).map Func.enc=T at *
    refine awp_seq (awp_block ?_)
    refine zg1 ?_
    simp -dsimp only [simprocAttr,↓vpre,zp,hf]
    refine za0 ?_
    refine awp_freeze1 7 4 (.ip none [aI f.name,eBlocks f.blocks]) rfl (by simp [AObj.isSpare]) trivial rfl ?_ ?_
    rotate_left
    simp -dsimp only [simprocAttr,↓vpre,zp]
    ·by_cases he:erL f=0
     ·rw [if_pos he] at hcf
      rw [orE_zero he] at hRk
      generalize lvF f=g at *
      unfold Func.enc at hcf
      refine zh1 ?_
      refine zi hcf ?_
      refine za0 ?_
      refine awp_freeze1 8 5 (.ip none [aI g.name,eBlocks g.blocks]) rfl (by simp [AObj.isSpare]) trivial rfl ?_ ?_
      rotate_left
      simp -dsimp only [simprocAttr,↓vpre,zp]
      ·refine zh2 (za0 ?_)
       refine zu0 rfl ?_
       refine zb0 ?_
       refine zg0 ?_
       simp -dsimp only [simprocAttr,↓vpre,zp,htl]
       repeat(refine⟨by omega,?_⟩)
       refine za0 ?_
       refine awp_trunc' 4 [(2,.mp 1 0),(3,aI 0),(5,.mp 2 0),(20,eFuncs u.fns),(21,aI u.fns.length),(22,aI k)] (by simp) (by omega) [.gone,.cells [.lst 2 [] .ex,aI 0],.cells [.lst 2 (T++[g.enc]) (.tok 3),aI u.main],.spare (k+1)] ?_ ?_ ?_ ?_ ?_
       ·rfl
       ·simp [AObj.upto,uptoL,AVal.upto,aI_upto,Func.map_upto,Block.map_upto,hTu,hTu2]
       ·simp [Says,St.get,putS,dropS,Go.Av.look,Sub.refl]
       ·simp [AObj.upto,uptoL,AVal.upto,aI_upto,Func.map_upto,Block.map_upto,hTu]
       refine zh0 ?_
       repeat(refine⟨by omega,?_⟩)
       refine zl0 ?_
       refine⟨⟨k+1,hlt,hRk⟩,by simp;omega,?_⟩
       dsimp only
       rw [htk]
       refine zq rfl ?_ ?_
       simp -dsimp only [simprocAttr,↓vpre,zp,zc]
       ·exact Sub.int (by simp)
       rfl
      exact FSub.mp rfl rfl
     rw [if_neg he] at hcf
     rw [orE_ne he] at hRk
     have hR2:R=2:=by
      rw [hR]
      exact firstL_two (by rw [←hR,hRk];exact he)
     obtain⟨e,hee⟩:∃e,e=erL f:=⟨_,rfl⟩
     rw [←hee] at hcf he hRk
     have hde:decide (e=0)=false:=decide_eq_false he
     rw [hRk] at hR2
     rw [if_neg (show ¬(R=0) by rw [hRk];exact he),if_neg (by decide)] at hY
     refine zh1 ?_
     refine zi hcf ?_
     refine za0 ?_
     refine zg2 ?_
     simp -dsimp only [simprocAttr,↓vpre,zp,hde]
     refine za0 ?_
     refine zw0 rfl ?_
     refine zh1 (za0 ?_)
     refine awp_ret ?_
     simp -dsimp only [simprocAttr,↓vpre,zp,zr,Try.results26]
     rw [hR2,hY]
     simp [uptoL,AVal.upto,zU]
    exact FSub.mp rfl rfl
   refine awp_exit ?_
   simp -dsimp only [vend,ne_eq,Nat.reduceEqDiff,reduceCtorEq]
   have hkk:k=u.fns.length:=by simp at h;omega
   subst hkk
   rw [List.drop_length] at hRk
   simp only [firstE] at hRk
   rw [if_pos hRk] at hY
   rw [List.take_length]
   have hm:=hmc hRk
   unfold Unt.enc lvU at hm
   have hTu:∀n,uptoL n ((u.fns.map lvF).map Func.enc):=fun n=>Func.map_upto n _
   obtain⟨e,hee⟩:∃e,e=mCheckM (lvU u):=⟨_,rfl⟩
   unfold lvU at hee
   rw [←hee] at hm
   have hee2:mCheckM (lvU u)=e:=by rw [hee];rfl
   rw [hee2] at hY
   by_cases he:e=0
   ·subst he
    rw [if_pos rfl,if_pos rfl] at hY
    refine zh2 ?_
    refine zi hm ?_
    refine za0 ?_
    refine zu0 rfl ?_
    refine zb0 ?_
    refine zh1 (za0 ?_)
    refine awp_ret ?_
    simp -dsimp only [simprocAttr,↓vpre,zp,zr,Try.results26]
    rw [hY]
    simp [uptoL,AVal.upto]
    rw [List.map_map] at hTu
    exact⟨hTu 0,by simp [Unt.enc,lvU]⟩
   have hde:decide (e=0)=false:=decide_eq_false he
   rw [if_neg he,if_neg (by decide)] at hY
   refine zg2 ?_
   simp -dsimp only [simprocAttr,↓vpre,zp,hde]
   refine .inl ⟨_,hm,by simp only [uptoL,AVal.upto,zt,zu,aI_upto],later_intro ?_⟩
   simp -dsimp only [simprocAttr,↓vpre,zp,hde]
   refine za0 ?_
   apply zk0 rfl<;>intro h
   ·refine zh1 (za0 ?_)
    refine awp_ret ?_
    simp -dsimp only [simprocAttr,↓vpre,zp,zr,Try.results26]
    rw [hY]
    simp [uptoL,AVal.upto,zU]
   exfalso
   simp [he] at h
  exact FSub.mp rfl rfl
 have hce:leaveE u=checkM u:=if_neg hc
 unfold leaveUR
 rw [hce,if_neg hc]
 obtain⟨e,hee⟩:∃e,e=checkM u:=⟨_,rfl⟩
 rw [←hee] at hc hck ⊢
 have hde:decide (e=0)=false:=decide_eq_false hc
 refine zf true 0 Try.func26 Try.ntmps26 ?_
 dsimp only [Tmp,TypeId,slotsOf]
 refine zh1 (za0 ?_)
 refine awp_freeze1 1 0 (.ip none [eFuncs u.fns,aI u.main]) rfl (by simp [AObj.isSpare]) trivial rfl ?_ ?_
 rotate_left
 simp -dsimp only [simprocAttr,↓vpre,zp]
 ·refine zh2 ?_
  refine zi hck ?_
  refine za0 ?_
  refine zg1 ?_
  simp -dsimp only [simprocAttr,↓vpre,zp,hde]
  refine za0 ?_
  refine zw0 rfl ?_
  refine zh1 (za0 ?_)
  refine awp_ret ?_
  simp -dsimp only [simprocAttr,↓vpre,zp,zr,Try.results26]
  simp [uptoL,AVal.upto,zU]
 exact FSub.mp rfl rfl
def bpE(p:Nat)(k:Int)(es:List Edge):List Int:=(es.filter fun e=>decide (e.block=k)).map fun _=>(p:Int)
def bpL(k:Int):Nat→List Block→List Int
 | _,[]=>[]
 | p,b::r=>bpE p k b.term.to++bpL k (p+1) r
def bpM(f:Func)(k:Int):List Int:=bpL k 0 f.blocks
theorem bpE_cons(p:Nat)(k:Int)(e:Edge)(r:List Edge):bpE p k (e::r)=(if e.block=k then [(p:Int)] else [])++bpE p k r:=by
 unfold bpE
 by_cases h:e.block=k
 ·rw [List.filter_cons_of_pos (by simpa using h),List.map_cons,if_pos h]
  rfl
 rw [List.filter_cons_of_neg (by simpa using h),if_neg h]
 rfl
theorem bpE_few(p:Nat)(k:Int)(es:List Edge):(bpE p k es).length≤es.length:=by
 unfold bpE
 rw [List.length_map]
 exact List.length_filter_le _ _
theorem bpL_few(k:Int):∀(bs:List Block) (p:Nat),(∀b∈bs,b.term.to.length≤257)→(bpL k p bs).length≤bs.length * 257
 | [],_,_=>by simp [bpL]
 | b::r,p,h=>by
  have h1:=bpL_few k r (p+1) fun x hx=>h x (List.mem_cons_of_mem _ hx)
  have h2:=bpE_few p k b.term.to
  have h3:=h b List.mem_cons_self
  simp only [bpL,List.length_append,List.length_cons]
  omega
theorem bpE_cnt(p:Nat)(k:Int)(es:List Edge):(bpE p k es).length=cntE k es:=by
 unfold bpE cntE
 rw [List.length_map]
 exact(List.countP_eq_length_filter ..).symm
theorem bpL_cnt(k:Int):∀(bs:List Block) (p:Nat),(bpL k p bs).length=cntB k bs
 | [],_=>rfl
 | b::r,p=>by
  rw [bpL,List.length_append,bpE_cnt,bpL_cnt k r]
  rfl
theorem bpreds_spec(f:Func)(hg:GrW f)(k:Int):PCall Try.prog 27 [f.enc,aI k] (eIs (bpM f k)):=by
 have hn:f.blocks.length≤128:=hg.few
 obtain⟨R,hR⟩:∃R,R=bpM f k:=⟨_,rfl⟩
 have hRl:R.length≤33000:=by
  have:=bpL_few k f.blocks 0 hg.to
  rw [hR]
  unfold bpM
  omega
 rw [←hR]
 unfold bpM at hR
 obtain⟨N,hN⟩:∃N,N=f.blocks.length:=⟨_,rfl⟩
 refine zf true 0 Try.func27 Try.ntmps27 ?_
 dsimp only [Tmp,TypeId,slotsOf]
 refine zh1 (za0 ?_)
 refine awp_freeze1 2 0 (.ip none [aI f.name,eBlocks f.blocks]) rfl (by simp [AObj.isSpare]) trivial rfl ?_ ?_
 rotate_left
 simp -dsimp only [simprocAttr,↓vpre,zp]
 ·refine zh1 (za0 ?_)
  refine awp_own 5 rfl ?_
  simp -dsimp only [simprocAttr,↓vpre,zp]
  show AWP Try.prog _ _ _ ⟨_,_,[.gone,.spare 0]⟩
  refine zg2 ?_
  simp -dsimp only [simprocAttr,↓vpre,zp,←hN]
  refine za0 ?_
  refine awp_block (awp_loop (ι:={X:Nat×List Int // X.1≤N∧R=X.2++bpL k X.1 (f.blocks.drop X.1)}) (fun X=>⟨37,[(1,aI k),(2,.ip none [aI f.name,eBlocks f.blocks]),(5,.lst 1 (X.1.2.map aI) (.tok 1)),(11,eBlocks f.blocks),(12,aI N),(13,aI X.1.1)],[.gone,.spare X.1.2.length]⟩) (fun X=>N - X.1.1) ⟨⟨0,[]⟩,by simp,by simpa using hR⟩ ?_ ?_)
  ·refine zq rfl ?_ ?_
   simp -dsimp only [simprocAttr,↓vpre,zp,zc]
   all_goals rfl
  rintro⟨⟨i,w⟩,hi,hse⟩
  simp only at hi hse
  refine zh1 (za0 ?_)
  apply zk1 rfl<;>intro h
  ·refine zb0 ?_
   have hlt:i<N:=by simpa using h
   obtain⟨b,hb⟩:∃b,f.blocks[i]?=some b:=⟨f.blocks[i]'(by omega),List.getElem?_eq_getElem _⟩
   rw [drop_at hb] at hse
   simp only [bpL] at hse
   obtain⟨T,hT2⟩:∃T,T=bpL k (i+1) (f.blocks.drop (i+1)):=⟨_,rfl⟩
   rw [←hT2,←List.append_assoc] at hse
   obtain⟨P,hP⟩:∃P,P=w++bpE i k b.term.to:=⟨_,rfl⟩
   rw [←hP] at hse
   have hPl:P.length≤33000:=by
    have:=congrArg List.length hse
    rw [List.length_append] at this
    omega
   have hto:=hg.to b (List.mem_of_getElem? hb)
   refine awp_seq (awp_block ?_)
   refine zg1 ?_
   simp -dsimp only [simprocAttr,↓vpre,zp,hb]
   refine za0 ?_
   show AWP Try.prog _ _ _ ⟨_,_,[.gone,.spare w.length]++[.cells [eIs b.params,eInss b.ins,aI b.term.kind,aI b.term.arg,aI b.term.n,eIs b.term.cases,eEdges b.term.to]]⟩
   refine awp_local 7 ([eIs b.params,eInss b.ins,aI b.term.kind,aI b.term.arg,aI b.term.n,eIs b.term.cases,eEdges b.term.to]) [(1,aI k),(2,.ip none [aI f.name,eBlocks f.blocks]),(5,.lst 1 (w.map aI) (.tok 1)),(11,eBlocks f.blocks),(12,aI N),(13,aI i),(6,aI i),(7,.ip none [eIs b.params,eInss b.ins,aI b.term.kind,aI b.term.arg,aI b.term.n,eIs b.term.cases,eEdges b.term.to])] (by simp [putS,dropS,Go.Av.look]) (by rfl) (by omega) (by simp [putS,dropS,Go.Av.look]) ?_ ?_ ?_
   ·simp [AObj.upto]
   ·simp [AVal.upto,uptoL,aI_upto,Edge.map_upto,Ins.map_upto,Block.map_upto]
   refine zh1 (za0 ?_)
   refine awp_block (awp_loop (ι:={X:Nat×List Int // X.1≤b.term.to.length∧P=X.2++bpE i k (b.term.to.drop X.1)}) (fun X=>⟨37,[(1,aI k),(2,.ip none [aI f.name,eBlocks f.blocks]),(5,.lst 1 (X.1.2.map aI) (.tok 1)),(11,eBlocks f.blocks),(12,aI N),(13,aI i),(6,aI i),(20,eEdges b.term.to),(21,aI b.term.to.length),(22,aI X.1.1)],[.gone,.spare X.1.2.length]⟩) (fun X=>b.term.to.length - X.1.1) ⟨⟨0,w⟩,by simp,by simpa using hP⟩ ?_ ?_)
   ·refine zq rfl ?_ ?_
    simp -dsimp only [simprocAttr,↓vpre,zp,zc]
    all_goals rfl
   rintro⟨⟨z,w⟩,hz,hse2⟩
   simp only at hz hse2
   refine zh1 (za0 ?_)
   apply zk1 rfl<;>intro h
   ·refine zb0 ?_
    have hlz:z<b.term.to.length:=by simpa using h
    obtain⟨e,he⟩:∃e,b.term.to[z]?=some e:=⟨b.term.to[z],List.getElem?_eq_getElem hlz⟩
    rw [drop_at he,bpE_cons] at hse2
    have hwl:w.length≤33000:=by
     have:=congrArg List.length hse2
     rw [List.length_append] at this
     omega
    refine awp_seq (awp_block ?_)
    refine zg1 ?_
    simp -dsimp only [simprocAttr,↓vpre,zp,he]
    refine za0 ?_
    show AWP Try.prog _ _ _ ⟨_,_,[.gone,.spare w.length]++[.cells [aI e.block,eIs e.args]]⟩
    refine awp_local 9 ([aI e.block,eIs e.args]) [(1,aI k),(2,.ip none [aI f.name,eBlocks f.blocks]),(5,.lst 1 (w.map aI) (.tok 1)),(11,eBlocks f.blocks),(12,aI N),(13,aI i),(6,aI i),(20,eEdges b.term.to),(21,aI b.term.to.length),(22,aI z),(9,.ip none [aI e.block,eIs e.args])] (by simp [putS,dropS,Go.Av.look]) (by rfl) (by omega) (by simp [putS,dropS,Go.Av.look]) ?_ ?_ ?_
    ·simp [AObj.upto]
    ·simp [AVal.upto,uptoL,aI_upto,Edge.map_upto,Ins.map_upto,Block.map_upto]
    by_cases hek:e.block=k
    ·have d1:decide (e.block=k)=true:=decide_eq_true hek
     rw [if_pos hek,←List.append_assoc] at hse2
     have hmap:w.map aI++[aI i]=(w++[(i:Int)]).map aI:=by simp
     refine zg1 ?_
     simp -dsimp only [simprocAttr,↓vpre,zp,d1]
     refine za0 ?_
     refine zw0 rfl ?_
     refine zh0 ?_
     repeat(refine⟨by omega,?_⟩)
     refine za0 ?_
     rw [hmap]
     refine zh0 ?_
     repeat(refine⟨by omega,?_⟩)
     refine zl0 ?_
     refine⟨⟨⟨z+1,w++[(i:Int)]⟩,hlz,hse2⟩,by simp;omega,?_⟩
     refine zq rfl ?_ ?_
     simp -dsimp only [simprocAttr,↓vpre,zp,zc]
     ·exact Sub.int (by simp)
     simp
    have d1:decide (e.block=k)=false:=decide_eq_false hek
    rw [if_neg hek,List.nil_append] at hse2
    refine zg1 ?_
    simp -dsimp only [simprocAttr,↓vpre,zp,d1]
    refine za0 ?_
    refine zu0 rfl ?_
    refine zb1 ?_
    refine zh0 ?_
    repeat(refine⟨by omega,?_⟩)
    refine zl0 ?_
    refine⟨⟨⟨z+1,w⟩,hlz,hse2⟩,by simp;omega,?_⟩
    refine zq rfl ?_ ?_
    simp -dsimp only [simprocAttr,↓vpre,zp,zc]
    ·exact Sub.int (by simp)
    rfl
   refine awp_exit ?_
   simp -dsimp only [vend,ne_eq,Nat.reduceEqDiff,reduceCtorEq]
   have hzl:b.term.to.length≤z:=by
    have:=of_decide_eq_false h
    omega
   rw [List.drop_eq_nil_of_le hzl] at hse2
   have hPw:P=w:=by rw [hse2];simp [bpE]
   subst hPw
   refine zh0 ?_
   repeat(refine⟨by omega,?_⟩)
   refine zl0 ?_
   refine⟨⟨⟨i+1,P⟩,hlt,by simp only;rw [hse,hT2]⟩,by simp;omega,?_⟩
   refine zq rfl ?_ ?_
   simp -dsimp only [simprocAttr,↓vpre,zp,zc]
   ·exact Sub.int (by simp)
   rfl
  refine awp_exit ?_
  simp -dsimp only [vend,ne_eq,Nat.reduceEqDiff,reduceCtorEq]
  have hiN:N≤i:=by
   have:=of_decide_eq_false h
   omega
  rw [List.drop_eq_nil_of_le (by omega)] at hse
  simp only [bpL,List.append_nil] at hse
  subst hse
  refine zh1 (za0 ?_)
  refine awp_ret ?_
  simp -dsimp only [simprocAttr,↓vpre,zp,zr,Try.results27]
  try simp [uptoL,AVal.upto,aI_upto]
 exact FSub.mp rfl rfl
theorem cntE_map(t:Int)(es:List Edge):cntE t es=(es.map Edge.block).countP fun b=>decide (b=t):=by
 unfold cntE
 rw [List.countP_map]
 rfl
theorem BareW.cnt{g G:Func}(h:BareW g G)(t:Int):cntB t G.blocks=cntB t g.blocks:=by
 have e:(G.blocks.map fun b=>b.term.to).map (cntE t)=(g.blocks.map fun b=>b.term.to).map (cntE t):=by
  apply List.ext_getElem?
  intro j
  rw [List.getElem?_map,List.getElem?_map,List.getElem?_map,List.getElem?_map]
  cases hj:G.blocks[j]? with
  | none =>
   have:g.blocks[j]?=none:=by
    rw [List.getElem?_eq_none_iff] at hj ⊢
    rw [←h.len]
    exact hj
   rw [this]
  | some c =>
   obtain⟨b,h1,h2,_⟩:=h.blk j c hj
   rw [h1]
   show some (cntE t c.term.to)=some (cntE t b.term.to)
   rw [cntE_map,cntE_map,h2]
 show(((G.blocks.map fun b=>b.term.to).map (cntE t))).sum=_
 rw [e]
 rfl
theorem BareW.edge{g G:Func}(h:BareW g G){j:Nat}{c:Block}(hc:G.blocks[j]?=some c){x:Edge}(hx:x∈c.term.to):∃b e,g.blocks[j]?=some b∧e∈b.term.to∧e.block=x.block∧b.term.to.length=c.term.to.length∧x.args=[]:=by
 obtain⟨b,h1,h2,h3,_⟩:=h.blk j c hc
 have hl:=congrArg List.length h2
 rw [List.length_map,List.length_map] at hl
 have hm:x.block∈b.term.to.map Edge.block:=by
  rw [←h2]
  exact List.mem_map.2 ⟨x,hx,rfl⟩
 obtain⟨e,he,heq⟩:=List.mem_map.1 hm
 exact⟨b,e,h1,he,heq,hl.symm,h3 x hx⟩
theorem BareW.gr{g G:Func}(h:BareW g G)(hg:GrW g):GrW G where
 ne:=fun q=>by
  have:=h.len
  rw [q] at this
  exact hg.ne (List.length_eq_zero_iff.1 this.symm)
 few:=by rw [h.len];exact hg.few
 to:=fun c hc=>by
  obtain⟨j,hj⟩:=List.mem_iff_getElem?.1 hc
  obtain⟨b,h1,h2,_⟩:=h.blk j c hj
  have hl:=congrArg List.length h2
  rw [List.length_map,List.length_map] at hl
  rw [hl]
  exact hg.to b (List.mem_of_getElem? h1)
 edges:=fun c hc e he=>by
  obtain⟨j,hj⟩:=List.mem_iff_getElem?.1 hc
  obtain⟨b,e',h1,h2,h3,_⟩:=h.edge hj he
  have:=hg.edges b (List.mem_of_getElem? h1) e' h2
  rw [h.len,←h3]
  exact this
structure BareV(G:Func):Prop where
 gr:GrW G
 par:∀(j:Nat) c,G.blocks[j]?=some c→0<j→c.params=[]
 args:∀c∈G.blocks,∀e∈c.term.to,e.args=[]
 few:∀c∈G.blocks,∀e∈c.term.to,2≤c.term.to.length→(bpM G e.block).length≤1
 ins:∀c∈G.blocks,c.ins.length≤2 ^ 47
theorem bare_v{g G:Func}(h:BareW g G)(hg:GrW g)(hs:∀(k:Nat) c,g.blocks[k]?=some c→∀e∈c.term.to,critB g k e=false):BareV G where
 gr:=h.gr hg
 par:=fun j c hc hj=>by
  obtain⟨b,h1,h2,h3,h4⟩:=h.blk j c hc
  exact h4 hj
 args:=fun c hc e he=>by
  obtain⟨j,hj⟩:=List.mem_iff_getElem?.1 hc
  exact(h.edge hj he).choose_spec.choose_spec.2.2.2.2
 few:=fun c hc e he hl=>by
  obtain⟨j,hj⟩:=List.mem_iff_getElem?.1 hc
  obtain⟨b,e',h1,h2,h3,h4,h5⟩:=h.edge hj he
  have hb:=List.mem_of_getElem? h1
  have hcr:=hs j b h1 e' h2
  have hr:=hg.edges b hb e' h2
  unfold critB at hcr
  have hbo:blkOf g (j:Int)=b:=by simp [blkOf,h1]
  rw [hbo,decide_eq_true (by omega),Bool.true_and,decide_eq_false_iff_not] at hcr
  rw [preds_cnt (fun b hb e he=>by have:=hg.edges b hb e he;omega) (by omega) hr.2] at hcr
  unfold bpM
  rw [bpL_cnt,h.cnt,←h3]
  omega
 ins:=fun c hc=>(h.fit.2.2 c hc).2.2.1
theorem lvF_bare{f:Func}(hfit:f.fit)(hc:checkFuncM f=0)(hm:f.blocks.length+(spM f).news.length≤128):BareW (splitM f) (lvF f)∧BareV (lvF f):=by
 have hfitg:=split_fit hfit hm
 have hcg:=split_check hfit hc hm
 have hvf:=checkFunc_v hfit hc
 have hv:=checkFunc_v hfitg hcg
 have hb:BareW (splitM f) (lvF f):=by
  refine leave_bare hfitg hv (fun v h=>?_) ?_ hv.fn.ins
  ·rw [split_vals] at h
   exact(hvf.below h).2.1
  cases hq:valsF f with
  | nil =>
   have:freshM f=0:=by
    unfold freshM
    rw [hq]
    rfl
   rw [this]
   exact fitI_0
  | cons v r =>
   have:=hvf.below (v:=v) (by rw [hq];exact List.mem_cons_self)
   unfold fitI
   omega
 exact⟨hb,bare_v hb hv.fn.gr fun k c hk e he=>split_bare hvf.fn.gr hv.fn.gr hk he⟩
theorem lvU_w{u:Unt}(hfit:u.fit)(hc:checkM u=0)(h:firstE erL u.fns=0):(lvU u).fit∧∀G∈(lvU u).fns,BareV G:=by
 have hf:∀f∈u.fns,BareW (splitM f) (lvF f)∧BareV (lvF f):=fun f hf=>lvF_bare (hfit.2.2 f hf) ((check_parts hc).2.2.2.1 f hf) (erL_zero (firstE_zero h f hf))
 refine⟨⟨hfit.1,by
  show(u.fns.map lvF).length≤_
  rw [List.length_map]
  exact hfit.2.1,fun G hG=>?_⟩,fun G hG=>?_⟩
 ·obtain⟨f,h1,rfl⟩:=List.mem_map.1 hG
  exact(hf f h1).1.fit
 obtain⟨f,h1,rfl⟩:=List.mem_map.1 hG
 exact(hf f h1).2
def hdC(c:Block):Bool:=match c.ins with
 | []=>false
 | i::_=>decide (i.op=100)
theorem movesBare_law(u:Unt)(hfit:u.fit):PCall Try.prog 8 [u.enc] (.v (.bool true)):=by
 have hwk:=works_spec
 have hle:=leaveU_spec u hfit fun hc h=>(lvU_w hfit hc h).1
 unfold leaveUR at hle
 by_cases he:leaveE u=0
 ·rw [if_pos he] at hle
  have hck:checkM u=0:=by
   unfold leaveE at he
   split at he
   ·assumption
   assumption
  have hfe:firstE erL u.fns=0:=by
   unfold leaveE at he
   rw [if_pos hck] at he
   split at he
   ·assumption
   simp at he
  have hG:=(lvU_w hfit hck hfe).2
  have hlen:(lvU u).fns.length=u.fns.length:=by
   show(u.fns.map lvF).length=_
   rw [List.length_map]
  have hmain:(lvU u).main=u.main:=rfl
  have hfew:=(check_ok hfit hck).few
  generalize lvU u=V at *
  have hGl:V.fns.length≤256:=by omega
  unfold Unt.enc at hle
  refine zf true 0 Try.func8 Try.ntmps8 ?_
  dsimp only [Tmp,TypeId,slotsOf]
  refine zh1 (za0 ?_)
  refine awp_freeze1 1 0 (.ip none [eFuncs u.fns,aI u.main]) rfl (by simp [AObj.isSpare]) trivial rfl ?_ ?_
  rotate_left
  simp -dsimp only [simprocAttr,↓vpre,zp]
  ·refine zh2 ?_
   refine zi hwk ?_
   refine za0 ?_
   apply zk0 rfl<;>intro h
   ·cases h
   refine zb0 ?_
   refine zh1 ?_
   refine zi hle ?_
   refine za0 ?_
   refine awp_freeze1 3 1 (.ip none [eFuncs V.fns,aI V.main]) rfl (by simp [AObj.isSpare]) trivial rfl ?_ ?_
   rotate_left
   simp -dsimp only [simprocAttr,↓vpre,zp]
   ·refine zh2 (za0 ?_)
    apply zk0 rfl<;>intro h
    ·cases h
    refine zb0 ?_
    refine zg2 ?_
    simp -dsimp only [simprocAttr,↓vpre,zp,hlen,hmain]
    refine za0 ?_
    apply zk0 rfl<;>intro h
    ·simp at h
    refine zb0 ?_
    refine zh2 (za0 ?_)
    refine awp_block (awp_loop (ι:={k:Nat // k≤V.fns.length}) (fun k=>⟨114,[(41,eFuncs V.fns),(42,aI V.fns.length),(43,aI k.1)],[.gone,.gone]⟩) (fun k=>V.fns.length - k.1) ⟨0,by omega⟩ ?_ ?_)
    ·refine zq rfl ?_ ?_
     simp -dsimp only [simprocAttr,↓vpre,zp,zc]
     all_goals rfl
    rintro⟨k,hk⟩
    refine zh1 (za0 ?_)
    apply zk1 rfl<;>intro h
    ·refine zb0 ?_
     have hlt:k<V.fns.length:=by simpa using h
     obtain⟨G,hGk⟩:∃G,V.fns[k]?=some G:=⟨V.fns[k],List.getElem?_eq_getElem hlt⟩
     have hW:=hG G (List.mem_of_getElem? hGk)
     have hgf:=hW.gr.few
     refine awp_seq (awp_block ?_)
     refine zg1 ?_
     simp -dsimp only [simprocAttr,↓vpre,zp,hGk]
     refine za0 ?_
     show AWP Try.prog _ _ _ ⟨_,_,[.gone,.gone]++[.cells [aI G.name,eBlocks G.blocks]]⟩
     refine awp_local 6 ([aI G.name,eBlocks G.blocks]) [(41,eFuncs V.fns),(42,aI V.fns.length),(43,aI k),(6,.ip none [aI G.name,eBlocks G.blocks])] (by simp [putS,dropS,Go.Av.look]) (by rfl) (by omega) (by simp [putS,dropS,Go.Av.look]) ?_ ?_ ?_
     ·simp [AObj.upto]
     ·simp [AVal.upto,uptoL,aI_upto,Edge.map_upto,Ins.map_upto,Block.map_upto,Func.map_upto]
     refine zh1 (za0 ?_)
     refine awp_block (awp_loop (ι:={j:Nat // j≤G.blocks.length}) (fun j=>⟨114,[(41,eFuncs V.fns),(42,aI V.fns.length),(43,aI k),(6,.ip none [aI G.name,eBlocks G.blocks]),(48,eBlocks G.blocks),(49,aI G.blocks.length),(50,aI j.1)],[.gone,.gone]⟩) (fun j=>G.blocks.length - j.1) ⟨0,by omega⟩ ?_ ?_)
     ·refine zq rfl ?_ ?_
      simp -dsimp only [simprocAttr,↓vpre,zp,zc]
      all_goals rfl
     rintro⟨j,hj⟩
     refine zh1 (za0 ?_)
     apply zk1 rfl<;>intro h
     ·refine zb0 ?_
      have hltj:j<G.blocks.length:=by simpa using h
      obtain⟨b,hb⟩:∃b,G.blocks[j]?=some b:=⟨G.blocks[j],List.getElem?_eq_getElem hltj⟩
      have hbm:=List.mem_of_getElem? hb
      have hbt:=hW.gr.to b hbm
      refine awp_seq (awp_block ?_)
      refine zg1 ?_
      simp -dsimp only [simprocAttr,↓vpre,zp,hb]
      refine za0 ?_
      show AWP Try.prog _ _ _ ⟨_,_,[.gone,.gone]++[.cells [eIs b.params,eInss b.ins,aI b.term.kind,aI b.term.arg,aI b.term.n,eIs b.term.cases,eEdges b.term.to]]⟩
      refine awp_local 8 ([eIs b.params,eInss b.ins,aI b.term.kind,aI b.term.arg,aI b.term.n,eIs b.term.cases,eEdges b.term.to]) [(41,eFuncs V.fns),(42,aI V.fns.length),(43,aI k),(6,.ip none [aI G.name,eBlocks G.blocks]),(48,eBlocks G.blocks),(49,aI G.blocks.length),(50,aI j),(7,aI j),(8,.ip none [eIs b.params,eInss b.ins,aI b.term.kind,aI b.term.arg,aI b.term.n,eIs b.term.cases,eEdges b.term.to])] (by simp [putS,dropS,Go.Av.look]) (by rfl) (by omega) (by simp [putS,dropS,Go.Av.look]) ?_ ?_ ?_
      ·simp [AObj.upto]
      ·simp [AVal.upto,uptoL,aI_upto,Edge.map_upto,Ins.map_upto,Block.map_upto,Func.map_upto]
      refine awp_mid (⟨114,[(41,eFuncs V.fns),(42,aI V.fns.length),(43,aI k),(6,.ip none [aI G.name,eBlocks G.blocks]),(48,eBlocks G.blocks),(49,aI G.blocks.length),(50,aI j),(7,aI j),(8,.ip none [eIs b.params,eInss b.ins,aI b.term.kind,aI b.term.arg,aI b.term.n,eIs b.term.cases,eEdges b.term.to])],[.gone,.gone]⟩) ?_ ?_
      ·by_cases hj0:0<j
       ·have d1:decide ((0:Int)<(j:Int))=true:=decide_eq_true (by omega)
        have hp:=hW.par j b hb hj0
        refine zg1 ?_
        simp -dsimp only [simprocAttr,↓vpre,zp,d1,hp]
        refine za0 ?_
        apply zk0 rfl<;>intro h
        ·simp at h
        refine awp_skip ?_
        show Covers _ _
        refine zq rfl ?_ ?_
        simp -dsimp only [simprocAttr,↓vpre,zp,zc]
        all_goals first | rfl | (rw [hp];exact Sub.refl _)
       have d1:decide ((0:Int)<(j:Int))=false:=decide_eq_false (by omega)
       refine zg1 ?_
       simp -dsimp only [simprocAttr,↓vpre,zp,d1]
       refine za0 ?_
       refine zu0 rfl ?_
       refine awp_skip ?_
       show Covers _ _
       refine zq rfl ?_ ?_
       simp -dsimp only [simprocAttr,↓vpre,zp,zc]
       all_goals rfl
      refine zh1 (za0 ?_)
      refine awp_block (awp_loop (ι:={n:Nat // n≤b.term.to.length}) (fun n=>⟨114,[(41,eFuncs V.fns),(42,aI V.fns.length),(43,aI k),(6,.ip none [aI G.name,eBlocks G.blocks]),(48,eBlocks G.blocks),(49,aI G.blocks.length),(50,aI j),(7,aI j),(8,.ip none [eIs b.params,eInss b.ins,aI b.term.kind,aI b.term.arg,aI b.term.n,eIs b.term.cases,eEdges b.term.to]),(65,eEdges b.term.to),(66,aI b.term.to.length),(67,aI n.1)],[.gone,.gone]⟩) (fun n=>b.term.to.length - n.1) ⟨0,by omega⟩ ?_ ?_)
      ·refine zq rfl ?_ ?_
       simp -dsimp only [simprocAttr,↓vpre,zp,zc]
       all_goals rfl
      rintro⟨n,hn⟩
      refine zh1 (za0 ?_)
      apply zk1 rfl<;>intro h
      ·refine zb0 ?_
       have hlz:n<b.term.to.length:=by simpa using h
       obtain⟨x,hx⟩:∃x,b.term.to[n]?=some x:=⟨b.term.to[n],List.getElem?_eq_getElem hlz⟩
       have hxm:=List.mem_of_getElem? hx
       have hxe:=hW.gr.edges b hbm x hxm
       have hxa:=hW.args b hbm x hxm
       have hxf:=hW.few b hbm x hxm
       have hpr:=bpreds_spec G hW.gr x.block
       obtain⟨t,ht⟩:∃t,t=x.block.toNat:=⟨_,rfl⟩
       have htb:x.block=(t:Int):=by omega
       obtain⟨c,hc⟩:∃c,G.blocks[t]?=some c:=⟨G.blocks[t]'(by omega),List.getElem?_eq_getElem _⟩
       have hci:=hW.ins c (List.mem_of_getElem? hc)
       rw [htb] at hpr hxf
       unfold Func.enc at hpr
       refine awp_seq (awp_block ?_)
       refine zg1 ?_
       simp -dsimp only [simprocAttr,↓vpre,zp,hx]
       refine za0 ?_
       show AWP Try.prog _ _ _ ⟨_,_,[.gone,.gone]++[.cells [aI x.block,eIs x.args]]⟩
       refine awp_local 10 ([aI x.block,eIs x.args]) [(41,eFuncs V.fns),(42,aI V.fns.length),(43,aI k),(6,.ip none [aI G.name,eBlocks G.blocks]),(48,eBlocks G.blocks),(49,aI G.blocks.length),(50,aI j),(7,aI j),(8,.ip none [eIs b.params,eInss b.ins,aI b.term.kind,aI b.term.arg,aI b.term.n,eIs b.term.cases,eEdges b.term.to]),(65,eEdges b.term.to),(66,aI b.term.to.length),(67,aI n),(10,.ip none [aI x.block,eIs x.args])] (by simp [putS,dropS,Go.Av.look]) (by rfl) (by omega) (by simp [putS,dropS,Go.Av.look]) ?_ ?_ ?_
       ·simp [AObj.upto]
       ·simp [AVal.upto,uptoL,aI_upto,Edge.map_upto,Ins.map_upto,Block.map_upto,Func.map_upto]
       rw [htb,hxa]
       refine zg1 ?_
       simp -dsimp only [simprocAttr,↓vpre,zp,hc]
       repeat(refine⟨by omega,?_⟩)
       refine za0 ?_
       show AWP Try.prog _ _ _ ⟨_,_,[.gone,.gone]++[.cells [eIs c.params,eInss c.ins,aI c.term.kind,aI c.term.arg,aI c.term.n,eIs c.term.cases,eEdges c.term.to]]⟩
       refine awp_local 11 ([eIs c.params,eInss c.ins,aI c.term.kind,aI c.term.arg,aI c.term.n,eIs c.term.cases,eEdges c.term.to]) [(41,eFuncs V.fns),(42,aI V.fns.length),(43,aI k),(6,.ip none [aI G.name,eBlocks G.blocks]),(48,eBlocks G.blocks),(49,aI G.blocks.length),(50,aI j),(7,aI j),(8,.ip none [eIs b.params,eInss b.ins,aI b.term.kind,aI b.term.arg,aI b.term.n,eIs b.term.cases,eEdges b.term.to]),(65,eEdges b.term.to),(66,aI b.term.to.length),(67,aI n),(10,.ip none [aI t,eIs []]),(11,.ip none [eIs c.params,eInss c.ins,aI c.term.kind,aI c.term.arg,aI c.term.n,eIs c.term.cases,eEdges c.term.to])] (by simp [putS,dropS,Go.Av.look]) (by rfl) (by omega) (by simp [putS,dropS,Go.Av.look]) ?_ ?_ ?_
       ·simp [AObj.upto]
       ·simp [AVal.upto,uptoL,aI_upto,Edge.map_upto,Ins.map_upto,Block.map_upto,Func.map_upto]
       refine awp_mid (⟨114,[(41,eFuncs V.fns),(42,aI V.fns.length),(43,aI k),(6,.ip none [aI G.name,eBlocks G.blocks]),(48,eBlocks G.blocks),(49,aI G.blocks.length),(50,aI j),(7,aI j),(8,.ip none [eIs b.params,eInss b.ins,aI b.term.kind,aI b.term.arg,aI b.term.n,eIs b.term.cases,eEdges b.term.to]),(65,eEdges b.term.to),(66,aI b.term.to.length),(67,aI n),(10,.ip none [aI t,eIs []]),(12,.v (.bool (hdC c)))],[.gone,.gone]⟩) ?_ ?_
       ·cases hq:c.ins with
        | nil =>
         have hh:hdC c=false:=by unfold hdC;rw [hq]
         rw [hh]
         refine zh0 ?_
         refine at_intro ?_
         show Covers _ _
         refine zq rfl ?_ ?_
         simp -dsimp only [simprocAttr,↓vpre,zp,zc]
         all_goals rfl
        | cons i r =>
         have hh:hdC c=decide (i.op=100):=by unfold hdC;rw [hq]
         have d0:decide ((0:Int)<((r.length+1:Nat):Int))=true:=decide_eq_true (by omega)
         by_cases h100:i.op=100
         ·have d100:decide (i.op=100)=true:=decide_eq_true h100
          rw [hh,d100]
          refine zg0 ?_
          simp -dsimp only [simprocAttr,↓vpre,zp,d100,d0]
          refine at_intro ?_
          show Covers _ _
          refine zq rfl ?_ ?_
          simp -dsimp only [simprocAttr,↓vpre,zp,zc]
          all_goals rfl
         have d100:decide (i.op=100)=false:=decide_eq_false h100
         rw [hh,d100]
         refine zg0 ?_
         simp -dsimp only [simprocAttr,↓vpre,zp,d100,d0]
         refine at_intro ?_
         show Covers _ _
         refine zq rfl ?_ ?_
         simp -dsimp only [simprocAttr,↓vpre,zp,zc]
         all_goals rfl
       by_cases h2:2≤b.term.to.length
       ·have d2:decide ((1:Int)<(b.term.to.length:Int))=true:=decide_eq_true (by omega)
        have hfw:=hxf h2
        have d3:decide ((1:Int)<((bpM G (t:Int)).length:Int))=false:=decide_eq_false (by omega)
        cases hcq:hdC c with
        | true =>
         refine zg1 ?_
         simp -dsimp only [simprocAttr,↓vpre,zp,d2]
         refine .inl ⟨_,hpr,by simp only [uptoL,AVal.upto,zt,zu,aI_upto],later_intro ?_⟩
         simp -dsimp only [simprocAttr,↓vpre,zp,d3]
         refine za0 ?_
         refine zu0 rfl ?_
         refine zb1 ?_
         refine zh0 ?_
         repeat(refine⟨by omega,?_⟩)
         refine zl0 ?_
         refine⟨⟨n+1,hlz⟩,by simp;omega,?_⟩
         refine zq rfl ?_ ?_
         simp -dsimp only [simprocAttr,↓vpre,zp,zc]
         ·exact Sub.int (by simp)
         rfl
        | false =>
         refine zg1 ?_
         simp -dsimp only [simprocAttr,↓vpre,zp,d2]
         refine za0 ?_
         refine zu0 rfl ?_
         refine zb1 ?_
         refine zh0 ?_
         repeat(refine⟨by omega,?_⟩)
         refine zl0 ?_
         refine⟨⟨n+1,hlz⟩,by simp;omega,?_⟩
         refine zq rfl ?_ ?_
         simp -dsimp only [simprocAttr,↓vpre,zp,zc]
         ·exact Sub.int (by simp)
         rfl
       have d2:decide ((1:Int)<(b.term.to.length:Int))=false:=decide_eq_false (by omega)
       refine zg1 ?_
       simp -dsimp only [simprocAttr,↓vpre,zp,d2]
       refine za0 ?_
       refine zu0 rfl ?_
       refine zb1 ?_
       refine zh0 ?_
       repeat(refine⟨by omega,?_⟩)
       refine zl0 ?_
       refine⟨⟨n+1,hlz⟩,by simp;omega,?_⟩
       refine zq rfl ?_ ?_
       simp -dsimp only [simprocAttr,↓vpre,zp,zc]
       ·exact Sub.int (by simp)
       rfl
      refine awp_exit ?_
      simp -dsimp only [vend,ne_eq,Nat.reduceEqDiff,reduceCtorEq]
      refine zh0 ?_
      repeat(refine⟨by omega,?_⟩)
      refine zl0 ?_
      refine⟨⟨j+1,hltj⟩,by simp;omega,?_⟩
      refine zq rfl ?_ ?_
      simp -dsimp only [simprocAttr,↓vpre,zp,zc]
      ·exact Sub.int (by simp)
      rfl
     refine awp_exit ?_
     simp -dsimp only [vend,ne_eq,Nat.reduceEqDiff,reduceCtorEq]
     refine zh0 ?_
     repeat(refine⟨by omega,?_⟩)
     refine zl0 ?_
     refine⟨⟨k+1,hlt⟩,by simp;omega,?_⟩
     refine zq rfl ?_ ?_
     simp -dsimp only [simprocAttr,↓vpre,zp,zc]
     ·exact Sub.int (by simp)
     rfl
    refine awp_exit ?_
    simp -dsimp only [vend,ne_eq,Nat.reduceEqDiff,reduceCtorEq]
    refine zh1 (za0 ?_)
    refine awp_ret ?_
    simp -dsimp only [simprocAttr,↓vpre,zp,zr,Try.results8]
   exact FSub.mp rfl rfl
  exact FSub.mp rfl rfl
 rw [if_neg he] at hle
 obtain⟨e,hee⟩:∃e,e=leaveE u:=⟨_,rfl⟩
 rw [←hee] at hle he
 unfold zU at hle
 have hde:decide (e=0)=false:=decide_eq_false he
 refine zf true 0 Try.func8 Try.ntmps8 ?_
 dsimp only [Tmp,TypeId,slotsOf]
 refine zh1 (za0 ?_)
 refine awp_freeze1 1 0 (.ip none [eFuncs u.fns,aI u.main]) rfl (by simp [AObj.isSpare]) trivial rfl ?_ ?_
 rotate_left
 simp -dsimp only [simprocAttr,↓vpre,zp]
 ·refine zh2 ?_
  refine zi hwk ?_
  refine za0 ?_
  refine zu0 rfl ?_
  refine zb0 ?_
  refine zh1 ?_
  refine zi hle ?_
  refine za0 ?_
  refine zg2 ?_
  simp -dsimp only [simprocAttr,↓vpre,zp,hde]
  refine za0 ?_
  refine zw0 rfl ?_
  refine zh1 (za0 ?_)
  refine awp_ret ?_
  simp -dsimp only [simprocAttr,↓vpre,zp,zr,Try.results8]
 exact FSub.mp rfl rfl
end Go.Proofs.Ytkhnjeblbiocaaa
