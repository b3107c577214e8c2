/-
  Texts bound together by a program of mine: YtkhnjeblbiocaaaPus, YtkhnjeblbiocaaaPut, YtkhnjeblbiocaaaPuu, YtkhnjeblbiocaaaPuv, YtkhnjeblbiocaaaPwb, YtkhnjeblbiocaaaPva, YtkhnjeblbiocaaaPwd, YtkhnjeblbiocaaaPvb, YtkhnjeblbiocaaaPvc, YtkhnjeblbiocaaaPxj, YtkhnjeblbiocaaaPwc, YtkhnjeblbiocaaaPxk, YtkhnjeblbiocaaaPxp, YtkhnjeblbiocaaaPxq, YtkhnjeblbiocaaaPxl, YtkhnjeblbiocaaaPxm, YtkhnjeblbiocaaaPxn, YtkhnjeblbiocaaaPxo, YtkhnjeblbiocaaaPxr, YtkhnjeblbiocaaaT121, YtkhnjeblbiocaaaT122, YtkhnjeblbiocaaaT123, YtkhnjeblbiocaaaT126, YtkhnjeblbiocaaaT156, YtkhnjeblbiocaaaPxf, YtkhnjeblbiocaaaT155, YtkhnjeblbiocaaaT157, YtkhnjeblbiocaaaT132, YtkhnjeblbiocaaaT158, YtkhnjeblbiocaaaT159, YtkhnjeblbiocaaaT160, YtkhnjeblbiocaaaT161, YtkhnjeblbiocaaaT162, YtkhnjeblbiocaaaT163.
-/
import Derived.Test.YtkhnjeblbiocaaaS1
set_option linter.all false
set_option maxRecDepth 100000
set_option maxHeartbeats 4000000

namespace Go.Proofs.Ytkhnjeblbiocaaa
open Go.Av
theorem S'{ds:Defs}{v:Int}(h:v ∉ ds.map (·.1)):fC ds v=none:=by
 cases hl:fC ds v with
 | none=>rfl
 | some p=>exact absurd (List.mem_map.2 ⟨_,Oi hl,rfl⟩) h
theorem M'{ds:Defs}{v:Int}{p:Int×Int}(hv:0<=v∧v<=4095)(h:v ∉ ds.map (·.1)):(dt ds v p).1=0:=by
 unfold dt;rw[S' h];simp[within,hv]
theorem Nj(k:Int):∀(l:List Int) (ds:Defs),(∀v∈l,0<=v∧v<=4095)->(ds.map (·.1)++l).Nodup->(dF k ds l).1=0
 | [],_,_,_=>rfl
 | p::r,ds,hv,hn=>by
  have hp:p ∉ ds.map (·.1):=fun q=>by
   rw[List.nodup_append]at hn;exact hn.2.2 p q p List.mem_cons_self rfl
  have h0:=M' (p:=(k,0)) (hv p List.mem_cons_self) hp;simp only[dF];rw[if_neg (by rw[h0];simp),L9 h0];refine Nj k r _ (fun v h=>hv v (List.mem_cons_of_mem _ h)) ?_;rw[List.map_append,List.append_assoc];exact hn
theorem Pe(k:Int):∀(l:List bE) (n:Int) (ds:Defs),(∀i∈l,0<=i.to∧i.to<=4095∧jg i=0)->(ds.map (·.1)++l.map bE.to).Nodup->(la k n ds l).1=0
 | [],_,_,_,_=>rfl
 | i::r,n,ds,hv,hn=>by
  have hp:i.to ∉ ds.map (·.1):=fun q=>by
   rw[List.nodup_append]at hn;exact hn.2.2 _ q _ List.mem_cons_self rfl
  have hi:=hv i List.mem_cons_self;have h0:=M' (p:=(k,n+1)) ⟨hi.1,hi.2.1⟩ hp;simp only[la];rw[if_neg (by rw[h0];simp),if_neg (by rw[hi.2.2];simp),L9 h0];refine Pe k r _ _ (fun j h=>hv j (List.mem_cons_of_mem _ h)) ?_;rw[List.map_append,List.append_assoc];exact hn
theorem P2{f:Func}{ds:Defs}{k:Int}{b:Block}(hb:aD f k=b)(hp:∀v∈b.params,0<=v∧v<=4095)(hi:∀i∈b.ins,0<=i.to∧i.to<=4095∧jg i=0)(he:jX f b.term=0)(hn:(ds.map (·.1)++KM b).Nodup):(fG f ds k).1=0:=by
 unfold fG;rw[hb];unfold KM at hn;rw[<-List.append_assoc]at hn;have h1:=Nj k b.params ds hp (by
  rw[List.nodup_append]at hn;exact hn.1)
 rw[if_neg (by rw[h1];simp),MZ k b.params ds h1];have h2:=Pe k b.ins 0 (ds++Ln k b.params) hi (by
  rw[List.map_append];have:(Ln k b.params).map (·.1)=b.params:=by
   unfold Ln;rw[List.map_map];exact List.map_id' _
  rw[this];exact hn)
 rw[if_neg (by rw[h2];simp)];exact he
theorem P1(k:Int)(b:Block):(LK k b).map (·.1)=KM b:=by
 rw[LK,List.map_append,Mj,KM,Ln,List.map_map];congr 1;exact List.map_id' _
theorem M6{f:Func}(hp:∀b∈f.blocks,(∀v∈b.params,0<=v∧v<=4095)∧(∀i∈b.ins,0<=i.to∧i.to<=4095∧jg i=0)∧jX f b.term=0) :
  ∀(n k:Nat) (ds:Defs),k+n=f.blocks.length->(ds.map (·.1)++(f.blocks.drop k).flatMap KM).Nodup->(de f n k ds).1=0
 | 0,_,_,_,_=>rfl
 | n+1,k,ds,hk,hn=>by
  have hb:f.blocks[k]?=some f.blocks[k]:=List.getElem?_eq_getElem (by omega);have TO:aD f (k:Int)=f.blocks[k]:=by simp[aD,hb]
  rw[bS hb,List.flatMap_cons,<-List.append_assoc]at hn;obtain⟨p1,p2,p3⟩:=hp _ (List.mem_of_getElem? hb);have h0:=P2 (ds:=ds) TO p1 p2 p3 (by
   rw[List.nodup_append]at hn;exact hn.1)
  simp only[de];rw[if_neg (by rw[h0];simp),ON h0,TO];have e:(k:Int)+1=((k+1:Nat):Int):=by omega
  rw[e];refine M6 hp n (k+1) _ (by omega) ?_;rw[List.map_append,P1];exact hn
theorem MC{ds:Defs}{over:List Bs}{seen:Bs}{k:Nat}:∀(l:List bE) (n:Nat),(∀(j:Nat) i,l[j]?=some i->∀a∈i.args,ik ds over seen k ((n+j:Nat):Int) a=true)->iJ ds over seen k n l=true
 | [],_,_=>rfl
 | x::r,n,h=>by
  simp only[iJ,Bool.and_eq_true,List.all_eq_true];refine⟨fun a ha=>h 0 x rfl a ha,MC r (n+1) fun j i hj a ha=>?_⟩;rw[show n+1+j=n+(j+1) by omega];exact h (j+1) i (by simpa using hj) a ha
theorem MB{ds:Defs}{over:List Bs}{seen:Bs}:∀(l:List Block) (k:Nat),(∀(j:Nat) b,l[j]?=some b->j4 ds over seen (k+j) b=true)->gG ds over seen k l=true
 | [],_,_=>rfl
 | x::r,k,h=>by
  simp only[gG,Bool.and_eq_true];refine⟨h 0 x rfl,MB r (k+1) fun j b hj=>?_⟩;rw[show k+1+j=k+(j+1) by omega];exact h (j+1) b (by simpa using hj)
theorem MR{f:Func}(hn:(K4 f).Nodup){k:Nat}{n v:Int}(h:PY f k n v):ik (QL f) (jV f).1 (jV f).2 k n v=true:=by
 obtain⟨p,h1,h2⟩:=h;have hl:fC (QL f) v=some p:=(Nt (by rw[NY];exact hn)).2 (NZ.2 h1);unfold ik;rw[hl];simp only[Bool.or_eq_true,Bool.and_eq_true,decide_eq_true_eq,Bool.not_eq_true',decide_eq_false_iff_not];cases hs:LJ f k with
 | false=>exact .inr (.inr hs)
 | true =>
  rcases h2 hs with q|q
  ·exact .inl q
  exact .inr (.inl q)
theorem Rm{f:Func}(hn:(K4 f).Nodup)(h:Rs f):oh f (QL f)=0:=by
 unfold oh;rw[if_pos];refine MB f.blocks 0 fun j b hj=>?_;rw[Nat.zero_add];unfold j4 ma;simp only[Bool.and_eq_true,Bool.or_eq_true,decide_eq_true_eq,List.all_eq_true];refine⟨MC b.ins 0 fun n i hi a ha=>?_,?_,fun e he a ha=>MR hn (h.args j b hj e he a ha)⟩
 ·rw[Nat.zero_add];exact MR hn (h.ins j b hj n i hi a ha)
 by_cases h1:b.term.kind=1
 ·exact .inl (.inl h1)
 by_cases h4:b.term.kind=4
 ·exact .inl (.inr h4)
 exact .inr (MR hn (h.arg j b hj h1 h4))
def L4(bs:List Block):Nat:=(bs.map fun b=>b.ins.length).sum
theorem PV:∀(bs:List Block) (m:Nat),(∀b∈bs,b.ins.length<=1024)->m+bs.length*1024<=1000000->kM m bs=((m+L4 bs:Nat):Int)
 | [],m,_,_=>by simp[kM,L4]
 | b::r,m,h,hm=>by
  have h1:=h b List.mem_cons_self;rw[List.length_cons]at hm;have hw:IntKind.i64.wrap ((m:Int)+(b.ins.length:Int))=((m+b.ins.length:Nat):Int):=by
   rw[lx .i64 _ (by show(-9223372036854775808:Int)<=_;omega) (by show _<=(9223372036854775807:Int);omega)];omega
  simp only[kM];rw[hw,PV r (m+b.ins.length) (fun x hx=>h x (List.mem_cons_of_mem _ hx)) (by omega)];unfold L4;rw[List.map_cons,List.sum_cons,Nat.add_assoc]
theorem P5{f:Func}(cj:f.blocks≠[])(wj:f.blocks.length<=128)(qu:-1<=f.name∧f.name<=1048575)(S6:∀b∈f.blocks,b.ins.length<=1024)(Wa:L4 f.blocks<=1024)(pz:(aD f 0).params.length<=6)
  (hv:∀v∈K4 f,0<=v∧v<=4095) (hn:(K4 f).Nodup) (hb:∀b∈f.blocks,(∀i∈b.ins,jg i=0)∧jX f b.term=0) (hu:Rs f):bo f=0:=by
 have Ww:∀b∈f.blocks,(∀v∈b.params,0<=v∧v<=4095)∧(∀i∈b.ins,0<=i.to∧i.to<=4095∧jg i=0)∧jX f b.term=0:=fun b h=>by
  have uC:∀v∈KM b,0<=v∧v<=4095:=fun v q=>hv v (List.mem_flatMap.2 ⟨b,h,q⟩);refine⟨fun v q=>uC v (List.mem_append_left _ q),fun i q=>?_,(hb b h).2⟩;have:=uC i.to (List.mem_append_right _ (List.mem_map.2 ⟨i,q,rfl⟩));exact⟨this.1,this.2,(hb b h).1 i q⟩
 have h0:=M6 Ww f.blocks.length 0 [] (by omega) (by
  rw[List.drop_zero];exact hn)
 have h1:=MK f.blocks.length 0 [] (by omega) h0;rw[List.drop_zero,List.nil_append]at h1;have hw:=PV f.blocks 0 S6 (by omega);rw[Nat.zero_add]at hw;have hl:=List.length_pos_iff.2 cj;unfold bo;have I8:kM 0 f.blocks=((L4 f.blocks:Nat):Int):=hw;rw[if_neg (by omega),if_neg (by rw[I8];omega),if_neg (by simp[within,qu]),if_neg (by
  have xv:(de f f.blocks.length 0 []).1=0:=h0;rw[xv];simp)]
 have Ge:(de f f.blocks.length 0 []).2=QL f:=h1;rw[Ge];exact Rm hn hu
theorem Ud{f:Func}(bB:f.fit)(h:bo f=0):L4 f.blocks<=1024:=by
 have hw:=dV bB h;have he:=PV f.blocks 0 hw.ins (by have:=hw.few;omega);unfold bo at h;split at h
 ·simp at h
 split at h
 ·simp at h
 rename_i h2;rw[Nat.zero_add]at he;have m5:kM 0 f.blocks=((L4 f.blocks:Nat):Int):=he;rw[m5]at h2;omega
theorem UB{n k:Nat}{D:Nat->Nat->Prop}{R:Nat->Prop}{S:Ds}(hn:n<=128)(hl:S.over.length=n)(h1:∀i j,j<n->D i j->i<n∧(S.at_ j).has i=true)(h2:∀j,j<128->S.seen.has j=true->R j)(hk:k<n){e:Edge}(he:0<=e.block∧e.block.toNat<n)(hR:R k->R e.block.toNat)
  (hD:R k->∀i,D i e.block.toNat->i=e.block.toNat∨D i k) (hs:R k):(∀i j,j<n->D i j->i<n∧((gL k S e).at_ j).has i=true)∧(∀j,j<128->(gL k S e).seen.has j=true->R j)∧(gL k S e).over.length=n:=by
 unfold gL;simp only;split
 ·refine⟨fun i j hj nP=>?_,fun j hj yj=>?_,by simp only;rw[List.length_set,hl]⟩
  ·refine⟨(h1 i j hj nP).1,?_⟩;have hi:=(h1 i j hj nP).1;unfold Ds.at_;simp only;rw[List.getElem?_set];split
   ·rename_i q;rw[if_pos (by rw[hl];exact he.2),Option.getD_some,Bs.has_add _ _ _ (by omega) (by omega),Bs.qi];simp only[Bool.or_eq_true,Bool.and_eq_true,decide_eq_true_eq];rw[<-q]at nP;rcases hD hs i nP with r|r
    ·exact .inr r
    exact .inl ⟨(h1 i _ he.2 nP).2,(h1 i k hk r).2⟩
   exact(h1 i j hj nP).2
  simp only at yj;rw[Bs.has_add _ _ _ (by omega) hj]at yj;simp only[Bool.or_eq_true,decide_eq_true_eq]at yj;rcases yj with q|q
  ·exact h2 j hj q
  rw[q];exact hR hs
 exact⟨h1,h2,hl⟩
structure Ug(n:Nat)(D:Nat->Nat->Prop)(R:Nat->Prop)(S:Ds):Prop where
 len:S.over.length=n
 VA:∀i j,j<n->D i j->i<n∧(S.at_ j).has i=true
 seen:∀j,j<128->S.seen.has j=true->R j
structure Ve(f:Func)(D:Nat->Nat->Prop)(R:Nat->Prop):Prop where
 few:f.blocks.length<=128
 db:∀b∈f.blocks,∀e∈b.term.to,0<=e.block∧e.block.toNat<f.blocks.length
 next:∀(k:Nat) b,f.blocks[k]?=some b->R k->∀e∈b.term.to,R e.block.toNat∧∀i,D i e.block.toNat->i=e.block.toNat∨D i k
theorem Ui{f:Func}{D:Nat->Nat->Prop}{R:Nat->Prop}(hc:Ve f D R){k:Nat}{b:Block}(hb:f.blocks[k]?=some b)(hR:R k):∀(l:List Edge) {S:Ds},(∀e∈l,e∈b.term.to)->Ug f.blocks.length D R S->Ug f.blocks.length D R (l.foldl (gL k) S)
 | [],_,_,h=>h
 | e::r,S,hl,h=>by
  have hn:=hc.next k b hb hR e (hl e List.mem_cons_self)
  obtain⟨a1,a2,a3⟩:=UB hc.few h.len h.VA h.seen (I hb) (hc.db b (List.mem_of_getElem? hb) e (hl e List.mem_cons_self)) (fun _=>hn.1) (fun _=>hn.2) hR;rw[List.foldl_cons];exact Ui hc hb hR r (fun x hx=>hl x (List.mem_cons_of_mem _ hx)) ⟨a3,a1,a2⟩
theorem Uj{f:Func}{D:Nat->Nat->Prop}{R:Nat->Prop}(hc:Ve f D R):∀(l:List Block) (k:Nat) {S:Ds},l=f.blocks.drop k->Ug f.blocks.length D R S->Ug f.blocks.length D R (kk k S l)
 | [],_,_,_,h=>h
 | b::r,k,S,hl,h=>by
  have hb:f.blocks[k]?=some b:=by
   have:=congrArg (fun l=>l[0]?) hl;simpa using this.symm
  have hr:r=f.blocks.drop (k+1):=by
   rw[bS hb]at hl;simpa using hl
  rw[kk];refine Uj hc r (k+1) hr ?_;unfold nC;split
  ·exact h
  rename_i hs;have hk:=I hb;exact Ui hc hb (h.seen k (by have:=hc.few;omega) (by simpa using hs)) _ (fun e he=>he) h
theorem SQ{f:Func}{D:Nat->Nat->Prop}{R:Nat->Prop}(hc:Ve f D R):∀(n:Nat) {S:Ds},Ug f.blocks.length D R S->Ug f.blocks.length D R (ig f n S)
 | 0,_,h=>h
 | n+1,S,h=>by
  simp only[ig];split
  ·exact SQ hc n (Uj hc f.blocks 0 (S:=⟨S.over,S.seen,false⟩) (by rw[List.drop_zero]) ⟨h.len,h.VA,h.seen⟩)
  exact h
theorem Pw:∀(n j:Nat),n<=128->j<n->(re n).has j=true
 | 0,_,_,h=>absurd h (Nat.not_lt_zero _)
 | n+1,j,hn,hj=>by
  rw[re,Bs.has_add _ _ _ (by omega) (by omega)];by_cases e:j=n
  ·simp[e]
  rw[Pw n j (by omega) (by omega)];rfl
theorem TK{f:Func}{D:Nat->Nat->Prop}{R:Nat->Prop}(cj:f.blocks≠[])(hc:Ve f D R)(h0:R 0)(hz:∀i,D i 0->i=0)(aZ:∀i j,D i j->i<f.blocks.length){i j:Nat}(hj:j<f.blocks.length)(h:D i j):(Me f j).has i=true:=by
 have hl:=List.length_pos_iff.2 cj;have hs:Ug f.blocks.length D R (jW f):=by
  refine⟨by simp[jW],fun i j hj nP=>⟨aZ i j nP,?_⟩,fun j hj yj=>?_⟩
  ·unfold Ds.at_ jW;simp only;rw[List.getElem?_set];split
   ·rename_i e;subst e;rw[if_pos (by simpa using hl),Option.getD_some,hz i nP];decide
   rw[List.getElem?_replicate,if_pos hj,Option.getD_some];exact Pw _ _ hc.few (aZ i j nP)
  have:(Bs.none.add 0).has j=true:=yj;rw[Bs.has_add _ _ _ (by omega) hj]at this;have hn:Bs.none.has j=false:=by unfold Bs.has Bs.none;simp
  rw[hn]at this;simp only[Bool.false_or,decide_eq_true_eq]at this;rw[this];exact h0
 exact((SQ hc 20000 hs).VA i j hj h).2
end Go.Proofs.Ytkhnjeblbiocaaa
namespace Go.Proofs.Ytkhnjeblbiocaaa
open Go.Av
section
variable {f:Func}
theorem QQ{k:Int}(h0:0<=k)(h1:k<f.blocks.length):f.blocks[k.toNat]?=some (aD f k):=by
 unfold aD;rw[List.getElem?_eq_getElem (by omega)];rfl
end
theorem Rf{t t':Term}(h1:t.kind=t'.kind)(h2:t.arg=t'.arg)(h3:t.n=t'.n)(h4:t.cases=t'.cases)(h5:t.to.length=t'.to.length):eG t=eG t':=by
 unfold eG eX ou;rw[h1,h2,h3,h4,h5]
theorem M5.range{f:Func}{v:Int}{p:Int×Int}(h:M5 f v p):0<=p.1∧p.1<f.blocks.length:=by
 obtain⟨k,b,h1,h2,_⟩:=h;have:=I h1;omega
theorem OZ{f:Func}{t:Term}(h1:eG t=true)(h2:t.cases.length<=256)(h3:t.kind=4->1<=t.n∧t.n<=6)(h4:jC t.cases t.cases.length=0)(h5:∀e∈t.to,(1<=e.block∧e.block<=(f.blocks.length:Int)-1)∧e.args.length=(aD f e.block).params.length):jX f t=0:=by
 unfold jX;rw[if_neg (by simp[h1]),if_neg (by omega),if_neg (fun q=>by
  have:=h3 q.1;have q2:=q.2;simp[within,this]at q2),if_neg (by rw[h4];simp)]
 generalize t.to=l at h5;induction l with
 | nil=>rfl
 | cons e r ih =>
  have he:=h5 e List.mem_cons_self;simp only[lQ];rw[if_neg (by simp[within,he.1]),if_neg (by rw[he.2];simp)];exact ih fun x hx=>h5 x (List.mem_cons_of_mem _ hx)
theorem R4{f:Func}{t:Term}(h:jX f t=0):jC t.cases t.cases.length=0:=by
 unfold jX at h;split at h
 ·simp at h
 split at h
 ·simp at h
 split at h
 ·simp at h
 split at h
 ·rename_i q;exact absurd h q
 rename_i q;simpa using q
end Go.Proofs.Ytkhnjeblbiocaaa
namespace Go.Proofs.Ytkhnjeblbiocaaa
open Go.Av

end Go.Proofs.Ytkhnjeblbiocaaa
namespace Go.Proofs.Ytkhnjeblbiocaaa
open Go.Av
section
variable {f:Func}
end
end Go.Proofs.Ytkhnjeblbiocaaa
namespace Go.Proofs.Ytkhnjeblbiocaaa
open Go.Av
theorem Na:∀{l:List Func},(∀f∈l,bo f=0)->k7 l=0
 | [],_=>rfl
 | g::r,h=>by
  unfold k7;rw[cJ (h g List.mem_cons_self)];exact Na fun f hf=>h f (List.mem_cons_of_mem _ hf)
theorem M9{u:bR}:∀{l:List bE},(∀i∈l,fH u i=0)->kX u l=0
 | [],_=>rfl
 | g::r,h=>by
  unfold kX;rw[cJ (h g List.mem_cons_self)];exact M9 fun f hf=>h f (List.mem_cons_of_mem _ hf)
theorem M7{u:bR}:∀{l:List Block},(∀b∈l,∀i∈b.ins,fH u i=0)->jA u l=0
 | [],_=>rfl
 | g::r,h=>by
  unfold jA;rw[cJ (M9 (h g List.mem_cons_self))];exact M7 fun f hf=>h f (List.mem_cons_of_mem _ hf)
theorem M8{u:bR}:∀{l:List Func},(∀f∈l,∀b∈f.blocks,∀i∈b.ins,fH u i=0)->gv u l=0
 | [],_=>rfl
 | g::r,h=>by
  unfold gv;rw[cJ (M7 (h g List.mem_cons_self))];exact M8 fun f hf=>h f (List.mem_cons_of_mem _ hf)
theorem Lz{u:bR}(h:dr u=0):u.fns.length≠0∧u.fns.length<=256∧within u.main 0 ((u.fns.length:Int)-1)=true∧(∀f∈u.fns,bo f=0)∧(aD (aL u u.main) 0).params.length=0∧gv u u.fns=0:=by
 unfold dr at h;split at h
 ·simp at h
 rename_i h1;split at h
 ·simp at h
 rename_i h2;split at h
 ·simp at h
 rename_i h3;obtain⟨h4,h5⟩:=hZ h;split at h5
 ·simp at h5
 rename_i h6;exact⟨h1,by omega,by simpa using h3,k8 h4,by omega,h5⟩
theorem QT{u:bR}(h1:u.fns.length≠0)(h2:u.fns.length<=256)(h3:within u.main 0 ((u.fns.length:Int)-1)=true)(h4:∀f∈u.fns,bo f=0)(h5:(aD (aL u u.main) 0).params.length=0)(h6:gv u u.fns=0):dr u=0:=by
 unfold dr;rw[if_neg h1,if_neg (by omega),if_neg (by simp[h3]),cJ (Na h4),if_neg (by omega)];exact h6
theorem QS{u v:bR}(h1:v.fns.length=u.fns.length)(h2:∀k:Int,0<=k->k<u.fns.length->(aD (aL v k) 0).params.length=(aD (aL u k) 0).params.length){i j:bE}(ho:j.op=i.op)(hn:j.n=i.n)(hl:j.args.length=i.args.length)(h0:i.op=13∨i.op=9->0<=i.n):fH v j=fH u i:=by
 unfold fH;rw[ho,hn,hl,h1];split
 ·rfl
 split
 ·rfl
 rw[h2 i.n (h0 (by omega)) (by omega)]
theorem Vb(i:bE):Tz (fun k=>k) i=i:=by
 unfold Tz;rw[List.map_id']
section
variable {u:bR} (bB:u.fit) (hc:dr u=0)
include bB hc
theorem Ny{f:Func}(hf:f∈u.fns):Ro f:=(dV (bB.2.2 f hf) ((Lz hc).2.2.2.1 f hf)).gr
end
end Go.Proofs.Ytkhnjeblbiocaaa
namespace Go.Proofs.Ytkhnjeblbiocaaa
open Go.Av
structure TC(f:Func)(S:Sp):Prop where
 w:Vx f S
 SG:∀(k:Nat) b l,f.blocks[k]?=some b->S.tos[k]?=some l->∀(n:Nat) x,b.term.to[n]?=some x->l[n]?=some x∨∃i:Nat,l[n]?=some ⟨((f.blocks.length+i:Nat):Int),[]⟩∧S.news[i]?=some (KF x)
 new:∀(i:Nat) c,S.news[i]?=some c->∃(k:Nat) (b:Block) (x:Edge),f.blocks[k]?=some b∧x∈b.term.to∧c=KF x
theorem Pt(f:Func):TC f (PW f):=⟨Us f,fun k b l h1 h2 n x h3=>by
 unfold PW at h2;simp only[List.getElem?_map,h1,Option.map_some,Option.some.injEq]at h2;rw[<-h2];exact .inl h3,fun i c h=>by simp[PW]at h⟩
theorem QE{f:Func}{k n:Nat}{S:Sp}(h:TC f S):TC f (LG f k n S):=by
 refine⟨Tq h.w,?_,?_⟩
 ·intro j b l h1 h2 m x h3;unfold LG at h2 ⊢;cases hx:(L5 f (k:Int))[n]? with
  | none =>
   rw[hx]at h2;exact h.SG j b l h1 h2 m x h3
  | some y =>
   rw[hx]at h2;simp only at h2 ⊢;by_cases hc:LO f k y=true
   ·rw[if_pos hc]at h2 ⊢;simp only at h2 ⊢;have Xg:∀i:Nat,S.news[i]?=some (KF x)->(S.news++[KF y])[i]?=some (KF x):=fun i q=>by
     rw[List.getElem?_append_left (I q)];exact q
    have hold:∀l',S.tos[j]?=some l'->l'[m]?=l[m]?->l[m]?=some x∨∃i:Nat,l[m]?=some ⟨((f.blocks.length+i:Nat):Int),[]⟩∧(S.news++[KF y])[i]?=some (KF x):=fun l' q1 q2=>by
     rw[<-q2];rcases h.SG j b l' h1 q1 m x h3 with r|⟨i,r1,r2⟩
     ·exact .inl r
     exact .inr ⟨i,r1,Xg i r2⟩
    rw[List.getElem?_set]at h2;split at h2
    ·rename_i e;subst e;split at h2
     ·rename_i hk;simp only[Option.some.injEq]at h2;obtain⟨l',q8⟩:∃l',S.tos[k]?=some l':=⟨_,List.getElem?_eq_getElem hk⟩
      rw[q8,Option.getD_some]at h2;by_cases e2:n=m
      ·subst e2;have m7:L5 f (k:Int)=b.term.to:=by
        unfold L5 aD;rw[Int.toNat_natCast,h1];rfl
       rw[m7,h3]at hx;simp only[Option.some.injEq]at hx;subst hx;refine .inr ⟨S.news.length,?_,by simp⟩;rw[<-h2,List.getElem?_set_self];rw[h.w.each k b l' h1 q8];exact I h3
      exact hold l' q8 (by rw[<-h2,List.getElem?_set_ne e2])
     cases h2
    exact hold l h2 rfl
   rw[if_neg hc]at h2 ⊢;exact h.SG j b l h1 h2 m x h3
 intro i c hi;unfold LG at hi;cases hx:(L5 f (k:Int))[n]? with
 | none =>
  rw[hx]at hi;exact h.new i c hi
 | some y =>
  rw[hx]at hi;simp only at hi;split at hi
  ·simp only at hi;by_cases hl:i<S.news.length
   ·rw[List.getElem?_append_left hl]at hi;exact h.new i c hi
   have:=I hi;rw[List.length_append,List.length_singleton]at this;have e:i=S.news.length:=by omega
   subst e;rw[List.getElem?_append_right (Nat.le_refl _),Nat.sub_self]at hi;simp only[List.getElem?_cons_zero,Option.some.injEq]at hi;have hk:k<f.blocks.length:=by
    refine Classical.byContradiction fun q=>?_;unfold L5 aD at hx;rw[Int.toNat_natCast,show f.blocks[k]?=none from List.getElem?_eq_none (by omega)]at hx;cases hx
   have hb:f.blocks[k]?=some f.blocks[k]:=List.getElem?_eq_getElem hk;have m7:L5 f (k:Int)=f.blocks[k].term.to:=by
    unfold L5 aD;rw[Int.toNat_natCast,hb];rfl
   rw[m7]at hx;exact⟨k,_,y,hb,List.mem_of_getElem? hx,hi.symm⟩
  exact h.new i c hi
theorem Uq{f:Func}{k:Nat}:∀(m n:Nat) {S:Sp},TC f S->TC f (Up f k m n S)
 | 0,_,_,h=>h
 | m+1,n,_,h=>Uq m (n+1) (QE h)
theorem Ur{f:Func}:∀(m k:Nat) {S:Sp},TC f S->TC f (U' f m k S)
 | 0,_,_,h=>h
 | m+1,k,_,h=>Ur m (k+1) (Uq _ 0 h)
theorem KO(f:Func):TC f (LC f):=Ur _ 0 (Pt f)
section
variable {f:Func}
theorem K0:(KD f).blocks.length=f.blocks.length+(LC f).news.length:=by
 unfold KD;rw[List.length_append,List.length_zipWith,(KO f).w.len];omega
theorem My{k:Nat}{c:Block}(hk:k<f.blocks.length):(KD f).blocks[k]?=some c↔∃b l,f.blocks[k]?=some b∧(LC f).tos[k]?=some l∧c=KI b l:=by
 have hw:=(KO f).w.len;have e:(KD f).blocks[k]?=(List.zipWith KI f.blocks (LC f).tos)[k]?:=List.getElem?_append_left (by rw[List.length_zipWith];omega);have h1:f.blocks[k]?=some f.blocks[k]:=List.getElem?_eq_getElem hk;have h2:(LC f).tos[k]?=some ((LC f).tos[k]'(by omega)):=List.getElem?_eq_getElem _;rw[e,List.getElem?_zipWith,h1,h2];constructor
 ·intro h;simp only[Option.some.injEq]at h;exact⟨_,_,rfl,rfl,h.symm⟩
 rintro⟨b,l,q1,q2,q3⟩;simp only[Option.some.injEq]at q1 q2;rw[q1,q2,q3]
theorem Nz(i:Nat):(KD f).blocks[f.blocks.length+i]?=(LC f).news[i]?:=by
 have hw:=(KO f).w.len;have hl:(List.zipWith KI f.blocks (LC f).tos).length=f.blocks.length:=by
  rw[List.length_zipWith];omega
 have e:(KD f).blocks[f.blocks.length+i]?=(LC f).news[f.blocks.length+i-(List.zipWith KI f.blocks (LC f).tos).length]?:=List.getElem?_append_right (by omega);rw[e,hl,Nat.add_sub_cancel_left]
theorem Lk{k:Nat}{b:Block}{l:List Edge}(hb:f.blocks[k]?=some b)(hl:(LC f).tos[k]?=some l){e:Edge}(he:e∈l):e∈b.term.to∨∃(i:Nat) (x:Edge),e=⟨((f.blocks.length+i:Nat):Int),[]⟩∧(LC f).news[i]?=some (KF x)∧x∈b.term.to:=by
 obtain⟨n,hn⟩:=List.mem_iff_getElem?.1 he;have hlen:=(KO f).w.each k b l hb hl;have yX:=I hn;have hx:b.term.to[n]?=some (b.term.to[n]'(by omega)):=List.getElem?_eq_getElem _;rcases(KO f).SG k b l hb hl n _ hx with q|⟨i,q1,q2⟩
 ·rw[hn]at q;simp only[Option.some.injEq]at q;rw[q];exact .inl (List.getElem_mem _)
 rw[hn]at q1;simp only[Option.some.injEq]at q1;exact .inr ⟨i,_,q1,q2,List.getElem_mem _⟩
end
theorem Sa{x y:Edge}(h:KF x=KF y):x=y:=by
 unfold KF at h;simpa using h
theorem OG:∀(bs:List Block) (tos:List (List Edge)),tos.length=bs.length->(List.zipWith KI bs tos).flatMap KM=bs.flatMap KM
 | [],_,_=>by simp
 | b::bs,l::tos,h=>by
  rw[List.zipWith_cons_cons,List.flatMap_cons,List.flatMap_cons,OG bs tos (by simpa using h)];rfl
 | b::bs,[],h=>by simp at h
theorem RO:∀(bs:List Block) (tos:List (List Edge)),tos.length=bs.length->L4 (List.zipWith KI bs tos)=L4 bs
 | [],_,_=>by simp[L4]
 | b::bs,l::tos,h=>by
  have ih:=RO bs tos (by simpa using h);unfold L4 at ih ⊢;rw[List.zipWith_cons_cons,List.map_cons,List.map_cons,List.sum_cons,List.sum_cons,ih];rfl
 | b::bs,[],h=>by simp at h
theorem SW{f:Func}{D:Nat->Nat->Prop}{R:Nat->Prop}(cj:f.blocks≠[])(hc:Ve f D R)(h0:R 0)(hz:∀i,D i 0->i=0)(aZ:∀i j,D i j->i<f.blocks.length){j:Nat}(hj:j<128)(h:LJ f j=true):R j:=by
 have hl:=List.length_pos_iff.2 cj;have hs:Ug f.blocks.length D R (jW f):=by
  refine⟨by simp[jW],fun i j hj nP=>⟨aZ i j nP,?_⟩,fun j hj yj=>?_⟩
  ·unfold Ds.at_ jW;simp only;rw[List.getElem?_set];split
   ·rename_i e;subst e;rw[if_pos (by simpa using hl),Option.getD_some,hz i nP];decide
   rw[List.getElem?_replicate,if_pos hj,Option.getD_some];exact Pw _ _ hc.few (aZ i j nP)
  have:(Bs.none.add 0).has j=true:=yj;rw[Bs.has_add _ _ _ (by omega) hj]at this;have hn:Bs.none.has j=false:=by unfold Bs.has Bs.none;simp
  rw[hn]at this;simp only[Bool.false_or,decide_eq_true_eq]at this;rw[this];exact h0
 exact(SQ hc 20000 hs).seen j hj h
end Go.Proofs.Ytkhnjeblbiocaaa
namespace Go.Proofs.Ytkhnjeblbiocaaa
open Go.Av
theorem Mi{f:Func}{k:Nat}{n v:Int}(h:PY f k n v):v∈K4 f:=by
 obtain⟨p,⟨k',b,h1,h2,h3⟩,_⟩:=h;refine List.mem_flatMap.2 ⟨b,List.mem_of_getElem? h1,?_⟩;rcases h3 with⟨_,q⟩|⟨j,i,q1,q2,q3⟩
 ·exact List.mem_append_left _ q
 exact List.mem_append_right _ (List.mem_map.2 ⟨i,List.mem_of_getElem? q1,q2⟩)
section
variable {f g:Func} {s:Int->Int} {β:Nat->Nat} {pre:Nat->List bE}
end
end Go.Proofs.Ytkhnjeblbiocaaa
namespace Go.Proofs.Ytkhnjeblbiocaaa
open Go.Av
def RQ(f:Func)(k j:Nat):Prop:=∃b l,f.blocks[k]?=some b∧(LC f).tos[k]?=some l∧∃e∈l,e.block=(j:Int)
theorem Qc{f:Func}(hg:Ro f){k i:Nat}{x:Edge}(h:RQ f k (f.blocks.length+i))(hx:(LC f).news[i]?=some (KF x)):∃b,f.blocks[k]?=some b∧x∈b.term.to:=by
 obtain⟨b,l,h1,h2,e,h3,h4⟩:=h;refine⟨b,h1,?_⟩;rcases Lk h1 h2 h3 with q|⟨j,y,q1,q2,q3⟩
 ·have:=(hg.db b (List.mem_of_getElem? h1) e q).2;omega
 rw[q1]at h4;have Jf:((f.blocks.length+j:Nat):Int)=((f.blocks.length+i:Nat):Int):=h4;have:j=i:=by omega
 subst this;rw[q2]at hx;simp only[Option.some.injEq]at hx;rw[<-Sa hx];exact q3
def Wq(f:Func)(i j:Nat):Prop:=(j<f.blocks.length∧i<f.blocks.length∧(Me f j).has i=true)∨(f.blocks.length<=j∧((i=j∧j<f.blocks.length+(LC f).news.length)∨(i<f.blocks.length∧∀k,LJ f k=true->RQ f k j->(Me f k).has i=true)))
def WN(f:Func)(j:Nat):Prop:=(j<f.blocks.length∧LJ f j=true)∨(f.blocks.length<=j∧∃k,LJ f k=true∧RQ f k j)
theorem OV{f:Func}{v:Int}{p:Int×Int}(h:M5 f v p):M5 (KD f) v p:=by
 obtain⟨k,b,h1,h2,h3⟩:=h;have hk:=I h1;have hw:=(KO f).w.len;have hl:(LC f).tos[k]?=some ((LC f).tos[k]'(by omega)):=List.getElem?_eq_getElem _;exact⟨k,KI b _,(My hk).2 ⟨b,_,h1,hl,rfl⟩,h2,h3⟩
section
variable {f:Func}
theorem KV{k:Nat}{c:Block}(h:(KD f).blocks[k]?=some c):(∃b l,k<f.blocks.length∧f.blocks[k]?=some b∧(LC f).tos[k]?=some l∧c=KI b l)∨∃(i:Nat) (x:Edge),k=f.blocks.length+i∧(LC f).news[i]?=some (KF x)∧c=KF x∧∃(k0:Nat) (b0:Block),f.blocks[k0]?=some b0∧x∈b0.term.to:=by
 by_cases hk:k<f.blocks.length
 ·obtain⟨b,l,h1,h2,h3⟩:=(My hk).1 h;exact .inl ⟨b,l,hk,h1,h2,h3⟩
 obtain⟨i,hi⟩:∃i,k=f.blocks.length+i:=⟨k-f.blocks.length,by omega⟩
 rw[hi,Nz]at h;obtain⟨k0,b0,x,q1,q2,q3⟩:=(KO f).new i c h;exact .inr ⟨i,x,hi,by rw[h,q3],q3,k0,b0,q1,q2⟩
theorem Ub(hg:Ro f)(hd:TB f)(hm:f.blocks.length+(LC f).news.length<=128):Ve (KD f) (Wq f) (WN f) where
 few:=by rw[K0];exact hm
 db:=fun c hc e he=>by
  obtain⟨k,hk⟩:=List.mem_iff_getElem?.1 hc;rw[K0];rcases KV hk with⟨b,l,h1,h2,h3,h4⟩|⟨i,x,h1,h2,h3,k0,b0,h4,h5⟩
  ·rw[h4]at he;rcases Lk h2 h3 he with q|⟨i,x,q1,q2,q3⟩
   ·have:=hg.db b (List.mem_of_getElem? h2) e q;omega
   have:=I q2;rw[q1];simp only;omega
  rw[h3]at he;have hex:e=x:=by simpa[KF]using he
  have:=hg.db b0 (List.mem_of_getElem? h4) x h5;rw[hex];omega
 next:=fun k c hk hR e he=>by
  have hn:=hg.few;rcases KV hk with⟨b,l,h1,h2,h3,h4⟩|⟨i,x,h1,h2,h3,_⟩
  ·rw[h4]at he;have hs:LJ f k=true:=by
    rcases hR with q|q
    ·exact q.2
    omega
   rcases Lk h2 h3 he with q|⟨i,x,q1,q2,q3⟩
   ·have hr:=hg.db b (List.mem_of_getElem? h2) e q;obtain⟨s1,s2⟩:=hd.step k b h2 hs e q;refine⟨.inl ⟨by omega,s1⟩,fun z hz=>?_⟩;rcases hz with⟨z1,z2,z3⟩|⟨z1,_⟩
    ·rcases s2 z (by omega) z3 with r|r
     ·exact .inl r
     exact .inr (.inl ⟨h1,z2,r⟩)
    omega
   have uy:RQ f k (f.blocks.length+i):=⟨b,l,h2,h3,e,he,by rw[q1]⟩
   have YK:e.block.toNat=f.blocks.length+i:=by
    rw[q1];simp only;omega
   rw[YK];refine⟨.inr ⟨by omega,k,hs,uy⟩,fun z hz=>?_⟩;rcases hz with⟨z1,_⟩|⟨_,⟨z2,_⟩|⟨z2,z3⟩⟩
   ·omega
   ·exact .inl z2
   exact .inr (.inl ⟨h1,z2,z3 k hs uy⟩)
  rw[h3]at he;have hex:e=x:=by simpa[KF]using he
  rw[hex];have V9:∀k',LJ f k'=true->RQ f k' k->LJ f x.block.toNat=true∧x.block.toNat<f.blocks.length∧∀j,j<128->((Me f x.block.toNat).has j=true->j=x.block.toNat∨(Me f k').has j=true):=fun k' DV uy=>by
   rw[h1]at uy;obtain⟨b',r1,r2⟩:=Qc hg uy h2;obtain⟨s1,s2⟩:=hd.step k' b' r1 DV x r2;have hr:=hg.db b' (List.mem_of_getElem? r1) x r2;exact⟨s1,by omega,s2⟩
  have Xf:∃k',LJ f k'=true∧RQ f k' k:=by
   rcases hR with q|q
   ·omega
   exact q.2
  obtain⟨k',e1,e2⟩:=Xf;obtain⟨s1,s2,_⟩:=V9 k' e1 e2;refine⟨.inl ⟨s2,s1⟩,fun z hz=>?_⟩;rcases hz with⟨z1,z2,z3⟩|⟨z1,_⟩
  ·by_cases q:z=x.block.toNat
   ·exact .inl q
   exact .inr (.inr ⟨by omega,.inr ⟨z2,fun WJ f1 f2=>((V9 WJ f1 f2).2.2 z (by omega) z3).resolve_left q⟩⟩)
  omega
theorem Tp(hg:Ro f)(hd:TB f):∀i,Wq f i 0->i=0:=fun i h=>by
 have hl:=List.length_pos_iff.2 hg.ne;have hn:=hg.few;rcases h with⟨_,h2,h3⟩|⟨h1,_⟩
 ·exact(hd.zero i (by omega)).1 h3
 omega
theorem U9:∀i j,Wq f i j->i<(KD f).blocks.length:=fun i j h=>by
 rw[K0];rcases h with⟨_,h2,_⟩|⟨_,⟨h2,h3⟩|⟨h2,_⟩⟩<;>omega
theorem OD(hg:Ro f):(KD f).blocks≠[]:=fun q=>by
 have hl:=List.length_pos_iff.2 hg.ne;have:=congrArg List.length q;rw[K0]at this;simp only[List.length_nil]at this;omega
theorem QH:∀l:List Block,(∀c∈l,c.ins=[])->L4 l=0
 | [],_=>rfl
 | c::l,h=>by
  have ih:=QH l fun d hd=>h d (List.mem_cons_of_mem _ hd);unfold L4 at ih ⊢;rw[List.map_cons,List.sum_cons,ih,h c (List.mem_cons_self ..)];rfl
theorem LD(bB:f.fit)(hc:bo f=0)(hm:f.blocks.length+(LC f).news.length<=128):bo (KD f)=0:=by
 have hv:=KU bB hc;have hf:=hv.fn;have hg:=hf.gr;have hd:=hv.VA;have hl:=List.length_pos_iff.2 hg.ne;have hC:=Ub hg hd hm;have Tx:WN f 0:=.inl ⟨hl,hd.seen⟩;have hz:=Tp hg hd;have aZ:=U9 (f:=f);have WH:=(KO f).w.len;have cF:∀{i j:Nat},j<(KD f).blocks.length->Wq f i j->(Me (KD f) j).has i=true:=fun hj h=>TK (OD hg) hC Tx hz aZ hj h;have nS:∀{j:Nat},j<128->LJ (KD f) j=true->WN f j:=fun hj h=>SW (OD hg) hC Tx hz aZ hj h;have hold:∀{k:Nat} {n v:Int},k<f.blocks.length->PY f k n v->PY (KD f) k n v:=fun {k n v} hk h=>by
  obtain⟨p,h1,h2⟩:=h;have hp:=h1.range;refine⟨p,OV h1,fun hs=>?_⟩;have Y0:LJ f k=true:=by
   rcases nS (by omega) hs with q|q
   ·exact q.2
   omega
  rcases h2 Y0 with q|⟨q1,q2⟩
  ·exact .inl q
  exact .inr ⟨q1,cF (by rw[K0];omega) (.inl ⟨hk,by omega,q2⟩)⟩
 have j9:K4 (KD f)=K4 f:=by
  unfold K4 KD;rw[List.flatMap_append,OG _ _ WH];have:(LC f).news.flatMap KM=[]:=by
   rw[List.flatMap_eq_nil_iff];intro c yU;obtain⟨i,hi⟩:=List.mem_iff_getElem?.1 yU;obtain⟨_,_,x,_,_,q⟩:=(KO f).new i c hi;rw[q];rfl
  rw[this,List.append_nil]
 have Wa:L4 (KD f).blocks=L4 f.blocks:=by
  have h1:L4 (KD f).blocks=L4 (List.zipWith KI f.blocks (LC f).tos)+L4 (LC f).news:=by
   unfold L4 KD;rw[List.map_append,List.sum_append]
  have h2:L4 (LC f).news=0:=by
   refine QH _ fun c yU=>?_;obtain⟨i,hi⟩:=List.mem_iff_getElem?.1 yU;obtain⟨_,_,x,_,_,q⟩:=(KO f).new i c hi;rw[q];rfl
  rw[h1,h2,RO _ _ WH];rfl
 have pz:∀{k:Int},0<=k->k<f.blocks.length->(aD (KD f) k).params=(aD f k).params:=fun {k} h0 h1=>by
  have hb:=QQ h0 h1;have YP:(LC f).tos[k.toNat]?=some ((LC f).tos[k.toNat]'(by omega)):=List.getElem?_eq_getElem _;have:=(My (f:=f) (k:=k.toNat) (by omega)).2 ⟨_,_,hb,YP,rfl⟩;have e:aD (KD f) k=KI (aD f k) ((LC f).tos[k.toNat]'(by omega)):=by
   show(KD f).blocks[k.toNat]?.getD default=_;rw[this];rfl
  rw[e];rfl
 have Ai:∀(i:Nat),i<(LC f).news.length->(aD (KD f) ((f.blocks.length+i:Nat):Int)).params=[]:=fun i hi=>by
  have X6:(LC f).news[i]?=some ((LC f).news[i]'hi):=List.getElem?_eq_getElem _;obtain⟨_,_,x,_,_,q⟩:=(KO f).new i _ X6;have:(KD f).blocks[f.blocks.length+i]?=some (KF x):=by rw[Nz,X6,q]
  have e:aD (KD f) ((f.blocks.length+i:Nat):Int)=KF x:=by
   unfold aD;rw[Int.toNat_natCast,this];rfl
  rw[e];rfl
 refine P5 (OD hg) (by rw[K0];exact hm) hf.name (fun c yU=>?_) (by rw[Wa];exact Ud bB hc) (by rw[pz (by omega) (by omega)];exact hf.args) (by rw[j9];exact hv.vals) (by rw[j9];exact hv.nodup) (fun c yU=>?_) ?_
 ·obtain⟨k,hk⟩:=List.mem_iff_getElem?.1 yU;rcases KV hk with⟨b,l,_,h2,_,h4⟩|⟨i,x,_,_,h3,_⟩
  ·rw[h4];exact hf.ins b (List.mem_of_getElem? h2)
  rw[h3];simp[KF]
 ·obtain⟨k,hk⟩:=List.mem_iff_getElem?.1 yU;rcases KV hk with⟨b,l,h1,h2,h3,h4⟩|⟨i,x,h1,h2,h3,k0,b0,h4,h5⟩
  ·have Ex:=hf.blk b (List.mem_of_getElem? h2);have iI:=(KO f).w.each k b l h2 h3;obtain⟨m1,m2,m3,m4⟩:=jk Ex.fin;rw[h4];refine⟨Ex.uu,OZ ?_ m2 m3 (R4 (f:=f) (t:=b.term) Ex.fin) fun e he=>?_⟩
   ·rw[Rf (t:=(KI b l).term) (t':=b.term) rfl rfl rfl rfl iI];exact m1
   rw[K0];rcases Lk h2 h3 he with q|⟨i,x,q1,q2,q3⟩
   ·obtain⟨e1,e2⟩:=m4 e q;exact⟨by omega,by rw[pz (by omega) (by omega)];exact e2⟩
   have hi:=I q2;rw[q1];refine⟨by simp only;omega,?_⟩;simp only;rw[Ai i hi]
  have Ex:=hf.blk b0 (List.mem_of_getElem? h4);obtain⟨m1,m2,m3,m4⟩:=jk Ex.fin;obtain⟨e1,e2⟩:=m4 x h5;rw[h3];refine⟨fun i hi=>(by cases hi),OZ (by simp[KF,eG,eX,ou]) (by simp[KF]) (by simp[KF]) rfl fun e he=>?_⟩;have hex:e=x:=by simpa[KF]using he
  rw[hex,K0];exact⟨by omega,by rw[pz (by omega) (by omega)];exact e2⟩
 refine⟨fun k c hk n i hi a ha=>?_,fun k c hk h1 h4=>?_,fun k c hk e he a ha=>?_⟩
 ·rcases KV hk with⟨b,l,h1,h2,h3,h4⟩|⟨i0,x,_,_,h3,_⟩
  ·rw[h4]at hi;exact hold h1 (hv.pC.ins k b h2 n i hi a ha)
  rw[h3]at hi;simp[KF]at hi
 ·rcases KV hk with⟨b,l,q1,q2,q3,q4⟩|⟨i0,x,_,_,q3,_⟩
  ·rw[q4]at h1 h4 ⊢;exact hold q1 (hv.pC.arg k b q2 h1 h4)
  rw[q3]at h1;exact absurd rfl h1
 rcases KV hk with⟨b,l,q1,q2,q3,q4⟩|⟨i0,x,q1,q2,q3,k0,b0,q4,q5⟩
 ·rw[q4]at he ⊢;rcases Lk q2 q3 he with q|⟨i,x,r1,_,_⟩
  ·exact hold q1 (hv.pC.args k b q2 e q a ha)
  rw[r1]at ha;cases ha
 rw[q3]at he ⊢;have hex:e=x:=by simpa[KF]using he
 rw[hex]at ha;obtain⟨p,p1,_⟩:=hv.pC.args k0 b0 q4 x q5 a ha;have hp:=p1.range;refine⟨p,OV p1,fun hs=>.inr ⟨by omega,?_⟩⟩;have sP:=I q2;refine cF (by rw[K0];omega) (.inr ⟨by omega,.inr ⟨by omega,fun k' s1 s2=>?_⟩⟩);rw[q1]at s2;obtain⟨b',r1,r2⟩:=Qc hg s2 q2;obtain⟨p',t1,t2⟩:=hv.pC.args k' b' r1 x r2 a ha;have:=t1.uniq hv p1;subst this;rcases t2 s1 with⟨u1,_⟩|⟨_,u2⟩
 ·rw[show p'.1.toNat=k' by omega];exact hd.self k' (I r1)
 exact u2
end
end Go.Proofs.Ytkhnjeblbiocaaa
namespace Go.Proofs.Ytkhnjeblbiocaaa
open Go.Av
theorem MS:nI []:=fun _ h=>by cases h
theorem L0{f:Func}(bB:f.fit)(hm:f.blocks.length+(LC f).news.length<=128):(KD f).fit:=by
 refine⟨bB.1,by rw[K0];omega,fun c yU=>?_⟩;obtain⟨k,hk⟩:=List.mem_iff_getElem?.1 yU;rcases KV hk with⟨b,l,h1,h2,h3,h4⟩|⟨i,x,h1,h2,h3,k0,b0,h4,h5⟩
 ·obtain⟨b1,b2,b3,b4,t1,t2,t3,t4,t5,t6,t7⟩:=bB.2.2 _ (List.mem_of_getElem? h2);have hlen:=(KO f).w.each k b l h2 h3;rw[h4];refine⟨b1,b2,b3,b4,t1,t2,t3,t4,t5,by show l.length<=_;rw[hlen];exact t6,fun e he=>?_⟩;rcases Lk h2 h3 he with q|⟨i,x,q1,q2,q3⟩
  ·exact t7 e q
  have:=I q2;rw[q1];refine⟨?_,MS,by simp⟩;unfold gX;simp only;omega
 obtain⟨b1,b2,b3,b4,t1,t2,t3,t4,t5,t6,t7⟩:=bB.2.2 _ (List.mem_of_getElem? h4);rw[h3];refine⟨MS,by simp[KF],by simp[KF],fun v hv=>(by cases hv),by simp[KF,gX],by simp[KF,gX],by simp[KF,gX],MS,by simp[KF],by simp[KF],fun e he=>?_⟩;have hex:e=x:=by simpa[KF]using he
 rw[hex];exact t7 x h5
section
variable {f:Func}
end
end Go.Proofs.Ytkhnjeblbiocaaa
namespace Go.Proofs.Ytkhnjeblbiocaaa
open Go.Av
theorem PC{g:Func}(hv:Uw g){sp:Int}(fQ:∀v∈K4 g,v<sp){b:Block}(hb:b∈g.blocks){e:Edge}(he:e∈b.term.to):WL g e sp:=by
 obtain⟨e1,e2⟩:=(jE (hv.fn.blk b hb).fin).db e he;have UN:aD g e.block∈g.blocks:=fh (by omega) (by omega);have qx:(aD g e.block).params.length<=4096:=by
  have:=(hv.fn.blk _ UN).few;omega
 have hp:∀x∈(aD g e.block).params,0<=x∧x<sp:=fun x hx=>have q:=List.mem_flatMap.2 ⟨_,UN,List.mem_append_left _ hx⟩;⟨(hv.below q).1,fQ x q⟩;have ha:∀x∈e.args,0<=x∧x<sp:=fun x hx=>by
  obtain⟨k,hk⟩:=List.mem_iff_getElem?.1 hb;have q:=Mi (hv.pC.args k b hk e he x hx);exact⟨(hv.below q).1,fQ x q⟩
 have hz:∀x∈KK g e,x.1∈(aD g e.block).params∧x.2∈e.args:=fun x hx=>List.of_mem_zip (a:=x.1) (b:=x.2) hx;exact {
  blk:=by omega
  len:=e2
  few:=qx
  pos:=fun x hx=>⟨(hp _ (hz x hx).1).1,(ha _ (hz x hx).2).1⟩
  XJ:=fun i j x y nP h1 h2 q=>by
   have hn:(aD g e.block).params.Nodup:=by
    have h2:=hv.nodup;unfold K4 List.flatMap at h2;have h3:=(List.pairwise_flatten.1 h2).1 _ (List.mem_map.2 ⟨_,UN,rfl⟩);exact(List.nodup_append.1 h3).1
   have g1:=(List.getElem?_zip_eq_some.1 h1).1;have g2:=(List.getElem?_zip_eq_some.1 h2).1;rw[q,<-g2]at g1;have:=(List.getElem?_inj (I (g1.trans g2)) hn).1 g1;omega
  sp:=fun x hx=>by
   have:=hp _ (hz x hx).1;have:=ha _ (hz x hx).2;omega }
theorem MN{g:Func}{e:Edge}{sp:Int}(h:WL g e sp):(KG g e sp).length<=8192:=by
 have h1:=Tm (KK g e) sp;have h2:=h.few;have h3:(KK g e).length<=(aD g e.block).params.length:=by
  unfold KK;rw[List.length_zip];omega
 unfold KG;rw[List.length_map];omega
theorem L8:∀(ss ids:List Nat) (L:List Block),∀d∈KE ss ids L,d.scalar
 | [],_,_,d,h=>by simp[KE]at h
 | _::_,[],_,d,h=>by simp[KE]at h
 | _::_,_::_,[],d,h=>by simp[KE]at h
 | s::ss,i::ids,b::L,d,h=>by
  rw[K9,List.mem_append]at h;rcases h with q|q
  ·simp only[Ll,List.mem_cons,List.not_mem_nil,or_false]at q;rcases q with rfl|rfl|rfl|rfl|rfl|rfl|rfl<;>first|trivial|skip
   unfold LY;split<;>trivial
  exact L8 ss ids L d q
theorem OH.Wl{name:Int}{ids ss:List Nat}{X bW:Nat}{L:List Block}{O:List ak}(h:OH name ids ss X bW L O){k:Nat}{b c:Block}(hb:L[k]?=some b)(hc:c.term.to=b.term.to)(hi:c.ins=b.ins):OH name ids ss X bW (L.set k c) (O.set bW (.cells (KE ss ids (L.set k c)))):=by
 have m6:=I hb;obtain⟨s,hs⟩:∃s,ss[k]?=some s:=⟨ss[k]'(by rw[h.ls];exact m6),List.getElem?_eq_getElem _⟩
 have:=h.row hs hb hc (.inl rfl);rw[Mx hs,K6 (l:=O) (j:=s) (by rw[hi];exact(h.sp k s b hs hb).2)]at this;exact this
theorem Td(O:List ak):Sub O (.v (.slice none 0 0)) (a6 []):=fun g u _ k=>by
 have:=k.cq.1;subst this;exact .nil (fun id e=>by cases e) (by simp)
theorem PU{l:List ae}{i:Nat}{a:ae}{xs:List ae}(h:l[i]?=some a):aS l i (a::xs)=aS l (i+1) xs:=by
 unfold aS;rw[List.take_add_one,h];simp only[Option.toList,List.append_assoc,List.cons_append,List.nil_append,List.length_cons,List.singleton_append];rw[show i+(xs.length+1)=i+1+xs.length by omega]
theorem SY{es:List Edge}{n:Nat}{y:Edge}(h:es[n]?=some y):aS (K3 es) (n*2+1) [a6 []]=K3 (es.set n ⟨y.block,[]⟩):=by
 have h2:=Rz h;have h3:(K3 es)[n*2]?=some (aI y.block):=by
  have:(((K3 es).drop (n*2)).take 2)[0]?=some (aI y.block):=by rw[h2];rfl
  rw[List.getElem?_take,if_pos (by omega),List.getElem?_drop]at this;exact this
 rw[<-PU h3];exact Ry (I h) ⟨y.block,[]⟩
theorem KR:∀(k:Nat) (R:List Block),(Lf k R).length=R.length
 | _,[]=>rfl
 | k,b::r=>by simp[Lf,KR (k+1) r]
theorem Ms:∀{k j:Nat} {R:List Block} {c:Block},R[j]?=some c->(Lf k R)[j]?=some (if k+j=0 then c else Nh c)
 | _,_,[],_,h=>by simp at h
 | k,0,b::r,c,h=>by
  simp only[List.getElem?_cons_zero,Option.some.injEq]at h;subst h;simp[Lf]
 | k,j+1,b::r,c,h=>by
  rw[Lf,List.getElem?_cons_succ,Ms (by simpa using h),show k+1+j=k+(j+1) by omega]
def MA(j:Nat)(R:List Block):List Block:=(Lf 0 R).take j++R.drop j
theorem Sg(R:List Block):MA 0 R=R:=by simp[MA]
theorem Ta{j:Nat}{R:List Block}(h:R.length<=j):MA j R=Lf 0 R:=by
 unfold MA;rw[List.take_of_length_le (by rw[KR];exact h),List.drop_eq_nil_of_le h,List.append_nil]
theorem Qn(j:Nat)(R:List Block):(MA j R).length=R.length:=by
 unfold MA;rw[List.length_append,List.length_take,List.length_drop,KR];omega
theorem TX{j:Nat}{R:List Block}{c:Block}(h:R[j]?=some c):(MA j R)[j]?=some c:=by
 have hl:=I h;have:((Lf 0 R).take j).length=j:=by rw[List.length_take,KR];omega
 unfold MA;rw[List.getElem?_append_right (by omega),this,Nat.sub_self,List.getElem?_drop,Nat.add_zero,h]
theorem Sf{j:Nat}{R:List Block}{c:Block}(h:R[j]?=some c):MA (j+1) R=(MA j R).set j (if j=0 then c else Nh c):=by
 have hl:=I h;have uE:((Lf 0 R).take j).length=j:=by rw[List.length_take,KR];omega
 have hb:=Ms (k:=0) h;rw[Nat.zero_add]at hb;unfold MA;rw[List.set_append_right _ _ (by omega),uE,Nat.sub_self,bS h,List.set_cons_zero,List.take_add_one,hb];simp
theorem OQ:∀(ids:List Nat) (L:List Block),∀d∈KL ids L,d.scalar
 | [],_,d,h=>by simp[KL]at h
 | _::_,[],d,h=>by simp[KL]at h
 | i::ids,b::L,d,h=>by
  have e:KL (i::ids) (b::L)=No i b++KL ids L:=rfl;rw[e,List.mem_append]at h;rcases h with q|q
  ·simp only[No,List.mem_cons,List.not_mem_nil,or_false]at q;rcases q with rfl|rfl|rfl|rfl|rfl|rfl|rfl<;>first|trivial|skip
   unfold Mp;split<;>trivial
  exact OQ ids L d q
theorem M4(f:Func):K4 (KD f)=K4 f:=by
 have WH:=(KO f).w.len;unfold K4 KD;rw[List.flatMap_append,OG _ _ WH];have:(LC f).news.flatMap KM=[]:=by
  rw[List.flatMap_eq_nil_iff];intro c yU;obtain⟨i,hi⟩:=List.mem_iff_getElem?.1 yU;obtain⟨_,_,x,_,_,q⟩:=(KO f).new i c hi;rw[q];rfl
 rw[this,List.append_nil]
end Go.Proofs.Ytkhnjeblbiocaaa
namespace Go.Proofs.Ytkhnjeblbiocaaa
open Go.Av
def K7(t:Int)(es:List Edge):Nat:=es.countP fun e=>decide (e.block=t)
def OJ(t:Int)(ls:List (List Edge)):Nat:=(ls.map (K7 t)).sum
def Mh(t:Int)(bs:List Block):Nat:=OJ t (bs.map fun b=>b.term.to)
theorem QI:∀{l:List Nat} {k:Nat} {a:Nat},l[k]?=some a->∀v,(l.set k v).sum+a=l.sum+v
 | [],k,a,h,v=>by simp at h
 | x::l,0,a,h,v=>by
  simp only[List.getElem?_cons_zero,Option.some.injEq]at h;subst h;simp only[List.set_cons_zero,List.sum_cons];omega
 | x::l,k+1,a,h,v=>by
  have:=QI (l:=l) (k:=k) (a:=a) (by simpa using h) v;simp only[List.set_cons_succ,List.sum_cons];omega
theorem P8(t:Int):∀{l:List Edge} {n:Nat} {x:Edge},l[n]?=some x->∀y,K7 t (l.set n y)+(if x.block=t then 1 else 0)=K7 t l+if y.block=t then 1 else 0
 | [],k,a,h,v=>by simp at h
 | x::l,0,a,h,v=>by
  simp only[List.getElem?_cons_zero,Option.some.injEq]at h;subst h;unfold K7;simp only[List.set_cons_zero,List.countP_cons,decide_eq_true_eq];omega
 | x::l,k+1,a,h,v=>by
  have:=P8 t (l:=l) (n:=k) (x:=a) (by simpa using h) v;unfold K7 at this ⊢;simp only[List.set_cons_succ,List.countP_cons];omega
theorem SN(t:Int){ls:List (List Edge)}{k:Nat}{l:List Edge}(h:ls[k]?=some l)(m:List Edge):OJ t (ls.set k m)+K7 t l=OJ t ls+K7 t m:=by
 unfold OJ;rw[List.map_set];exact QI (by rw[List.getElem?_map,h];rfl) _
theorem Sq{k:Nat}{ls:List (List Int)}{e:Edge}{j:Nat}(hj:j<ls.length)(he:0<=e.block):((MG k ls e)[j]?.getD []).length=(ls[j]?.getD []).length+if e.block=(j:Int)then 1 else 0:=by
 unfold MG;rw[List.getElem?_set];by_cases h:e.block.toNat=j
 ·rw[if_pos h,h,if_pos hj,if_pos (by omega),Option.getD_some,List.length_append];rfl
 rw[if_neg h,if_neg (by omega)];rfl
theorem Pm{k:Nat}{j:Nat}:∀(es:List Edge) (ls:List (List Int)),j<ls.length->(∀e∈es,0<=e.block)->((MF k ls es)[j]?.getD []).length=(ls[j]?.getD []).length+K7 (j:Int) es
 | [],ls,_,_=>rfl
 | e::r,ls,hj,he=>by
  show((MF k (MG k ls e) r)[j]?.getD []).length=_;rw[Pm r (MG k ls e) (by rw[Pn];exact hj) (fun x hx=>he x (List.mem_cons_of_mem _ hx)),Sq hj (he e List.mem_cons_self)];unfold K7;simp only[List.countP_cons,decide_eq_true_eq];omega
theorem Po{j:Nat}:∀(bs:List Block) (k:Nat) (ls:List (List Int)),j<ls.length->(∀b∈bs,∀e∈b.term.to,0<=e.block)->((Nk k ls bs)[j]?.getD []).length=(ls[j]?.getD []).length+Mh (j:Int) bs
 | [],k,ls,_,_=>rfl
 | b::r,k,ls,hj,he=>by
  show((Nk (k+1) (MF k ls b.term.to) r)[j]?.getD []).length=_;rw[Po r (k+1) _ (by rw[Nw];exact hj) (fun x hx=>he x (List.mem_cons_of_mem _ hx)),Pm _ _ hj (he b List.mem_cons_self)];unfold Mh OJ;simp only[List.map_cons,List.sum_cons];omega
theorem Mw{f:Func}(he:∀b∈f.blocks,∀e∈b.term.to,0<=e.block){t:Int}(h0:0<=t)(h1:t<f.blocks.length):(L' f t).length=Mh t f.blocks:=by
 unfold L' Ls;rw[Po f.blocks 0 _ (by rw[List.length_replicate];omega) he,List.getElem?_replicate,if_pos (by omega)];rw[show((t.toNat:Nat):Int)=t by omega];simp
def P9(t:Int)(S:Sp):Nat:=OJ t S.tos+Mh t S.news
structure Tv(f:Func)(k n:Nat)(S:Sp):Prop where
 i:TC f S
 rest:∀(j:Nat) b,f.blocks[j]?=some b->k<j->S.tos[j]?=some b.term.to
 cur:∀b l,f.blocks[k]?=some b->S.tos[k]?=some l->∀m,n<=m->l[m]?=b.term.to[m]?
 done:∀(j:Nat) b l,f.blocks[j]?=some b->S.tos[j]?=some l->∀(m:Nat) e,(j<k∨j=k∧m<n)->l[m]?=some e->(f.blocks.length:Int)<=e.block∨LO f j e=false
 SG:∀t:Int,t<f.blocks.length->P9 t S=Mh t f.blocks
 new:∀i:Nat,i<S.news.length->P9 ((f.blocks.length+i:Nat):Int) S=1
 none:∀i:Nat,S.news.length<=i->P9 ((f.blocks.length+i:Nat):Int) S=0
theorem Su{f:Func}(hr:∀b∈f.blocks,∀e∈b.term.to,e.block<f.blocks.length):Tv f 0 0 (PW f) where
 i:=Pt f
 rest:=fun j b h _=>by
  unfold PW;rw[List.getElem?_map,h];rfl
 cur:=fun b l h1 h2 m _=>by
  unfold PW at h2;simp only[List.getElem?_map,h1,Option.map_some,Option.some.injEq]at h2;rw[h2]
 done:=fun j b l _ _ m e h _=>by omega
 SG:=fun t _=>Nat.add_zero _
 new:=fun i h=>by simp[PW]at h
 none:=fun i _=>by
  show OJ _ (f.blocks.map fun b=>b.term.to)+0=0;unfold OJ;rw[Nat.add_zero];have:∀l∈f.blocks.map (fun b=>b.term.to),K7 ((f.blocks.length+i:Nat):Int) l=0:=fun l hl=>by
   obtain⟨b,hb,rfl⟩:=List.mem_map.1 hl;unfold K7;rw[List.countP_eq_zero];intro e he;have:=hr b hb e he;simp only[decide_eq_true_eq];omega
  generalize f.blocks.map (fun b=>b.term.to)=L at *;induction L with
  | nil=>rfl
  | cons a r ih =>
   rw[List.map_cons,List.sum_cons,this a List.mem_cons_self,ih fun l hl=>this l (List.mem_cons_of_mem _ hl)]
theorem Ts{f:Func}{k n:Nat}{S:Sp}(h:Tv f k n S)(hk:k<f.blocks.length)(hn:n<(L5 f (k:Int)).length):Tv f k (n+1) (LG f k n S):=by
 obtain⟨b,hb⟩:∃b,f.blocks[k]?=some b:=⟨_,List.getElem?_eq_getElem hk⟩
 have m7:L5 f (k:Int)=b.term.to:=by simp[L5,aD,hb]
 obtain⟨l,hl⟩:∃l,S.tos[k]?=some l:=⟨S.tos[k]'(by rw[h.i.w.len];exact hk),List.getElem?_eq_getElem _⟩
 obtain⟨x,hx⟩:∃x,(L5 f (k:Int))[n]?=some x:=⟨_,List.getElem?_eq_getElem hn⟩
 have hi:=QE (k:=k) (n:=n) h.i;have UT:l[n]?=some x:=by rw[h.cur b l hb hl n (Nat.le_refl _),<-m7,hx]
 have yX:=I UT;unfold LG at hi ⊢;rw[hx]at hi ⊢;simp only at hi ⊢;by_cases hc:LO f k x=true
 ·rw[if_pos hc]at hi ⊢;rw[hl,Option.getD_some]at hi ⊢;have eZ:∀t,P9 t ⟨S.tos.set k (l.set n ⟨((f.blocks.length+S.news.length:Nat):Int),[]⟩),S.news++[KF x]⟩=P9 t S+if((f.blocks.length+S.news.length:Nat):Int)=t then 1 else 0:=fun t=>by
   have e1:=SN t hl (l.set n ⟨((f.blocks.length+S.news.length:Nat):Int),[]⟩);have e2:=P8 t UT ⟨((f.blocks.length+S.news.length:Nat):Int),[]⟩;have e3:Mh t (S.news++[KF x])=Mh t S.news+if x.block=t then 1 else 0:=by
    unfold Mh OJ;rw[List.map_append,List.map_append,List.sum_append];unfold KF K7;simp only[List.map_cons,List.map_nil,List.sum_cons,List.sum_nil,List.countP_cons,List.countP_nil,decide_eq_true_eq];omega
   unfold P9;simp only[e3];simp only at e2;omega
  refine⟨hi,fun j c h1 h2=>?_,fun c m h1 h2 z hz=>?_,fun j c m h1 h2 z e h3 h4=>?_,fun t ht=>?_,fun i hi=>?_,fun i hi=>?_⟩
  ·simp only;rw[List.getElem?_set_ne (by omega)];exact h.rest j c h1 h2
  ·simp only at h2;rw[List.getElem?_set_self (I hl)]at h2;simp only[Option.some.injEq]at h2;rw[<-h2,List.getElem?_set_ne (by omega)];exact h.cur c l h1 hl z (by omega)
  ·simp only at h2;rw[List.getElem?_set]at h2;split at h2
   ·rename_i YN;subst YN;rw[if_pos (I hl)]at h2;simp only[Option.some.injEq]at h2;rw[<-h2,List.getElem?_set]at h4;split at h4
    ·simp only[Option.some.injEq]at h4;rw[<-h4];exact .inl (by simp only;omega)
    exact h.done k c l h1 hl z e (by omega) h4
   exact h.done j c m h1 h2 z e (by omega) h4
  ·rw[eZ,h.SG t ht,if_neg (by omega)];rfl
  ·rw[List.length_append,List.length_singleton]at hi;rw[eZ];by_cases q:i=S.news.length
   ·subst q;rw[if_pos rfl,h.none _ (Nat.le_refl _)]
   rw[if_neg (by omega),h.new i (by omega)]
  rw[List.length_append,List.length_singleton]at hi;rw[eZ,if_neg (by omega),h.none i (by omega)]
 rw[if_neg hc]at hi ⊢;refine⟨h.i,h.rest,fun c m h1 h2 z hz=>h.cur c m h1 h2 z (by omega),fun j c m h1 h2 z e h3 h4=>?_,h.SG,h.new,h.none⟩;by_cases q:j=k∧z=n
 ·obtain⟨q1,q2⟩:=q;subst q1 q2;rw[hl]at h2;simp only[Option.some.injEq]at h2;subst h2;rw[UT]at h4;simp only[Option.some.injEq]at h4;subst h4;exact .inr (by simpa using hc)
 exact h.done j c m h1 h2 z e (by omega) h4
theorem Ut{f:Func}{k:Nat}(hk:k<f.blocks.length):∀(m n:Nat) {S:Sp},n+m=(L5 f (k:Int)).length->Tv f k n S->Tv f k (n+m) (Up f k m n S)
 | 0,n,S,_,h=>h
 | m+1,n,S,hm,h=>by
  rw[show n+(m+1)=n+1+m by omega];exact Ut hk m (n+1) (by omega) (Ts h hk (by omega))
theorem Tr{f:Func}{k:Nat}{S:Sp}(h:Tv f k (L5 f (k:Int)).length S):Tv f (k+1) 0 S where
 i:=h.i
 rest:=fun j b h1 h2=>h.rest j b h1 (by omega)
 cur:=fun b l h1 h2 m _=>by
  rw[h.rest (k+1) b h1 (by omega)]at h2;simp only[Option.some.injEq]at h2;rw[h2]
 done:=fun j b l h1 h2 m e h3 h4=>by
  by_cases q:j=k
  ·subst q;have m7:L5 f (j:Int)=b.term.to:=by simp[L5,aD,h1]
   have hw:=h.i.w.each j b l h1 h2;have:=I h4;exact h.done j b l h1 h2 m e (.inr ⟨rfl,by rw[m7];omega⟩) h4
  exact h.done j b l h1 h2 m e (by omega) h4
 SG:=h.SG
 new:=h.new
 none:=h.none
theorem Uu{f:Func}:∀(m k:Nat) {S:Sp},k+m=f.blocks.length->Tv f k 0 S->Tv f (k+m) 0 (U' f m k S)
 | 0,k,S,_,h=>h
 | m+1,k,S,hm,h=>by
  rw[show k+(m+1)=k+1+m by omega];refine Uu m (k+1) (by omega) (Tr ?_);have:=Ut (f:=f) (k:=k) (by omega) (L5 f (k:Int)).length 0 (S:=S) (by omega) h
  rwa [Nat.zero_add]at this
theorem Uc{f:Func}(hr:∀b∈f.blocks,∀e∈b.term.to,e.block<f.blocks.length):Tv f f.blocks.length 0 (LC f):=by
 have:=Uu (f:=f) f.blocks.length 0 (S:=PW f) (by omega) (Su hr)
 rwa [Nat.zero_add]at this
theorem Tu:∀{bs:List Block} {tos:List (List Edge)},tos.length=bs.length->(List.zipWith KI bs tos).map (fun b=>b.term.to)=tos
 | [],[],_=>rfl
 | b::bs,l::tos,h=>by
  have:=Tu (bs:=bs) (tos:=tos) (by simpa using h);simp only[List.zipWith_cons_cons,List.map_cons,this];rfl
 | [],l::tos,h=>by simp at h
 | b::bs,[],h=>by simp at h
theorem Sw(f:Func)(t:Int):Mh t (KD f).blocks=P9 t (LC f):=by
 unfold P9 Mh KD;rw[List.map_append,Tu (KO f).w.len];unfold OJ;rw[List.map_append,List.sum_append]
theorem OC{f:Func}(hg:Ro f)(GL:Ro (KD f)){k:Nat}{c:Block}(hc:(KD f).blocks[k]?=some c){e:Edge}(he:e∈c.term.to):LO (KD f) k e=false:=by
 have hr:∀b∈f.blocks,∀e∈b.term.to,e.block<f.blocks.length:=fun b hb e he=>(hg.db b hb e he).2;have T:=Uc hr;have UN:aD (KD f) (k:Int)=c:=by
  unfold aD;rw[Int.toNat_natCast,hc];rfl
 have Ty:=GL.db c (List.mem_of_getElem? hc) e he;have DS:=Mw (f:=KD f) (fun b hb e he=>by have:=GL.db b hb e he;omega) (t:=e.block) (by omega) Ty.2;rw[Sw]at DS;unfold LO;rw[UN];rcases KV hc with⟨b,l,h1,h2,h3,h4⟩|⟨i,x,h1,h2,h3⟩
 ·subst h4;obtain⟨m,hm⟩:=List.mem_iff_getElem?.1 he;have hle:(KI b l).term.to.length=b.term.to.length:=(KO f).w.each k b l h2 h3;rcases T.done k b l h2 h3 m e (.inl h1) hm with q|q
  ·obtain⟨i,hi⟩:∃i:Nat,e.block=((f.blocks.length+i:Nat):Int):=⟨(e.block-f.blocks.length).toNat,by omega⟩
   have sP:i<(LC f).news.length:=by
    have:=Ty.2;rw[K0]at this;omega
   have:(L' (KD f) e.block).length=1:=by rw[DS,hi,T.new i sP]
   rw[this];simp
  rcases Lk h2 h3 (e:=e) he with r|⟨i,x,r1,r2,r3⟩
  ·have XZ:=hg.db b (List.mem_of_getElem? h2) e r;have YS:=Mw (f:=f) (fun b hb e he=>by have:=hg.db b hb e he;omega) (t:=e.block) (by omega) XZ.2;have VL:aD f (k:Int)=b:=by
    unfold aD;rw[Int.toNat_natCast,h2];rfl
   unfold LO at q;rw[VL]at q;rw[hle,DS,T.SG _ XZ.2,<-YS];exact q
  have sP:=I r2;have:(L' (KD f) e.block).length=1:=by rw[DS,r1,T.new i sP]
  rw[this];simp
 have:c.term.to.length=1:=by rw[h3.1];rfl
 rw[this];rfl
def KS(u:bR):bR:=⟨u.fns.map KD,u.main⟩
theorem Lt{u:bR}{k:Int}(h0:0<=k)(h1:k<u.fns.length):aL (KS u) k=KD (aL u k):=by
 unfold aL KS;rw[List.getElem?_map,List.getElem?_eq_getElem (by omega)];rfl
theorem Pu{f:Func}{k:Int}(h0:0<=k)(h1:k<f.blocks.length):∃l,(LC f).tos[k.toNat]?=some l∧aD (KD f) k=KI (aD f k) l:=by
 have hw:=(KO f).w.len;have hl:(LC f).tos[k.toNat]?=some ((LC f).tos[k.toNat]'(by omega)):=List.getElem?_eq_getElem _;refine⟨_,hl,?_⟩;have:=(My (f:=f) (k:=k.toNat) (by omega)).2 ⟨_,_,QQ h0 h1,hl,rfl⟩
 conv=>lhs;unfold aD
 rw[this];rfl
section
variable {u:bR} (bB:u.fit) (hc:dr u=0) (hm:∀f∈u.fns,f.blocks.length+(LC f).news.length<=128)
include bB hc hm
theorem OB:(KS u).fit:=by
 refine⟨bB.1,by unfold KS;rw[List.length_map];exact bB.2.1,fun g hg=>?_⟩;obtain⟨f,hf,rfl⟩:=List.mem_map.1 hg;exact L0 (bB.2.2 f hf) (hm f hf)
theorem MI{k:Int}(h0:0<=k)(h1:k<u.fns.length):(aD (aL (KS u) k) 0).params=(aD (aL u k) 0).params:=by
 have hg:=Ny bB hc (fN h0 h1);have hn:=List.length_pos_iff.2 hg.ne;obtain⟨l,_,h⟩:=Pu (f:=aL u k) (k:=0) (by omega) (by omega);rw[Lt h0 h1,h];rfl
theorem Nl:dr (KS u)=0:=by
 obtain⟨c1,c2,c3,c4,c5,c6⟩:=Lz hc;have hl:(KS u).fns.length=u.fns.length:=List.length_map ..;have Vn:=fa.1 c3;refine QT (by rw[hl];exact c1) (by rw[hl];exact c2) (by rw[hl];exact c3) (fun g hg=>?_) (by
  have:=MI bB hc hm (k:=u.main) (by omega) (by omega);rw[show(KS u).main=u.main from rfl,this];exact c5) (M8 fun g hg b hb i hi=>?_)
 ·obtain⟨f,hf,rfl⟩:=List.mem_map.1 hg;exact LD (bB.2.2 f hf) (c4 f hf) (hm f hf)
 obtain⟨f,hf,rfl⟩:=List.mem_map.1 hg;obtain⟨k,hk⟩:=List.mem_iff_getElem?.1 hb;rcases KV hk with⟨c,l,h1,h2,h3,h4⟩|⟨j,x,h1,h2,h3⟩
 ·have jc:=List.mem_of_getElem? h2;have fL:i∈c.ins:=by
   rw[h4]at hi;exact hi
  have z8:=nK (((dV (bB.2.2 f hf) (c4 f hf)).blk _ jc).uu i fL);rw[QS (u:=u) hl (fun k h0 h1=>by rw[MI bB hc hm h0 h1]) (i:=i) rfl rfl rfl (fun q=>(z8.call (by omega)).1)];exact kW c6 f hf _ jc i fL
 rw[h3.1]at hi;cases hi
theorem Sv:NA u (KS u) (fun k=>k) (fun _ _=>True) (fun fn b=>0<=b∧b<(aL u fn).blocks.length) (fun _ b=>b) (fun _ _=>[]) 2:=by
 refine⟨List.length_map ..,rfl,fun _ _ _ _ _ h=>h,fun fn h0 h1=>?_,fun fn b h0 h1 hL=>?_⟩
 ·have hg:=Ny bB hc (fN h0 h1);have:=List.length_pos_iff.2 hg.ne;exact⟨⟨by omega,by omega⟩,rfl,by simp⟩
 have hf:=fN h0 h1;have hg:=Ny bB hc hf;obtain⟨l,hl,iI⟩:=Pu hL.1 hL.2;have UM:=QQ hL.1 hL.2;have hlen:=(KO (aL u fn)).w.each _ _ _ UM hl;have hold:=(KO (aL u fn)).SG _ _ _ UM hl;rw[Lt h0 h1,iI];refine⟨⟨by rw[List.map_id'];rfl,fun _ _=>trivial⟩,?_,fun _ _=>⟨trivial,fun _ _=>trivial⟩,fun i hi=>by simp at hi,⟨rfl,rfl,rfl,hlen⟩,fun _ _=>⟨rfl,trivial⟩,fun k e e' he m5=>?_⟩
 ·show(aD (aL u fn) b).ins=[]++(aD (aL u fn) b).ins.map (Tz fun k=>k);rw[List.nil_append]
  conv=>lhs;rw[<-List.map_id (aD (aL u fn) b).ins]
  exact List.map_congr_left fun i _=>(Vb i).symm
 have Ty:=hg.db _ (List.mem_of_getElem? UM) e (List.mem_of_getElem? he);refine⟨⟨by omega,Ty.2⟩,fun _ _=>trivial,?_⟩;have VO:l[k]?=some e':=m5;rcases hold k e he with q|⟨i,q1,q2⟩
 ·rw[VO]at q;simp only[Option.some.injEq]at q;rw[q];exact .inl ⟨rfl,by rw[List.map_id'],by simp⟩
 rw[VO]at q1;simp only[Option.some.injEq]at q1;have hC:aD (KD (aL u fn)) e'.block=KF e:=by
  rw[q1];unfold aD;simp only[Int.toNat_natCast];rw[Nz,q2];rfl
 refine .inr ⟨_,e,rfl,?_,?_,?_,rfl,by simp,fun es=>?_⟩
 ·rw[Lt h0 h1,hC];rfl
 ·rw[Lt h0 h1,hC];rfl
 ·rw[Lt h0 h1,hC];rfl
 rw[Lt h0 h1,hC,q1];have:cH es (KF e).params (bN es (⟨((aL u fn).blocks.length+i:Nat),[]⟩:Edge).args)=es:=rfl;rw[this,List.map_id'];exact⟨rfl,fun _ _=>rfl⟩
theorem Rk(he:(runM u 1500).e=0):(runM (KS u) 1000000).e=0∧(runM (KS u) 1000000).out=(runM u 1500).out∧(runM (KS u) 1000000).fin=(runM u 1500).fin∧(runM (KS u) 1000000).val=(runM u 1500).val:=by
 have hu:=pJ bB hc;have lJ:=Nl bB hc hm;have hv:=pJ (OB bB hc hm) lJ;have hA:runM u 1500=bm u 1500:=by
  unfold runM;rw[if_neg (by simp[hc]),if_neg (by decide)]
 have hB:runM (KS u) 1000000=bm (KS u) 1000000:=by
  unfold runM;rw[if_neg (by simp[lJ]),if_neg (by decide)]
 rw[hA]at he ⊢;rw[hB];obtain⟨q1,q2,q3,q4,q5,q6⟩:=Qy (Sv bB hc hm) hu hv (by omega) (F:=1500) (G:=1000000) (by omega) (by omega) (by omega) he;exact⟨q1,q2,q3,q4⟩
end
end Go.Proofs.Ytkhnjeblbiocaaa
namespace Go.Proofs.Ytkhnjeblbiocaaa
open Go.Av
theorem PF:gX 0:=by unfold gX;omega
theorem UF:gX 1:=by unfold gX;omega
theorem SZ:gX 100:=by unfold gX;omega
theorem QC{P:Int->Prop}{sp:Int}(fQ:P sp){l:List Mv}(hl:∀x∈l,P x.1∧P x.2):(∀x∈(KY sp l).1,P x.1∧P x.2)∧∀x∈(KY sp l).2,P x.1∧P x.2:=by
 have Wu:∀v y,(P y.1∧P y.2)->P (KQ v sp y).1∧P (KQ v sp y).2:=fun v y h=>by
  unfold KQ;split
  ·exact⟨h.1,fQ⟩
  exact h
 match l,hl with
 | [],_=>exact⟨fun x h=>(by cases h),fun x h=>(by cases h)⟩
 | x0::r,hl =>
  unfold KY;simp only;split
  ·refine⟨fun x hx=>?_,fun x hx=>?_⟩
   ·have fJ:x∈((x0::r).map (KQ x0.1 sp)).tail:=hx;have:=List.mem_of_mem_tail fJ;obtain⟨y,hy,e⟩:=List.mem_map.1 this;rw[<-e];exact Wu _ _ (hl y hy)
   simp only[List.mem_cons,List.not_mem_nil,or_false]at hx;rcases hx with rfl|rfl
   ·exact⟨fQ,(hl x0 List.mem_cons_self).1⟩
   exact Wu _ _ (hl x0 List.mem_cons_self)
  rename_i h;refine⟨fun x hx=>hl x (List.mem_of_mem_eraseIdx hx),fun x hx=>?_⟩;rcases Lr (Lo (x0::r)) (x0::r)with⟨e,_⟩|⟨j,y,e,hj,_,_⟩
  ·omega
  rw[e,Int.toNat_natCast,hj]at hx;simp only[Option.getD_some,List.mem_cons,List.not_mem_nil,or_false]at hx;rw[hx];exact hl y (List.mem_of_getElem? hj)
theorem Ow{P:Int->Prop}{sp:Int}(fQ:P sp):∀(n:Nat) (l:List Mv),(∀x∈l,P x.1∧P x.2)->∀x∈Lg sp n l,P x.1∧P x.2
 | 0,_,_,x,hx=>by simp[Lg]at hx
 | n+1,l,hl,x,hx=>by
  unfold Lg at hx;split at hx
  ·simp at hx
  obtain⟨h1,h2⟩:=QC fQ hl;rcases List.mem_append.1 hx with q|q
  ·exact h2 x q
  exact Ow fQ n _ h1 x q
theorem Tk{P:Int->Prop}{sp:Int}(fQ:P sp){l:List Mv}(hl:∀x∈l,P x.1∧P x.2):∀x∈NX l sp,P x.1∧P x.2 :=
 Ow fQ _ _ fun x hx=>hl x (List.mem_filter.1 hx).1
theorem LB{Q Q':Nat->Block->Prop}{L:List Block}{k:Nat}{F:Block->Block}(h:∀j c,L[j]?=some c->Q j c)(h1:∀c,Q k c->Q' k (F c))(h2:∀j c,j≠k->Q j c->Q' j c):∀j c,(Ng L k F)[j]?=some c->Q' j c:=fun j c hj=>by
 unfold Ng at hj;split at hj
 ·rename_i b hb;rw[List.getElem?_set]at hj;split at hj
  ·rename_i e;subst e;rw[if_pos (I hb)]at hj;rw[<-Option.some.inj hj];exact h1 b (h k b hb)
  rename_i e;exact h2 j c (fun q=>e q.symm) (h j c hj)
 rename_i hb;exact h2 j c (fun q=>by rw[q,hb]at hj;cases hj) (h j c hj)
theorem Om(L:List Block)(k:Nat)(F:Block->Block):(Ng L k F).length=L.length:=by
 unfold Ng;split
 ·rw[List.length_set]
 rfl
def Ft(c:Block):Prop:=nI c.params∧c.params.length<=2 ^ 47∧(∀i∈c.ins,i.fit)∧c.term.fit
def Lq(g:Func)(k n m:Nat)(j:Nat)(c:Block):Prop:=∃b,g.blocks[j]?=some b∧c.term.to.map Edge.block=b.term.to.map Edge.block∧(∀i e,c.term.to[i]?=some e->j<k∨(j=k∧i<n)->e.args=[])∧Ft c∧c.ins.length<=m
section
variable {g:Func} {sp:Int} {k n m:Nat}
theorem TV{L:List Block}(b:Block)(h:∀j c,L[j]?=some c->Lq g k n m j c):∀j c,(Ol k b L)[j]?=some c->Lq g k n m j c:=by
 unfold Ol;split
 ·refine LB h (fun c hq=>?_) fun j c _ q=>q;obtain⟨b,h1,h2,h3,⟨f1,f2,f3,t1,t2,t3,t4,t5,t6,t7⟩,h5⟩:=hq;exact⟨b,h1,h2,h3,⟨f1,f2,f3,UF,PF,PF,fun v hv=>(by cases hv),Nat.zero_le _,t6,t7⟩,h5⟩
 exact h
theorem U6{L:List Block}{x:Edge}{cp:List bE}(o:Bool)(hf:∀i∈cp,i.fit)(hl:cp.length<=8192)(h:∀j c,L[j]?=some c->Lq g k n m j c):∀j c,(Mc o cp k x L)[j]?=some c->Lq g k n (m+8192) j c:=by
 have hm:∀(k':Nat) j c,j≠k'->Lq g k n m j c->Lq g k n (m+8192) j c:=fun k' j c _ ⟨b,h1,h2,h3,h4,h5⟩=>⟨b,h1,h2,h3,h4,by omega⟩
 unfold Mc;split
 ·refine LB h (fun c hq=>?_) (hm _);obtain⟨b,h1,h2,h3,⟨f1,f2,f3,f4⟩,h5⟩:=hq;refine⟨b,h1,h2,h3,⟨f1,f2,fun i hi=>?_,f4⟩,by simp[MJ];omega⟩;rcases List.mem_append.1 hi with q|q
  ·exact f3 i q
  exact hf i q
 refine LB h (fun c hq=>?_) (hm _);obtain⟨b,h1,h2,h3,⟨f1,f2,f3,f4⟩,h5⟩:=hq;refine⟨b,h1,h2,h3,⟨f1,f2,fun i hi=>?_,f4⟩,by simp[LN];omega⟩;rcases List.mem_append.1 hi with q|q
 ·exact hf i q
 exact f3 i q
theorem TU{L:List Block}(h:∀j c,L[j]?=some c->Lq g k n m j c):∀j c,(Ng L k (P0 n))[j]?=some c->Lq g k (n+1) m j c:=by
 refine LB h (fun c hq=>?_) fun j c hj ⟨b,h1,h2,h3,h4,h5⟩=>⟨b,h1,h2,fun i e he hi=>h3 i e he (by omega),h4,h5⟩
 obtain⟨b,h1,h2,h3,⟨f1,f2,f3,t1,t2,t3,t4,t5,t6,t7⟩,h5⟩:=hq;have Of:(c.term.to.set n ⟨(c.term.to[n]?.getD ⟨0,[]⟩).block,[]⟩).map Edge.block=c.term.to.map Edge.block:=by
  rw[List.map_set];by_cases hn:n<c.term.to.length
  ·refine K6 ?_;rw[List.getElem?_map,List.getElem?_eq_getElem hn];rfl
  exact List.set_eq_of_length_le (by rw[List.length_map];omega)
 refine⟨b,h1,Of.trans h2,fun i e he hi=>?_,⟨f1,f2,f3,t1,t2,t3,t4,t5,by simpa[P0,KI]using t6,fun e he=>?_⟩,h5⟩
 ·have m5:(c.term.to.set n ⟨(c.term.to[n]?.getD ⟨0,[]⟩).block,[]⟩)[i]?=some e:=he;rw[List.getElem?_set]at m5;split at m5
  ·split at m5
   ·rw[<-Option.some.inj m5]
   cases m5
  exact h3 i e m5 (by omega)
 have m5:e∈c.term.to.set n ⟨(c.term.to[n]?.getD ⟨0,[]⟩).block,[]⟩:=he;rcases List.mem_or_eq_of_mem_set m5 with q|q
 ·exact t7 e q
 by_cases hn:n<c.term.to.length
 ·rw[q,List.getElem?_eq_getElem hn];exact⟨(t7 _ (List.getElem_mem hn)).1,fun v hv=>(by cases hv),by simp⟩
 rw[List.set_eq_of_length_le (by omega)]at m5;exact t7 e m5
theorem Wh{b:Block}(QZ:∀x∈b.term.to,(∀i∈KG g x sp,i.fit)∧(KG g x sp).length<=8192):∀(r:List Edge) {n m:Nat} {L:List Block},(∀x∈r,x∈b.term.to)->(∀j c,L[j]?=some c->Lq g k n m j c)->∀j c,(Q8 g sp k b n r L)[j]?=some c->Lq g k (n+r.length) (m+r.length*8192) j c
 | [],n,m,L,_,h=>by simpa[Q8]using h
 | x::r,n,m,L,hr,h=>by
  have hx:=QZ x (hr x List.mem_cons_self);have h1:=Wh QZ r (fun y hy=>hr y (List.mem_cons_of_mem _ hy)) (TU (U6 (x:=x) (decide (b.term.to.length=1)) hx.1 hx.2 h));intro j c hj;have:=h1 j c hj;rw[List.length_cons,show n+(r.length+1)=n+1+r.length by omega,show m+(r.length+1)*8192=m+8192+r.length*8192 by omega];exact this
theorem Wi(QZ:∀b∈g.blocks,∀x∈b.term.to,(∀i∈KG g x sp,i.fit)∧(KG g x sp).length<=8192)(m7:∀b∈g.blocks,b.term.to.length<=257):∀(r:List Block) {k m:Nat} {L:List Block},r=g.blocks.drop k->(∀j c,L[j]?=some c->Lq g k 0 m j c)->∀j c,(Pf g sp k r L)[j]?=some c->Lq g (k+r.length) 0 (m+r.length*2105344) j c
 | [],k,m,L,_,h=>by simpa[Pf]using h
 | b::r,k,m,L,hr,h=>by
  have hb:g.blocks[k]?=some b:=by
   have:=congrArg (fun l=>l[0]?) hr;simp only[List.getElem?_cons_zero,List.getElem?_drop,Nat.add_zero]at this;exact this.symm
  have Cr:r=g.blocks.drop (k+1):=by
   rw[bS hb]at hr;exact(List.cons.inj hr).2
  have jc:=List.mem_of_getElem? hb;have h1:=Wh (sp:=sp) (QZ b jc) b.term.to (fun x hx=>hx) (TV b h);have hl:=m7 b jc;have h2:∀j c,(Q8 g sp k b 0 b.term.to (Ol k b L))[j]?=some c->Lq g (k+1) 0 (m+2105344) j c:=fun j c hj=>by
   obtain⟨b',e1,e2,e3,e4,e5⟩:=h1 j c hj;refine⟨b',e1,e2,fun i e he hi=>e3 i e he ?_,e4,by omega⟩;rcases Nat.lt_or_ge j k with q|q
   ·exact .inl q
   have UR:j=k:=by omega
   refine .inr ⟨UR,?_⟩;rw[UR,hb]at e1;have:=I he;have hle:=congrArg List.length e2;rw[List.length_map,List.length_map,<-Option.some.inj e1]at hle;omega
  intro j c hj;have:=Wi QZ m7 r Cr h2 j c hj;rw[List.length_cons,show k+(r.length+1)=k+1+r.length by omega,show m+(r.length+1)*2105344=m+2105344+r.length*2105344 by omega];exact this
end
theorem TY(k:Nat)(b:Block)(L:List Block):(Ol k b L).length=L.length:=by
 unfold Ol;split
 ·exact Om _ _ _
 rfl
theorem RG{g:Func}{sp:Int}{k:Nat}{b:Block}:∀(r:List Edge) (n:Nat) (L:List Block),(Q8 g sp k b n r L).length=L.length
 | [],_,_=>rfl
 | x::r,n,L=>by
  rw[Q8,RG r,Mr,Om,Mc];split<;>exact Om _ _ _
theorem PL{g:Func}{sp:Int}:∀(r:List Block) (k:Nat) (L:List Block),(Pf g sp k r L).length=L.length
 | [],_,_=>rfl
 | b::r,k,L=>by rw[Pf,PL r,RG,TY]
structure Mg(g G:Func):Prop where
 len:G.blocks.length=g.blocks.length
 blk:∀(j:Nat) c,G.blocks[j]?=some c->∃b,g.blocks[j]?=some b∧c.term.to.map Edge.block=b.term.to.map Edge.block∧(∀e∈c.term.to,e.args=[])∧(0<j->c.params=[])
 fit:G.fit
theorem Q5{g:Func}(bB:g.fit)(hv:Uw g){sp:Int}(fQ:∀v∈K4 g,v<sp)(Aj:gX sp)(S6:∀b∈g.blocks,b.ins.length<=1024):Mg g (LP g sp):=by
 have hg:=hv.fn.gr;have QZ:∀b∈g.blocks,∀x∈b.term.to,(∀i∈KG g x sp,i.fit)∧(KG g x sp).length<=8192:=fun b hb x hx=>by
  have hM:=PC hv fQ hb hx;refine⟨fun i hi=>?_,MN hM⟩;unfold KG at hi;obtain⟨y,hy,rfl⟩:=List.mem_map.1 hi;have UN:aD g x.block∈g.blocks:=fh hM.blk.1 hM.blk.2;have hz:∀x'∈KK g x,gX x'.1∧gX x'.2:=fun x' fJ=>by
   have h1:=List.of_mem_zip (a:=x'.1) (b:=x'.2) fJ;exact⟨(bB.2.2 _ UN).1 _ h1.1,((bB.2.2 _ hb).2.2.2.2.2.2.2.2.2.2 x hx).2.1 _ h1.2⟩
  have:=Tk Aj hz y hy;exact⟨this.1,SZ,PF,fun v hv=>by
   simp only[Rv,List.mem_cons,List.not_mem_nil,or_false]at hv;rw[hv];exact this.2,by simp[Rv]⟩
 have h0:∀j c,g.blocks[j]?=some c->Lq g 0 0 1024 j c:=fun j c hj=>by
  obtain⟨f1,f2,f3,f4,f5⟩:=bB.2.2 c (List.mem_of_getElem? hj);exact⟨c,hj,rfl,fun i e _ hi=>by omega,⟨f1,f2,f4,f5⟩,S6 c (List.mem_of_getElem? hj)⟩
 have hK:=Wi (sp:=sp) QZ hg.to g.blocks (k:=0) (by simp) h0;have XN:=PL (g:=g) (sp:=sp) g.blocks 0 g.blocks;have ru:∀(j:Nat) c,(LP g sp).blocks[j]?=some c->∃c0,(Pf g sp 0 g.blocks g.blocks)[j]?=some c0∧c=if j=0 then c0 else Nh c0:=fun j c hj=>by
  have gY:(Lf 0 (Pf g sp 0 g.blocks g.blocks))[j]?=some c:=hj;have NK:=I gY;rw[KR]at NK;have xx:(Pf g sp 0 g.blocks g.blocks)[j]?=some ((Pf g sp 0 g.blocks g.blocks)[j]'NK):=List.getElem?_eq_getElem _;have:=Ms (k:=0) xx;rw[Nat.zero_add,gY]at this;exact⟨_,xx,Option.some.inj this⟩
 have wj:=hg.few;exact {
  len:=(KR 0 _).trans XN
  blk:=fun j c hj=>by
   obtain⟨c0,h1,h2⟩:=ru j c hj;obtain⟨b,e1,e2,e3,e4,e5⟩:=hK j c0 h1;have NK:=I e1;have m7:c.term=c0.term:=by
    rw[h2];split<;>rfl
   refine⟨b,e1,by rw[m7];exact e2,fun e he=>?_,fun WA=>?_⟩
   ·rw[m7]at he;obtain⟨i,hi⟩:=List.mem_iff_getElem?.1 he;exact e3 i e hi (.inl (by omega))
   rw[h2,if_neg (by omega)];rfl
  fit:=⟨bB.1,by
   show(Lf 0 _).length<=_;rw[KR,XN];omega,fun c hc=>by
   obtain⟨j,hj⟩:=List.mem_iff_getElem?.1 hc;obtain⟨c0,h1,h2⟩:=ru j c hj;obtain⟨b,e1,e2,e3,⟨f1,f2,f3,f4⟩,e5⟩:=hK j c0 h1;have hi:c.ins=c0.ins∧c.term=c0.term:=by
    rw[h2];split<;>exact⟨rfl,rfl⟩
   have hp:nI c.params∧c.params.length<=2 ^ 47:=by
    rw[h2];split
    ·exact⟨f1,f2⟩
    exact⟨fun v hv=>(by cases hv),by simp[Nh]⟩
   exact⟨hp.1,hp.2,by rw[hi.1];omega,by rw[hi.1];exact f3,by rw[hi.2];exact f4⟩⟩ }
end Go.Proofs.Ytkhnjeblbiocaaa
namespace Go.Proofs.Ytkhnjeblbiocaaa
open Go.Av
def LQ(b:Block):List Edge:=if b.term.to.length=1 then []else b.term.to
def ME(g:Func):List Edge:=g.blocks.flatMap LQ
def NW(g:Func)(sp:Int)(done:List Edge)(j:Nat):List bE:=((done.filter fun e=>decide (e.block.toNat=j)).reverse).flatMap fun e=>KG g e sp
def NR(g:Func)(sp:Int)(b:Block):List bE:=if b.term.to.length=1 then KG g (b.term.to[0]?.getD ⟨0,[]⟩) sp else []
def PD(t:Term):Int×Int×Int×List Int:=(t.kind,t.arg,t.n,t.cases)
def Qd(b:Block):Int×Int×Int×List Int:=if b.term.kind=3∧b.term.to.length=1 then(1,0,0,[])else PD b.term
def Cq(g:Func)(sp:Int)(done:List Edge)(t p j:Nat)(c:Block):Prop:=∃b,g.blocks[j]?=some b∧c.params=b.params∧c.ins=NW g sp done j++(b.ins++(if j<p then NR g sp b else [])) ∧
 c.term.to.map Edge.block=b.term.to.map Edge.block∧PD c.term=if j<t then Qd b else PD b.term
section
variable {g:Func} {sp:Int} {done:List Edge} {k t p:Nat}
theorem TJ{L:List Block}{b:Block}(hb:g.blocks[k]?=some b)(h:∀j c,L[j]?=some c->Cq g sp done k p j c):∀j c,(Ol k b L)[j]?=some c->Cq g sp done (k+1) p j c:=by
 have bC:∀j c,j≠k->Cq g sp done k p j c->Cq g sp done (k+1) p j c:=fun j c hj ⟨b',h1,h2,h3,h4,h5⟩=>⟨b',h1,h2,h3,h4,by
  rw[h5];by_cases q:j<k
  ·rw[if_pos q,if_pos (by omega)]
  rw[if_neg q,if_neg (by omega)]⟩
 unfold Ol;split
 ·rename_i q;refine LB h (fun c hq=>?_) bC;obtain⟨b',h1,h2,h3,h4,h5⟩:=hq;rw[hb]at h1;have:=Option.some.inj h1;subst this;refine⟨b,hb,h2,h3,h4,?_⟩;rw[if_pos (by omega),Qd,if_pos q];rfl
 rename_i q;intro j c hj;by_cases UR:j=k
 ·subst UR;obtain⟨b',h1,h2,h3,h4,h5⟩:=h j c hj;rw[hb]at h1;have:=Option.some.inj h1;subst this;refine⟨b,hb,h2,h3,h4,?_⟩;rw[h5,if_neg (by omega),if_pos (by omega),Qd,if_neg q]
 exact bC j c UR (h j c hj)
theorem Rw{L:List Block}{n:Nat}(h:∀j c,L[j]?=some c->Cq g sp done t p j c):∀j c,(Ng L k (P0 n))[j]?=some c->Cq g sp done t p j c:=by
 refine LB h (fun c hq=>?_) fun j c _ q=>q;obtain⟨b,h1,h2,h3,h4,h5⟩:=hq;refine⟨b,h1,h2,h3,?_,h5⟩;have Of:(c.term.to.set n ⟨(c.term.to[n]?.getD ⟨0,[]⟩).block,[]⟩).map Edge.block=c.term.to.map Edge.block:=by
  rw[List.map_set];by_cases hn:n<c.term.to.length
  ·refine K6 ?_;rw[List.getElem?_map,List.getElem?_eq_getElem hn];rfl
  exact List.set_eq_of_length_le (by rw[List.length_map];omega)
 exact Of.trans h4
theorem UA{L:List Block}{b:Block}{x:Edge}(hb:g.blocks[k]?=some b)(hx:b.term.to=[x])(h:∀j c,L[j]?=some c->Cq g sp done t k j c):∀j c,(Ng L k (MJ (KG g x sp)))[j]?=some c->Cq g sp done t (k+1) j c:=by
 refine LB h (fun c hq=>?_) fun j c hj ⟨b',h1,h2,h3,h4,h5⟩=>⟨b',h1,h2,by
  rw[h3];by_cases q:j<k
  ·rw[if_pos q,if_pos (by omega)]
  rw[if_neg q,if_neg (by omega)],h4,h5⟩
 obtain⟨b',h1,h2,h3,h4,h5⟩:=hq;rw[hb]at h1;have:=Option.some.inj h1;subst this;refine⟨b,hb,h2,?_,h4,h5⟩;show c.ins++KG g x sp=_;rw[h3,if_neg (by omega),if_pos (by omega),NR,hx];simp
theorem SO{L:List Block}{x:Edge}(h:∀j c,L[j]?=some c->Cq g sp done t p j c):∀j c,(Ng L x.block.toNat (LN (KG g x sp)))[j]?=some c->Cq g sp (done++[x]) t p j c:=by
 refine LB h (fun c hq=>?_) fun j c hj ⟨b',h1,h2,h3,h4,h5⟩=>⟨b',h1,h2,by
  rw[h3];congr 1;unfold NW;rw[List.filter_append,List.filter_cons_of_neg (by simpa using fun q=>hj q.symm)];simp,h4,h5⟩
 obtain⟨b',h1,h2,h3,h4,h5⟩:=hq;refine⟨b',h1,h2,?_,h4,h5⟩;show KG g x sp++c.ins=_;rw[h3];unfold NW;rw[List.filter_append,List.filter_cons_of_pos (by simp)];simp
theorem Rx{b:Block}(Eu:b.term.to.length≠1):∀(r:List Edge) {n:Nat} {done:List Edge} {L:List Block},(∀j c,L[j]?=some c->Cq g sp done t p j c)->∀j c,(Q8 g sp k b n r L)[j]?=some c->Cq g sp (done++r) t p j c
 | [],n,done,L,h=>by simpa[Q8]using h
 | x::r,n,done,L,h=>by
  rw[show done++x::r=(done++[x])++r by simp];refine Rx Eu r ?_;refine Rw ?_;rw[decide_eq_false Eu];exact SO h
theorem Vy:∀(r:List Block) {k:Nat} {done:List Edge} {L:List Block},r=g.blocks.drop k->(∀j c,L[j]?=some c->Cq g sp done k k j c)->∀j c,(Pf g sp k r L)[j]?=some c->Cq g sp (done++r.flatMap LQ) (k+r.length) (k+r.length) j c
 | [],k,done,L,_,h=>by simpa[Pf]using h
 | b::r,k,done,L,hr,h=>by
  have hb:g.blocks[k]?=some b:=by
   have:=congrArg (fun l=>l[0]?) hr;simp only[List.getElem?_cons_zero,List.getElem?_drop,Nat.add_zero]at this;exact this.symm
  have Cr:r=g.blocks.drop (k+1):=by
   rw[bS hb]at hr;exact(List.cons.inj hr).2
  have h1:=TJ hb h;have h2:∀j c,(Q8 g sp k b 0 b.term.to (Ol k b L))[j]?=some c->Cq g sp (done++LQ b) (k+1) (k+1) j c:=by
   by_cases q:b.term.to.length=1
   ·obtain⟨x,hx⟩:=List.length_eq_one_iff.1 q;have h3:=Rw (k:=k) (n:=0) (UA hb hx h1);rw[LQ,if_pos q,List.append_nil];intro j c hj;refine h3 j c ?_;rw[hx]at hj;simp only[Q8,Mr,Mc]at hj;rw[q]at hj;exact hj
   have h3:=Rx (k:=k) q b.term.to (n:=0) h1;rw[LQ,if_neg q];intro j c hj;obtain⟨b',e1,e2,e3,e4,e5⟩:=h3 j c hj;refine⟨b',e1,e2,?_,e4,e5⟩;rw[e3];congr 2;by_cases w:j<k
   ·rw[if_pos w,if_pos (by omega)]
   rw[if_neg w];by_cases w2:j<k+1
   ·have UR:j=k:=by omega
    subst UR;rw[hb]at e1;have:=Option.some.inj e1;subst this;rw[if_pos w2,NR,if_neg q]
   rw[if_neg w2]
  have h3:=Vy r Cr h2;intro j c hj;have:=h3 j c hj;rw[List.length_cons,List.flatMap_cons,<-List.append_assoc,show k+(r.length+1)=k+1+r.length by omega];exact this
end
theorem PJ{g:Func}{sp:Int}{j:Nat}{c:Block}(hj:(LP g sp).blocks[j]?=some c):∃b,g.blocks[j]?=some b∧c.params=(if j=0 then b.params else [])∧c.ins=NW g sp (ME g) j++(b.ins++NR g sp b)∧c.term.to.map Edge.block=b.term.to.map Edge.block∧PD c.term=Qd b:=by
 have h0:∀j c,g.blocks[j]?=some c->Cq g sp [] 0 0 j c:=fun j c hj=>⟨c,hj,rfl,by simp[NW],rfl,by rw[if_neg (by omega)]⟩
 have hK:=Vy (sp:=sp) g.blocks (k:=0) (by simp) h0;have gY:(Lf 0 (Pf g sp 0 g.blocks g.blocks))[j]?=some c:=hj;have NK:=I gY;rw[KR]at NK;have xx:(Pf g sp 0 g.blocks g.blocks)[j]?=some ((Pf g sp 0 g.blocks g.blocks)[j]'NK):=List.getElem?_eq_getElem _;have:=Ms (k:=0) xx;rw[Nat.zero_add,gY]at this;have rZ:=Option.some.inj this;generalize (Pf g sp 0 g.blocks g.blocks)[j]'NK=c0 at xx rZ;obtain⟨b,e1,e2,e3,e4,e5⟩:=hK j c0 xx;have X2:=I e1;rw[Nat.zero_add,List.nil_append,if_pos X2]at e3;rw[Nat.zero_add,if_pos X2]at e5;refine⟨b,e1,?_,?_,?_,?_⟩
 ·rw[rZ];by_cases q:j=0
  ·rw[if_pos q,if_pos q];exact e2
  rw[if_neg q,if_neg q];rfl
 ·rw[rZ];split<;>exact e3
 ·rw[rZ];split<;>exact e4
 rw[rZ];split<;>exact e5
end Go.Proofs.Ytkhnjeblbiocaaa
namespace Go.Proofs.Ytkhnjeblbiocaaa
open Go.Av
def Ni(b:Block):List Edge:=if b.term.to.length=1 then b.term.to else []
theorem OU(t:Int):∀bs:List Block,K7 t (bs.flatMap LQ)+K7 t (bs.flatMap Ni)=Mh t bs
 | []=>rfl
 | b::r=>by
  have ih:=OU t r;have e:Mh t (b::r)=K7 t b.term.to+Mh t r:=rfl;have a1:K7 t ((b::r).flatMap LQ)=K7 t (LQ b)+K7 t (r.flatMap LQ):=by
   rw[List.flatMap_cons];exact List.countP_append
  have a2:K7 t ((b::r).flatMap Ni)=K7 t (Ni b)+K7 t (r.flatMap Ni):=by
   rw[List.flatMap_cons];exact List.countP_append
  have a3:K7 t (LQ b)+K7 t (Ni b)=K7 t b.term.to:=by
   unfold LQ Ni;by_cases q:b.term.to.length=1
   ·rw[if_pos q,if_pos q];show 0+_=_;omega
   rw[if_neg q,if_neg q];show _+0=_;omega
  omega
theorem U8{g:Func}{sp:Int}(hg:Ro g)(hs:∀(k:Nat) c,g.blocks[k]?=some c->∀e∈c.term.to,LO g k e=false){k:Nat}{b:Block}(hb:g.blocks[k]?=some b){e:Edge}(he:e∈b.term.to) :
  (b.term.to.length=1->NW g sp (ME g) e.block.toNat=[])∧(b.term.to.length≠1->NW g sp (ME g) e.block.toNat=KG g e sp):=by
 have jc:=List.mem_of_getElem? hb;have hr:=hg.db b jc e he;have lV:∀x∈ME g,1<=x.block:=fun x hx=>by
  obtain⟨c,hc,q9⟩:=List.mem_flatMap.1 hx;unfold LQ at q9;split at q9
  ·cases q9
  exact(hg.db c hc x q9).1
 have VP:(ME g).filter (fun x=>decide (x.block.toNat=e.block.toNat))=(ME g).filter fun x=>decide (x.block=e.block):=by
  refine List.filter_congr fun x hx=>?_;have:=lV x hx;by_cases q:x.block=e.block
  ·rw[decide_eq_true q,decide_eq_true (by rw[q])]
  rw[decide_eq_false q,decide_eq_false (by omega)]
 have S7:∀x∈ME g,x.block=e.block->Mh e.block g.blocks<=1:=fun x hx vn=>by
  obtain⟨c,hc,q9⟩:=List.mem_flatMap.1 hx;unfold LQ at q9;split at q9
  ·cases q9
  rename_i q;obtain⟨j,hj⟩:=List.mem_iff_getElem?.1 hc;have S3:=hs j c hj x q9;unfold LO at S3;have TO:aD g (j:Int)=c:=by simp[aD,hj]
  have hl:2<=c.term.to.length:=by
   have:=List.length_pos_of_mem q9;omega
  rw[TO,decide_eq_true hl,Bool.true_and,decide_eq_false_iff_not,vn]at S3;rw[Mw (fun b hb e he=>by have:=hg.db b hb e he;omega) (by omega) hr.2]at S3;omega
 have Gw:=OU e.block g.blocks;have hlen:((ME g).filter fun x=>decide (x.block=e.block)).length=K7 e.block (ME g):=(List.countP_eq_length_filter ..).symm;refine⟨fun q=>?_,fun q=>?_⟩
 ·have Vr:1<=K7 e.block (g.blocks.flatMap Ni):=by
   have:0<(g.blocks.flatMap Ni).countP fun x=>decide (x.block=e.block):=List.countP_pos_iff.2 ⟨e,List.mem_flatMap.2 ⟨b,jc,by rw[Ni,if_pos q];exact he⟩,by simp⟩;exact this
  have h0:(ME g).filter (fun x=>decide (x.block=e.block))=[]:=by
   rw[List.filter_eq_nil_iff];intro x hx vn;have h1:=S7 x hx (by simpa using vn);have h2:0<K7 e.block (ME g):=List.countP_pos_iff.2 ⟨x,hx,vn⟩;unfold ME at h2;omega
  unfold NW;rw[VP,h0];rfl
 have TP:e∈ME g:=List.mem_flatMap.2 ⟨b,jc,by rw[LQ,if_neg q];exact he⟩;have h1:=S7 e TP rfl;have uC:e∈(ME g).filter fun x=>decide (x.block=e.block):=List.mem_filter.2 ⟨TP,by simp⟩;have sR:(ME g).filter (fun x=>decide (x.block=e.block))=[e]:=by
  have DN:((ME g).filter fun x=>decide (x.block=e.block)).length=1:=by
   have:=List.length_pos_of_mem uC;unfold ME at hlen this ⊢;omega
  obtain⟨y,hy⟩:=List.length_eq_one_iff.1 DN;rw[hy]at uC ⊢;rw[List.mem_singleton.1 uC]
 unfold NW;rw[VP,sR];simp
theorem T5{g:Func}{sp:Int}(hg:Ro g):NW g sp (ME g) 0=[]:=by
 have h0:(ME g).filter (fun x=>decide (x.block.toNat=0))=[]:=by
  rw[List.filter_eq_nil_iff];intro x hx vn;obtain⟨c,hc,q9⟩:=List.mem_flatMap.1 hx;unfold LQ at q9;split at q9
  ·cases q9
  have:=hg.db c hc x q9;simp at vn;omega
 unfold NW;rw[h0];rfl
end Go.Proofs.Ytkhnjeblbiocaaa
namespace Go.Proofs.Ytkhnjeblbiocaaa
open Go.Av
section
variable {V:Type}
def OE(e:Int->V)(k:Int)(v:V):Int->V:=fun j=>if j=k then v else e j
def Lb:List Mv->(Int->V)->(Int->V)
 | [],e=>e
 | x::r,e=>Lb r (OE e x.1 (e x.2))
theorem Pp:∀(a b:List Mv) (e:Int->V),Lb (a++b) e=Lb b (Lb a e)
 | [],_,_=>rfl
 | x::a,b,e=>Pp a b _
def Wp(spare:Int)(l:List Mv)(e e':Int->V):Prop:=(∀x∈l,e' x.1=e x.2)∧∀k,k≠spare->(∀x∈l,x.1≠k)->e' k=e k
theorem Oh:∀{l m:List Int},l.Nodup->(∀x∈l,x∈m)->l.length<=m.length
 | [],_,_,_=>by simp
 | a::r,m,hn,hs=>by
  obtain⟨h1,h2⟩:=List.nodup_cons.1 hn;have ha:=hs a List.mem_cons_self;have:=Oh (l:=r) (m:=m.erase a) h2 fun x hx=>(List.mem_erase_of_ne (fun q=>h1 (by rw[<-q];exact hx))).2 (hs x (List.mem_cons_of_mem _ hx));rw[List.length_erase_of_mem ha]at this;have:=List.length_pos_of_mem ha;simp only[List.length_cons];omega
structure Rp(spare:Int)(l:List Mv):Prop where
 nodup:(l.map Prod.fst).Nodup
 self:∀x∈l,x.1≠x.2
 sp:∀x∈l,x.1≠spare
theorem Re{spare:Int}{l:List Mv}(h:Rp spare l)(cj:l≠[])(e:Int->V) :
  Rp spare (KY spare l).1∧∀e',Wp spare (KY spare l).1 (Lb (KY spare l).2 e) e'->Wp spare l e e':=by
 match l,h,cj with
 | x0::r,h,_ =>
  unfold KY;simp only;split
  ·rename_i hi;rcases Lr (Lo (x0::r)) (x0::r)with⟨_,Vp⟩|⟨j,y,q,_⟩
   ·have V6:∀x∈x0::r,∃y∈x0::r,y.2=x.1:=fun x hx=>by
     have:=Vp x hx;unfold Lo at this;rw[Bool.not_eq_false',List.any_eq_true]at this;obtain⟨y,hy,q⟩:=this;exact⟨y,hy,by simpa using q⟩
    have TR:∀x∈x0::r,x.2≠spare:=fun x hx q=>by
     have jZ:spare∈(x0::r).map Prod.snd:=List.mem_map.2 ⟨x,hx,q⟩;have:=Oh (l:=(x0::r).map Prod.fst) (m:=((x0::r).map Prod.snd).erase spare) h.nodup fun v hv=>by
      obtain⟨z,hz,rfl⟩:=List.mem_map.1 hv;obtain⟨y,hy,q2⟩:=V6 z hz;exact(List.mem_erase_of_ne (h.sp z hz)).2 (List.mem_map.2 ⟨y,hy,q2⟩)
     rw[List.length_erase_of_mem jZ,List.length_map,List.length_map]at this;simp only[List.length_cons]at this;omega
    have Cu:=List.mem_cons_self (a:=x0) (l:=r);have YA:KQ x0.1 spare x0=x0:=by
     unfold KQ;rw[if_neg (fun q=>h.self x0 Cu q.symm)]
    obtain⟨nR,r9⟩:=List.nodup_cons.1 h.nodup;rw[List.map_cons,List.tail_cons,YA];have Qi:∀y,(KQ x0.1 spare y).1=y.1:=fun y=>by
     unfold KQ;split<;>rfl
    refine⟨⟨?_,fun x hx=>?_,fun x hx=>?_⟩,fun e' hS=>⟨fun x hx=>?_,fun k hk m6=>?_⟩⟩
    ·have:(r.map (KQ x0.1 spare)).map Prod.fst=r.map Prod.fst:=by
      rw[List.map_map];exact List.map_congr_left fun y _=>Qi y
     rw[this];exact r9
    ·obtain⟨y,hy,rfl⟩:=List.mem_map.1 hx;have nU:=List.mem_cons_of_mem x0 hy;rw[Qi];unfold KQ;split
     ·exact h.sp y nU
     exact h.self y nU
    ·obtain⟨y,hy,rfl⟩:=List.mem_map.1 hx;rw[Qi];exact h.sp y (List.mem_cons_of_mem x0 hy)
    ·obtain⟨s1,s2⟩:=hS;have XK:=h.sp x0 Cu;rcases List.mem_cons.1 hx with rfl|Y6
     ·rw[s2 x.1 XK fun z hz=>by
       obtain⟨y,hy,rfl⟩:=List.mem_map.1 hz;rw[Qi];exact fun q=>nR (List.mem_map.2 ⟨y,hy,q⟩)]
      simp only[Lb,OE,↓reduceIte];rw[if_neg (TR x hx)]
     have h1:=s1 _ (List.mem_map.2 ⟨x,Y6,rfl⟩);rw[Qi]at h1;by_cases q:x.2=x0.1
     ·have hb:KQ x0.1 spare x=(x.1,spare):=if_pos q;rw[h1,hb];simp only[Lb,OE];rw[if_neg (fun z=>XK z.symm),q];simp
     have hb:KQ x0.1 spare x=x:=if_neg q;rw[h1,hb];simp only[Lb,OE];rw[if_neg q,if_neg (TR x hx)]
    obtain⟨s1,s2⟩:=hS;rw[s2 k hk fun z hz=>by
     obtain⟨y,hy,rfl⟩:=List.mem_map.1 hz;rw[Qi];exact m6 y (List.mem_cons_of_mem x0 hy)]
    simp only[Lb,OE];rw[if_neg (fun q=>m6 x0 Cu q.symm),if_neg hk]
   omega
  rename_i hi;rcases Lr (Lo (x0::r)) (x0::r)with⟨q,_⟩|⟨j,x,q,hj,S4,_⟩
  ·omega
  rw[q,Int.toNat_natCast,hj];simp only[Option.getD_some];have uN:=List.mem_of_getElem? hj;have YQ:∀y∈x0::r,y.2≠x.1:=fun y hy z=>by
   unfold Lo at S4;rw[Bool.not_eq_true',List.any_eq_false]at S4;exact S4 y hy (by simpa using z)
  generalize x0::r=l at *;have NK:=I hj;have U4:∀y∈l,y=x∨y∈l.eraseIdx j:=fun y hy=>by
   obtain⟨i,hi⟩:=List.mem_iff_getElem?.1 hy;by_cases nP:i=j
   ·rw[nP,hj]at hi;exact .inl (Option.some.inj hi).symm
   refine .inr ?_;rcases Nat.lt_or_gt_of_ne nP with z|z
   ·exact List.mem_of_getElem? (i:=i) (by rw[List.getElem?_eraseIdx,if_pos z];exact hi)
   exact List.mem_of_getElem? (i:=i-1) (by rw[List.getElem?_eraseIdx,if_neg (by omega),show i-1+1=i by omega];exact hi)
  have Y5:∀y∈l.eraseIdx j,y.1≠x.1:=fun y hy z=>by
   obtain⟨i,hi⟩:=List.mem_iff_getElem?.1 hy;rw[List.getElem?_eraseIdx]at hi;have yk:(l.map Prod.fst)[j]?=some x.1:=by rw[List.getElem?_map,hj];rfl
   split at hi
   ·rename_i w;have:(l.map Prod.fst)[i]?=some x.1:=by rw[List.getElem?_map,hi,<-z];rfl
    have:=(List.getElem?_inj (I this) h.nodup).1 (this.trans yk.symm);omega
   rename_i w;have:(l.map Prod.fst)[i+1]?=some x.1:=by rw[List.getElem?_map,hi,<-z];rfl
   have:=(List.getElem?_inj (I this) h.nodup).1 (this.trans yk.symm);omega
  have kC:∀y∈l.eraseIdx j,y∈l:=fun y hy=>List.mem_of_mem_eraseIdx hy;refine⟨⟨?_,fun y hy=>h.self y (kC y hy),fun y hy=>h.sp y (kC y hy)⟩,fun e' hS=>⟨fun y hy=>?_,fun k hk m6=>?_⟩⟩
  ·exact((List.eraseIdx_sublist l j).map Prod.fst).nodup h.nodup
  ·obtain⟨s1,s2⟩:=hS;rcases U4 y hy with z|z
   ·rw[z,s2 x.1 (h.sp x uN) Y5];simp[Lb,OE]
   rw[s1 y z];simp only[Lb,OE];rw[if_neg (YQ y hy)]
  obtain⟨s1,s2⟩:=hS;rw[s2 k hk fun y hy=>m6 y (kC y hy)];simp only[Lb,OE];rw[if_neg (fun z=>m6 x uN z.symm)]
theorem Pr{spare:Int}:∀(n:Nat) (l:List Mv),l.length<=n->Rp spare l->∀e:Int->V,Wp spare l e (Lb (Lg spare n l) e)
 | 0,l,hn,_,e=>by
  have:l=[]:=List.length_eq_zero_iff.1 (by omega);subst this;exact⟨fun x hx=>(by cases hx),fun k _ _=>rfl⟩
 | n+1,l,hn,h,e=>by
  unfold Lg;split
  ·rename_i q;subst q;exact⟨fun x hx=>(by cases hx),fun k _ _=>rfl⟩
  rename_i cj;obtain⟨w1,w2⟩:=Re h cj e;have hl:=(NT spare cj).1;rw[Pp];exact w2 _ (Pr n _ (by omega) w1 _)
theorem T'{spare:Int}{l:List Mv}(hn:(l.map Prod.fst).Nodup)(hs:∀x∈l,x.1≠spare)(e:Int->V):Wp spare l e (Lb (NX l spare) e):=by
 have hd:∀x∈KH l,x∈l∧x.1≠x.2:=fun x hx=>by
  obtain⟨h1,h2⟩:=List.mem_filter.1 hx;exact⟨h1,by simpa using h2⟩
 have hW:Rp spare (KH l):=⟨(List.filter_sublist.map Prod.fst).nodup hn,fun x hx=>(hd x hx).2,fun x hx=>hs x (hd x hx).1⟩
 obtain⟨s1,s2⟩:=Pr l.length (KH l) (List.length_filter_le ..) hW e;refine⟨fun x hx=>?_,fun k hk m6=>s2 k hk fun x hx=>m6 x (hd x hx).1⟩;by_cases q:x.1=x.2
 ·have Vp:∀y∈KH l,y.1≠x.1:=fun y hy z=>by
   obtain⟨i,hi⟩:=List.mem_iff_getElem?.1 hx;obtain⟨j,hj⟩:=List.mem_iff_getElem?.1 (hd y hy).1;have h1:(l.map Prod.fst)[i]?=some x.1:=by rw[List.getElem?_map,hi];rfl
   have h2:(l.map Prod.fst)[j]?=some x.1:=by rw[List.getElem?_map,hj,<-z];rfl
   have nP:=(List.getElem?_inj (I h1) hn).1 (h1.trans h2.symm);rw[nP,hj]at hi;rw[Option.some.inj hi]at hy;exact(hd x hy).2 q
  show Lb (Lg spare l.length (KH l)) e x.1=e x.2;rw[s2 x.1 (hs x hx) Vp,q]
 exact s1 x (List.mem_filter.2 ⟨hx,by simpa using q⟩)
end
end Go.Proofs.Ytkhnjeblbiocaaa
namespace Go.Proofs.Ytkhnjeblbiocaaa
open Go.Av
section
variable (u v:bR) (D:Int->Int->Prop) (pre post:Int->Int->List bE) (c:Int)
def VS(D:Int->Prop)(es jl:List (Int×SV)):Prop:=∀k,D k->cZ jl k=cZ es k
structure Vv(fn b:Int):Prop where
 ins:(aD (aL v fn) b).ins=pre fn b++((aD (aL u fn) b).ins++post fn b)
 vals:∀i∈(aD (aL u fn) b).ins,D fn i.to∧∀a∈i.args,D fn a
 ve:(aD (aL u fn) b).term.kind=4->post fn b=[]∧(aD (aL v fn) b).term.kind=4∧(aD (aL v fn) b).term.n=(aD (aL u fn) b).term.n
 ret:(aD (aL u fn) b).term.kind=0->post fn b=[]∧(aD (aL v fn) b).term.kind=0∧(aD (aL v fn) b).term.arg=(aD (aL u fn) b).term.arg∧D fn (aD (aL u fn) b).term.arg
def Rr(t:Term)(es:List (Int×SV))(e:Edge):Prop:=(t.kind=1∧t.to[0]?=some e)∨(t.kind≠0∧t.kind≠1∧t.kind≠4∧(cZ es t.arg).kind=0∧t.to[dP t (cZ es t.arg).n]?=some e)
def Way(fn b:Int):Prop:=∀(es jl:List (Int×SV)) (e:Edge),VS (D fn) es jl->Rr (aD (aL u fn) b).term es e->∃(n:Nat) (Oc:List (Int×SV)),1<=n∧(n:Int)<=c ∧
 VS (D fn) (cH es (aD (aL u fn) e.block).params (bN es e.args)) Oc∧(0<=e.block∧e.block<(aL u fn).blocks.length) ∧
 ∀(m:Mach) (f':Fr) (r':List Fr) (l:Int),m.over=false->m.short=false->(n:Int)<=l->f'.fn=fn->f'.blk=b->f'.pos=(pre fn b).length+(aD (aL u fn) b).ins.length->f'.vals=jl ->
  Mach.Steps v n (m.put (f'::r') l) (m.put ({ f' with blk:=e.block,pos:=(pre fn e.block).length,vals:=Oc }::r') (l-n))
structure OM:Prop where
 len:v.fns.length=u.fns.length
 main:v.main=u.main
 zero:∀fn:Int,0<=fn->fn<u.fns.length->pre fn 0=[]∧(aD (aL v fn) 0).params=(aD (aL u fn) 0).params
 Py:∀fn b:Int,0<=fn->fn<u.fns.length->0<=b->b<(aL u fn).blocks.length->Vv u v D pre post fn b
 ways:∀fn b:Int,0<=fn->fn<u.fns.length->0<=b->b<(aL u fn).blocks.length->Way u v D pre c fn b
structure Wo(f f':Fr):Prop where
 ids:f'.bP=f.bP∧f'.di=f.di∧f'.fn=f.fn
 blk:f'.blk=f.blk
 pos:f'.pos=(pre f.fn f.blk).length+f.pos
 vals:VS (D f.fn) f.vals f'.vals
def SI(f f':Fr):List Fr->Prop
 | []=>True
 | g::_=>f'.to=f.to∧D g.fn f.to
def N0:List Fr->List Fr->Prop
 | [],[]=>True
 | f::r,f'::r'=>Wo D pre f f'∧SI D f f' r∧N0 r r'
 | _,_=>False
def N1(m m':Mach):Prop:=∃fs l,m'=m.put fs l∧N0 D pre m.frames fs∧c*m.left<=l
end
section
variable {u v:bR} {D:Int->Int->Prop} {pre post:Int->Int->List bE} {c:Int}
theorem VS.put{D:Int->Prop}{es jl:List (Int×SV)}(h:VS D es jl)(k:Int)(x:SV):VS D (cK es k x) (cK jl k x):=fun j hj=>by
 rw[LA,LA];split
 ·rfl
 exact h j hj
theorem VS.take{D:Int->Prop}{es jl:List (Int×SV)}(h:VS D es jl){l:List Int}(hl:∀a∈l,D a):bN jl l=bN es l:=by
 unfold bN;exact List.map_congr_left fun a ha=>h a (hl a ha)
theorem N0.cons{f:Fr}{r:List Fr}{fs:List Fr}(h:N0 D pre (f::r) fs):∃f' r',fs=f'::r'∧Wo D pre f f'∧SI D f f' r∧N0 D pre r r':=by
 cases fs with
 | nil=>exact False.elim h
 | cons f' r'=>exact⟨f',r',rfl,h.1,h.2.1,h.2.2⟩
theorem Oa(T:OM u v D pre post c){m:Mach}{TM:List Fr}{y:Int}{g:Fr}{r:List Fr}(hm:m.frames=g::r)(hR:N0 D pre m.frames TM)(l1:c*m.left<=y)
  {fn:Int} (jr:0<=fn∧fn<u.fns.length) (args:List SV) {to:Int} (ht:D g.fn to):N1 D pre c (m.enter u fn args to) ((m.put TM y).enter v fn args to):=by
 obtain⟨z1,z2⟩:=T.zero fn jr.1 jr.2;refine⟨⟨m.next+1,m.next,fn,0,0,to,cH [] (aD (aL u fn) 0).params args⟩::TM,y,?_,?_,l1⟩
 ·unfold Mach.enter;rw[z2];rfl
 show Wo D pre _ _∧SI D _ _ m.frames∧N0 D pre m.frames TM;refine⟨⟨⟨rfl,rfl,rfl⟩,rfl,by rw[z1];rfl,fun _ _=>rfl⟩,?_,hR⟩;rw[hm];exact⟨rfl,ht⟩
theorem Q6{m:Mach}{f f':Fr}{r r':List Fr}{y:Int}(hm:m.frames=f::r)(hT:SI D f f' r)(hR:N0 D pre r r')(l1:c*m.left<=y)(x:SV):N1 D pre c (m.leave f x) ((m.put (f'::r') y).leave f' x):=by
 unfold Mach.leave;rw[hm];simp only[List.tail_cons,Mach.put];cases r with
 | nil =>
  cases r' with
  | nil=>exact⟨[],y,rfl,trivial,l1⟩
  | cons g' r'=>exact False.elim hR
 | cons g r =>
  obtain⟨g',r2,rfl,hG,SD,Vi⟩:=hR.cons;obtain⟨t1,t2⟩:=hT;simp only;refine⟨{ g' with vals:=cK g'.vals f'.to x }::r2,y,rfl,⟨⟨hG.ids,hG.blk,hG.pos,?_⟩,by cases r<;>exact SD,Vi⟩,l1⟩;show VS (D g.fn) (cK g.vals f.to x) (cK g'.vals f'.to x);rw[t1];exact hG.vals.put _ x
theorem RN(u:bR){m:Mach}{f:Fr}{r:List Fr}(h:m.frames=f::r):Mach.step u m=match (aD (aL u f.fn) f.blk).ins[f.pos]? with
  | none=>m.finish u f (aD (aL u f.fn) f.blk).term
  | some i=>(m.bf { f with pos:=f.pos+1 }).act u { f with pos:=f.pos+1 } i (bN f.vals i.args):=by
 unfold Mach.step;rw[h];rfl
theorem Sz(T:OM u v D pre post c)(hu:ep u)(hc:1<=c){m m':Mach}(hm:bG u m)(ho:m.over=false)(h1:1<=m.left)(hs:(Mach.step u { m with left:=m.left-1 }).short=false)
  (h5:¬((Mach.step u { m with left:=m.left-1 }).over=true∧(Mach.step u { m with left:=m.left-1 }).fin=5)) (hr:N1 D pre c m m') :
  ∃n lg,Mach.Steps v (n+1) m' lg∧N1 D pre c (Mach.step u { m with left:=m.left-1 }) lg:=by
 obtain⟨fs,l,rfl,Cj,l1⟩:=hr;obtain⟨cj,iy⟩:=hm.over ho;have eJ:1*m.left<=c*m.left:=Int.mul_le_mul_of_nonneg_right hc (by omega);have eZ:c*(m.left-1)=c*m.left-c:=by rw[Int.mul_sub,Int.mul_one]
 have Ey:c*1<=c*m.left:=Int.mul_le_mul_of_nonneg_left h1 (by omega);have one:∀{lg},N1 D pre c (Mach.step u { m with left:=m.left-1 }) lg->Mach.step v (({ m with left:=m.left-1 }:Mach).put fs (l-1))=lg->∃n lg,Mach.Steps v (n+1) (m.put fs l) lg∧N1 D pre c (Mach.step u { m with left:=m.left-1 }) lg:=fun {lg} hR e=>⟨0,lg,.cons ho iy (by show 1<=l;omega) (by
  have:Mach.step v { m.put fs l with left:=(m.put fs l).left-1 }=lg:=e;rw[this];exact .refl _),hR⟩
 have lL:bG u { m with left:=m.left-1 }:=by
  have:=(Nv hm ho (by omega)).1
  rwa [Mach.Mt h1]at this
 obtain⟨f,r,dh⟩:∃f r,m.frames=f::r:=by
  cases hq:m.frames with
  | nil=>exact absurd hq cj
  | cons f r=>exact⟨f,r,rfl⟩
 rw[dh]at Cj;obtain⟨f',r',rfl,hF,hT,hR⟩:=Cj.cons;have Nq:=lL.frames f (by show f∈m.frames;rw[dh];simp);have hb:=hu.blocks _ (fN Nq.fn.1 Nq.fn.2) _ (fh Nq.blk.1 Nq.blk.2);have hB:=T.Py f.fn f.blk Nq.fn.1 Nq.fn.2 Nq.blk.1 Nq.blk.2;have hW:=T.ways f.fn f.blk Nq.fn.1 Nq.fn.2 Nq.blk.1 Nq.blk.2;have S6:(aD (aL v f'.fn) f'.blk).ins=pre f.fn f.blk++((aD (aL u f.fn) f.blk).ins++post f.fn f.blk):=by rw[hF.ids.2.2,hF.blk];exact hB.ins
 have fS:(aD (aL v f'.fn) f'.blk).ins[f'.pos]?=((aD (aL u f.fn) f.blk).ins++post f.fn f.blk)[f.pos]?:=by
  rw[S6,hF.pos,List.getElem?_append_right (by omega),Nat.add_sub_cancel_left]
 have bV:=RN u (m:={ m with left:=m.left-1 }) dh;have K':Mach.step v (({ m with left:=m.left-1 }:Mach).put (f'::r') (l-1))=match (aD (aL v f'.fn) f'.blk).ins[f'.pos]? with
   | none=>(({ m with left:=m.left-1 }:Mach).put (f'::r') (l-1)).finish v f' (aD (aL v f'.fn) f'.blk).term
   | some i=>((({ m with left:=m.left-1 }:Mach).put (f'::r') (l-1)).bf { f' with pos:=f'.pos+1 }).act v { f' with pos:=f'.pos+1 } i (bN f'.vals i.args):=rfl
 cases hi:(aD (aL u f.fn) f.blk).ins[f.pos]? with
 | none =>
  rw[hi]at bV;simp only at bV;have lV:f.pos=(aD (aL u f.fn) f.blk).ins.length:=by
   have h2:=List.getElem?_eq_none_iff.1 hi;have h3:=Nq.pos;omega
  have iR:post f.fn f.blk=[]->(aD (aL v f'.fn) f'.blk).ins[f'.pos]?=none:=fun q=>by
   rw[fS,q,List.append_nil];exact hi
  have Uh:∀e,Rr (aD (aL u f.fn) f.blk).term f.vals e->Mach.step u { m with left:=m.left-1 }=({ m with left:=m.left-1 }:Mach).follow u f e->∃n lg,Mach.Steps v (n+1) (m.put (f'::r') l) lg∧N1 D pre c (Mach.step u { m with left:=m.left-1 }) lg:=fun e Wb Vr=>by
   obtain⟨n,Oc,n1,n2,n3,n4,n5⟩:=hW f.vals f'.vals e hF.vals Wb;have dD:=n5 m f' r' l ho iy (by omega) hF.ids.2.2 hF.blk (by rw[hF.pos,lV]) rfl;refine⟨n-1,_,by rw[show n-1+1=n by omega];exact dD,?_⟩;rw[Vr];refine⟨{ f' with blk:=e.block,pos:=(pre f.fn e.block).length,vals:=Oc }::r',l-n,rfl,?_,by show c*(m.left-1)<=_;omega⟩;show N0 D pre (({ m with left:=m.left-1 }:Mach).follow u f e).frames _;have dU:(({ m with left:=m.left-1 }:Mach).follow u f e).frames = { f with blk:=e.block,pos:=0,vals:=cH f.vals (aD (aL u f.fn) e.block).params (bN f.vals e.args) }::r:=by
    show _::m.frames.tail=_;rw[dh];rfl
   rw[dU];exact⟨⟨hF.ids,rfl,rfl,n3⟩,by cases r<;>exact hT,hR⟩
  unfold Mach.finish at bV;by_cases q4:(aD (aL u f.fn) f.blk).term.kind=4
  ·rw[if_pos q4]at bV;obtain⟨p1,p2,p3⟩:=hB.ve q4;rw[iR p1]at K';simp only at K';rw[hF.ids.2.2,hF.blk]at K';unfold Mach.finish at K';rw[if_pos p2,p3]at K';refine one ?_ K';rw[bV];exact⟨f'::r',l-1,rfl,by show N0 D pre m.frames _;rw[dh];exact⟨hF,hT,hR⟩,by show c*(m.left-1)<=_;omega⟩
  rw[if_neg q4]at bV;by_cases q1:(aD (aL u f.fn) f.blk).term.kind=1
  ·rw[if_pos q1]at bV;have hl:=hb.term.rE q1;obtain⟨e,he⟩:∃e,(aD (aL u f.fn) f.blk).term.to[0]?=some e:=⟨(aD (aL u f.fn) f.blk).term.to[0]'(by omega),List.getElem?_eq_getElem _⟩
   rw[he]at bV;exact Uh e (.inl ⟨q1,he⟩) bV
  rw[if_neg q1]at bV;by_cases q0:(aD (aL u f.fn) f.blk).term.kind=0
  ·rw[if_pos q0]at bV;obtain⟨p1,p2,p3,p4⟩:=hB.ret q0;rw[iR p1]at K';simp only at K';rw[hF.ids.2.2,hF.blk]at K';unfold Mach.finish at K';rw[if_neg (by omega),if_neg (by omega),if_pos p2,p3,hF.vals _ p4]at K';refine one ?_ K';rw[bV];exact Q6 (m:={ m with left:=m.left-1 }) dh hT hR (by show c*(m.left-1)<=_;omega) _
  rw[if_neg q0]at bV;by_cases qk:(cZ f.vals (aD (aL u f.fn) f.blk).term.arg).kind≠0
  ·rw[if_pos qk]at bV;exact absurd ⟨by rw[bV];rfl,by rw[bV];rfl⟩ h5
  rw[if_neg qk]at bV;obtain⟨e,he⟩:=mi hb.term q0 q1 q4 (cZ f.vals (aD (aL u f.fn) f.blk).term.arg).n;rw[he]at bV;exact Uh e (.inr ⟨q0,q1,q4,by omega,he⟩) bV
 | some i =>
  rw[hi]at bV;simp only at bV;have VV:=List.mem_of_getElem? hi;have rz:=hb.ins i VV;have aZ:=I hi;obtain⟨d1,d2⟩:=hB.vals i VV;have dY:bN f'.vals i.args=bN f.vals i.args:=hF.vals.take d2;rw[fS,List.getElem?_append_left aZ,hi]at K';simp only at K';rw[dY]at K';suffices h:N1 D pre c (Mach.step u { m with left:=m.left-1 }) (Mach.step v (({ m with left:=m.left-1 }:Mach).put (f'::r') (l-1))) from one h rfl;have e1:({ m with left:=m.left-1 }:Mach).left=m.left-1:=rfl;have k1:c*({ m with left:=m.left-1 }:Mach).left<=l-1:=by rw[e1];omega
  have k0:0<=({ m with left:=m.left-1 }:Mach).left:=by rw[e1];omega
  have wx:({ m with left:=m.left-1 }:Mach).frames≠[]:=cj;have Ch:({ m with left:=m.left-1 }:Mach).frames=f::r:=dh;rw[bV]at hs ⊢;rw[K'];clear bV K' one h5 e1;generalize ({ m with left:=m.left-1 }:Mach)=M at *;generalize l-1=y at *;have kr:kf u M { f with pos:=f.pos+1 }:=⟨Nq.fn,Nq.blk,aZ,Nq.vals⟩
  have wi:kf u (M.bf { f with pos:=f.pos+1 }) { f with pos:=f.pos+1 }:=kr.of_heap (by rfl);have WW:=lL.bf wx kr;have ha:=kI wi.vals i.args;have km:=kH f.vals i.args;have Pa:Wo D pre { f with pos:=f.pos+1 } { f' with pos:=f'.pos+1 }:=⟨hF.ids,hF.blk,by show f'.pos+1=_+(f.pos+1);rw[hF.pos];rfl,hF.vals⟩
  have oG:(M.bf { f with pos:=f.pos+1 }).frames = { f with pos:=f.pos+1 }::r:=by
   show _::M.frames.tail=_;rw[Ch];rfl
  have e2:(M.put (f'::r') y).bf { f' with pos:=f'.pos+1 }=(M.bf { f with pos:=f.pos+1 }).put ({ f' with pos:=f'.pos+1 }::r') y:=rfl;rw[e2];have SD:SI D { f with pos:=f.pos+1 } { f' with pos:=f'.pos+1 } r:=by cases r<;>exact hT
  have PG:N0 D pre (M.bf { f with pos:=f.pos+1 }).frames ({ f' with pos:=f'.pos+1 }::r'):=by
   rw[oG];exact⟨Pa,SD,hR⟩
  have Wg:c*(M.bf { f with pos:=f.pos+1 }).left<=y:=k1;have XC:(({ f with pos:=f.pos+1 }:Fr)).vals=f.vals:=rfl;rw[XC]at ha;unfold Mach.act at hs ⊢;by_cases nj:i.op=13
  ·rw[if_pos nj,if_pos nj];obtain⟨c1,c2,c3⟩:=rz.call nj;exact Oa T oG PG Wg ⟨c1,c2⟩ _ d1
  rw[if_neg nj]at hs;rw[if_neg nj,if_neg nj];by_cases oE:i.op=14
  ·rw[if_pos oE,if_pos oE];by_cases wm:(ca (bN f.vals i.args) 0).kind=2
   ·have jr:=SV.Wf.fn (gH ha 0) wm;obtain⟨z1,z2⟩:=T.zero _ jr.1 jr.2;rw[z2];by_cases yV:(ca (bN f.vals i.args) 0).kind=2∧(aD (aL u (ca (bN f.vals i.args) 0).n) 0).params.length=(bN f.vals i.args).length
    ·rw[if_pos yV,if_pos yV];exact Oa T oG PG Wg jr _ d1
    rw[if_neg yV,if_neg yV];exact⟨_,y,rfl,PG,k1⟩
   rw[if_neg (fun q=>wm q.1),if_neg (fun q=>wm q.1)];exact⟨_,y,rfl,PG,k1⟩
  rw[if_neg oE]at hs;rw[if_neg oE,if_neg oE];have hx:=nG WW rz km ha;have NL:=(Mach.Ma { f with pos:=f.pos+1 } i.to ((M.bf { f with pos:=f.pos+1 }).exec i (bN f.vals i.args))).1;rw[NL]at hs;have uF:(M.bf { f with pos:=f.pos+1 }).left<=y:=by
   have:1*M.left<=c*M.left:=Int.mul_le_mul_of_nonneg_right hc k0;show M.left<=y;omega
  rw[Mach.Qz _ _ _ _ _ hs hx.left.1 uF];generalize (M.bf { f with pos:=f.pos+1 }).exec i (bN f.vals i.args)=X at *;obtain⟨E,E2⟩:=X;have XE:E.frames = { f with pos:=f.pos+1 }::r:=by
   rw[<-oG];exact hx.frames
  have Al:E.left<=M.left:=hx.left.2;obtain⟨w1,w2⟩:=MH E E2 { f with pos:=f.pos+1 } i.to;refine⟨_,_,Oy E E2 { f with pos:=f.pos+1 } _ _ i.to _ _,?_,?_⟩
  ·rw[w1,XE];refine⟨⟨Pa.ids,Pa.blk,Pa.pos,Pa.vals.put _ _⟩,by cases r<;>exact hT,hR⟩
  rw[w2];have:=Qu hc k1 (a:=M.left-E.left) (by omega);rw[show M.left-(M.left-E.left)=E.left by omega]at this;exact this
end
end Go.Proofs.Ytkhnjeblbiocaaa
namespace Go.Proofs.Ytkhnjeblbiocaaa
open Go.Av
section
variable {u v:bR} {D:Int->Int->Prop} {pre post:Int->Int->List bE} {c:Int}
theorem QB(T:OM u v D pre post c)(hu:ep u)(hc:1<=c):∀(k:Nat) (m m':Mach),bG u m->N1 D pre c m m'->(Mach.run u k m).short=false->(Mach.run u k m).fin≠5->∃n lg,Mach.Steps v n m' lg∧N1 D pre c (Mach.run u k m) lg
 | 0,m,m',hm,hr,hs,h5=>⟨0,m',.refl _,hr⟩
 | k+1,m,m',hm,hr,hs,h5=>by
  cases ho:m.over with
  | true =>
   rw[K5 ho]at hs ⊢;exact⟨0,m',.refl _,hr⟩
  | false =>
   have bz:Mach.run u (k+1) m=if(m.cR 1).short then m.cR 1 else Mach.run u k (Mach.step u (m.cR 1)):=by simp[Mach.run,ho]
   rw[bz]at hs h5 ⊢;by_cases hp:m.left<1
   ·rw[Mu hp]at hs;simp at hs
   obtain⟨q1,q2,q3,q4,q5⟩:=Nv hm ho hp;rw[if_neg (by simp[q3])]at hs h5 ⊢;have nN:(m.cR 1).frames.length+(m.cR 1).left+1<=2 ^ 40:=by
    have:=hm.depth;rw[q4,q5];omega
   have dD:=bG.step hu q1 q2 nN;have NL:(Mach.step u (m.cR 1)).short=false:=by
    cases hx:(Mach.step u (m.cR 1)).short with
    | false=>rfl
    | true =>
     have ho:(Mach.step u (m.cR 1)).over=true:=by
      cases hy:(Mach.step u (m.cR 1)).over with
      | true=>rfl
      | false=>rw[(dD.over hy).2]at hx;cases hx
     rw[K5 ho,hx]at hs;cases hs
   have X9:¬((Mach.step u (m.cR 1)).over=true∧(Mach.step u (m.cR 1)).fin=5):=fun q=>by
    rw[K5 q.1]at h5;exact h5 q.2
   rw[Mach.Mt (by omega)]at dD NL hs X9 h5 ⊢;obtain⟨n,m1,s1,s2⟩:=Sz T hu hc hm ho (by omega) NL X9 hr;obtain⟨n2,m2,s3,s4⟩:=QB T hu hc k _ m1 dD s2 hs h5;exact⟨n+1+n2,m2,s1.trans s3,s4⟩
theorem Sy{u:bR}(hu:ep u){fuel:Int}(h0:0<=fuel)(h1:fuel<=2 ^ 39):bG u ((Mach.start fuel).enter u u.main [] 0):=by
 have hs:bG u { Mach.start fuel with over:=true } :=
  ⟨by simp[Mach.start],by simp[Mach.start],h0,by simp[Mach.start];omega,by simp[Mach.start],by simp[Mach.start],by simp[Mach.start],by simp[Mach.start,fp],by simp[Mach.start],by simp⟩
 have h:=hs.enter hu (by simp) (by simp[Mach.start];omega) hu.main (args:=[]) (by simp) 0;exact⟨fun f hf=>(h.frames f hf).of_heap (by rfl),fun a ha=>by simp[Mach.start,Mach.enter]at ha,h.left,h.depth,h.out,h.words,h.fin,h.val,h.done,fun _=>⟨by simp[Mach.enter],rfl⟩⟩
theorem PM(T:OM u v D pre post c)(hu:ep u)(hv:ep v)(hc:1<=c){F G:Int}(hF:0<=F∧F<=1000000)(hG:G<=2 ^ 39)(gQ:c*F<=G)(he:(bm u F).e=0)(h5:(bm u F).fin≠5) :
  (bm v G).e=0∧(bm v G).out=(bm u F).out∧(bm v G).fin=(bm u F).fin∧(bm v G).val=(bm u F).val:=by
 have XX:1*F<=c*F:=Int.mul_le_mul_of_nonneg_right hc hF.1;obtain⟨z1,z2⟩:=T.zero u.main hu.main.1 hu.main.2;have V':=l8 hu (fuel:=F) hF.1 hF.2;have Vt:=Sy hv (fuel:=G) (by omega) hG;have Q2:N1 D pre c ((Mach.start F).enter u u.main [] 0) ((Mach.start G).enter v v.main [] 0):=by
  refine⟨[⟨5,4,u.main,0,0,0,cH [] (aD (aL u u.main) 0).params []⟩],G,?_,⟨⟨⟨rfl,rfl,rfl⟩,rfl,by rw[z1];rfl,fun _ _=>rfl⟩,trivial,trivial⟩,gQ⟩;rw[T.main];unfold Mach.enter;rw[z2];rfl
 unfold bm at he h5 ⊢;simp only at he h5 ⊢;have UZ:=M3 hu (F.toNat+2) _ V' (by simp[Mach.enter,Mach.start]);have pA:=M3 hv (G.toNat+2) _ Vt (by simp[Mach.enter,Mach.start]);have U1:=fun h h5=>QB T hu hc (F.toNat+2) _ _ V' Q2 h h5;generalize Mach.run u (F.toNat+2) ((Mach.start F).enter u u.main [] 0)=E at *;cases hs:E.short with
 | true =>
  rw[hs]at he;simp at he
 | false =>
  rw[hs]at h5;simp only[Bool.false_eq_true,if_false]at h5;obtain⟨n1,m1,S,fs,l,lL,_,_⟩:=U1 hs h5;have hle:n1<=G.toNat+2:=Classical.byContradiction fun q=>by
   have:=S.before (G.toNat+2) (by omega);rw[pA.1]at this;cases this
  have iR:Mach.run v (G.toNat+2) ((Mach.start G).enter v v.main [] 0)=m1:=by
   have:=S.run (G.toNat+2-n1);rw[show n1+(G.toNat+2-n1)=G.toNat+2 by omega]at this;rw[this];exact K5 (by rw[lL];exact UZ.1) _
  have b2:m1.short=false:=by rw[lL];exact hs
  rw[iR,b2];simp only[Bool.false_eq_true,if_false];rw[lL];exact⟨trivial,rfl,rfl,rfl⟩
theorem OL(T:OM u v D pre post c)(hu:ep u)(hv:ep v)(hc:1<=c){F G:Int}(hF:0<=F∧F<=1000000)(hG:0<=G∧G<=1000000)(XX:c*F<=2 ^ 38)(he:(bm u F).e=0)(h5:(bm u F).fin≠5) :
  (bm v G).e=13∨((bm v G).e=0∧(bm v G).out=(bm u F).out∧(bm v G).fin=(bm u F).fin∧(bm v G).val=(bm u F).val):=by
 have YF:0<=c*F:=Int.mul_nonneg (by omega) hF.1;obtain⟨H,hH⟩:∃H,H=c*F+G:=⟨_,rfl⟩
 have hR:=PM T hu hv hc (G:=H) hF (by omega) (by omega) he h5;generalize bm u F=A at *;have Vt:=l8 hv (fuel:=G) hG.1 hG.2;have pA:=M3 hv (G.toNat+2) _ Vt (by simp[Mach.enter,Mach.start]);cases hs:(Mach.run v (G.toNat+2) ((Mach.start G).enter v v.main [] 0)).short with
 | true =>
  refine .inl ?_;unfold bm;simp only;rw[hs];rfl
 | false =>
  refine .inr ?_;have hl:0<=(Mach.run v (G.toNat+2) ((Mach.start G).enter v v.main [] 0)).left:=(pA.2.2.2 hs).left;have iy:=Pq hv (H-G) (G.toNat+2) _ Vt (Nat.le_refl _) hs (by omega) (H.toNat+2) (.inl (by omega));have e0:((Mach.start G).enter v v.main [] 0).shift (H-G)=(Mach.start H).enter v v.main [] 0:=by
   unfold Mach.shift Mach.enter Mach.start;simp only[Mach.mk.injEq,true_and,and_true];omega
  rw[e0]at iy;unfold bm at hR ⊢;simp only at hR ⊢;rw[iy]at hR;have NL:((Mach.run v (G.toNat+2) ((Mach.start G).enter v v.main [] 0)).shift (H-G)).short=false:=hs;rw[NL]at hR;rw[hs];simp only[Bool.false_eq_true,if_false]at hR ⊢;exact hR
end
end Go.Proofs.Ytkhnjeblbiocaaa
namespace Go.Proofs.Ytkhnjeblbiocaaa
open Go.Av
theorem NS{V:Type}:∀(M:List Mv) {e e':Int->V},(∀k,e k=e' k)->∀k,Lb M e k=Lb M e' k
 | [],_,_,h,k=>h k
 | x::r,e,e',h,k=>NS r (fun j=>by
  unfold OE;rw[h x.2,h j]) k
def QA:List Mv->List (Int×SV)->List (Int×SV)
 | [],e=>e
 | x::r,e=>QA r (cK e x.1 (cZ e x.2))
theorem Ov:∀(M:List Mv) (e:List (Int×SV)) (k:Int),cZ (QA M e) k=Lb M (cZ e) k
 | [],_,_=>rfl
 | x::M,e,k=>by
  rw[QA,Ov M];show Lb M _ k=Lb M (OE (cZ e) x.1 (cZ e x.2)) k;refine NS M (fun j=>?_) k;rw[LA];unfold OE;by_cases q:x.1=j
  ·rw[if_pos q,if_pos q.symm]
  rw[if_neg q,if_neg (fun z=>q z.symm)]
theorem M0{v:bR}{fn b:Int}{m:Mach}(ho:m.over=false)(hs:m.short=false){f':Fr}{r':List Fr}(h1:f'.fn=fn)(h2:f'.blk=b) :
  ∀(M:List Mv) (A B:List bE) (KP:List (Int×SV)) (l:Int),(aD (aL v fn) b).ins=A++(M.map Rv++B)->(M.length:Int)<=l ->
   Mach.Steps v M.length (m.put ({ f' with pos:=A.length,vals:=KP }::r') l) (m.put ({ f' with pos:=A.length+M.length,vals:=QA M KP }::r') (l-M.length))
 | [],A,B,KP,l,hi,hl=>by
   have:l-(([]:List Mv).length:Int)=l:=by simp
   rw[this];exact .refl _
 | x::M,A,B,KP,l,hi,hl=>by
  rw[List.length_cons]at hl;have EJ:(aD (aL v fn) b).ins=(A++[Rv x])++(M.map Rv++B):=by rw[hi];simp
  have q2:=M0 ho hs h1 h2 (r':=r') M (A++[Rv x]) B (cK KP x.1 (cZ KP x.2)) (l-1) EJ (by omega);rw[List.length_append,List.length_singleton]at q2;have dD:Mach.step v { m.put ({ f' with pos:=A.length,vals:=KP }::r') l with left:=l-1 }=m.put ({ f' with pos:=A.length+1,vals:=cK KP x.1 (cZ KP x.2) }::r') (l-1):=by
   unfold Mach.step Mach.put;simp only;rw[h1,h2,hi,List.getElem?_append_right (Nat.le_refl _),Nat.sub_self];simp only[List.map_cons,List.cons_append,List.getElem?_cons_zero];rfl
  rw[show l-((x::M).length:Int)=l-1-M.length by rw[List.length_cons];omega,show A.length+(x::M).length=A.length+1+M.length by rw[List.length_cons];omega];refine .cons ho hs (by show 1<=l;omega) ?_;show Mach.Steps v M.length (Mach.step v { m.put ({ f' with pos:=A.length,vals:=KP }::r') l with left:=l-1 }) _;rw[dD];exact q2
theorem N3{es:List (Int×SV)}:∀(ps ag:List Int),ps.Nodup->ps.length=ag.length->∀(vs:List SV),vs=bN es ag->∀{es0:List (Int×SV)} (k:Int),(∃(i:Nat) (p a:Int),ps[i]?=some p∧ag[i]?=some a∧p=k∧cZ (cH es0 ps vs) k=cZ es a)∨(k ∉ ps∧cZ (cH es0 ps vs) k=cZ es0 k)
 | [],[],_,_,vs,_,es0,k=>.inr ⟨by simp,by cases vs<;>rfl⟩
 | [],_::_,_,hl,_,_,_,_=>by simp at hl
 | _::_,[],_,hl,_,_,_,_=>by simp at hl
 | p::ps,a::ag,hn,hl,vs,hv,es0,k=>by
  obtain⟨n1,n2⟩:=List.nodup_cons.1 hn;subst hv;have ih:=N3 (es:=es) ps ag n2 (by simpa using hl) (bN es ag) rfl (es0:=cK es0 p (cZ es a)) k;have hb:cH es0 (p::ps) (bN es (a::ag))=cH (cK es0 p (cZ es a)) ps (bN es ag):=rfl;rw[hb];rcases ih with⟨i,p',a',i1,i2,i3,i4⟩|⟨i1,i2⟩
  ·exact .inl ⟨i+1,p',a',by simpa using i1,by simpa using i2,i3,i4⟩
  by_cases hk:p=k
  ·refine .inl ⟨0,p,a,rfl,rfl,hk,?_⟩;rw[i2,LA,if_pos hk]
  refine .inr ⟨?_,?_⟩
  ·rw[List.mem_cons];rintro(q|q)
   ·exact hk q.symm
   exact i1 q
  rw[i2,LA,if_neg hk]
theorem R3{sp:Int}{ps ag:List Int}(hn:ps.Nodup)(hl:ps.length=ag.length)(hp:∀p∈ps,p≠sp)(ha:∀a∈ag,a≠sp){es jl Oc:List (Int×SV)}(h:VS (fun k=>k≠sp) es jl)
  (h2:∀k,cZ Oc k=Lb (NX (ps.zip ag) sp) (cZ jl) k):VS (fun k=>k≠sp) (cH es ps (bN es ag)) Oc:=fun k hk=>by
 have Qi:(ps.zip ag).map Prod.fst=ps:=List.map_fst_zip (by omega);obtain⟨s1,s2⟩:=T' (spare:=sp) (l:=ps.zip ag) (by rw[Qi];exact hn) (fun x hx=>hp _ (List.of_mem_zip (a:=x.1) (b:=x.2) hx).1) (cZ jl);rw[h2 k];rcases N3 (es:=es) ps ag hn hl (bN es ag) rfl (es0:=es) k with⟨i,p,a,i1,i2,i3,i4⟩|⟨i1,i2⟩
 ·have hm:(p,a)∈ps.zip ag:=List.mem_of_getElem? (i:=i) (List.getElem?_zip_eq_some.2 ⟨i1,i2⟩);have:=s1 (p,a) hm;simp only at this;rw[i4,<-i3,this];exact h a (ha a (List.mem_of_getElem? i2))
 rw[i2,s2 k hk fun x hx q=>i1 (by rw[<-q];exact(List.of_mem_zip (a:=x.1) (b:=x.2) hx).1)];exact h k hk
end Go.Proofs.Ytkhnjeblbiocaaa
namespace Go.Proofs.Ytkhnjeblbiocaaa
open Go.Av
theorem Qe{v:bR}{fn b:Int}{m:Mach}{f':Fr}{r':List Fr}{l:Int}{e2:Edge}(oY:(aD (aL v fn) b).ins[f'.pos]?=none)(h1:f'.fn=fn)(h2:f'.blk=b)(hT:Rr (aD (aL v fn) b).term f'.vals e2)(hp:(aD (aL v fn) e2.block).params=[]) :
  Mach.step v { m.put (f'::r') l with left:=l-1 }=m.put ({ f' with blk:=e2.block,pos:=0 }::r') (l-1):=by
 subst h1;subst h2;have Nq:({ m.put (f'::r') l with left:=l-1 }:Mach).follow v f' e2=m.put ({ f' with blk:=e2.block,pos:=0 }::r') (l-1):=by
  unfold Mach.follow;rw[hp];rfl
 rw[RN v (m:={ m.put (f'::r') l with left:=l-1 }) rfl,oY];simp only;unfold Mach.finish;rcases hT with⟨q1,q2⟩|⟨q0,q1,q4,qk,q2⟩
 ·rw[if_neg (by omega),if_pos q1,q2];exact Nq
 rw[if_neg q4,if_neg q1,if_neg q0,if_neg (by omega),q2];exact Nq
theorem Pd{l l':List Edge}(h:l'.map Edge.block=l.map Edge.block){i:Nat}{e:Edge}(he:l[i]?=some e):∃e2,l'[i]?=some e2∧e2.block=e.block:=by
 have h1:(l'.map Edge.block)[i]?=some e.block:=by rw[h,List.getElem?_map,he];rfl
 rw[List.getElem?_map]at h1;cases hq:l'[i]? with
 | none=>rw[hq]at h1;cases h1
 | some e2 =>
  rw[hq]at h1;exact⟨e2,rfl,Option.some.inj h1⟩
section
variable {u v:bR} {sp:Int->Int}
structure Ux(u v:bR)(sp:Int->Int):Prop where
 len:v.fns.length=u.fns.length
 main:v.main=u.main
 fn:∀fn:Int,0<=fn->fn<u.fns.length->aL v fn=LP (aL u fn) (sp fn)
 ok:∀fn:Int,0<=fn->fn<u.fns.length->Uw (aL u fn)
 below:∀fn:Int,0<=fn->fn<u.fns.length->∀x∈K4 (aL u fn),x<sp fn
 Vz:∀fn:Int,0<=fn->fn<u.fns.length->∀(k:Nat) c,(aL u fn).blocks[k]?=some c->∀e∈c.term.to,LO (aL u fn) k e=false
def Ou(u:bR)(sp:Int->Int)(fn b:Int):List bE:=NW (aL u fn) (sp fn) (ME (aL u fn)) b.toNat
def MD(u:bR)(sp:Int->Int)(fn b:Int):List bE:=NR (aL u fn) (sp fn) (aD (aL u fn) b)
theorem Ux.blk(H:Ux u v sp){fn b:Int}(f0:0<=fn)(f1:fn<u.fns.length)(b0:0<=b)(b1:b<(aL u fn).blocks.length) :
  (aD (aL v fn) b).params=(if b=0 then(aD (aL u fn) b).params else [])∧(aD (aL v fn) b).ins=Ou u sp fn b++((aD (aL u fn) b).ins++MD u sp fn b) ∧
  (aD (aL v fn) b).term.to.map Edge.block=(aD (aL u fn) b).term.to.map Edge.block∧PD (aD (aL v fn) b).term=Qd (aD (aL u fn) b):=by
 rw[H.fn fn f0 f1];have hg:=(H.ok fn f0 f1).fn.gr;have hl:(LP (aL u fn) (sp fn)).blocks.length=(aL u fn).blocks.length:=(KR 0 _).trans (PL _ _ _);have hj:(LP (aL u fn) (sp fn)).blocks[b.toNat]?=some (aD (LP (aL u fn) (sp fn)) b):=by
  have:=dy (f:=LP (aL u fn) (sp fn)) (k:=b) b0 (by rw[hl];exact b1);exact this
 obtain⟨B,h1,h2,h3,h4,h5⟩:=PJ hj;have hB:aD (aL u fn) b=B:=by
  unfold aD;rw[h1];rfl
 rw[hB];refine⟨?_,?_,h4,h5⟩
 ·rw[h2];by_cases q:b=0
  ·rw[if_pos q,if_pos (by omega)]
  rw[if_neg q,if_neg (by omega)]
 rw[h3];unfold Ou MD;rw[hB]
theorem Ux.XH(H:Ux u v sp){fn b:Int}(f0:0<=fn)(f1:fn<u.fns.length)(b0:0<=b)(b1:b<(aL u fn).blocks.length):Way u v (fun fn k=>k≠sp fn) (Ou u sp) 16385 fn b:=by
 intro es jl e TT Wb;have hV:=H.ok fn f0 f1;have hg:=hV.fn.gr;obtain⟨p1,p2,p3,p4⟩:=H.blk f0 f1 b0 b1;have Qg:=dy (f:=aL u fn) (k:=b) b0 b1;have jc:=List.mem_of_getElem? Qg;have hE:=jE (hV.fn.blk _ jc).fin;have TP:e∈(aD (aL u fn) b).term.to:=by
  rcases Wb with⟨_,q⟩|⟨_,_,_,_,q⟩<;>exact List.mem_of_getElem? q
 have Ty:=hg.db _ jc e TP;obtain⟨t1,t2,t3,t4⟩:=H.blk (b:=e.block) f0 f1 (by omega) Ty.2;rw[if_neg (by omega)]at t1;have hM:=PC hV (H.below fn f0 f1) jc TP;have eJ:=MN hM;obtain⟨o1,o2⟩:=U8 (sp:=sp fn) hg (H.Vz fn f0 f1) Qg TP;obtain⟨M,XP⟩:∃M,M=NX (KK (aL u fn) e) (sp fn):=⟨_,rfl⟩
 have W7:KG (aL u fn) e (sp fn)=M.map Rv:=by rw[XP];rfl
 rw[W7,List.length_map]at eJ;have EZ:(aD (aL u fn) e.block).params=(aD (aL u fn) e.block).params:=rfl;have VJ:(aD (aL u fn) b).term.kind≠1->(aD (aL u fn) b).term.kind≠4->(aD (aL u fn) b).term.arg≠sp fn:=fun q1 q4 z=>by
  have:=H.below fn f0 f1 _ (Mi (hV.pC.arg b.toNat _ Qg q1 q4));omega
 have Um:∀Oc,(∀k,cZ Oc k=Lb M (cZ jl) k)->VS (fun k=>k≠sp fn) (cH es (aD (aL u fn) e.block).params (bN es e.args)) Oc:=fun Oc h=>by
  have Ai:(aD (aL u fn) e.block).params.Nodup:=by
   have h2:=hV.nodup;unfold K4 List.flatMap at h2;have h3:=(List.pairwise_flatten.1 h2).1 _ (List.mem_map.2 ⟨_,fh (f:=aL u fn) (k:=e.block) (by omega) Ty.2,rfl⟩);exact(List.nodup_append.1 h3).1
  have Wv:=fh (f:=aL u fn) (k:=e.block) (by omega) Ty.2;refine R3 Ai hM.len.symm (fun p hp z=>?_) (fun a ha z=>?_) TT (fun k=>by rw[h k,XP];rfl)
  ·have:=H.below fn f0 f1 _ (List.mem_flatMap.2 ⟨_,Wv,List.mem_append_left _ hp⟩);omega
  have:=H.below fn f0 f1 _ (Mi (hV.pC.args b.toNat _ Qg e TP a ha));omega
 have pz:∀e2:Edge,e2.block=e.block->(aD (aL v fn) e2.block).params=[]:=fun e2 q=>by rw[q];exact t1
 by_cases hl:(aD (aL u fn) b).term.to.length=1
 ·obtain⟨x,hx⟩:=List.length_eq_one_iff.1 hl;rw[hx,List.mem_singleton]at TP;subst TP;have RC:MD u sp fn b=M.map Rv:=by
   unfold MD NR;rw[if_pos hl,hx,<-W7];rfl
  have TQ:Ou u sp fn e.block=[]:=o1 hl;have hk:(aD (aL v fn) b).term.kind=1:=by
   unfold PD Qd at p4;by_cases q3:(aD (aL u fn) b).term.kind=3
   ·rw[if_pos ⟨q3,hl⟩]at p4;exact congrArg Prod.fst p4
   rw[if_neg (fun q=>q3 q.1)]at p4;have h1:=congrArg Prod.fst p4;have gT:(aD (aL v fn) b).term.kind=(aD (aL u fn) b).term.kind:=h1;rw[gT];rcases Wb with⟨q,_⟩|⟨q0,q1,q4,_,_⟩
   ·exact q
   have:=hE.kind;have h2:(aD (aL u fn) b).term.kind≠2:=fun q=>by
    have:=hE.cond q;omega
   omega
  obtain⟨e2,g1,g2⟩:=Pd p3 (i:=0) (e:=e) (by rw[hx];rfl);refine⟨M.length+1,QA M jl,by omega,by omega,Um _ (Ov M jl),⟨by omega,Ty.2⟩,fun m f' r' l ho hs wo h1 h2 h3 h4=>?_⟩;have s1:=M0 (v:=v) (fn:=fn) (b:=b) ho hs (r':=r') h1 h2 M (Ou u sp fn b++(aD (aL u fn) b).ins) [] jl l (by rw[p2,RC];simp) (by omega);have ef:({ f' with pos:=(Ou u sp fn b++(aD (aL u fn) b).ins).length,vals:=jl }:Fr)=f':=by
   rw[List.length_append,<-h3,<-h4]
  rw[ef]at s1;have oY:(aD (aL v fn) b).ins[(Ou u sp fn b++(aD (aL u fn) b).ins).length+M.length]?=none:=by
   rw[p2,RC,List.getElem?_eq_none_iff];simp;omega
  have bV:=Qe (v:=v) (fn:=fn) (b:=b) (m:=m) (r':=r') (l:=l-M.length) (e2:=e2) (f':={ f' with pos:=(Ou u sp fn b++(aD (aL u fn) b).ins).length+M.length,vals:=QA M jl }) oY h1 h2 (.inl ⟨hk,g1⟩) (pz e2 g2);rw[g2]at bV;refine s1.trans (.cons ho hs (by show 1<=l-M.length;omega) ?_);show Mach.Steps v 0 (Mach.step v { m.put ({ f' with pos:=(Ou u sp fn b++(aD (aL u fn) b).ins).length+M.length,vals:=QA M jl }::r') (l-M.length)with left:=l-M.length-1 }) _;rw[bV,TQ,show l-((M.length+1:Nat):Int)=l-M.length-1 by omega];exact .refl _
 have RC:MD u sp fn b=[]:=by
  unfold MD NR;rw[if_neg hl]
 have TQ:Ou u sp fn e.block=M.map Rv:=(o2 hl).trans W7;rw[Qd,if_neg (fun q=>hl q.2)]at p4;unfold PD at p4;have k1:(aD (aL v fn) b).term.kind=(aD (aL u fn) b).term.kind:=congrArg Prod.fst p4;have k2:(aD (aL v fn) b).term.arg=(aD (aL u fn) b).term.arg:=congrArg (fun q=>q.2.1) p4;have k3:(aD (aL v fn) b).term.cases=(aD (aL u fn) b).term.cases:=congrArg (fun q=>q.2.2.2) p4;obtain⟨e2,SD,g2⟩:∃e2,Rr (aD (aL v fn) b).term jl e2∧e2.block=e.block:=by
  rcases Wb with⟨q1,_⟩|⟨q0,q1,q4,qk,he⟩
  ·exact absurd (hE.rE q1) hl
  have Wy:=TT _ (VJ q1 q4);obtain⟨e2,g1,g2⟩:=Pd p3 he;refine⟨e2,.inr ⟨by omega,by omega,by omega,by rw[k2,Wy];exact qk,?_⟩,g2⟩;rw[k2,Wy];have mu:dP (aD (aL v fn) b).term (cZ es (aD (aL u fn) b).term.arg).n=dP (aD (aL u fn) b).term (cZ es (aD (aL u fn) b).term.arg).n:=by
   unfold dP;rw[k1,k3]
  rw[mu];exact g1
 refine⟨M.length+1,QA M jl,by omega,by omega,Um _ (Ov M jl),⟨by omega,Ty.2⟩,fun m f' r' l ho hs wo h1 h2 h3 h4=>?_⟩;have oY:(aD (aL v fn) b).ins[f'.pos]?=none:=by
  rw[p2,RC,h3,List.getElem?_eq_none_iff];simp
 have bV:=Qe (v:=v) (fn:=fn) (b:=b) (m:=m) (r':=r') (l:=l) (e2:=e2) (f':=f') oY h1 h2 (by rw[h4];exact SD) (pz e2 g2);rw[g2]at bV;have s1:=M0 (v:=v) (fn:=fn) (b:=e.block) (m:=m) ho hs (r':=r') (f':={ f' with blk:=e.block,pos:=0 }) h1 rfl M [] ((aD (aL u fn) e.block).ins++MD u sp fn e.block) jl (l-1) (by rw[t2,TQ];rfl) (by omega);refine .cons ho hs (by show 1<=l;omega) ?_;show Mach.Steps v M.length (Mach.step v { m.put (f'::r') l with left:=l-1 }) _;rw[bV,TQ,List.length_map,show l-((M.length+1:Nat):Int)=l-1-M.length by omega];have ef:({ f' with blk:=e.block,pos:=0 }:Fr) = { f' with blk:=e.block,pos:=([]:List bE).length,vals:=jl }:=by
  rw[<-h4];rfl
 rw[ef];have el:([]:List bE).length+M.length=M.length:=by simp
 rw[el]at s1;exact s1
theorem Ux.tm(H:Ux u v sp):OM u v (fun fn k=>k≠sp fn) (Ou u sp) (MD u sp) 16385 where
 len:=H.len
 main:=H.main
 zero:=fun fn f0 f1=>by
  have hg:=(H.ok fn f0 f1).fn.gr;have hl:=List.length_pos_iff.2 hg.ne;obtain⟨p1,_⟩:=H.blk (b:=0) f0 f1 (by omega) (by omega);exact⟨T5 hg,by rw[p1,if_pos rfl]⟩
 Py:=fun fn b f0 f1 b0 b1=>by
  have hV:=H.ok fn f0 f1;obtain⟨p1,p2,p3,p4⟩:=H.blk f0 f1 b0 b1;have Qg:=dy (f:=aL u fn) (k:=b) b0 b1;have jc:=List.mem_of_getElem? Qg;have hE:=jE (hV.fn.blk _ jc).fin;have Vp:(aD (aL u fn) b).term.kind=0∨(aD (aL u fn) b).term.kind=4->MD u sp fn b=[]∧PD (aD (aL v fn) b).term=PD (aD (aL u fn) b).term:=fun q=>by
   have hl:¬(aD (aL u fn) b).term.to.length=1:=by
    rw[hE.to q];simp
   refine⟨?_,?_⟩
   ·unfold MD NR;rw[if_neg hl]
   rw[p4,Qd,if_neg (fun z=>hl z.2)]
  exact {
   ins:=p2
   vals:=fun i hi=>by
    obtain⟨n,hn⟩:=List.mem_iff_getElem?.1 hi;refine⟨fun z=>?_,fun a ha z=>?_⟩
    ·have:=H.below fn f0 f1 _ (List.mem_flatMap.2 ⟨_,jc,List.mem_append_right _ (List.mem_map.2 ⟨i,hi,rfl⟩)⟩);omega
    have:=H.below fn f0 f1 _ (Mi (hV.pC.ins b.toNat _ Qg n i hn a ha));omega
   ve:=fun q=>by
    obtain⟨h1,h2⟩:=Vp (.inr q);have h3:(aD (aL v fn) b).term.kind=(aD (aL u fn) b).term.kind:=congrArg Prod.fst h2;exact⟨h1,by rw[h3];exact q,congrArg (fun q=>q.2.2.1) h2⟩
   ret:=fun q=>by
    obtain⟨h1,h2⟩:=Vp (.inl q);have h3:(aD (aL v fn) b).term.kind=(aD (aL u fn) b).term.kind:=congrArg Prod.fst h2;refine⟨h1,by rw[h3];exact q,congrArg (fun q=>q.2.1) h2,fun z=>?_⟩;have:=H.below fn f0 f1 _ (Mi (hV.pC.arg b.toNat _ Qg (by omega) (by omega)));omega }
 ways:=fun fn b f0 f1 b0 b1=>H.XH f0 f1 b0 b1
end
end Go.Proofs.Ytkhnjeblbiocaaa
namespace Go.Proofs.Ytkhnjeblbiocaaa
open Go.Av
theorem RS(l:List Int):(l.map aI).map ae.share=l.map aI:=by
 rw[List.map_map];rfl
theorem N7(l:List Int)(hl:l.length<=2 ^ 43):bw Try.prog 64 [a6 l] (a6 l):=by
 have hs:=RS l;refine zf true 0 Try.func64 Try.ntmps64 ?_;dsimp only[Tmp,TypeId,ax];refine aA (ah ?_);refine SK 0 rfl (fun hn=>?_) ?_
 ·simp -dsimp only[simprocAttr,↓aa,zp];refine b8 (ah ?_);refine cS rfl ?_;refine aA (ah ?_);refine aq ?_;simp -dsimp only[simprocAttr,↓aa,zp,zr,Try.results64];exact⟨trivial,by show ae.aE 1 [] kP.sh=.aE 1 (l.map aI) .sh;rw[hn]⟩
 simp -dsimp only[simprocAttr,↓aa,zp];refine b8 (ah ?_);refine cE rfl ?_;refine cA ?_;refine aX ?_;simp -dsimp only[simprocAttr,↓aa,zp,hs]
 repeat(refine⟨by omega,?_⟩)
 refine ah ?_;refine aq ?_;simp -dsimp only[simprocAttr,↓aa,zp,zr,Try.results64]
structure Cx where
 k:Nat
 bW:Nat
 ids:List Nat
 O:List ak
structure Ci where
 j:Nat
 O:List ak
structure Ce where
 z:Nat
 tid:Nat
 O:List ak
theorem Ql{l:List bE}{j:Nat}{i:bE}(h:l[j]?=some i):(l.take (j+1)).map bE.enc=(l.take j).map bE.enc++[i.enc]:=by
 rw[List.take_add_one,h,List.map_append];rfl
theorem Qx(O:List ak)(C0:List ae):(O++[ak.cells C0]++[ak.spare 0]).set O.length (.cells (C0.set 1 (.aE 4 [] (.tok (O++[ak.cells C0]).length))))=O++[.cells (C0.set 1 (.aE 4 [] (.tok (O.length+1)))),.spare 0]:=by simp
abbrev LR(id:Nat)(b:Block)(l:List ae)(t:ae):List ae:=[a6 b.params,.aE 4 l (.tok id),aI b.term.kind,aI b.term.arg,aI b.term.n,a6 b.term.cases,t]
abbrev KW(id:Nat)(b:Block)(l:List bE)(t:ae):List ae:=[a6 b.params,.aE 4 (l.map bE.enc) (.tok id),aI b.term.kind,aI b.term.arg,aI b.term.n,a6 b.term.cases,t]
theorem K1{n id:Nat}(b:Block)(l:List bE){t:ae}(h:id<n)(ht:t.upto n):aw n (KW id b l t):=⟨⟨az _ _,trivial⟩,⟨bE.ai _ _,h⟩,trivial,trivial,trivial,⟨az _ _,trivial⟩,ht,trivial⟩
theorem RZ(f:Func)(hs:WM f)(cj:f.blocks≠[]):bc Try.prog 41 [.gone,.cells [aI 0,.aE 7 [] .ex]] [f.enc] (WK f):=by
 have eJ:=fun(l:List Int) (h:l.length<=4096)=>N7 l (by omega);have DH:=MO f;have hn:=hs.few;obtain⟨N,hN⟩:∃N,N=f.blocks.length:=⟨_,rfl⟩
 rw[<-hN]at hn;refine KZ hT Try.func41 rfl (by kernel_rfl) (by simp[Try.ntmps41]) ?_;show cc Try.prog _ _ _ ⟨83,_,_⟩;dsimp only[Tmp,TypeId,ax];refine aA (ah ?_);refine aH 1 2 (.ip none [aI f.name,ay f.blocks]) rfl (by simp[ak.aF]) trivial rfl ?_ ?_;rotate_left;simp -dsimp only[simprocAttr,↓aa,zp]
 ·refine aA (ah ?_);refine dd ?_;simp -dsimp only[simprocAttr,↓aa,zp,<-hN];refine ah ?_;show cc Try.prog _ _ _ ⟨_,_,[.gone,.cells [aI 0,.aE 7 [] .ex],.gone,.cells [aI 0,.aE 7 [] .ex],.cells [aI f.name,.aE 7 [] .ex]]⟩;generalize [ak.gone,.cells [aI 0,.aE 7 [] .ex],.gone,.cells [aI 0,.aE 7 [] .ex],.cells [aI f.name,.aE 7 [] .ex]]=O0 at *;refine aj (aU (ι:={X:Cx // X.k<=N∧TA f (f.blocks.take X.k) X.bW X.ids X.O}) (fun X=>⟨83,[(1,.ip none [aI f.name,ay f.blocks]),(2,.mp 3 0),(3,.mp 4 0),(15,ay f.blocks),(16,aI N),(17,aI X.1.k)],X.1.O⟩) (fun X=>N-X.1.k) ⟨⟨0,0,[],O0⟩,by simp,DH⟩ ?_ ?_)
  ·refine zq rfl ?_ ?_;simp -dsimp only[simprocAttr,↓aa,zp,zc]
   all_goals rfl
  rintro⟨⟨k,bW,ids,O⟩,hk,hS⟩;simp only at hk hS;refine aA (ah ?_);apply gW rfl<;>intro h
  ·refine cA ?_;have aZ:k<N:=by simpa using h
   obtain⟨b,hb⟩:∃b,f.blocks[k]?=some b:=⟨f.blocks[k]'(by omega),List.getElem?_eq_getElem _⟩
   have jc:=List.mem_of_getElem? hb;have iz:f.blocks.take (k+1)=f.blocks.take k++[b]:=by rw[List.take_add_one,hb];rfl
   have Vj:=hs.params b jc;have XW:=hs.ins b jc;have UM:=hs.S9 b jc;have IH:=hs.cases b jc;have Wv:=hs.to b jc;have zX:=hs.SX b jc;have QZ:=eJ b.params (by omega);have Ey:=eJ b.term.cases (by omega);have UG:=I hS.r3;have WR:=I hS.out;refine aK (aj ?_);refine aX ?_;simp -dsimp only[simprocAttr,↓aa,zp,hb];refine ah ?_;refine aO 5 ([a6 b.params,bD b.ins,aI b.term.kind,aI b.term.arg,aI b.term.n,a6 b.term.cases,aJ b.term.to]) [(1,.ip none [aI f.name,ay f.blocks]),(2,.mp 3 0),(3,.mp 4 0),(15,ay f.blocks),(16,aI N),(17,aI k),(5,.ip none [a6 b.params,bD b.ins,aI b.term.kind,aI b.term.arg,aI b.term.n,a6 b.term.cases,aJ b.term.to])] (by simp[bu,a7,Go.Av.look]) (by rfl) (by omega) (by simp[bu,a7,Go.Av.look]) ?_ ?_ ?_
   ·exact hS.up
   ·simp[ae.upto,aw,az,Edge.ai,bE.ai,Block.ai,UG,WR]
   refine aA ?_;refine zi QZ ?_;refine⟨ob (by kernel_rfl),?_⟩;refine ah ?_;refine gS O.length 1 (sz:=4) (xs:=[]) (gF _ _) rfl ?_;show cc Try.prog _ _ _ ⟨_,_,(O++[ak.cells [a6 b.params,.aE 4 [] .ex,aI b.term.kind,aI b.term.arg,aI b.term.n,a6 b.term.cases,aJ b.term.to]]++[ak.spare 0]).set O.length (.cells ([a6 b.params,.aE 4 [] .ex,aI b.term.kind,aI b.term.arg,aI b.term.n,a6 b.term.cases,aJ b.term.to].set 1 (.aE 4 [] (.tok (O++[ak.cells [a6 b.params,.aE 4 [] .ex,aI b.term.kind,aI b.term.arg,aI b.term.n,a6 b.term.cases,aJ b.term.to]]).length))))⟩;rw[Qx];have hI:=QM.start hS.up (cs:=KW (O.length+1) b [] (aJ b.term.to)) (K1 b [] (by omega) ⟨Edge.ai _ _,trivial⟩);show cc Try.prog _ _ _ ⟨_,_,O++[ak.cells (KW (O.length+1) b [] (aJ b.term.to)),.spare 0]⟩;generalize O++[ak.cells (KW (O.length+1) b [] (aJ b.term.to)),.spare 0]=O2 at *;refine b8 (ah ?_);refine aj (aU (ι:={X:Ci // X.j<=b.ins.length∧QM O (KW (O.length+1) b (b.ins.take X.j) (aJ b.term.to)) X.j X.O}) (fun X=>⟨83,[(1,.ip none [aI f.name,ay f.blocks]),(2,.mp 3 0),(3,.mp 4 0),(15,ay f.blocks),(16,aI N),(17,aI k),(5,.ip none [a6 b.params,bD b.ins,aI b.term.kind,aI b.term.arg,aI b.term.n,a6 b.term.cases,aJ b.term.to]),(6,.mp O.length 0),(28,bD b.ins),(29,aI b.ins.length),(30,aI X.1.j)],X.1.O⟩) (fun X=>b.ins.length-X.1.j) ⟨⟨0,O2⟩,by simp,hI⟩ ?_ ?_)
   ·refine zq rfl ?_ ?_;simp -dsimp only[simprocAttr,↓aa,zp,zc]
    all_goals rfl
   rintro⟨⟨j,O2⟩,hj,hI⟩;simp only at hj hI;have Yo:=hI.len;refine aA (ah ?_);apply gW rfl<;>intro h
   ·refine cA ?_;have nQ:j<b.ins.length:=by simpa using h
    obtain⟨i,hi⟩:∃i,b.ins[j]?=some i:=⟨b.ins[j],by simp[nQ]⟩
    have W8:=eJ i.args (by have:=UM i (List.mem_of_getElem? hi);omega);have cn:=hI.cell;have fQ:=hI.sp;have iq:(b.ins.take j).length=j:=by rw[List.length_take];omega
    refine aK (aj ?_);refine aX ?_;simp -dsimp only[simprocAttr,↓aa,zp,hi];refine ah ?_;refine aA ?_;refine zi W8 ?_;refine ah ?_;refine aO 8 ([aI i.to,aI i.op,aI i.n,a6 i.args]) [(1,.ip none [aI f.name,ay f.blocks]),(2,.mp 3 0),(3,.mp 4 0),(15,ay f.blocks),(16,aI N),(17,aI k),(5,.ip none [a6 b.params,bD b.ins,aI b.term.kind,aI b.term.arg,aI b.term.n,a6 b.term.cases,aJ b.term.to]),(6,.mp O.length 0),(28,bD b.ins),(29,aI b.ins.length),(30,aI j),(8,.ip none [aI i.to,aI i.op,aI i.n,a6 i.args])] (by simp[bu,a7,Go.Av.look]) (by rfl) (by omega) (by simp[bu,a7,Go.Av.look]) ?_ ?_ ?_
    ·exact hI.up
    ·have TN:=I cn;simp[ae.upto,aw,az,Edge.ai,bE.ai,Block.ai,TN,show 3<O2.length by omega,show 4<O2.length by omega]
    have Lj:∀y,(O2.set (O.length+1) y)[O.length]?=some (.cells (KW (O.length+1) b (b.ins.take j) (aJ b.term.to))):=fun y=>by rw[List.getElem?_set_ne (by omega)];exact cn
    refine j1 ?_;simp -dsimp only[simprocAttr,↓aa,zp,cn,Lj,fQ,KW,List.length_map,iq]
    repeat(refine⟨by omega,?_⟩)
    refine ah ?_;have hIn:=(hI.room (j+1)).one (cs':=KW (O.length+1) b (b.ins.take (j+1)) (aJ b.term.to)) (K1 b _ (by omega) ⟨Edge.ai _ _,trivial⟩);show cc Try.prog _ _ _ ⟨_,_,(O2.set (O.length+1) (ak.spare (j+1))).set O.length (.cells (LR (O.length+1) b ((b.ins.take j).map bE.enc++[i.enc]) (aJ b.term.to)))⟩;rw[<-Ql hi];have hIn:QM O _ _ ((O2.set (O.length+1) (ak.spare (j+1))).set O.length (.cells (LR (O.length+1) b ((b.ins.take (j+1)).map bE.enc) (aJ b.term.to)))):=hIn;generalize (O2.set (O.length+1) (ak.spare (j+1))).set O.length (.cells (LR (O.length+1) b ((b.ins.take (j+1)).map bE.enc) (aJ b.term.to)))=O5 at *;refine dc ?_
    repeat(refine⟨by omega,?_⟩)
    refine fV ?_;refine⟨⟨⟨j+1,O5⟩,nQ,hIn⟩,by simp;omega,?_⟩;refine zq rfl ?_ ?_;simp -dsimp only[simprocAttr,↓aa,zp,zc]
    ·exact Sub.int (by simp)
    rfl
   refine aR ?_;simp -dsimp only[bX,ne_eq,Nat.reduceEqDiff,reduceCtorEq];have NK:b.ins.length<=j:=by
    have:=of_decide_eq_false h;omega
   rw[List.take_of_length_le NK]at hI;have cn:=hI.cell;refine aX ?_;simp -dsimp only[simprocAttr,↓aa,zp,cn];refine .inl ⟨_,Ey,by simp only[aw,ae.upto,zt,zu,az],au ?_⟩;simp -dsimp only[simprocAttr,↓aa,zp,cn];refine ah ?_;have hIn:=hI.one (cs':=KW (O.length+1) b b.ins (aJ b.term.to)) (K1 b _ (by omega) ⟨Edge.ai _ _,trivial⟩);show cc Try.prog _ _ _ ⟨_,_,O2.set O.length (.cells (KW (O.length+1) b b.ins (aJ b.term.to)))⟩;generalize O2.set O.length (.cells (KW (O.length+1) b b.ins (aJ b.term.to)))=O5 at *;have cn:=hIn.cell;refine aX ?_;simp -dsimp only[simprocAttr,↓aa,zp,cn];refine ah ?_;have Yf:=hIn.len;have wy:KW (O.length+1) b b.ins (.aE 2 [] .ex)=[a6 b.params,.aE 4 (b.ins.map bE.enc) (.tok (O.length+1)),aI b.term.kind,aI b.term.arg,aI b.term.n,a6 b.term.cases,.aE 2 [] .ex]:=rfl;refine K8 O.length (KW (O.length+1) b b.ins (.aE 2 [] .ex)) (List.getElem?_set_self (by omega)) rfl (fun d hd=>?_) (fun j c d hc hd=>?_) ?_
   ·simp only[KW,LR,List.mem_cons,List.not_mem_nil,or_false]at hd;rcases hd with rfl|rfl|rfl|rfl|rfl|rfl|rfl<;>trivial
   ·match j,hc,hd with
    | 0,hc,hd=>exact Sub.of_eq (by simpa[KW,LR]using hc.symm.trans hd)
    | 1,hc,hd=>exact Sub.of_eq (by simpa[KW,LR]using hc.symm.trans hd)
    | 2,hc,hd=>exact Sub.of_eq (by simpa[KW,LR]using hc.symm.trans hd)
    | 3,hc,hd=>exact Sub.of_eq (by simpa[KW,LR]using hc.symm.trans hd)
    | 4,hc,hd=>exact Sub.of_eq (by simpa[KW,LR]using hc.symm.trans hd)
    | 5,hc,hd=>exact Sub.of_eq (by simpa[KW,LR]using hc.symm.trans hd)
    | 6,hc,hd =>
     simp only[KW,LR,List.getElem?_cons_succ,List.getElem?_cons_zero,Option.some.injEq]at hc hd;subst hc;subst hd;exact Sub.RK 2
    | j+7,hc,hd=>simp at hc
   rw[List.set_set];have hE:=RP.start (cs:=KW (O.length+1) b b.ins) (hIn.one (cs':=KW (O.length+1) b b.ins (.aE 2 [] .ex)) (K1 b _ (by omega) ⟨trivial,trivial⟩));generalize O5.set O.length (.cells (KW (O.length+1) b b.ins (.aE 2 [] .ex)))=O6 at *;refine b8 (ah ?_);refine aj (aU (ι:={X:Ce // X.z<=b.term.to.length∧RP O (KW (O.length+1) b b.ins) X.tid (b.term.to.take X.z) X.O}) (fun X=>⟨83,[(1,.ip none [aI f.name,ay f.blocks]),(2,.mp 3 0),(3,.mp 4 0),(15,ay f.blocks),(16,aI N),(17,aI k),(5,.ip none [a6 b.params,bD b.ins,aI b.term.kind,aI b.term.arg,aI b.term.n,a6 b.term.cases,aJ b.term.to]),(6,.mp O.length 0),(55,aJ b.term.to),(56,aI b.term.to.length),(57,aI X.1.z)],X.1.O⟩) (fun X=>b.term.to.length-X.1.z) ⟨⟨0,0,O6⟩,by simp,hE⟩ ?_ ?_)
   ·refine zq rfl ?_ ?_;simp -dsimp only[simprocAttr,↓aa,zp,zc]
    all_goals rfl
   rintro⟨⟨z,tid,O3⟩,hz,hE⟩;simp only at hz hE;have Yk:=hE.len;refine aA (ah ?_);apply gW rfl<;>intro h
   ·refine cA ?_;have qt:z<b.term.to.length:=by simpa using h
    obtain⟨e,he⟩:∃e,b.term.to[z]?=some e:=⟨b.term.to[z],by simp[qt]⟩
    have rZ:=eJ e.args (zX e (List.mem_of_getElem? he));have cn:=hE.cell;have Bz:b.term.to.take (z+1)=b.term.to.take z++[e]:=by rw[List.take_add_one,he];rfl
    have iq:(b.term.to.take z).length=z:=by rw[List.length_take];omega
    have TN:=I cn;refine aK (aj ?_);refine aX ?_;simp -dsimp only[simprocAttr,↓aa,zp,he];refine ah ?_;refine aO 10 ([aI e.block,a6 e.args]) [(1,.ip none [aI f.name,ay f.blocks]),(2,.mp 3 0),(3,.mp 4 0),(15,ay f.blocks),(16,aI N),(17,aI k),(5,.ip none [a6 b.params,bD b.ins,aI b.term.kind,aI b.term.arg,aI b.term.n,a6 b.term.cases,aJ b.term.to]),(6,.mp O.length 0),(55,aJ b.term.to),(56,aI b.term.to.length),(57,aI z),(10,.ip none [aI e.block,a6 e.args])] (by simp[bu,a7,Go.Av.look]) (by rfl) (by omega) (by simp[bu,a7,Go.Av.look]) ?_ ?_ ?_
    ·exact hE.up
    ·simp[ae.upto,aw,az,Edge.ai,bE.ai,Block.ai,TN,show 3<O3.length by omega,show 4<O3.length by omega]
    by_cases R8:b.term.to.take z=[]
    ·have UX:LY tid (b.term.to.take z)=.aE 2 [] .ex:=if_pos R8;rw[UX]at cn;have Lj:∀X,(O3++X)[O.length]?=some (.cells (KW (O.length+1) b b.ins (.aE 2 [] .ex))):=fun X=>bJ cn;refine FW ?_;simp -dsimp only[simprocAttr,↓aa,zp,cn,Lj,KW,KJ,KN]
     repeat(refine⟨by omega,?_⟩)
     refine .inl ⟨_,rZ,by simp only[aw,ae.upto,zt,zu,az],au ?_⟩;simp -dsimp only[simprocAttr,↓aa,zp,cn,Lj,KW,KJ,KN]
     repeat(refine⟨by omega,?_⟩)
     refine⟨trivial,?_⟩;refine⟨ob (by kernel_rfl),?_⟩;refine ah ?_;have fX:RP O (KW (O.length+1) b b.ins) O3.length (b.term.to.take z++[e]) ((O3++[ak.cells [aI e.block,a6 e.args]]).set O.length (.cells (KW (O.length+1) b b.ins (.os O3.length 1 2)))):=hE.push e (fun v n hv hn=>K1 b _ (by omega) hv) rfl hE.up (fun _ _=>rfl) (by rw[R8];rfl) (by rw[R8];rfl);show cc Try.prog _ _ _ ⟨_,_,(O3++[ak.cells [aI e.block,a6 e.args]]).set O.length (.cells (KW (O.length+1) b b.ins (.os O3.length 1 2)))⟩;generalize (O3++[ak.cells [aI e.block,a6 e.args]]).set O.length (.cells (KW (O.length+1) b b.ins (.os O3.length 1 2)))=O7 at *;refine dc ?_
     repeat(refine⟨by omega,?_⟩)
     refine fV ?_;refine⟨⟨⟨z+1,O3.length,O7⟩,qt,by rw[Bz];exact fX⟩,by simp;omega,?_⟩;refine zq rfl ?_ ?_;simp -dsimp only[simprocAttr,↓aa,zp,zc]
     ·exact Sub.int (by simp)
     rfl
    obtain⟨o1,o2⟩:=hE.own R8;have UX:LY tid (b.term.to.take z)=.os tid z 2:=by
     unfold LY;rw[if_neg R8,iq]
    rw[UX]at cn;have Lj:∀X,(O3.set tid .gone++X)[O.length]?=some (.cells (KW (O.length+1) b b.ins (.os tid z 2))):=fun X=>bJ (bx cn (by omega));have v8:(K3 (b.term.to.take z)).take (z*2)=K3 (b.term.to.take z):=List.take_of_length_le (by rw[Lv];omega);have oX:=Lv (b.term.to.take z);rw[iq]at oX;refine j1 ?_;simp -dsimp only[simprocAttr,↓aa,zp,cn,Lj,KW,o2,v8,oX,KJ,KN]
    repeat(refine⟨by omega,?_⟩)
    refine .inl ⟨_,rZ,by simp only[aw,ae.upto,zt,zu,az],au ?_⟩;simp -dsimp only[simprocAttr,↓aa,zp,cn,Lj,KW,o2,v8,oX,KJ,KN]
    repeat(refine⟨by omega,?_⟩)
    refine⟨trivial,?_⟩;refine⟨ob (by kernel_rfl),?_⟩;refine ah ?_;have fX:RP O (KW (O.length+1) b b.ins) O3.length (b.term.to.take z++[e]) ((O3.set tid .gone++[ak.cells (K3 (b.term.to.take z)++[aI e.block,a6 e.args])]).set O.length (.cells (KW (O.length+1) b b.ins (.os O3.length (z+1) 2)))):=hE.push (O4:=O3.set tid .gone) e (fun v n hv hn=>K1 b _ (by omega) hv) (List.length_set) (bF hE.up trivial) (fun k hk=>by rw[List.getElem?_set_ne (Ne.symm (hk R8))]) (by rw[Qa]) (by rw[iq]);show cc Try.prog _ _ _ ⟨_,_,(O3.set tid .gone++[ak.cells (K3 (b.term.to.take z)++[aI e.block,a6 e.args])]).set O.length (.cells (KW (O.length+1) b b.ins (.os O3.length (z+1) 2)))⟩;generalize (O3.set tid .gone++[ak.cells (K3 (b.term.to.take z)++[aI e.block,a6 e.args])]).set O.length (.cells (KW (O.length+1) b b.ins (.os O3.length (z+1) 2)))=O7 at *;refine dc ?_
    repeat(refine⟨by omega,?_⟩)
    refine fV ?_;refine⟨⟨⟨z+1,O3.length,O7⟩,qt,by rw[Bz];exact fX⟩,by simp;omega,?_⟩;refine zq rfl ?_ ?_;simp -dsimp only[simprocAttr,↓aa,zp,zc]
    ·exact Sub.int (by simp)
    rfl
   refine aR ?_;simp -dsimp only[bX,ne_eq,Nat.reduceEqDiff,reduceCtorEq];have sV:b.term.to.length<=z:=by
    have:=of_decide_eq_false h;omega
   rw[List.take_of_length_le sV]at hE;have cn:=hE.cell;have Ld:=hS.out;have Q0:=hE.je 4 (by omega);rw[Ld]at Q0;have Q3:(f.blocks.take k).length=k:=by rw[List.length_take];omega
   have iw:=hE.own;have TN:=I cn;by_cases mP:f.blocks.take k=[]
   ·have lU:LV bW (f.blocks.take k)=.aE 7 [] .ex:=if_pos mP;rw[lU]at Q0;have Q1:∀X,(O3++X)[4]?=some (.cells [aI f.name,.aE 7 [] .ex]):=fun X=>bJ Q0;refine FW ?_;simp -dsimp only[simprocAttr,↓aa,zp,cn,KW,Q0,Q1,KJ,KN,Ot,Oq]
    repeat(refine⟨by omega,?_⟩)
    refine⟨trivial,?_⟩;refine ah ?_;have fX:TA f (f.blocks.take k++[b]) O3.length (ids++[tid]) ((O3++[ak.cells (No tid b)]).set 4 (.cells [aI f.name,.os O3.length 1 7])):=hS.snoc (by omega) hE.up (fun k hk _=>hE.je k hk) (fun q=>⟨by have:=(iw q).1;omega,(iw q).2⟩) (by rw[OR hS.cp.li,mP];simp[KL]) (by rw[mP];rfl);show cc Try.prog _ _ _ ⟨_,_,(O3++[ak.cells (No tid b)]).set 4 (.cells [aI f.name,.os O3.length 1 7])⟩;generalize (O3++[ak.cells (No tid b)]).set 4 (.cells [aI f.name,.os O3.length 1 7])=O7 at *;refine dc ?_
    repeat(refine⟨by omega,?_⟩)
    refine fV ?_;refine⟨⟨⟨k+1,O3.length,ids++[tid],O7⟩,aZ,by rw[iz];exact fX⟩,by simp;omega,?_⟩;refine zq rfl ?_ ?_;simp -dsimp only[simprocAttr,↓aa,zp,zc]
    ·exact Sub.int (by simp)
    rfl
   obtain⟨b1,b2⟩:=hS.blk mP;have iI:=I b2;have b3:=hE.je bW iI;rw[b2]at b3;have lU:LV bW (f.blocks.take k)=.os bW k 7:=by
    unfold LV;rw[if_neg mP,Q3]
   rw[lU]at Q0;have Q1:∀X,(O3.set bW .gone++X)[4]?=some (.cells [aI f.name,.os bW k 7]):=fun X=>bJ (bx Q0 (by omega));have S2:=LZ hS.cp.li;rw[Q3]at S2;have v8:(KL ids (f.blocks.take k)).take (k*7)=KL ids (f.blocks.take k):=List.take_of_length_le (by omega);refine j1 ?_;simp -dsimp only[simprocAttr,↓aa,zp,cn,KW,Q0,Q1,b3,v8,S2,KJ,KN,Ot,Oq]
   repeat(refine⟨by omega,?_⟩)
   refine⟨trivial,?_⟩;refine ah ?_;have fX:TA f (f.blocks.take k++[b]) O3.length (ids++[tid]) ((O3.set bW .gone++[ak.cells (KL ids (f.blocks.take k)++No tid b)]).set 4 (.cells [aI f.name,.os O3.length (k+1) 7])):=by
    have:=hS.snoc (O1:=O3.set bW .gone) (b:=b) (tid:=tid) (by rw[List.length_set];omega) (by rw[List.length_set];exact bF hE.up trivial) (fun k hk uD=>by rw[List.getElem?_set_ne (Ne.symm (uD mP))];exact hE.je k hk) (fun q=>⟨by have:=(iw q).1;omega,by rw[List.getElem?_set_ne (by have:=(iw q).1;omega)];exact(iw q).2⟩) (OR hS.cp.li tid b).symm rfl;rw[List.length_set,Q3]at this;exact this
   show cc Try.prog _ _ _ ⟨_,_,(O3.set bW .gone++[ak.cells (KL ids (f.blocks.take k)++No tid b)]).set 4 (.cells [aI f.name,.os O3.length (k+1) 7])⟩;generalize (O3.set bW .gone++[ak.cells (KL ids (f.blocks.take k)++No tid b)]).set 4 (.cells [aI f.name,.os O3.length (k+1) 7])=O7 at *;refine dc ?_
   repeat(refine⟨by omega,?_⟩)
   refine fV ?_;refine⟨⟨⟨k+1,O3.length,ids++[tid],O7⟩,aZ,by rw[iz];exact fX⟩,by simp;omega,?_⟩;refine zq rfl ?_ ?_;simp -dsimp only[simprocAttr,↓aa,zp,zc]
   ·exact Sub.int (by simp)
   rfl
  refine aR ?_;simp -dsimp only[bX,ne_eq,Nat.reduceEqDiff,reduceCtorEq];have Vl:k=N:=by
   have:=of_decide_eq_false h;omega
  subst Vl;rw[List.take_of_length_le (by omega)]at hS;have Ld:=hS.out;have EV:=hS.r3;have lU:LV bW f.blocks=.os bW f.blocks.length 7:=if_neg cj;rw[lU]at Ld;have iI:=I (hS.blk cj).2;have hR:=hS.done cj (cs:=[aI f.name,.os bW f.blocks.length 7]) ⟨trivial,iI,trivial⟩;have UG:=I EV;have UY:(O.set 3 (.cells [aI f.name,.os bW f.blocks.length 7]))[3]?=some (.cells [aI f.name,.os bW f.blocks.length 7]):=List.getElem?_set_self UG;refine aX ?_;simp -dsimp only[simprocAttr,↓aa,zp,Ld,EV];refine ah ?_;refine aq ?_;simp -dsimp only[simprocAttr,↓aa,zp,Li,Try.results41,cX,fv,eC,cL,cf,cy,UY];exact hR
 exact cw.mp rfl rfl
theorem Wm{f:Func}(bB:f.fit)(hc:bo f=0):WM f:=by
 have hw:=dV bB hc;have hg:=hw.gr;have pz:∀b∈f.blocks,b.params.length<=4096:=fun b hb=>by
  have:=(hw.blk b hb).few;omega
 exact {
  few:=hw.few
  params:=pz
  ins:=hw.ins
  S9:=fun b hb i hi=>(nK ((hw.blk b hb).uu i hi)).len
  cases:=fun b hb=>(jE (hw.blk b hb).fin).cases
  to:=fun b hb=>hg.to b hb
  SX:=fun b hb e he=>by
   have h1:=(jE (hw.blk b hb).fin).db e he;rw[h1.2];have hr:=hg.db b hb e he;have hx:f.blocks[e.block.toNat]?=some (f.blocks[e.block.toNat]'(by omega)):=List.getElem?_eq_getElem _;have:aD f e.block=f.blocks[e.block.toNat]'(by omega):=by simp[aD,hx]
   rw[this];exact pz _ (List.getElem_mem _) }
def Rj(f:Func):ae:=if bo f=0 then(if 128<f.blocks.length+(LC f).news.length then .df [.agg [aI 0,.aE 7 [] .sh],aI 2]else .df [(KD f).enc,aI 0])else .df [.agg [aI 0,.aE 7 [] .sh],aI (bo f)]
structure Sx where
 k:Nat
 S:Sp
 bW:Nat
 O:List ak
theorem QF(f:Func)(k n:Nat)(S:Sp):(LG f k n S).news.length<=S.news.length+1:=by
 unfold LG;split
 ·omega
 split
 ·simp
 omega
theorem TL(n:Nat)(l:List (List Int)):aw n (l.map a6):=by
 rw[aY];intro c hc;obtain⟨x,_,rfl⟩:=List.mem_map.1 hc;exact⟨az _ _,trivial⟩
theorem Rl(f:Func)(bB:f.fit):bw Try.prog 21 [f.enc] (Rj f):=by
 have yY:=Rc f bB;unfold Rb at yY;unfold Rj;by_cases hc:bo f=0
 ·rw[if_pos hc]at yY ⊢;have hg:=(dV bB hc).gr;have yZ:=Wm bB hc;have hn:f.blocks.length<=128:=hg.few;have QZ:=RZ f yZ hg.ne;have Xr:=Sr f;obtain⟨R,Tx⟩:∃R,R=LC f:=⟨_,rfl⟩
  have fQ:KD f=⟨f.name,List.zipWith KI f.blocks R.tos++R.news⟩:=by rw[Tx];rfl
  rw[fQ,<-Tx];unfold LC at Tx;refine zf true 0 Try.func21 Try.ntmps21 ?_;dsimp only[Tmp,TypeId,ax];refine aA (ah ?_);refine aH 1 0 (.ip none [aI f.name,ay f.blocks]) rfl (by simp[ak.aF]) trivial rfl ?_ ?_;rotate_left;simp -dsimp only[simprocAttr,↓aa,zp]
  ·refine aA ?_;refine zi yY ?_;refine ah ?_;refine b8 (ah ?_);apply aP rfl<;>intro h
   ·cases h
   refine cA ?_;refine aK (NF ⟨false,false⟩ hT 1 rfl rfl rfl (by simp) ?_);simp -dsimp only[simprocAttr,↓aa,zp];refine⟨WK f,NG rfl (by simp) rfl rfl QZ,fun r O' hR=>?_⟩;obtain⟨ids,bW,hr,bC,EI,gP,⟨RA,W3⟩,Xc,cj⟩:=hR;subst hr;simp -dsimp only[simprocAttr,↓aa,zp];refine ah ?_;have DH:=SC.start bC gP ⟨RA,W3⟩ Xc cj;generalize O'++[ak.cells [aI f.name,.os bW f.blocks.length 7]]=O0 at *;generalize O'.length=X0 at *;refine b8 (ah ?_);refine aj (aU (ι:={X:Sx // X.k<=f.blocks.length∧SC f ids X0 X.S X.bW X.O∧R=U' f (f.blocks.length-X.k) X.k X.S∧X.S.news.length<=X.k*257∧∀(j:Nat) b,X.k<=j->f.blocks[j]?=some b->X.S.tos[j]?=some b.term.to}) (fun X=>⟨78,[(1,.ip none [aI f.name,ay f.blocks]),(2,.mp 1 0),(4,.aE 1 ((Ls f).map a6) .sh),(6,.mp X0 0),(23,ay f.blocks),(24,aI f.blocks.length),(25,aI X.1.k)],X.1.O⟩) (fun X=>f.blocks.length-X.1.k) ⟨⟨0,PW f,bW,O0⟩,by simp,DH,by simpa using Tx,by simp[PW],fun j b _ h=>by simp[PW,h]⟩ ?_ ?_)
   ·refine zq rfl ?_ ?_;simp -dsimp only[simprocAttr,↓aa,zp,zc]
    all_goals rfl
   rintro⟨⟨k,S,bW,O⟩,hk,hS,cO,WB,cP⟩;simp only at hk hS cO WB cP;refine aA (ah ?_);apply gW rfl<;>intro h
   ·refine cA ?_;have aZ:k<f.blocks.length:=by simpa using h
    obtain⟨b,hb⟩:∃b,f.blocks[k]?=some b:=⟨_,List.getElem?_eq_getElem aZ⟩
    obtain⟨id,fA⟩:∃id,ids[k]?=some id:=⟨ids[k]'(by rw[hS.li];omega),List.getElem?_eq_getElem _⟩
    have TO:aD f (k:Int)=b:=by simp[aD,hb]
    have m7:L5 f (k:Int)=b.term.to:=by unfold L5;rw[TO]
    have Wv:=hg.to b (List.mem_of_getElem? hb);have zX:=hg.db b (List.mem_of_getElem? hb);rw[show f.blocks.length-k=(f.blocks.length-(k+1))+1 by omega]at cO;simp only[U']at cO;rw[m7]at cO;obtain⟨S1,FL⟩:∃S1,S1=Up f k b.term.to.length 0 S:=⟨_,rfl⟩
    rw[<-FL]at cO;have Ld:=hS.out;have iI:=hS.bl.2;have cn:=TG (T:=ao (S.news.map Block.enc)) fA hb;have eJ:(KL ids f.blocks++ao (S.news.map Block.enc)).length=(f.blocks.length+S.news.length)*7:=by
     rw[List.length_append,LZ hS.li,L7];omega
    refine aK (aj ?_);refine aA (ah ?_);by_cases y0:b.term.to=[]
    ·have By:Mp id b.term.to=.aE 2 [] .sh:=if_pos y0;rw[By]at cn;refine aX ?_;simp -dsimp only[simprocAttr,↓aa,zp,Ld,iI,cn,eJ,Int.toNat_natCast]
     repeat(refine⟨by omega,?_⟩)
     refine ah ?_;refine aA (ah ?_);refine aj (aU (ι:=Unit) (fun _=>⟨78,[(1,.ip none [aI f.name,ay f.blocks]),(2,.mp 1 0),(4,.aE 1 ((Ls f).map a6) .sh),(6,.mp X0 0),(23,ay f.blocks),(24,aI f.blocks.length),(25,aI k),(36,aI 0),(37,aI 0)],O⟩) (fun _=>0) () ?_ ?_)
     ·refine zq rfl ?_ ?_;simp -dsimp only[simprocAttr,↓aa,zp,zc]
      all_goals rfl
     rintro⟨⟩;refine aA (ah ?_);refine Iv rfl ?_;refine aR ?_;simp -dsimp only[bX,ne_eq,Nat.reduceEqDiff,reduceCtorEq];have W0:S1=S:=by
      rw[FL,y0];rfl
     rw[W0]at cO;refine dc ?_
     repeat(refine⟨by omega,?_⟩)
     refine fV ?_;refine⟨⟨⟨k+1,S,bW,O⟩,aZ,hS,cO,by simp only;omega,fun j b hj=>cP j b (by simp only at hj;omega)⟩,by simp;omega,?_⟩;refine zq rfl ?_ ?_;simp -dsimp only[simprocAttr,↓aa,zp,zc]
     ·exact Sub.int (by simp)
     rfl
    have By:Mp id b.term.to=.os id b.term.to.length 2:=if_neg y0;rw[By]at cn;refine aX ?_;simp -dsimp only[simprocAttr,↓aa,zp,Ld,iI,cn,eJ,Int.toNat_natCast]
    repeat(refine⟨by omega,?_⟩)
    refine ah ?_;refine aA (ah ?_);refine aj (aU (ι:={X:Sx // X.k<=b.term.to.length∧SC f ids X0 X.S X.bW X.O∧S1=Up f k (b.term.to.length-X.k) X.k X.S∧X.S.news.length<=k*257+X.k∧(∀(j:Nat) c,k+1<=j->f.blocks[j]?=some c->X.S.tos[j]?=some c.term.to)∧∃l,X.S.tos[k]?=some l∧l.length=b.term.to.length∧l.drop X.k=b.term.to.drop X.k}) (fun X=>⟨78,[(1,.ip none [aI f.name,ay f.blocks]),(2,.mp 1 0),(4,.aE 1 ((Ls f).map a6) .sh),(6,.mp X0 0),(23,ay f.blocks),(24,aI f.blocks.length),(25,aI k),(8,.os id b.term.to.length 2),(35,.os id b.term.to.length 2),(36,aI b.term.to.length),(37,aI X.1.k)],X.1.O⟩) (fun X=>b.term.to.length-X.1.k) ⟨⟨0,S,bW,O⟩,by simp,hS,by simpa using FL,by simpa using WB,fun j c hj=>cP j c (by omega),b.term.to,cP k b (Nat.le_refl _) hb,rfl,rfl⟩ ?_ ?_)
    ·refine zq rfl ?_ ?_;simp -dsimp only[simprocAttr,↓aa,zp,zc]
     all_goals rfl
    rintro⟨⟨n,S,bW,O⟩,hz,hS,gp,WB,cP,l,hl,wo,VX⟩;simp only at hz hS gp WB cP hl VX;refine aA (ah ?_);apply gW rfl<;>intro h
    ·refine cA ?_;have qt:n<b.term.to.length:=by simpa using h
     obtain⟨x,hx⟩:∃x,b.term.to[n]?=some x:=⟨b.term.to[n],by simp[qt]⟩
     have UT:l[n]?=some x:=by
      have h1:(l.drop n)[0]?=(b.term.to.drop n)[0]?:=by rw[VX]
      rw[List.getElem?_drop,List.getElem?_drop,Nat.add_zero,hx]at h1;exact h1
     have vn:=zX x (List.mem_of_getElem? hx);obtain⟨o1,o2,o3,o4⟩:=hS.own k id b l fA hb hl y0;have h2:=Rz UT;have oX:=Lv l;have sP:=I o4;have Ul:=I hS.out;have UH:=I hS.bl.2;have Tw:=I hS.r1;rw[show b.term.to.length-n=(b.term.to.length-(n+1))+1 by omega]at gp;simp only[Up]at gp;obtain⟨p,hp⟩:∃p,p=L' f x.block:=⟨_,rfl⟩
     have X8:(Ls f)[x.block.toNat]?=some p:=by
      rw[hp];unfold L';rw[List.getElem?_eq_getElem (by rw[Xr];omega)];rfl
     have dD:LG f k n S=if LO f k x then⟨S.tos.set k (l.set n ⟨((f.blocks.length+S.news.length:Nat):Int),[]⟩),S.news++[KF x]⟩else S:=by
      unfold LG;rw[m7,hx,hl];rfl
     have S3:LO f k x=(decide (2<=b.term.to.length)&&decide (2<=p.length)):=by
      unfold LO;rw[TO,hp]
     rw[dD]at gp;have tK:=QF f k n S;refine aK (aj ?_);refine aX ?_;simp -dsimp only[simprocAttr,↓aa,zp,o4,h2,oX]
     repeat(refine⟨by omega,?_⟩)
     refine ah ?_;refine aO 10 ([aI x.block,a6 x.args]) [(1,.ip none [aI f.name,ay f.blocks]),(2,.mp 1 0),(4,.aE 1 ((Ls f).map a6) .sh),(6,.mp X0 0),(23,ay f.blocks),(24,aI f.blocks.length),(25,aI k),(8,.os id b.term.to.length 2),(35,.os id b.term.to.length 2),(36,aI b.term.to.length),(37,aI n),(9,aI n),(10,.ip none [aI x.block,a6 x.args])] (by simp[bu,a7,Go.Av.look]) (by rfl) (by omega) (by simp[bu,a7,Go.Av.look]) ?_ ?_ ?_
     ·exact hS.up
     ·simp[ae.upto,aw,az,Edge.ai,bE.ai,Block.ai,TL,Ul,UH,Tw,sP]
     by_cases c1:2<=b.term.to.length
     ·have g1:decide ((b.term.to.length:Int)<2)=false:=decide_eq_false (by omega);by_cases c2:2<=p.length
      ·have g2:decide ((p.length:Int)<2)=false:=decide_eq_false (by omega);rw[if_pos (by rw[S3,decide_eq_true c1,decide_eq_true c2];rfl)]at gp;refine dd ?_;simp -dsimp only[simprocAttr,↓aa,zp,g1,X8,g2]
       repeat(refine⟨by omega,?_⟩)
       refine ah ?_;apply aP rfl<;>intro h
       ·cases h
       refine cA ?_;have Ld:=hS.out;refine aX ?_;simp -dsimp only[simprocAttr,↓aa,zp,Ld,o4,oX,Int.toNat_natCast]
       repeat(refine⟨by omega,?_⟩)
       refine ah ?_;have kC:=fun(j:Nat) c d=>Mb (O:=O.set id (.cells (aS (K3 l) (n*2) [aI ((f.blocks.length+S.news.length:Nat):Int),.aE 1 [] .ex]))) (cs:=K3 l) (xs:=[aI ((f.blocks.length+S.news.length:Nat):Int),.aE 1 [] .ex]) (ys:=[aI ((f.blocks.length+S.news.length:Nat):Int),a6 []]) (i:=n*2) rfl (by rw[oX];simp;omega) (fun j c d h1 h2=>by
        match j,h1,h2 with
        | 0,h1,h2=>exact Sub.of_eq (by simpa using h1.symm.trans h2)
        | 1,h1,h2 =>
         simp only[List.getElem?_cons_succ,List.getElem?_cons_zero,Option.some.injEq]at h1 h2;subst h1;subst h2;exact fun _ _ _ h=>h.js
        | j+2,h1,h2=>simp at h1) j c d
       have fX:=Ry (es:=l) (n:=n) (by omega) ⟨((f.blocks.length+S.news.length:Nat):Int),[]⟩;have RD:aS (K3 l) (n*2) [aI ((f.blocks.length+S.news.length:Nat):Int),a6 []]=K3 (l.set n ⟨((f.blocks.length+S.news.length:Nat):Int),[]⟩):=fX;rw[RD]at kC;refine K8 id (K3 (l.set n ⟨((f.blocks.length+S.news.length:Nat):Int),[]⟩)) (List.getElem?_set_self sP) (by rw[<-RD,ct (by rw[oX];simp;omega),ct (by rw[oX];simp;omega)]) (N' _) kC ?_;rw[List.set_set];have Ws:=hS.QW fA hb hl y0 (m:=l.set n ⟨((f.blocks.length+S.news.length:Nat):Int),[]⟩) (List.length_set);generalize O.set id (.cells (K3 (l.set n ⟨((f.blocks.length+S.news.length:Nat):Int),[]⟩)))=O5 at *;have Un:=Ws.out;have W5:=Ws.bl.2;have X':=Ws.xb;have UW:∀Y,(O5.set bW .gone++Y)[X0]?=some (.cells [aI f.name,.os bW (f.blocks.length+S.news.length) 7]):=fun Y=>bJ (bx Un X');have Xa:(KL ids f.blocks++ao (S.news.map Block.enc)).length=(f.blocks.length+S.news.length)*7:=by
        rw[List.length_append,LZ hS.li,L7];omega
       have v8:(KL ids f.blocks++ao (S.news.map Block.enc)).take ((f.blocks.length+S.news.length)*7)=KL ids f.blocks++ao (S.news.map Block.enc):=List.take_of_length_le (by omega);refine j1 ?_;simp -dsimp only[simprocAttr,↓aa,zp,Un,UW,W5,Xa,v8,KJ,KN]
       repeat(refine⟨by omega,?_⟩)
       refine⟨trivial,?_⟩;refine ah ?_;have Yu:SC f ids X0 ⟨S.tos.set k (l.set n ⟨((f.blocks.length+S.news.length:Nat):Int),[]⟩),S.news++[KF x]⟩ O5.length ((O5.set bW .gone++[ak.cells (KL ids f.blocks++(ao (S.news.map Block.enc)++[.aE 1 [] .sh,.aE 4 [] .sh,aI 1,aI 0,aI 0,.aE 1 [] .sh,.aE 2 [x.enc] .sh]))]).set X0 (.cells [aI f.name,.os O5.length (f.blocks.length+S.news.length+1) 7])):=by
        have:=Ws.block (KF x) rfl rfl;rw[List.append_assoc]at this;exact this
       show cc Try.prog _ _ _ ⟨_,_,(O5.set bW .gone++[ak.cells (KL ids f.blocks++(ao (S.news.map Block.enc)++[.aE 1 [] .sh,.aE 4 [] .sh,aI 1,aI 0,aI 0,.aE 1 [] .sh,.aE 2 [x.enc] .sh]))]).set X0 (.cells [aI f.name,.os O5.length (f.blocks.length+S.news.length+1) 7])⟩;generalize (O5.set bW .gone++[ak.cells (KL ids f.blocks++(ao (S.news.map Block.enc)++[.aE 1 [] .sh,.aE 4 [] .sh,aI 1,aI 0,aI 0,.aE 1 [] .sh,.aE 2 [x.enc] .sh]))]).set X0 (.cells [aI f.name,.os O5.length (f.blocks.length+S.news.length+1) 7])=O7 at *;refine dc ?_
       repeat(refine⟨by omega,?_⟩)
       refine fV ?_;refine⟨⟨⟨n+1,_,O5.length,O7⟩,qt,Yu,gp,by simp only[List.length_append,List.length_singleton];omega,fun j c hj hc=>by
        simp only at hj ⊢;rw[List.getElem?_set_ne (by omega)];exact cP j c hj hc,l.set n ⟨((f.blocks.length+S.news.length:Nat):Int),[]⟩,by simp only;rw[List.getElem?_set_self (I hl)],by rw[List.length_set,wo],by
        simp only;rw[List.drop_set_of_lt (by omega),<-List.drop_drop,VX,List.drop_drop]⟩,by simp;omega,?_⟩
       refine zq rfl ?_ ?_;simp -dsimp only[simprocAttr,↓aa,zp,zc]
       ·exact Sub.int (by simp)
       rfl
      have g2:decide ((p.length:Int)<2)=true:=decide_eq_true (by omega);rw[if_neg (by rw[S3,decide_eq_false c2];simp)]at gp;refine dd ?_;simp -dsimp only[simprocAttr,↓aa,zp,g1,X8,g2]
      repeat(refine⟨by omega,?_⟩)
      refine ah ?_;refine cS rfl ?_;refine aR ?_;simp -dsimp only[bX,ne_eq,Nat.reduceEqDiff,reduceCtorEq];refine dc ?_
      repeat(refine⟨by omega,?_⟩)
      refine fV ?_;refine⟨⟨⟨n+1,S,bW,O⟩,qt,hS,by simp only;rw[show b.term.to.length-(n+1)=b.term.to.length-(n+1) from rfl];exact gp,by simp only;omega,cP,l,hl,wo,by simp only;rw[<-List.drop_drop,VX,List.drop_drop]⟩,by simp;omega,?_⟩;refine zq rfl ?_ ?_;simp -dsimp only[simprocAttr,↓aa,zp,zc]
      ·exact Sub.int (by simp)
      rfl
     have g1:decide ((b.term.to.length:Int)<2)=true:=decide_eq_true (by omega);rw[if_neg (by rw[S3,decide_eq_false c1];simp)]at gp;refine dd ?_;simp -dsimp only[simprocAttr,↓aa,zp,g1]
     repeat(refine⟨by omega,?_⟩)
     refine ah ?_;refine cS rfl ?_;refine aR ?_;simp -dsimp only[bX,ne_eq,Nat.reduceEqDiff,reduceCtorEq];refine dc ?_
     repeat(refine⟨by omega,?_⟩)
     refine fV ?_;refine⟨⟨⟨n+1,S,bW,O⟩,qt,hS,by simp only;rw[show b.term.to.length-(n+1)=b.term.to.length-(n+1) from rfl];exact gp,by simp only;omega,cP,l,hl,wo,by simp only;rw[<-List.drop_drop,VX,List.drop_drop]⟩,by simp;omega,?_⟩;refine zq rfl ?_ ?_;simp -dsimp only[simprocAttr,↓aa,zp,zc]
     ·exact Sub.int (by simp)
     rfl
    refine aR ?_;simp -dsimp only[bX,ne_eq,Nat.reduceEqDiff,reduceCtorEq];have sV:b.term.to.length<=n:=by
     have:=of_decide_eq_false h;omega
    rw[show b.term.to.length-n=0 by omega]at gp;simp only[Up]at gp;subst gp;refine dc ?_
    repeat(refine⟨by omega,?_⟩)
    refine fV ?_;refine⟨⟨⟨k+1,S1,bW,O⟩,aZ,hS,cO,by simp only;omega,cP⟩,by simp;omega,?_⟩;refine zq rfl ?_ ?_;simp -dsimp only[simprocAttr,↓aa,zp,zc]
    ·exact Sub.int (by simp)
    rfl
   refine aR ?_;simp -dsimp only[bX,ne_eq,Nat.reduceEqDiff,reduceCtorEq];have Vl:f.blocks.length<=k:=by
    have:=of_decide_eq_false h;omega
   rw[show f.blocks.length-k=0 by omega]at cO;simp only[U']at cO;subst cO;have Ld:=hS.out;have oZ:=hS.r1;have Tw:=I oZ;have uL:=hS.x5;by_cases hm:128<f.blocks.length+R.news.length
   ·have g1:decide ((128:Int)<((f.blocks.length+R.news.length:Nat):Int))=true:=decide_eq_true (by omega);rw[if_pos hm];refine dd ?_;simp -dsimp only[simprocAttr,↓aa,zp,Ld,g1];refine ah ?_;refine cS rfl ?_;have Xu:(O.set 1 (.cells [aI 0,.aE 7 [] .ex]))[1]?=some (.cells [aI 0,.aE 7 [] .ex]):=List.getElem?_set_self Tw;refine aX ?_;simp -dsimp only[simprocAttr,↓aa,zp,oZ];refine ah ?_;refine aq ?_;simp -dsimp only[simprocAttr,↓aa,zp,zr,Try.results21,Xu];simp[aw,ae.upto]
   have g1:decide ((128:Int)<((f.blocks.length+R.news.length:Nat):Int))=false:=decide_eq_false (by omega);rw[if_neg hm];have sV:(List.zipWith KI f.blocks R.tos).length=f.blocks.length:=by
    rw[List.length_zipWith,hS.w.len];omega
   have YD:=P3 (ids:=ids) hS.w.len hS.w.each;have oX:∀(j id:Nat) (c:Block),ids[j]?=some id->(List.zipWith KI f.blocks R.tos)[j]?=some c->c.term.to≠[]->∃b l,f.blocks[j]?=some b∧R.tos[j]?=some l∧c=KI b l∧b.term.to≠[]:=fun j id c h1 h2 h3=>by
    rw[List.getElem?_zipWith]at h2;cases hb:f.blocks[j]? with
    | none=>rw[hb]at h2;cases h2
    | some b =>
     cases hl:R.tos[j]? with
     | none=>rw[hb,hl]at h2;cases h2
     | some l =>
      rw[hb,hl]at h2;simp only[Option.some.injEq]at h2;refine⟨b,l,rfl,rfl,h2.symm,fun q=>h3 ?_⟩;have:=hS.w.each j b l hb hl;rw[q]at this;rw[<-h2];exact List.length_eq_zero_iff.1 this
   refine dd ?_;simp -dsimp only[simprocAttr,↓aa,zp,Ld,g1];refine ah ?_;refine cE rfl ?_;refine cA ?_;refine aX ?_;simp -dsimp only[simprocAttr,↓aa,zp,Ld,oZ];refine ah ?_;refine ND (ids:=ids) (bs:=List.zipWith KI f.blocks R.tos) (T:=R.news) (X:=1) (oid:=bW) (name:=f.name) (by rw[sV,hS.li]) (by have:=hS.bl.1;omega) (by rw[sV];exact List.getElem?_set_self Tw) (by rw[YD,List.getElem?_set_ne (by have:=hS.bl.1;omega)];exact hS.bl.2) (fun j id c h1 h2 h3=>?_) (fun i j id c d h1 h2 h3 h4 h5 h6=>?_) fun O1 dW S0=>?_
   ·obtain⟨b,l,q1,q2,q3,q4⟩:=oX j id c h1 h2 h3;obtain⟨o1,o2,o3,o4⟩:=hS.own j id b l h1 q1 q2 q4;exact⟨o2,by omega,by rw[List.getElem?_set_ne (by omega),q3];exact o4⟩
   ·obtain⟨b,l,q1,q2,q3,q4⟩:=oX i id c h1 h3 h5;obtain⟨b',l',r1,r2,r3,r4⟩:=oX j id d h2 h4 h6;exact hS.inj i j id b b' h1 h2 q1 r1 q4 r4
   generalize List.zipWith KI f.blocks R.tos++R.news=GB at S0 ⊢;refine aq ?_;simp -dsimp only[simprocAttr,↓aa,zp,zr,Try.results21,S0];refine⟨?_,rfl⟩;simp[aw,ae.upto,az,Block.ai]
  exact cw.mp rfl rfl
 rw[if_neg hc]at yY ⊢;obtain⟨e,he⟩:∃e,e=bo f:=⟨_,rfl⟩
 rw[<-he]at hc yY ⊢;have jn:decide (e=0)=false:=decide_eq_false hc;refine zf true 0 Try.func21 Try.ntmps21 ?_;dsimp only[Tmp,TypeId,ax];refine aA (ah ?_);refine aH 1 0 (.ip none [aI f.name,ay f.blocks]) rfl (by simp[ak.aF]) trivial rfl ?_ ?_;rotate_left;simp -dsimp only[simprocAttr,↓aa,zp]
 ·refine aA ?_;refine zi yY ?_;refine ah ?_;refine dd ?_;simp -dsimp only[simprocAttr,↓aa,zp,jn];refine ah ?_;refine cS rfl ?_;refine aA (ah ?_);refine aq ?_;simp -dsimp only[simprocAttr,↓aa,zp,zr,Try.results21];simp[aw,ae.upto]
 exact cw.mp rfl rfl
theorem PA{O:List ak}(bC:∀o∈O,o.upto O.length)(g:Func)(e:Edge)(spare:Int)(hW:WL g e spare)(o5:(NX (KK g e) spare).length<=2 ^ 40) :
  bc Try.prog 65 O [g.enc,e.enc,aI spare] fun r O1=>r=.aE 4 ((KG g e spare).map bE.enc) (.tok (O.length+3))∧O1=O++[.gone,.gone,.spare (KK g e).length,.spare (KG g e spare).length]:=by
 obtain⟨b0,b1⟩:=hW.blk;have hB:=dy (f:=g) (k:=e.block) b0 (by omega);have hlen:=hW.len;have wj:=hW.few;have uF:(KK g e).length=(aD g e.block).params.length:=by
  unfold KK;rw[List.length_zip];omega
 have Y1:bw Try.prog 25 [.aE 2 ((KK g e).map eM) .sh,aI spare] (.df [.aE 2 ((NX (KK g e) spare).map eM) .sh,aI 0]):=by
  by_cases cj:KK g e=[]
  ·rw[cj];exact Ua spare
  exact Tn _ spare cj (by omega) hW.pos hW.XJ hW.sp
 unfold KG;rw[List.length_map];have ru:∀(k:Nat) (v a:Int),(aD g e.block).params[k]?=some v->e.args[k]?=some a->(KK g e).take (k+1)=(KK g e).take k++[(v,a)]:=fun k v a h1 h2=>by
  rw[List.take_add_one];congr 1;unfold KK;have hz:((aD g e.block).params.zip e.args)[k]?=some (v,a):=List.getElem?_zip_eq_some.2 ⟨h1,h2⟩;rw[hz];rfl
 generalize NX (KK g e) spare=out at *;generalize KK g e=M at *;generalize aD g e.block=B at *;clear hW;refine KZ hT Try.func65 rfl (by kernel_rfl) (by simp[Try.ntmps65]) ?_;show cc Try.prog _ _ _ ⟨60,_,_⟩;dsimp only[Tmp,TypeId,ax];refine aA (ah ?_);refine bY 3 0 ([aI g.name,ay g.blocks]) rfl rfl (by rfl) ?_;simp -dsimp only[simprocAttr,↓aa,zp];refine bY 4 1 ([aI e.block,a6 e.args]) rfl rfl (by rfl) ?_;simp -dsimp only[simprocAttr,↓aa,zp];refine aA (ah ?_);refine sr 7 rfl ?_;simp -dsimp only[simprocAttr,↓aa,zp];show cc Try.prog _ _ _ ⟨_,_,O++[.gone,.gone,.spare 0]⟩;refine dd ?_;simp -dsimp only[simprocAttr,↓aa,zp,hB]
 repeat(refine⟨by omega,?_⟩)
 refine ah ?_;refine aj (aU (ι:={k:Nat // k<=B.params.length}) (fun k=>⟨60,[(2,aI spare),(4,.ip none [aI e.block,a6 e.args]),(7,.aE 2 ((M.take k.1).map eM) (.tok (O.length+2))),(19,a6 B.params),(20,aI B.params.length),(21,aI k.1)],O++[.gone,.gone,.spare (M.take k.1).length]⟩) (fun k=>B.params.length-k.1) ⟨0,by omega⟩ ?_ ?_)
 ·refine zq rfl ?_ ?_;simp -dsimp only[simprocAttr,↓aa,zp,zc]
  all_goals rfl
 rintro⟨k,hk⟩;refine aA (ah ?_);apply gW rfl<;>intro h
 ·refine cA ?_;have aZ:k<B.params.length:=by simpa using h
  obtain⟨v,hv⟩:∃v,B.params[k]?=some v:=⟨B.params[k],List.getElem?_eq_getElem aZ⟩
  obtain⟨a,ha⟩:∃a,e.args[k]?=some a:=⟨e.args[k]'(by omega),List.getElem?_eq_getElem _⟩
  have iz:=ru k v a hv ha;have iq:(M.take k).length=k:=by rw[List.length_take];omega
  have Of:(M.take k).map eM++[.agg [aI v,aI a]]=(M.take (k+1)).map eM:=by rw[iz];simp
  have U5:(M.take (k+1)).length=k+1:=by rw[List.length_take];omega
  refine aK (aj ?_);refine aX ?_;simp -dsimp only[simprocAttr,↓aa,zp,hv]
  repeat(refine⟨by omega,?_⟩)
  refine ah ?_;refine j1 ?_;simp -dsimp only[simprocAttr,↓aa,zp,ha,iq]
  repeat(refine⟨by omega,?_⟩)
  refine ah ?_;rw[Of];refine dc ?_
  repeat(refine⟨by omega,?_⟩)
  refine fV ?_;refine⟨⟨k+1,aZ⟩,by show B.params.length-(k+1)<B.params.length-k;omega,?_⟩;refine zq rfl ?_ ?_;simp -dsimp only[simprocAttr,↓aa,zp,zc]
  ·exact Sub.int (by simp)
  show O++[ak.gone,ak.gone,ak.spare _]=O++[ak.gone,ak.gone,ak.spare _]
  rw[U5]
 refine aR ?_;simp -dsimp only[bX,ne_eq,Nat.reduceEqDiff,reduceCtorEq];have m6:k=B.params.length:=by
  have:=of_decide_eq_false h;omega
 subst m6;rw[List.take_of_length_le (by omega)];refine aA ?_;refine .inl ⟨_,Y1,by simp only[aw,ae.upto,zt,zu,az,K2],au ?_⟩;simp -dsimp only[simprocAttr,↓aa,zp];refine ah ?_;refine aA (ah ?_);refine sr 10 rfl ?_;simp -dsimp only[simprocAttr,↓aa,zp];show cc Try.prog _ _ _ ⟨_,_,O++[.gone,.gone,.spare M.length,.spare 0]⟩;refine b8 (ah ?_);refine aj (aU (ι:={k:Nat // k<=out.length}) (fun k=>⟨60,[(10,.aE 4 (((out.take k.1).map Rv).map bE.enc) (.tok (O.length+3))),(43,.aE 2 (out.map eM) .sh),(44,aI out.length),(45,aI k.1)],O++[.gone,.gone,.spare M.length,.spare (out.take k.1).length]⟩) (fun k=>out.length-k.1) ⟨0,by omega⟩ ?_ ?_)
 ·refine zq rfl ?_ ?_;simp -dsimp only[simprocAttr,↓aa,zp,zc]
  all_goals rfl
 rintro⟨k,hk⟩;refine aA (ah ?_);apply gW rfl<;>intro h
 ·refine cA ?_;have aZ:k<out.length:=by simpa using h
  obtain⟨x,hx⟩:∃x,out[k]?=some x:=⟨out[k],List.getElem?_eq_getElem aZ⟩
  have iz:out.take (k+1)=out.take k++[x]:=by rw[List.take_add_one,hx];rfl
  have iq:(out.take k).length=k:=by rw[List.length_take];omega
  have U5:(out.take (k+1)).length=k+1:=by rw[List.length_take];omega
  have Of:((out.take k).map Rv).map bE.enc++[.agg [aI x.1,aI 100,aI 0,.aE 1 [aI x.2] .sh]]=((out.take (k+1)).map Rv).map bE.enc:=by
   rw[iz];simp;rfl
  refine aK (aj ?_);refine aX ?_;simp -dsimp only[simprocAttr,↓aa,zp,hx]
  repeat(refine⟨by omega,?_⟩)
  refine ah ?_;refine j1 ?_;simp -dsimp only[simprocAttr,↓aa,zp,iq]
  repeat(refine⟨by omega,?_⟩)
  refine ah ?_;rw[Of];have uK:∀o∈O++[ak.gone,.gone,.spare M.length,.spare (k+1)],o.upto (O.length+4):=fun o ho=>by
   rcases List.mem_append.1 ho with q|q
   ·exact ak.cu (by omega) (bC o q)
   simp only[List.mem_cons,List.not_mem_nil,or_false]at q;rcases q with rfl|rfl|rfl|rfl<;>trivial
  refine bT (O.length+4) [(10,.aE 4 (((out.take (k+1)).map Rv).map bE.enc) (.tok (O.length+3))),(43,.aE 2 (out.map eM) .sh),(44,aI out.length),(45,aI k)] (by simp) (by omega) (O++[.gone,.gone,.spare M.length,.spare (k+1)]) ?_ uK ?_ ?_ ?_
  ·simp[List.take_append];exact List.take_of_length_le (by omega)
  ·simp[gj,St.get,bu,a7,Go.Av.look,Sub.refl]
  ·intro p hp;simp only[List.mem_cons,List.not_mem_nil,or_false]at hp;rcases hp with rfl|rfl|rfl|rfl
   ·exact⟨bE.ai _ _,show O.length+3<O.length+4 by omega⟩
   ·exact⟨K2 _ _,trivial⟩
   ·trivial
   trivial
  refine dc ?_
  repeat(refine⟨by omega,?_⟩)
  refine fV ?_;refine⟨⟨k+1,aZ⟩,by show out.length-(k+1)<out.length-k;omega,?_⟩;refine zq rfl ?_ ?_;simp -dsimp only[simprocAttr,↓aa,zp,zc]
  ·exact Sub.int (by simp)
  show O++[ak.gone,ak.gone,ak.spare _,ak.spare _]=O++[ak.gone,ak.gone,ak.spare _,ak.spare _]
  rw[U5]
 refine aR ?_;simp -dsimp only[bX,ne_eq,Nat.reduceEqDiff,reduceCtorEq];have m6:k=out.length:=by
  have:=of_decide_eq_false h;omega
 subst m6;rw[List.take_of_length_le (Nat.le_refl _)];refine aA (ah ?_);refine aq ?_;simp -dsimp only[simprocAttr,↓aa,zp,Li,Try.results65,cX,fv,eC,cL,cf,cy]
end Go.Proofs.Ytkhnjeblbiocaaa
namespace Go.Av
theorem LI{P:Program}{aW:eo}(hT:cb P aW){o:Oper}{σ:St}{t e:TypeId}{len:Nat}{parts:Array (Nat×Operand)}{ti te:cr}{ps:List (Nat×ae)}{xs:List ae}
  (ho:o.op=.buildSlice t len parts) (hd:∀d,o.dst=some d->d<σ.n) (ht:aW t=some ti) (aT:ti.desc=.slice e) (he:aW e=some te) (lV:0<te.size) (qo:σ.eI parts.toList=some ps) (gK:∀p∈ps,p.2.flat)
  (EW:gE 0 ps=some xs) (hlen:xs.length=len) (cU:∀x∈xs,x.cells.length=te.size) (yZ:len*te.size<=2 ^ 24):Cert P o σ (.aE te.size xs .ex) .pure :=
 Cert.gu hd fun base fE a g bM h _=>by
  have hg:=bM.good;have yY:=iQ (a:=a) (g:=g) (fun x hx y hy=>h x (by simpa[ho,Op.operands]using hx) y hy) qo gK;have hu:=bI hT ht aT;obtain⟨⟨i,z,h1,h2,h3,h4,h5,h6,h7,h8,h9⟩,_⟩:=hT e te he;have pF:=l7 EW;have dz:∀x∈xs,∀c∈x.cells,c.scalar:=by
   have aux:∀{ps:List (Nat×ae)} {vs:List (Nat×Value)},vt g ps vs->∀p∈ps,∀c∈p.2.cells,c.scalar:=by
    intro ps vs hr;induction hr with
    | nil=>intro p hp;cases hp
    | cons hx hf r ih =>
     intro p hp;rcases List.mem_cons.1 hp with hp|hp
     ·subst hp;exact hx.g9 hf
     exact ih p hp
   intro x hx c hc;have jZ:∃k,(k,x)∈ps:=by
    obtain⟨k,hk⟩:=List.getElem?_of_mem hx;refine⟨0+k,?_⟩;rw[pF,List.mem_map];refine⟨(x,0+k),?_,rfl⟩;rw[List.mem_iff_getElem?];exact⟨k,by simp[hk]⟩
   obtain⟨k,hk⟩:=jZ;exact aux yY _ hk c hc
  by_cases hz:len=0
  ·subst hz;have wE:xs=[]:=List.length_eq_zero_iff.1 hlen;subst wE;have EU:ps=[]:=by rw[pF];rfl
   subst EU;have Ah:parts.toList=[]:=by
    cases hp:parts.toList with
    | nil=>rfl
    | cons p r =>
     obtain⟨i,x⟩:=p;rw[hp]at qo;simp only[St.eI]at qo;cases hx:σ.ev x with
     | none=>simp[hx]at qo
     | some y =>
      cases hr:σ.eI r with
      | none=>simp[hx,hr]at qo
      | some ys=>simp[hx,hr]at qo
   have wA:parts = #[]:=Array.toList_eq_nil_iff.1 Ah;subst wA;refine⟨.slice (some ⟨g.w.heap.size,0,none⟩) 0 0,g.push (.cells #[] e),.inl ?_,Le.push g hg _,hg.push _,rfl,?_⟩
   ·have er:Array.range 0 = #[]:=rfl;simp[execOp,ho,Instr.buildSlice,run_underlying hu,Go.sizeOf,typeInfo,h1,Instr.fill,Go.newRow,G.push,er]
   exact RV.newRow (xs:=[]) hg (by simp) (by simp) (by simp) ⟨by simp[ao],by simp[ao]⟩
  have cj:¬len*i.size=0:=by
   rw[h2];intro e0;rcases Nat.mul_eq_zero.1 e0 with q|q<;>omega
  obtain⟨zs,sW⟩:∃zs:Array Value,zs=(Array.range (len*i.size)).map (z.cells[· % z.cells.size]!):=⟨_,rfl⟩
  have wF:zs.size=len*te.size:=by rw[sW];simp[h2]
  obtain⟨zc,Ih,y1,sV⟩:∃zc:List ae,(∀c∈zc,c.scalar)∧gZ g zc zs∧zc.length=len*te.size:=by
   refine⟨(List.range (len*te.size)).map fun j=>te.zero.getD (j % te.size) (.v (.bool false)),fun c hc=>?_,⟨by simp[wF],fun j c u hj EM=>?_⟩,by simp⟩
   ·rw[List.mem_map]at hc;obtain⟨j,_,e⟩:=hc;subst e;have aZ:j % te.size<te.zero.length:=by rw[h6];exact Nat.mod_lt _ lV
    rw[List.getD_eq_getElem?_getD,List.getElem?_eq_getElem aZ];exact h9 _ (List.getElem_mem aZ)
   have gY:=I hj;simp only[List.length_map,List.length_range]at gY;rw[List.getElem?_map,List.getElem?_range gY]at hj;simp only[Option.map_some,Option.some.injEq]at hj;subst hj;have aZ:j % te.size<te.zero.length:=by rw[h6];exact Nat.mod_lt _ lV
   have jH:j % te.size<z.cells.size:=by rw[h5];exact aZ
   rw[sW]at EM;simp only[Array.getElem?_map,h2,Array.getElem?_range,if_pos gY,Option.map_some,Option.some.injEq]at EM;subst EM;rw[List.getD_eq_getElem?_getD,List.getElem?_eq_getElem aZ];refine h8 g (j % te.size) _ _ (List.getElem?_eq_getElem aZ) ?_;rw[h5,h6];simp[jH]
  have z7:∃cs',hU (fun i=>some (i*te.size,te.size)) zc ps=some cs':=by
   have aux:∀(ys:List ae) (k:Nat) (cs:List ae),(∀y∈ys,y.cells.length=te.size)->(k+ys.length)*te.size<=cs.length->∃cs',hU (fun i=>some (i*te.size,te.size)) cs ((ys.zipIdx k).map fun p=>(p.2,p.1))=some cs':=by
    intro ys;induction ys with
    | nil=>intro k cs _ _;exact⟨cs,rfl⟩
    | cons y ys ih =>
     intro k cs hy hl;simp only[List.zipIdx_cons,List.map_cons,hU];simp only[List.length_cons]at hl;have DL:(k+1)*te.size=k*te.size+te.size:=Nat.succ_mul k te.size;have xA:(k+1)*te.size<=(k+(ys.length+1))*te.size:=Nat.mul_le_mul_right _ (by omega);have hc:y.cells.length=te.size∧k*te.size+te.size<=cs.length:=⟨hy y (by simp),by omega⟩
     rw[if_pos hc];refine ih (k+1) _ (fun z hz=>hy z (List.mem_cons_of_mem _ hz)) ?_;rw[ct (by omega),show k+1+ys.length=k+(ys.length+1) by omega];exact hl
   rw[pF];exact aux xs 0 zc cU (by rw[sV,hlen,Nat.zero_add];exact Nat.le_refl _)
  obtain⟨cs',wg⟩:=z7;obtain⟨bZ,q1,q2,_⟩:=mn (fun i=>some (i*te.size,te.size)) yY y1 wg;obtain⟨e1,_⟩:=oD xs 0 zc cs' (by rw[<-pF];exact wg) (by rw[sV,hlen,Nat.zero_add];exact Nat.le_refl _);have e2:cs'=ao xs:=by
   rw[e1];simp only[Nat.zero_mul,List.take_zero,List.nil_append,Nat.zero_add];rw[List.drop_of_length_le (by rw[sV,hlen];omega),List.append_nil]
  subst e2;have bz:(Instr.buildSlice t len (parts.map fun(i,x)=>(i,a.eval x))).run P g.w=.ok (.slice (some ⟨g.w.heap.size,0,none⟩) len len) (g.w.alloc (.cells bZ e)):=by
   have sL:¬len*i.size > 2 ^ 24:=by rw[h2];omega
   rw[sW,<-h2]at q1;have D6:Instr.fill (fun Ii=>some (Ii*i.size,i.size)) ((Array.range (len*i.size)).map (z.cells[· % z.cells.size]!)) (parts.map fun(i,x)=>(i,a.eval x)).toList=some bZ:=by
    rw[Array.toList_map];exact q1
   simp only[Instr.buildSlice,run_underlying hu,Go.sizeOf,typeInfo,Go.zeroValue,Sem.run_bind,run_program,Result.andThen_ok,h1,Sem.run_pure,Go.newRow];rw[if_neg sL,if_neg cj];simp only[Sem.run_bind,Sem.run_pure,Result.andThen_ok,run_program,h1,h4,D6,run_newObj];rfl
  refine⟨.slice (some ⟨g.w.heap.size,0,none⟩) len len,g.push (.cells bZ e),.inl (by simp[execOp,ho,bz,G.push]),Le.push g hg _,hg.push _,rfl,?_⟩;have:=RV.newRow (xs:=xs) (sz:=te.size) (arr:=bZ) (t:=e) hg cU dz (by
   have:len<=len*te.size:=Nat.le_mul_of_pos_right _ lV;omega) q2
  rw[hlen]at this;exact this
theorem Mf{P:Program}{aW:eo}(hT:cb P aW){o:Oper}{σ:St}{t e:TypeId}{x y:Operand}{ti te:cr}{sz:Nat}{xs ys:List ae}{ow:kP}
  (ho:o.op=.call ⟨.builtin .append,#[x,y],#[t,t]⟩) (hd:∀d,o.dst=some d->d<σ.n) (ht:aW t=some ti) (aT:ti.desc=.slice e) (he:aW e=some te) (cU:te.size=sz) (hx:σ.ev x=some (.aE sz xs .ex)) (hy:σ.ev y=some (.aE sz ys ow))
  (hn:ys.length≠0) (hlen:xs.length+ys.length<=2 ^ 62) (hb:(xs.length+ys.length)*te.bytes<=2 ^ 47) :
  Cert P o σ (.os σ.objs.length (xs.length+ys.length) sz) (.write (σ.objs++[.cells (ao (xs++ys))])) :=
 Cert.gu hd fun base fE a g bM h ic=>by
  have hO:g.objs=σ.objs:=ic.resolve_left (by simp);have hg:=bM.good;have hu:=bI hT ht aT;subst cU;have fJ:=h x (by simp[ho,Op.operands,Call.operands]) _ hx;have nU:=h y (by simp[ho,Op.operands,Call.operands]) _ hy;obtain⟨tG,jB,eN,ex,yk,vm,Ak,yl,uL,uM⟩:=fJ.eA (P:=P);obtain⟨Ed,vF,news,ey,ra,rb,qz,vo,sU,mI⟩:=nU.eA (P:=P);obtain⟨⟨i,z,h1,h2,h3,h4,h5,h6,h7,h8,h9⟩,_⟩:=hT e te he;have lT:jB=xs.length:=by
   rcases fJ.eT with⟨q1,q2⟩|⟨ad,cap,f,q1,_,_,_,_,_,_,_,q2⟩
   ·rw[ex]at q1;cases q2;simp at q1;simp[q1]
   rw[ex]at q1;simp only[Value.slice.injEq]at q1;rw[q1.2.2];exact q2
  subst lT;have cv:=cz (P:=P) ho a g.w;simp only[builtin,List.map_toArray,List.map_cons,List.map_nil]at cv;have bz:=eF (P:=P) g.w t o.type e i z hu h1 h4 tG xs.length xs.length ys.length (a.eval y) eN news ra (by rw[h2];exact rb g.w.drew rfl) (by rw[h2,<-ex];exact vm g.w.drew rfl) (by omega) hlen (by rw[h3];exact hb);rw[<-ex]at bz;obtain⟨cap,cQ⟩:∃cap,cap=grownCap g.w (xs.length+ys.length) xs.length e:=⟨_,rfl⟩
  obtain⟨rest,cP⟩:∃rest,rest=Builtin.zeroCells z.cells (cap-(xs.length+ys.length)):=⟨_,rfl⟩
  have lK:=grownCap_ge g.w (xs.length+ys.length) xs.length e;rw[<-cQ]at bz lK;rw[<-cP]at bz;have pG:rest.size=(cap-(xs.length+ys.length))*te.size:=by rw[cP,size_zeroCells,h5,h6]
  obtain⟨arr,eY⟩:∃arr,arr=eN.toArray++news.toArray++rest:=⟨_,rfl⟩
  rw[<-eY]at bz;have j7:=hg.heap (w':=g.w.drew) rfl rfl rfl rfl;have jG:=Le.heap (g:=g) (w':=g.w.drew) rfl rfl rfl rfl;obtain⟨g1,gP⟩:∃g1:G,g1=⟨g.w.drew,g.fr,g.env,g.objs⟩:=⟨_,rfl⟩
  rw[<-gP]at j7 jG;have nT:g1.w=g.w.drew:=by rw[gP]
  have kO:g1.objs=σ.objs:=by rw[gP];exact hO
  have gO:=Ak.append qz;rw[<-cI]at gO;have eJ:(ao (xs++ys)).length=(xs.length+ys.length)*te.size:=by
   rw[bO (sz:=te.size) (fun x hx=>by
    rcases List.mem_append.1 hx with q|q
    ·exact yl x q
    exact vo x q)]
   simp
  have k9:arr.size=cap*te.size:=by
   rw[eY];simp only[Array.size_append,List.size_toArray,uM,mI,pG,<-Nat.add_mul];rw[show xs.length+ys.length+(cap-(xs.length+ys.length))=cap by omega]
  have hle:=jG.trans (Le.alloc j7 (.cells arr e) 0 (.cells (ao (xs++ys))));have gd:Fits (g1.alloc (.cells arr e) 0 (.cells (ao (xs++ys)))) (.cells arr e) (.cells (ao (xs++ys))):=by
   refine⟨arr,e,rfl,by rw[eJ,k9];exact Nat.mul_le_mul_right _ lK,fun j c u hj hu=>?_,fun c hc=>?_⟩
   ·have aZ:=I hj;rw[eJ]at aZ;rw[eY]at hu;have oI:=cV hu (by simp only[List.size_toArray,uM,mI,<-Nat.add_mul];exact aZ);exact(gO.2 j c u hj (by simpa using oI)).mono hle
   rw[cI]at hc;rcases List.mem_append.1 hc with q|q
   ·exact uL c q
   exact sU c q
  have c7:=Good.alloc j7 (.cells arr e) 0 (.cells (ao (xs++ys))) (.inr rfl) gd;refine⟨.slice (some ⟨g.w.heap.size,0,none⟩) (xs.length+ys.length) cap,_,.inl ?_,hle,c7,?_,?_⟩
  ·rw[cv];simp[bz,G.alloc,nT]
  ·simp[G.alloc,kO,Mode.post]
  rw[<-kO];have e1:(g.w.heap.size)=g1.w.heap.size:=by rw[nT];rfl
  rw[e1];exact .os (l:=⟨g1.w.heap.size,0,arr.size⟩) (gJ j7) eE (by simp[ak.aF]) lK (by rw[k9];exact Nat.le_refl _) hlen
theorem MM{P:Program}{aW:eo}(hT:cb P aW){o:Oper}{σ:St}{t e:TypeId}{x y:Operand}{ti te:cr}{id len sz:Nat}{cs ys:List ae}{ow:kP}
  (ho:o.op=.call ⟨.builtin .append,#[x,y],#[t,t]⟩) (hd:∀d,o.dst=some d->d<σ.n) (ht:aW t=some ti) (aT:ti.desc=.slice e) (he:aW e=some te) (cU:te.size=sz) (hx:σ.ev x=some (.os id len sz)) (lU:σ.objs[id]?=some (.cells cs)) (hy:σ.ev y=some (.aE sz ys ow))
  (uC:len*sz<=cs.length) (hn:ys.length≠0) (hlen:len+ys.length<=2 ^ 62) (hb:(len+ys.length)*te.bytes<=2 ^ 47) :
  Cert P o σ (.os σ.objs.length (len+ys.length) sz) (.write (σ.objs.set id .gone++[.cells (cs.take (len*sz)++ao ys)])) :=
 Cert.gu hd fun base fE a g bM h ic=>by
  have hO:g.objs=σ.objs:=ic.resolve_left (by simp);have hg:=bM.good;have hu:=bI hT ht aT;subst cU;have fJ:=h x (by simp[ho,Op.operands,Call.operands]) _ hx;have nU:=h y (by simp[ho,Op.operands,Call.operands]) _ hy;obtain⟨l,o1,cap,q1,q2,q3,xy,Br,cF,eu⟩:=fJ.oN;obtain⟨Ed,vF,news,ey,ra,rb,qz,vo,sU,mI⟩:=nU.eA (P:=P);obtain⟨⟨i,z,h1,h2,h3,h4,h5,h6,h7,h8,h9⟩,_⟩:=hT e te he;have gD:g.objs[id]?=some (.cells cs):=by rw[hO];exact lU
  have nO:=I gD;obtain⟨arr,t',gQ,dp,Gu,eZ,jY,wq⟩:=hg.row gD q1;have cv:=cz (P:=P) ho a g.w;simp only[builtin,List.map_toArray,List.map_cons,List.map_nil]at cv;have iy:=qz;have eJ:(ao ys).length=ys.length*te.size:=bO vo;obtain⟨m,hm⟩:∃m,m=len*te.size:=⟨_,rfl⟩
  obtain⟨eN,yh⟩:∃eN,eN=arr.toList.take m:=⟨_,rfl⟩
  obtain⟨ds,nk⟩:∃ds,ds=cs.take (len*te.size)++ao ys:=⟨_,rfl⟩
  rw[<-hm]at nk uC;have qw:eN.length=m:=by rw[yh];simp;omega
  have holds:gZ g (cs.take m) eN.toArray:=by
   refine⟨by simp[qw];omega,fun j c u hj hu=>?_⟩;have aZ:=I hj;simp only[List.length_take]at aZ;rw[List.getElem?_take,if_pos (by omega)]at hj;refine eZ j c u hj ?_;simp only[List.getElem?_toArray,yh]at hu;rw[List.getElem?_take,if_pos (by omega)]at hu;simpa using hu
  have cM:gZ g ds (eN++news).toArray:=by
   rw[nk];exact holds.append iy
  have jP:ds.length=m+ys.length*te.size:=by
   rw[nk,List.length_append,List.length_take,eJ];omega
  have zZ:∀c∈ds,c.scalar:=fun c hc=>by
   rw[nk]at hc;rcases List.mem_append.1 hc with hc|hc
   ·exact jY c (List.mem_of_mem_take hc)
   exact sU c hc
  have uF:(len+ys.length)*te.size=m+ys.length*te.size:=by rw[Nat.add_mul,hm]
  rw[<-hm,<-nk];by_cases iU:len+ys.length<=cap
  ·have bB:m+ys.length*te.size<=arr.size:=by
    have:=Nat.mul_le_mul_right te.size iU;omega
   obtain⟨bZ,fb⟩:∃bZ,bZ=(arr.toList.take m++news++arr.toList.drop (m+news.length)).toArray:=⟨_,rfl⟩
   have dD:=run_storeCells_at P l.block m t' news 0 arr g.w dp (by rw[mI];omega) (fun u hu=>by
    obtain⟨j,hj⟩:=List.getElem?_of_mem hu;have aZ:=I hj;have cU:=qz.1;simp only[List.size_toArray]at cU;rw[cU]at aZ;have hc:=List.getElem?_eq_getElem aZ;exact((qz.2 j _ u hc (by simpa using hj)).fD (sU _ (List.mem_of_getElem? hc))).1)
   simp only[Nat.add_zero]at dD;rw[<-fb]at dD;have bz:=e9 (P:=P) g.w (g.w.setRow l.block bZ) t o.type e i hu h1 ⟨l.block,0,none⟩ len cap ys.length (a.eval y) news ra (by rw[h2];exact rb g.w rfl) (by omega) (by rw[addr_add,h2,Nat.zero_add,<-hm];exact dD);rw[<-eu]at bz;have ec:=gV (cs':=ds) gD q1 gQ bZ;have hle:=Le.br hg ec;have k9:bZ.size=arr.size:=by
    rw[fb];simp only[List.size_toArray,List.length_append,List.length_take,List.length_drop,Array.length_toList,mI];omega
   have c7:=Good.br hg ec (by
    refine⟨l,bZ,t',rfl,gQ,setRow_heap g.w l.block arr bZ t' (0,0) dp,by rw[jP,k9];exact bB,fun j c u hj my=>?_,zZ,by rw[k9];exact wq⟩;have aZ:=I hj;rw[jP]at aZ;have e1:bZ=eN.toArray++news.toArray++(arr.toList.drop (m+news.length)).toArray:=by
     rw[fb,yh];simp
    rw[e1]at my;have oI:=cV my (by simp only[List.size_toArray,qw,mI];exact aZ);exact(cM.2 j c u hj (by simpa using oI)).mono hle) (fun l1 h1 _=>by
    simp only[Option.some.injEq]at h1;subst h1;rw[setRow_size];exact a5 dp)
   obtain⟨g1,gP⟩:∃g1:G,g1=g.br id (some l) (.cells ds) (g.w.setRow l.block bZ):=⟨_,rfl⟩
   rw[<-gP]at hle c7;have pE:g1.env[id]?=some (some l):=by
    rw[gP];simp only[G.br];rw[List.getElem?_set_self (gN hg gD)]
   have kO:g1.objs[id]?=some (.cells ds):=by
    rw[gP];simp only[G.br];rw[List.getElem?_set_self nO]
   have dL:g1.objs.length=σ.objs.length:=by
    rw[gP,<-hO];simp[G.br]
   refine⟨.slice (some ⟨l.block,0,none⟩) (len+ys.length) cap,g1.jQ id l (.cells ds),.inl ?_,hle.trans (Le.jQ c7 pE kO trivial (by simp[ak.aF])),Good.jQ c7 pE kO,?_,?_⟩
   ·rw[cv,gP];simp[bz,G.br,G.jQ]
   ·simp only[G.jQ,gP,G.br,Mode.post,List.set_set,hO]
   refine .os (l:=l) (o:=.cells ds) ?_ ?_ (by simp[ak.aF]) iU Br hlen
   ·simp only[G.jQ];rw[<-dL,<-c7.len];simp
   simp only[G.jQ];rw[<-dL];simp
  have bz:=eF (P:=P) g.w t o.type e i z hu h1 h4 (some ⟨l.block,0,none⟩) len cap ys.length (a.eval y) eN news ra (by rw[h2];exact rb g.w.drew rfl) (by
   rw[h2];simp only[Builtin.firstCells];rw[<-hm];have:=run_loadCells (P:=P) g.w.drew ⟨l.block,0,none⟩ m (fun j=>arr.getD j undef) (fun j hj=>by
    rw[addr_add,Nat.zero_add];have:g.w.drew.cell? ⟨l.block,j,none⟩=arr[j]?:=cell_of_row (w:=g.w.drew) dp j;rw[this];simp[Array.getD_eq_getD_getElem?,show j<arr.size by omega])
   rw[kn eN m _ qw (fun j hj=>by
    rw[yh,List.getElem?_take,if_pos hj];simp[Array.getD_eq_getD_getElem?,show j<arr.size by omega])]at this
   exact this) (by omega) hlen (by rw[h3];exact hb)
  rw[<-eu]at bz;obtain⟨jU,cQ⟩:∃jU,jU=grownCap g.w (len+ys.length) cap e:=⟨_,rfl⟩
  obtain⟨rest,cP⟩:∃rest,rest=Builtin.zeroCells z.cells (jU-(len+ys.length)):=⟨_,rfl⟩
  have lK:=grownCap_ge g.w (len+ys.length) cap e;rw[<-cQ]at bz lK;rw[<-cP]at bz;have pG:rest.size=(jU-(len+ys.length))*te.size:=by rw[cP,size_zeroCells,h5,h6]
  obtain⟨jx,eY⟩:∃jx,jx=eN.toArray++news.toArray++rest:=⟨_,rfl⟩
  rw[<-eY]at bz;have j7:=hg.heap (w':=g.w.drew) rfl rfl rfl rfl;have jG:=Le.heap (g:=g) (w':=g.w.drew) rfl rfl rfl rfl;obtain⟨g1,gP⟩:∃g1:G,g1=⟨g.w.drew,g.fr,g.env,g.objs⟩:=⟨_,rfl⟩
  rw[<-gP]at j7 jG;have nT:g1.w=g.w.drew:=by rw[gP]
  have kO:g1.objs=σ.objs:=by rw[gP];exact hO
  have k9:jx.size=jU*te.size:=by
   rw[eY];simp only[Array.size_append,List.size_toArray,qw,mI,pG];have:(len+ys.length)*te.size+(jU-(len+ys.length))*te.size=jU*te.size:=by
    rw[<-Nat.add_mul,show len+ys.length+(jU-(len+ys.length))=jU by omega]
   omega
  have hle:=jG.trans (Le.alloc j7 (.cells jx e) 0 (.cells ds));have gd:Fits (g1.alloc (.cells jx e) 0 (.cells ds)) (.cells jx e) (.cells ds):=by
   refine⟨jx,e,rfl,by rw[jP,k9,<-uF];exact Nat.mul_le_mul_right _ lK,fun j c u hj hu=>?_,zZ⟩;have aZ:=I hj;rw[jP]at aZ;rw[eY]at hu;have oI:=cV hu (by simp only[List.size_toArray,qw,mI];exact aZ);exact(cM.2 j c u hj (by simpa using oI)).mono hle
  have c7:=Good.alloc j7 (.cells jx e) 0 (.cells ds) (.inr rfl) gd;obtain⟨g2,wk⟩:∃g2:G,g2=g1.alloc (.cells jx e) 0 (.cells ds):=⟨_,rfl⟩
  rw[<-wk]at hle c7;have z5:g2.env[id]?=some (some l):=by
   rw[wk];simp only[G.alloc];rw[List.getElem?_append,if_pos (by rw[gP];exact gN hg gD),gP];exact q1
  have uG:g2.objs[id]?=some (.cells cs):=by
   rw[wk];simp only[G.alloc];rw[List.getElem?_append,if_pos (by rw[gP];exact nO),gP];exact gD
  have ec:=lr uG z5 (by simp[ak.aF]) trivial;have Ia:g2.w=g.w.drew.alloc (.cells jx e):=by rw[wk,<-nT];rfl
  refine⟨.slice (some ⟨g.w.heap.size,0,none⟩) (len+ys.length) jU,g2.br id (some l) .gone g2.w,.inl ?_,hle.trans (Le.br c7 ec),Good.br c7 ec trivial (fun _ _ hh=>hh.elim),?_,?_⟩
  ·rw[cv];simp[bz,G.br,Ia]
  ·simp only[G.br,wk,G.alloc,kO,Mode.post];rw[List.set_append,if_pos (by rw[<-hO];exact nO)]
  have e1:(g.w.heap.size)=g1.w.heap.size:=by rw[nT];rfl
  have EK:id<g1.objs.length:=by rw[gP];exact nO
  rw[e1,<-kO];refine .os (l:=⟨g1.w.heap.size,0,jx.size⟩) (o:=.cells ds) ?_ ?_ (by simp[ak.aF]) lK (by rw[k9];exact Nat.le_refl _) hlen
  ·simp only[G.br,wk,G.alloc];rw[List.getElem?_set_ne (by omega)];exact gJ j7
  simp only[G.br,wk,G.alloc];rw[List.getElem?_set_ne (by omega)];exact eE
end Go.Av
namespace Go.Proofs.Ytkhnjeblbiocaaa
open Go.Av
structure Cy where
 k:Nat
 bW:Nat
 ids:List Nat
 ss:List Nat
 O:List ak
theorem QU(f:Func)(hs:WM f)(cj:f.blocks≠[]):bc Try.prog 41 [.gone,.cells [aI 0,.aE 7 [] .ex]] [f.enc] (Uv f):=by
 have eJ:=fun(l:List Int) (h:l.length<=4096)=>N7 l (by omega);have DH:=P' f;have hn:=hs.few;obtain⟨N,hN⟩:∃N,N=f.blocks.length:=⟨_,rfl⟩
 rw[<-hN]at hn;refine KZ hT Try.func41 rfl (by kernel_rfl) (by simp[Try.ntmps41]) ?_;show cc Try.prog _ _ _ ⟨83,_,_⟩;dsimp only[Tmp,TypeId,ax];refine aA (ah ?_);refine aH 1 2 (.ip none [aI f.name,ay f.blocks]) rfl (by simp[ak.aF]) trivial rfl ?_ ?_;rotate_left;simp -dsimp only[simprocAttr,↓aa,zp]
 ·refine aA (ah ?_);refine dd ?_;simp -dsimp only[simprocAttr,↓aa,zp,<-hN];refine ah ?_;show cc Try.prog _ _ _ ⟨_,_,[.gone,.cells [aI 0,.aE 7 [] .ex],.gone,.cells [aI 0,.aE 7 [] .ex],.cells [aI f.name,.aE 7 [] .ex]]⟩;generalize [ak.gone,.cells [aI 0,.aE 7 [] .ex],.gone,.cells [aI 0,.aE 7 [] .ex],.cells [aI f.name,.aE 7 [] .ex]]=O0 at *;refine aj (aU (ι:={X:Cy // X.k<=N∧Pv f (f.blocks.take X.k) X.bW X.ids X.ss X.O}) (fun X=>⟨83,[(1,.ip none [aI f.name,ay f.blocks]),(2,.mp 3 0),(3,.mp 4 0),(15,ay f.blocks),(16,aI N),(17,aI X.1.k)],X.1.O⟩) (fun X=>N-X.1.k) ⟨⟨0,0,[],[],O0⟩,by simp,DH⟩ ?_ ?_)
  ·refine zq rfl ?_ ?_;simp -dsimp only[simprocAttr,↓aa,zp,zc]
   all_goals rfl
  rintro⟨⟨k,bW,ids,ss,O⟩,hk,hS⟩;simp only at hk hS;refine aA (ah ?_);apply gW rfl<;>intro h
  ·refine cA ?_;have aZ:k<N:=by simpa using h
   obtain⟨b,hb⟩:∃b,f.blocks[k]?=some b:=⟨f.blocks[k]'(by omega),List.getElem?_eq_getElem _⟩
   have jc:=List.mem_of_getElem? hb;have iz:f.blocks.take (k+1)=f.blocks.take k++[b]:=by rw[List.take_add_one,hb];rfl
   have Vj:=hs.params b jc;have XW:=hs.ins b jc;have UM:=hs.S9 b jc;have IH:=hs.cases b jc;have Wv:=hs.to b jc;have zX:=hs.SX b jc;have QZ:=eJ b.params (by omega);have Ey:=eJ b.term.cases (by omega);have UG:=I hS.r3;have WR:=I hS.out;refine aK (aj ?_);refine aX ?_;simp -dsimp only[simprocAttr,↓aa,zp,hb];refine ah ?_;refine aO 5 ([a6 b.params,bD b.ins,aI b.term.kind,aI b.term.arg,aI b.term.n,a6 b.term.cases,aJ b.term.to]) [(1,.ip none [aI f.name,ay f.blocks]),(2,.mp 3 0),(3,.mp 4 0),(15,ay f.blocks),(16,aI N),(17,aI k),(5,.ip none [a6 b.params,bD b.ins,aI b.term.kind,aI b.term.arg,aI b.term.n,a6 b.term.cases,aJ b.term.to])] (by simp[bu,a7,Go.Av.look]) (by rfl) (by omega) (by simp[bu,a7,Go.Av.look]) ?_ ?_ ?_
   ·exact hS.up
   ·simp[ae.upto,aw,az,Edge.ai,bE.ai,Block.ai,UG,WR]
   refine aA ?_;refine zi QZ ?_;refine⟨ob (by kernel_rfl),?_⟩;refine ah ?_;refine gS O.length 1 (sz:=4) (xs:=[]) (gF _ _) rfl ?_;show cc Try.prog _ _ _ ⟨_,_,(O++[ak.cells [a6 b.params,.aE 4 [] .ex,aI b.term.kind,aI b.term.arg,aI b.term.n,a6 b.term.cases,aJ b.term.to]]++[ak.spare 0]).set O.length (.cells ([a6 b.params,.aE 4 [] .ex,aI b.term.kind,aI b.term.arg,aI b.term.n,a6 b.term.cases,aJ b.term.to].set 1 (.aE 4 [] (.tok (O++[ak.cells [a6 b.params,.aE 4 [] .ex,aI b.term.kind,aI b.term.arg,aI b.term.n,a6 b.term.cases,aJ b.term.to]]).length))))⟩;rw[Qx];have hI:=QM.start hS.up (cs:=KW (O.length+1) b [] (aJ b.term.to)) (K1 b [] (by omega) ⟨Edge.ai _ _,trivial⟩);show cc Try.prog _ _ _ ⟨_,_,O++[ak.cells (KW (O.length+1) b [] (aJ b.term.to)),.spare 0]⟩;generalize O++[ak.cells (KW (O.length+1) b [] (aJ b.term.to)),.spare 0]=O2 at *;refine b8 (ah ?_);refine aj (aU (ι:={X:Ci // X.j<=b.ins.length∧QM O (KW (O.length+1) b (b.ins.take X.j) (aJ b.term.to)) X.j X.O}) (fun X=>⟨83,[(1,.ip none [aI f.name,ay f.blocks]),(2,.mp 3 0),(3,.mp 4 0),(15,ay f.blocks),(16,aI N),(17,aI k),(5,.ip none [a6 b.params,bD b.ins,aI b.term.kind,aI b.term.arg,aI b.term.n,a6 b.term.cases,aJ b.term.to]),(6,.mp O.length 0),(28,bD b.ins),(29,aI b.ins.length),(30,aI X.1.j)],X.1.O⟩) (fun X=>b.ins.length-X.1.j) ⟨⟨0,O2⟩,by simp,hI⟩ ?_ ?_)
   ·refine zq rfl ?_ ?_;simp -dsimp only[simprocAttr,↓aa,zp,zc]
    all_goals rfl
   rintro⟨⟨j,O2⟩,hj,hI⟩;simp only at hj hI;have Yo:=hI.len;refine aA (ah ?_);apply gW rfl<;>intro h
   ·refine cA ?_;have nQ:j<b.ins.length:=by simpa using h
    obtain⟨i,hi⟩:∃i,b.ins[j]?=some i:=⟨b.ins[j],by simp[nQ]⟩
    have W8:=eJ i.args (by have:=UM i (List.mem_of_getElem? hi);omega);have cn:=hI.cell;have fQ:=hI.sp;have iq:(b.ins.take j).length=j:=by rw[List.length_take];omega
    refine aK (aj ?_);refine aX ?_;simp -dsimp only[simprocAttr,↓aa,zp,hi];refine ah ?_;refine aA ?_;refine zi W8 ?_;refine ah ?_;refine aO 8 ([aI i.to,aI i.op,aI i.n,a6 i.args]) [(1,.ip none [aI f.name,ay f.blocks]),(2,.mp 3 0),(3,.mp 4 0),(15,ay f.blocks),(16,aI N),(17,aI k),(5,.ip none [a6 b.params,bD b.ins,aI b.term.kind,aI b.term.arg,aI b.term.n,a6 b.term.cases,aJ b.term.to]),(6,.mp O.length 0),(28,bD b.ins),(29,aI b.ins.length),(30,aI j),(8,.ip none [aI i.to,aI i.op,aI i.n,a6 i.args])] (by simp[bu,a7,Go.Av.look]) (by rfl) (by omega) (by simp[bu,a7,Go.Av.look]) ?_ ?_ ?_
    ·exact hI.up
    ·have TN:=I cn;simp[ae.upto,aw,az,Edge.ai,bE.ai,Block.ai,TN,show 3<O2.length by omega,show 4<O2.length by omega]
    have Lj:∀y,(O2.set (O.length+1) y)[O.length]?=some (.cells (KW (O.length+1) b (b.ins.take j) (aJ b.term.to))):=fun y=>by rw[List.getElem?_set_ne (by omega)];exact cn
    refine j1 ?_;simp -dsimp only[simprocAttr,↓aa,zp,cn,Lj,fQ,KW,List.length_map,iq]
    repeat(refine⟨by omega,?_⟩)
    refine ah ?_;have hIn:=(hI.room (j+1)).one (cs':=KW (O.length+1) b (b.ins.take (j+1)) (aJ b.term.to)) (K1 b _ (by omega) ⟨Edge.ai _ _,trivial⟩);show cc Try.prog _ _ _ ⟨_,_,(O2.set (O.length+1) (ak.spare (j+1))).set O.length (.cells (LR (O.length+1) b ((b.ins.take j).map bE.enc++[i.enc]) (aJ b.term.to)))⟩;rw[<-Ql hi];have hIn:QM O _ _ ((O2.set (O.length+1) (ak.spare (j+1))).set O.length (.cells (LR (O.length+1) b ((b.ins.take (j+1)).map bE.enc) (aJ b.term.to)))):=hIn;generalize (O2.set (O.length+1) (ak.spare (j+1))).set O.length (.cells (LR (O.length+1) b ((b.ins.take (j+1)).map bE.enc) (aJ b.term.to)))=O5 at *;refine dc ?_
    repeat(refine⟨by omega,?_⟩)
    refine fV ?_;refine⟨⟨⟨j+1,O5⟩,nQ,hIn⟩,by simp;omega,?_⟩;refine zq rfl ?_ ?_;simp -dsimp only[simprocAttr,↓aa,zp,zc]
    ·exact Sub.int (by simp)
    rfl
   refine aR ?_;simp -dsimp only[bX,ne_eq,Nat.reduceEqDiff,reduceCtorEq];have NK:b.ins.length<=j:=by
    have:=of_decide_eq_false h;omega
   rw[List.take_of_length_le NK]at hI;have cn:=hI.cell;refine aX ?_;simp -dsimp only[simprocAttr,↓aa,zp,cn];refine .inl ⟨_,Ey,by simp only[aw,ae.upto,zt,zu,az],au ?_⟩;simp -dsimp only[simprocAttr,↓aa,zp,cn];refine ah ?_;have hIn:=hI.one (cs':=KW (O.length+1) b b.ins (aJ b.term.to)) (K1 b _ (by omega) ⟨Edge.ai _ _,trivial⟩);show cc Try.prog _ _ _ ⟨_,_,O2.set O.length (.cells (KW (O.length+1) b b.ins (aJ b.term.to)))⟩;generalize O2.set O.length (.cells (KW (O.length+1) b b.ins (aJ b.term.to)))=O5 at *;have cn:=hIn.cell;have V8:=hIn.sp;have Xk:j=b.ins.length:=by omega
   rw[Xk]at V8;refine aX ?_;simp -dsimp only[simprocAttr,↓aa,zp,cn];refine ah ?_;have Yf:=hIn.len;have wy:KW (O.length+1) b b.ins (.aE 2 [] .ex)=[a6 b.params,.aE 4 (b.ins.map bE.enc) (.tok (O.length+1)),aI b.term.kind,aI b.term.arg,aI b.term.n,a6 b.term.cases,.aE 2 [] .ex]:=rfl;refine K8 O.length (KW (O.length+1) b b.ins (.aE 2 [] .ex)) (List.getElem?_set_self (by omega)) rfl (fun d hd=>?_) (fun j c d hc hd=>?_) ?_
   ·simp only[KW,LR,List.mem_cons,List.not_mem_nil,or_false]at hd;rcases hd with rfl|rfl|rfl|rfl|rfl|rfl|rfl<;>trivial
   ·match j,hc,hd with
    | 0,hc,hd=>exact Sub.of_eq (by simpa[KW,LR]using hc.symm.trans hd)
    | 1,hc,hd=>exact Sub.of_eq (by simpa[KW,LR]using hc.symm.trans hd)
    | 2,hc,hd=>exact Sub.of_eq (by simpa[KW,LR]using hc.symm.trans hd)
    | 3,hc,hd=>exact Sub.of_eq (by simpa[KW,LR]using hc.symm.trans hd)
    | 4,hc,hd=>exact Sub.of_eq (by simpa[KW,LR]using hc.symm.trans hd)
    | 5,hc,hd=>exact Sub.of_eq (by simpa[KW,LR]using hc.symm.trans hd)
    | 6,hc,hd =>
     simp only[KW,LR,List.getElem?_cons_succ,List.getElem?_cons_zero,Option.some.injEq]at hc hd;subst hc;subst hd;exact Sub.RK 2
    | j+7,hc,hd=>simp at hc
   rw[List.set_set];have hE:=RP.start (cs:=KW (O.length+1) b b.ins) (hIn.one (cs':=KW (O.length+1) b b.ins (.aE 2 [] .ex)) (K1 b _ (by omega) ⟨trivial,trivial⟩));have Xz:(O5.set O.length (.cells (KW (O.length+1) b b.ins (.aE 2 [] .ex))))[O.length+1]?=some (.spare b.ins.length):=by
    rw[List.getElem?_set_ne (by omega)];exact V8
   generalize O5.set O.length (.cells (KW (O.length+1) b b.ins (.aE 2 [] .ex)))=O6 at *;refine b8 (ah ?_);refine aj (aU (ι:={X:Ce // X.z<=b.term.to.length∧RP O (KW (O.length+1) b b.ins) X.tid (b.term.to.take X.z) X.O∧X.O[O.length+1]?=some (.spare b.ins.length)}) (fun X=>⟨83,[(1,.ip none [aI f.name,ay f.blocks]),(2,.mp 3 0),(3,.mp 4 0),(15,ay f.blocks),(16,aI N),(17,aI k),(5,.ip none [a6 b.params,bD b.ins,aI b.term.kind,aI b.term.arg,aI b.term.n,a6 b.term.cases,aJ b.term.to]),(6,.mp O.length 0),(55,aJ b.term.to),(56,aI b.term.to.length),(57,aI X.1.z)],X.1.O⟩) (fun X=>b.term.to.length-X.1.z) ⟨⟨0,0,O6⟩,by simp,hE,Xz⟩ ?_ ?_)
   ·refine zq rfl ?_ ?_;simp -dsimp only[simprocAttr,↓aa,zp,zc]
    all_goals rfl
   rintro⟨⟨z,tid,O3⟩,hz,hE,fQ⟩;simp only at hz hE fQ;have Yk:=hE.len;refine aA (ah ?_);apply gW rfl<;>intro h
   ·refine cA ?_;have qt:z<b.term.to.length:=by simpa using h
    obtain⟨e,he⟩:∃e,b.term.to[z]?=some e:=⟨b.term.to[z],by simp[qt]⟩
    have rZ:=eJ e.args (zX e (List.mem_of_getElem? he));have cn:=hE.cell;have Bz:b.term.to.take (z+1)=b.term.to.take z++[e]:=by rw[List.take_add_one,he];rfl
    have iq:(b.term.to.take z).length=z:=by rw[List.length_take];omega
    have TN:=I cn;refine aK (aj ?_);refine aX ?_;simp -dsimp only[simprocAttr,↓aa,zp,he];refine ah ?_;refine aO 10 ([aI e.block,a6 e.args]) [(1,.ip none [aI f.name,ay f.blocks]),(2,.mp 3 0),(3,.mp 4 0),(15,ay f.blocks),(16,aI N),(17,aI k),(5,.ip none [a6 b.params,bD b.ins,aI b.term.kind,aI b.term.arg,aI b.term.n,a6 b.term.cases,aJ b.term.to]),(6,.mp O.length 0),(55,aJ b.term.to),(56,aI b.term.to.length),(57,aI z),(10,.ip none [aI e.block,a6 e.args])] (by simp[bu,a7,Go.Av.look]) (by rfl) (by omega) (by simp[bu,a7,Go.Av.look]) ?_ ?_ ?_
    ·exact hE.up
    ·simp[ae.upto,aw,az,Edge.ai,bE.ai,Block.ai,TN,show 3<O3.length by omega,show 4<O3.length by omega]
    by_cases R8:b.term.to.take z=[]
    ·have UX:LY tid (b.term.to.take z)=.aE 2 [] .ex:=if_pos R8;rw[UX]at cn;have Lj:∀X,(O3++X)[O.length]?=some (.cells (KW (O.length+1) b b.ins (.aE 2 [] .ex))):=fun X=>bJ cn;refine FW ?_;simp -dsimp only[simprocAttr,↓aa,zp,cn,Lj,KW,KJ,KN]
     repeat(refine⟨by omega,?_⟩)
     refine .inl ⟨_,rZ,by simp only[aw,ae.upto,zt,zu,az],au ?_⟩;simp -dsimp only[simprocAttr,↓aa,zp,cn,Lj,KW,KJ,KN]
     repeat(refine⟨by omega,?_⟩)
     refine⟨trivial,?_⟩;refine⟨ob (by kernel_rfl),?_⟩;refine ah ?_;have fX:RP O (KW (O.length+1) b b.ins) O3.length (b.term.to.take z++[e]) ((O3++[ak.cells [aI e.block,a6 e.args]]).set O.length (.cells (KW (O.length+1) b b.ins (.os O3.length 1 2)))):=hE.push e (fun v n hv hn=>K1 b _ (by omega) hv) rfl hE.up (fun _ _=>rfl) (by rw[R8];rfl) (by rw[R8];rfl);show cc Try.prog _ _ _ ⟨_,_,(O3++[ak.cells [aI e.block,a6 e.args]]).set O.length (.cells (KW (O.length+1) b b.ins (.os O3.length 1 2)))⟩;have U2:((O3++[ak.cells [aI e.block,a6 e.args]]).set O.length (.cells (KW (O.length+1) b b.ins (.os O3.length 1 2))))[O.length+1]?=some (.spare b.ins.length):=by
      rw[List.getElem?_set_ne (by omega)];exact bJ fQ
     generalize (O3++[ak.cells [aI e.block,a6 e.args]]).set O.length (.cells (KW (O.length+1) b b.ins (.os O3.length 1 2)))=O7 at *;refine dc ?_
     repeat(refine⟨by omega,?_⟩)
     refine fV ?_;refine⟨⟨⟨z+1,O3.length,O7⟩,qt,by rw[Bz];exact fX,U2⟩,by simp;omega,?_⟩;refine zq rfl ?_ ?_;simp -dsimp only[simprocAttr,↓aa,zp,zc]
     ·exact Sub.int (by simp)
     rfl
    obtain⟨o1,o2⟩:=hE.own R8;have UX:LY tid (b.term.to.take z)=.os tid z 2:=by
     unfold LY;rw[if_neg R8,iq]
    rw[UX]at cn;have Lj:∀X,(O3.set tid .gone++X)[O.length]?=some (.cells (KW (O.length+1) b b.ins (.os tid z 2))):=fun X=>bJ (bx cn (by omega));have v8:(K3 (b.term.to.take z)).take (z*2)=K3 (b.term.to.take z):=List.take_of_length_le (by rw[Lv];omega);have oX:=Lv (b.term.to.take z);rw[iq]at oX;refine j1 ?_;simp -dsimp only[simprocAttr,↓aa,zp,cn,Lj,KW,o2,v8,oX,KJ,KN]
    repeat(refine⟨by omega,?_⟩)
    refine .inl ⟨_,rZ,by simp only[aw,ae.upto,zt,zu,az],au ?_⟩;simp -dsimp only[simprocAttr,↓aa,zp,cn,Lj,KW,o2,v8,oX,KJ,KN]
    repeat(refine⟨by omega,?_⟩)
    refine⟨trivial,?_⟩;refine⟨ob (by kernel_rfl),?_⟩;refine ah ?_;have fX:RP O (KW (O.length+1) b b.ins) O3.length (b.term.to.take z++[e]) ((O3.set tid .gone++[ak.cells (K3 (b.term.to.take z)++[aI e.block,a6 e.args])]).set O.length (.cells (KW (O.length+1) b b.ins (.os O3.length (z+1) 2)))):=hE.push (O4:=O3.set tid .gone) e (fun v n hv hn=>K1 b _ (by omega) hv) (List.length_set) (bF hE.up trivial) (fun k hk=>by rw[List.getElem?_set_ne (Ne.symm (hk R8))]) (by rw[Qa]) (by rw[iq]);show cc Try.prog _ _ _ ⟨_,_,(O3.set tid .gone++[ak.cells (K3 (b.term.to.take z)++[aI e.block,a6 e.args])]).set O.length (.cells (KW (O.length+1) b b.ins (.os O3.length (z+1) 2)))⟩;have U2:((O3.set tid .gone++[ak.cells (K3 (b.term.to.take z)++[aI e.block,a6 e.args])]).set O.length (.cells (KW (O.length+1) b b.ins (.os O3.length (z+1) 2))))[O.length+1]?=some (.spare b.ins.length):=by
     rw[List.getElem?_set_ne (by omega)];exact bJ (bx fQ (by omega))
    generalize (O3.set tid .gone++[ak.cells (K3 (b.term.to.take z)++[aI e.block,a6 e.args])]).set O.length (.cells (KW (O.length+1) b b.ins (.os O3.length (z+1) 2)))=O7 at *;refine dc ?_
    repeat(refine⟨by omega,?_⟩)
    refine fV ?_;refine⟨⟨⟨z+1,O3.length,O7⟩,qt,by rw[Bz];exact fX,U2⟩,by simp;omega,?_⟩;refine zq rfl ?_ ?_;simp -dsimp only[simprocAttr,↓aa,zp,zc]
    ·exact Sub.int (by simp)
    rfl
   refine aR ?_;simp -dsimp only[bX,ne_eq,Nat.reduceEqDiff,reduceCtorEq];have sV:b.term.to.length<=z:=by
    have:=of_decide_eq_false h;omega
   rw[List.take_of_length_le sV]at hE;have cn:=hE.cell;have Ld:=hS.out;have Q0:=hE.je 4 (by omega);rw[Ld]at Q0;have Q3:(f.blocks.take k).length=k:=by rw[List.length_take];omega
   have iw:=hE.own;have TN:=I cn;have US:=hS.ls;have XA:f.blocks.take k=[]->ss=[]:=fun q=>List.length_eq_zero_iff.1 (by rw[US,q];rfl);by_cases mP:f.blocks.take k=[]
   ·have lU:LV bW (f.blocks.take k)=.aE 7 [] .ex:=if_pos mP;rw[lU]at Q0;have Q1:∀X,(O3++X)[4]?=some (.cells [aI f.name,.aE 7 [] .ex]):=fun X=>bJ Q0;have fX:Pv f (f.blocks.take k++[b]) O3.length (ids++[tid]) (ss++[O.length+1]) ((O3++[ak.cells (Ll (O.length+1) tid b)]).set 4 (.cells [aI f.name,.os O3.length 1 7])):=hS.snoc ⟨by omega,fQ⟩ (by omega) hE.up (fun k hk _=>hE.je k hk) (fun q=>⟨by have:=(iw q).1;omega,(iw q).2⟩) (by rw[N4 hS.ls hS.cp.li,mP,XA mP];simp[KE]) (by rw[mP];rfl);refine L6 hm (Nn.Uo ⟨true,true⟩ hT 3 rfl rfl (by simp) ?_);simp -dsimp only[simprocAttr,↓aa,zp,cn,KW,Q0];refine Nn.op rfl rfl (LI hT rfl (by simp) qN rfl qO (by simp) rfl (by intro p hp;simp at hp;subst hp;trivial) rfl rfl (by intro x hx;simp at hx;subst hx;rfl) (by simp)) ?_;simp -dsimp only[simprocAttr,↓aa,zp];refine Nn.op rfl rfl (Mf hT rfl (by simp) qN rfl qO rfl rfl rfl (by simp) (by simp) (by simp)) ?_;simp -dsimp only[simprocAttr,↓aa,zp];refine Nn.Uo ⟨true,true⟩ hT 2 rfl rfl (by simp) ?_;simp -dsimp only[simprocAttr,↓aa,zp,Q1,KJ,KN]
    repeat(refine⟨by omega,?_⟩)
    refine⟨trivial,?_⟩;refine Nn.fin rfl ?_;refine ah ?_;show cc Try.prog _ _ _ ⟨_,_,(O3++[ak.cells (Ll (O.length+1) tid b)]).set 4 (.cells [aI f.name,.os O3.length 1 7])⟩;generalize (O3++[ak.cells (Ll (O.length+1) tid b)]).set 4 (.cells [aI f.name,.os O3.length 1 7])=O7 at *;refine dc ?_
    repeat(refine⟨by omega,?_⟩)
    refine fV ?_;refine⟨⟨⟨k+1,O3.length,ids++[tid],ss++[O.length+1],O7⟩,aZ,by rw[iz];exact fX⟩,by simp;omega,?_⟩;refine zq rfl ?_ ?_;simp -dsimp only[simprocAttr,↓aa,zp,zc]
    ·exact Sub.int (by simp)
    rfl
   obtain⟨b1,b2⟩:=hS.blk mP;have iI:=I b2;have b3:=hE.je bW iI;rw[b2]at b3;have lU:LV bW (f.blocks.take k)=.os bW k 7:=by
    unfold LV;rw[if_neg mP,Q3]
   rw[lU]at Q0;have Q1:∀X,(O3.set bW .gone++X)[4]?=some (.cells [aI f.name,.os bW k 7]):=fun X=>bJ (bx Q0 (by omega));have S2:=Lp hS.ls hS.cp.li;rw[Q3]at S2;have v8:(KE ss ids (f.blocks.take k)).take (k*7)=KE ss ids (f.blocks.take k):=List.take_of_length_le (by omega);have fX:Pv f (f.blocks.take k++[b]) O3.length (ids++[tid]) (ss++[O.length+1]) ((O3.set bW .gone++[ak.cells (KE ss ids (f.blocks.take k)++Ll (O.length+1) tid b)]).set 4 (.cells [aI f.name,.os O3.length (k+1) 7])):=by
    have:=hS.snoc (O1:=O3.set bW .gone) (b:=b) (tid:=tid) (sid:=O.length+1) ⟨by omega,by rw[List.getElem?_set_ne (by omega)];exact fQ⟩ (by rw[List.length_set];omega) (by rw[List.length_set];exact bF hE.up trivial) (fun k hk uD=>by rw[List.getElem?_set_ne (Ne.symm (uD mP))];exact hE.je k hk) (fun q=>⟨by have:=(iw q).1;omega,by rw[List.getElem?_set_ne (by have:=(iw q).1;omega)];exact(iw q).2⟩) (N4 hS.ls hS.cp.li (O.length+1) tid b).symm rfl;rw[List.length_set,Q3]at this;exact this
   refine L6 hm (Nn.Uo ⟨true,true⟩ hT 3 rfl rfl (by simp) ?_);simp -dsimp only[simprocAttr,↓aa,zp,cn,KW,Q0];refine Nn.op rfl rfl (LI hT rfl (by simp) qN rfl qO (by simp) rfl (by intro p hp;simp at hp;subst hp;trivial) rfl rfl (by intro x hx;simp at hx;subst hx;rfl) (by simp)) ?_;simp -dsimp only[simprocAttr,↓aa,zp];refine Nn.op rfl rfl (MM hT rfl (by simp) qN rfl qO rfl rfl b3 rfl (by rw[S2];exact Nat.le_refl _) (by simp) (by simp;omega) (by simp;omega)) ?_;simp -dsimp only[simprocAttr,↓aa,zp];refine Nn.Uo ⟨true,true⟩ hT 2 rfl rfl (by simp) ?_;simp -dsimp only[simprocAttr,↓aa,zp,Q1,v8,KJ,KN]
   repeat(refine⟨by omega,?_⟩)
   refine⟨trivial,?_⟩;refine Nn.fin rfl ?_;refine ah ?_;show cc Try.prog _ _ _ ⟨_,_,(O3.set bW .gone++[ak.cells (KE ss ids (f.blocks.take k)++Ll (O.length+1) tid b)]).set 4 (.cells [aI f.name,.os O3.length (k+1) 7])⟩;generalize (O3.set bW .gone++[ak.cells (KE ss ids (f.blocks.take k)++Ll (O.length+1) tid b)]).set 4 (.cells [aI f.name,.os O3.length (k+1) 7])=O7 at *;refine dc ?_
   repeat(refine⟨by omega,?_⟩)
   refine fV ?_;refine⟨⟨⟨k+1,O3.length,ids++[tid],ss++[O.length+1],O7⟩,aZ,by rw[iz];exact fX⟩,by simp;omega,?_⟩;refine zq rfl ?_ ?_;simp -dsimp only[simprocAttr,↓aa,zp,zc]
   ·exact Sub.int (by simp)
   rfl
  refine aR ?_;simp -dsimp only[bX,ne_eq,Nat.reduceEqDiff,reduceCtorEq];have Vl:k=N:=by
   have:=of_decide_eq_false h;omega
  subst Vl;rw[List.take_of_length_le (by omega)]at hS;have Ld:=hS.out;have EV:=hS.r3;have lU:LV bW f.blocks=.os bW f.blocks.length 7:=if_neg cj;rw[lU]at Ld;have iI:=I (hS.blk cj).2;have hR:=hS.fin cj (cs:=[aI f.name,.os bW f.blocks.length 7]) ⟨trivial,iI,trivial⟩;have UG:=I EV;have UY:(O.set 3 (.cells [aI f.name,.os bW f.blocks.length 7]))[3]?=some (.cells [aI f.name,.os bW f.blocks.length 7]):=List.getElem?_set_self UG;refine aX ?_;simp -dsimp only[simprocAttr,↓aa,zp,Ld,EV];refine ah ?_;refine aq ?_;simp -dsimp only[simprocAttr,↓aa,zp,Li,Try.results41,cX,fv,eC,cL,cf,cy,UY];exact hR
 exact cw.mp rfl rfl
def PI(f:Func):ae:=if bo f=0 then(if 128<f.blocks.length+(LC f).news.length then .df [.agg [aI 0,.aE 7 [] .sh],aI 2]else .df [(LP (KD f) (LF f)).enc,aI 0])else .df [.agg [aI 0,.aE 7 [] .sh],aI (bo f)]
theorem TZ(id n sz:Nat):(ae.os id n sz).flat=True:=by simp[ae.flat]
theorem Nd(n:Nat)(xs:List ae)(ow:kP):(ae.aE n xs ow).flat=True:=by simp[ae.flat]
structure Lx where
 k:Nat
 ss:List Nat
 L:List Block
 O:List ak
def Pg(b c:Block)(k id bW:Nat)(ss ids:List Nat)(L:List Block)(O:List ak):List ak:=if b.term.kind=3∧b.term.to.length=1 then O.set bW (.cells (aS (KE ss ids L) (k*7+2) [aI 1,aI 0,aI 0,.aE 1 [] .ex,.os id c.term.to.length 2]))else O
theorem Wk{P:Program}{kb:Nat}{cd:Code}{Q:dR->St->Prop}{n:Nat}{ba:List (Nat×ae)}{name:Int}{ids ss:List Nat}{X bW:Nat}{L:List Block}{O:List ak}(h:OH name ids ss X bW L O){b c:Block}{k id s:Nat}(hs:ss[k]?=some s)(fA:ids[k]?=some id)(hc:L[k]?=some c)(vk:c.term.to.length=b.term.to.length)
  (hA:cc P kb cd Q ⟨n,ba,O.set bW (.cells (KE ss ids (Ol k b L)))⟩):cc P kb cd Q ⟨n,ba,Pg b c k id bW ss ids L O⟩:=by
 unfold Pg;by_cases hq:b.term.kind=3∧b.term.to.length=1
 ·rw[if_pos hq];rw[Ol,if_pos hq,LL hc]at hA;have cj:c.term.to≠[]:=fun z=>by
   rw[z]at vk;have:=hq.2;simp at vk;omega
  have m6:=I hc;have eJ:=Lp h.ls h.li;have fX:=LM (s':=s) (c:=Ok c) (off:=2) (xs:=[aI 1,aI 0,aI 0,a6 [],.os id c.term.to.length 2]) hs fA hc (by
   unfold Ll Ok LY;simp only;rw[if_neg cj];rfl) (by simp)
  rw[Mx hs]at fX;have kC:=fun(j:Nat) x y=>Mb (O:=O.set bW (.cells (aS (KE ss ids L) (k*7+2) [aI 1,aI 0,aI 0,.aE 1 [] .ex,.os id c.term.to.length 2]))) (cs:=KE ss ids L) (xs:=[aI 1,aI 0,aI 0,.aE 1 [] .ex,.os id c.term.to.length 2]) (ys:=[aI 1,aI 0,aI 0,a6 [],.os id c.term.to.length 2]) (i:=k*7+2) rfl (by rw[eJ];simp;omega) (fun j x y h1 h2=>by
   match j,h1,h2 with
   | 0,h1,h2=>exact Sub.of_eq (by simpa using h1.symm.trans h2)
   | 1,h1,h2=>exact Sub.of_eq (by simpa using h1.symm.trans h2)
   | 2,h1,h2=>exact Sub.of_eq (by simpa using h1.symm.trans h2)
   | 3,h1,h2 =>
    simp only[List.getElem?_cons_succ,List.getElem?_cons_zero,Option.some.injEq]at h1 h2;subst h1;subst h2;exact fun _ _ _ h=>h.js
   | 4,h1,h2=>exact Sub.of_eq (by simpa using h1.symm.trans h2)
   | j+5,h1,h2=>simp at h1) j x y
  rw[fX]at kC;refine K8 bW (KE ss ids (L.set k (Ok c))) (List.getElem?_set_self (I h.bl)) (by rw[<-fX,ct (by rw[eJ];simp;omega),ct (by rw[eJ];simp;omega)]) (L8 _ _ _) kC ?_;rw[List.set_set];exact hA
 rw[if_neg hq];rw[Ol,if_neg hq,K6 h.bl]at hA;exact hA
theorem Q7(f:Func)(bB:f.fit):bw Try.prog 53 [f.enc] (PI f):=by
 have fQ:=Rl f bB;unfold Rj at fQ;unfold PI;by_cases hc:bo f=0
 ·rw[if_pos hc]at fQ ⊢;by_cases hm:128<f.blocks.length+(LC f).news.length
  ·rw[if_pos hm]at fQ ⊢;refine zf true 0 Try.func53 Try.ntmps53 ?_;dsimp only[Tmp,TypeId,ax];refine aA (ah ?_);refine aH 1 0 (.ip none [aI f.name,ay f.blocks]) rfl (by simp[ak.aF]) trivial rfl ?_ ?_;rotate_left;simp -dsimp only[simprocAttr,↓aa,zp]
   ·refine aA ?_;refine zi fQ ?_;refine ah ?_;refine b8 (ah ?_);refine cS rfl ?_;refine aA (ah ?_);refine aq ?_;simp -dsimp only[simprocAttr,↓aa,zp,zr,Try.results53];simp[aw,ae.upto]
   exact cw.mp rfl rfl
  rw[if_neg hm]at fQ ⊢;have Qh:=L0 bB (by omega);have Wx:=LD bB hc (by omega);have TS:=KU bB hc;have hv:=KU Qh Wx;have yZ:=Wm Qh Wx;have QZ:=QU (KD f) yZ hv.fn.ne;have dh:=QY f TS.vals (by have:=TS.fn.few;omega) (fun b hb=>by
   have h1:=(TS.fn.blk b hb).few;have h2:=TS.fn.ins b hb;omega)
  obtain⟨sp,U3⟩:∃sp,sp=LF f:=⟨_,rfl⟩
  rw[<-U3]at dh ⊢;have W4:∀v∈K4 (KD f),v<sp:=fun v h=>by
   rw[M4]at h;rw[U3];exact(TS.below h).2.1
  generalize KD f=g at *;clear U3;refine zf true 0 Try.func53 Try.ntmps53 ?_;dsimp only[Tmp,TypeId,ax];refine aA (ah ?_);refine aH 1 0 (.ip none [aI f.name,ay f.blocks]) rfl (by simp[ak.aF]) trivial rfl ?_ ?_;rotate_left;simp -dsimp only[simprocAttr,↓aa,zp]
  ·refine aA ?_;refine zi fQ ?_;refine ah ?_;show cc Try.prog _ _ _ ⟨_,_,[.gone,.cells [aI 0,.aE 7 [] .ex]]++[.cells [aI g.name,ay g.blocks]]⟩;refine aO 4 ([aI g.name,ay g.blocks]) [(1,.ip none [aI f.name,ay f.blocks]),(2,.mp 1 0),(4,.ip none [aI g.name,ay g.blocks]),(5,aI 0)] (by simp[bu,a7,Go.Av.look]) (by rfl) (by omega) (by simp[bu,a7,Go.Av.look]) ?_ ?_ ?_
   ·simp[ak.upto,aw,ae.upto,az]
   ·simp[ae.upto,aw,az,Block.ai]
   refine b8 (ah ?_);apply aP rfl<;>intro h
   ·cases h
   refine cA ?_;refine aA ?_;refine zi dh ?_;refine ah ?_;refine aK (NF ⟨false,false⟩ hT 1 rfl rfl rfl (by simp) ?_);simp -dsimp only[simprocAttr,↓aa,zp];refine⟨Uv g,NG rfl (by simp) rfl rfl QZ,fun r O' hR=>?_⟩;obtain⟨ids,Za,bW,hr,bC,EI,gP,W3,Xc,cj,SE,TR,S5⟩:=hR;subst hr;simp -dsimp only[simprocAttr,↓aa,zp];refine ah ?_;have Yq:=OH.start bC gP W3 Xc cj SE TR S5;have Yy:=Rq.start g (m:=Mz 0 0) (by rw[Se];exact yZ.ins);generalize O'++[ak.cells [aI g.name,.os bW g.blocks.length 7]]=O0 at *;generalize O'.length=X at *;obtain⟨R,Tx⟩:∃R,R=Pf g sp 0 g.blocks g.blocks:=⟨_,rfl⟩
   have VG:LP g sp=⟨g.name,Lf 0 R⟩:=by rw[Tx];rfl
   rw[VG];refine b8 (ah ?_);refine aj (aU (ι:={Y:Lx // Y.k<=g.blocks.length∧OH g.name ids Y.ss X bW Y.L Y.O∧Rq g (Mz Y.k 0) Y.L∧R=Pf g sp Y.k (g.blocks.drop Y.k) Y.L}) (fun Y=>⟨132,[(2,.mp 1 0),(4,.ip none [aI g.name,ay g.blocks]),(6,aI sp),(7,.mp X 0),(29,ay g.blocks),(30,aI g.blocks.length),(31,aI Y.1.k)],Y.1.O⟩) (fun Y=>g.blocks.length-Y.1.k) ⟨⟨0,Za,g.blocks,O0⟩,by simp,Yq,Yy,by simpa using Tx⟩ ?_ ?_)
   ·refine zq rfl ?_ ?_;simp -dsimp only[simprocAttr,↓aa,zp,zc]
    all_goals rfl
   rintro⟨⟨k,ss,L,O⟩,hk,hL,hW,cO⟩;simp only at hk hL hW cO;refine aA (ah ?_);apply gW rfl<;>intro h
   ·refine cA ?_;have aZ:k<g.blocks.length:=by simpa using h
    obtain⟨b,hb⟩:∃b,g.blocks[k]?=some b:=⟨_,List.getElem?_eq_getElem aZ⟩
    obtain⟨c,hc⟩:∃c,L[k]?=some c:=⟨L[k]'(by rw[hW.len];exact aZ),List.getElem?_eq_getElem _⟩
    obtain⟨id,fA⟩:∃id,ids[k]?=some id:=⟨ids[k]'(by rw[hL.li,hW.len];exact aZ),List.getElem?_eq_getElem _⟩
    obtain⟨s,hs⟩:∃s,ss[k]?=some s:=⟨ss[k]'(by rw[hL.ls,hW.len];exact aZ),List.getElem?_eq_getElem _⟩
    have jc:=List.mem_of_getElem? hb;have vk:=hW.to k b c hb hc;have WV:=hW.len;have Ul:=I hL.out;have UH:=I hL.bl;have Tw:=I hL.r1;rw[bS hb]at cO;simp only[Pf]at cO;refine aK (aj ?_);refine aX ?_;simp -dsimp only[simprocAttr,↓aa,zp,hb]
    repeat(refine⟨by omega,?_⟩)
    refine ah ?_;refine aO 9 ([a6 b.params,bD b.ins,aI b.term.kind,aI b.term.arg,aI b.term.n,a6 b.term.cases,aJ b.term.to]) [(2,.mp 1 0),(4,.ip none [aI g.name,ay g.blocks]),(6,aI sp),(7,.mp X 0),(29,ay g.blocks),(30,aI g.blocks.length),(31,aI k),(8,aI k),(9,.ip none [a6 b.params,bD b.ins,aI b.term.kind,aI b.term.arg,aI b.term.n,a6 b.term.cases,aJ b.term.to])] (by simp[bu,a7,Go.Av.look]) (by rfl) (by omega) (by simp[bu,a7,Go.Av.look]) ?_ ?_ ?_
    ·exact hL.up
    ·simp[ae.upto,aw,az,Edge.ai,bE.ai,Block.ai,Ul,UH,Tw]
    have m7:c.term.to.length=1->c.term.to≠[]:=fun q z=>by rw[z]at q;simp at q
    refine gI (⟨132,[(2,.mp 1 0),(4,.ip none [aI g.name,ay g.blocks]),(6,aI sp),(7,.mp X 0),(29,ay g.blocks),(30,aI g.blocks.length),(31,aI k),(8,aI k),(9,.ip none [a6 b.params,bD b.ins,aI b.term.kind,aI b.term.arg,aI b.term.n,a6 b.term.cases,aJ b.term.to])],Pg b c k id bW ss ids L O⟩) ?_ ?_
    ·by_cases h3:b.term.kind=3
     ·have d3:decide (b.term.kind=3)=true:=decide_eq_true h3;by_cases h1:b.term.to.length=1
      ·have d1:decide ((b.term.to.length:Int)=1)=true:=decide_eq_true (by omega);refine aX ?_;simp -dsimp only[simprocAttr,↓aa,zp,d3,d1];refine ah ?_;refine cS rfl ?_;have cj:=m7 (by omega);have Ld:=hL.out;have iI:=hL.bl;have cn:(KE ss ids L)[k*7+6]?=some (.os id c.term.to.length 2):=by
        rw[Mq hs fA hc 6 (by omega)];show some (LY id c.term.to)=_;rw[LY,if_neg cj]
       have eJ:=Lp hL.ls hL.li;have Zh:Ol k b L=L.set k (Ok c):=by rw[Ol,if_pos ⟨h3,h1⟩,LL hc]
       refine j1 ?_;simp -dsimp only[simprocAttr,↓aa,zp,Ld,iI,cn,eJ,Int.toNat_natCast,TZ,KN,List.length_cons,List.length_nil]
       repeat(refine⟨by omega,?_⟩)
       refine⟨cm [bW,X] O.length [.pure,.rd 1,.pure,.pure,.rd 1,.pure,.pure,.pure,.pure,.rd 0,.pure,.pure,.pure,.wr 2 [0]] (by simpa using hL.xb) (by simp;omega) rfl rfl (by kernel_rfl),bd ?_⟩;show bg _ _;refine zq rfl ?_ ?_;simp -dsimp only[simprocAttr,↓aa,zp,zc];rw[Pg,if_pos ⟨h3,h1⟩]
      have d1:decide ((b.term.to.length:Int)=1)=false:=decide_eq_false (by omega);refine aX ?_;simp -dsimp only[simprocAttr,↓aa,zp,d3,d1];refine ah ?_;refine cE rfl ?_;refine a8 ?_;show bg _ _;refine zq rfl ?_ ?_;simp -dsimp only[simprocAttr,↓aa,zp,zc];rw[Pg,if_neg (fun q=>h1 q.2)]
     have d3:decide (b.term.kind=3)=false:=decide_eq_false h3;refine aX ?_;simp -dsimp only[simprocAttr,↓aa,zp,d3];refine ah ?_;refine cE rfl ?_;refine a8 ?_;show bg _ _;refine zq rfl ?_ ?_;simp -dsimp only[simprocAttr,↓aa,zp,zc];rw[Pg,if_neg (fun q=>h3 q.1)]
    refine Wk hL hs fA hc vk ?_;have Vg:OH g.name ids ss X bW (Ol k b L) (O.set bW (.cells (KE ss ids (Ol k b L)))):=by
     by_cases hq:b.term.kind=3∧b.term.to.length=1
     ·rw[Ol,if_pos hq,LL hc];exact hL.Wl hc rfl rfl
     rw[Ol,if_neg hq,K6 hL.bl];exact hL
    have XV:Rq g (Mz k 0) (Ol k b L):=by
     by_cases hq:b.term.kind=3∧b.term.to.length=1
     ·rw[Ol,if_pos hq,LL hc];exact hW.set hc rfl (hW.few c (List.mem_of_getElem? hc)) (Nat.le_refl _)
     rw[Ol,if_neg hq];exact hW
    generalize O.set bW (.cells (KE ss ids (Ol k b L)))=O1 at Vg ⊢;generalize Ol k b L=L1 at Vg XV cO ⊢;obtain⟨L2,XO⟩:∃L2,L2=Q8 g sp k b 0 b.term.to L1:=⟨_,rfl⟩
    rw[<-XO]at cO;refine aA ?_
    repeat(refine⟨by omega,?_⟩)
    refine ah ?_;refine aj (aU (ι:={Y:Lx // Y.k<=b.term.to.length∧OH g.name ids Y.ss X bW Y.L Y.O∧Rq g (Mz k Y.k) Y.L∧L2=Q8 g sp k b Y.k (b.term.to.drop Y.k) Y.L}) (fun Y=>⟨132,[(2,.mp 1 0),(4,.ip none [aI g.name,ay g.blocks]),(6,aI sp),(7,.mp X 0),(29,ay g.blocks),(30,aI g.blocks.length),(31,aI k),(8,aI k),(9,.ip none [a6 b.params,bD b.ins,aI b.term.kind,aI b.term.arg,aI b.term.n,a6 b.term.cases,aJ b.term.to]),(62,aJ b.term.to),(63,aI b.term.to.length),(64,aI Y.1.k)],Y.1.O⟩) (fun Y=>b.term.to.length-Y.1.k) ⟨⟨0,ss,L1,O1⟩,by simp,Vg,XV,by simpa using XO⟩ ?_ ?_)
    ·refine zq rfl ?_ ?_;simp -dsimp only[simprocAttr,↓aa,zp,zc]
     all_goals rfl
    rintro⟨⟨n,ss,L,O⟩,hz,hL,hW,gp⟩;simp only at hz hL hW gp;refine aA (ah ?_);apply gW rfl<;>intro h
    ·refine cA ?_;have qt:n<b.term.to.length:=by simpa using h
     obtain⟨x,hx⟩:∃x,b.term.to[n]?=some x:=⟨b.term.to[n],List.getElem?_eq_getElem qt⟩
     have uN:=List.mem_of_getElem? hx;have XQ:=PC hv W4 jc uN;have R5:=MN XQ;have vn:=hv.db b jc x uN;have Zj:=yZ.to b jc;have Ul:=I hL.out;have UH:=I hL.bl;have Tw:=I hL.r1;rw[bS hx]at gp;simp only[Q8,Mr]at gp;refine aK (aj ?_);refine aX ?_;simp -dsimp only[simprocAttr,↓aa,zp,hx]
     repeat(refine⟨by omega,?_⟩)
     refine ah ?_;refine aO 11 ([aI x.block,a6 x.args]) [(2,.mp 1 0),(4,.ip none [aI g.name,ay g.blocks]),(6,aI sp),(7,.mp X 0),(29,ay g.blocks),(30,aI g.blocks.length),(31,aI k),(8,aI k),(9,.ip none [a6 b.params,bD b.ins,aI b.term.kind,aI b.term.arg,aI b.term.n,a6 b.term.cases,aJ b.term.to]),(62,aJ b.term.to),(63,aI b.term.to.length),(64,aI n),(10,aI n),(11,.ip none [aI x.block,a6 x.args])] (by simp[bu,a7,Go.Av.look]) (by rfl) (by omega) (by simp[bu,a7,Go.Av.look]) ?_ ?_ ?_
     ·exact hL.up
     ·simp[ae.upto,aw,az,Edge.ai,bE.ai,Block.ai,Ul,UH,Tw]
     refine aA ?_;refine .inr (.inl ⟨_,_,(PA hL.up g x sp XQ (by unfold KG at R5;rw[List.length_map]at R5;omega)),.inl (au (zj ?_))⟩);refine ah ?_;generalize KG g x sp=cp at R5 gp ⊢;have Vh:OH g.name ids ss X bW L (O++[ak.gone,.gone,.spare (KK g x).length,.spare cp.length]):=hL.ext (fun o ho=>by
      simp only[List.mem_cons,List.not_mem_nil,or_false]at ho;rcases ho with rfl|rfl|rfl|rfl<;>trivial)
     have WV:=hW.len;obtain⟨c,hc⟩:∃c,L[k]?=some c:=⟨L[k]'(by rw[hW.len];exact aZ),List.getElem?_eq_getElem _⟩
     obtain⟨s,hs⟩:∃s,ss[k]?=some s:=⟨ss[k]'(by rw[hL.ls,hW.len];exact aZ),List.getElem?_eq_getElem _⟩
     obtain⟨t,ht⟩:∃t,t=x.block.toNat:=⟨_,rfl⟩
     have EZ:x.block=(t:Int):=by omega
     obtain⟨c2,B9⟩:∃c,L[t]?=some c:=⟨L[t]'(by rw[hW.len];omega),List.getElem?_eq_getElem _⟩
     obtain⟨s2,Vq⟩:∃s,ss[t]?=some s:=⟨ss[t]'(by rw[hL.ls,hW.len];omega),List.getElem?_eq_getElem _⟩
     obtain⟨Zk,VU⟩:∃id,ids[t]?=some id:=⟨ids[t]'(by rw[hL.li,hW.len];omega),List.getElem?_eq_getElem _⟩
     have Wt:(O++[ak.gone,.gone,.spare (KK g x).length,.spare cp.length])[O.length+3]?=some (.spare cp.length):=by
      rw[List.getElem?_append_right (by omega),Nat.add_sub_cancel_left];rfl
     have XU:O.length+3 ∉ ss:=fun q=>by
      obtain⟨j,hj⟩:=List.mem_iff_getElem?.1 q;have NK:=I hj;have hd:L[j]?=some (L[j]'(by rw[<-hL.ls];exact NK)):=List.getElem?_eq_getElem _;have:=I (hL.sp j _ _ hj hd).2;omega
     have uL:=hL.x5;have WY:(O++[ak.gone,.gone,.spare (KK g x).length,.spare cp.length]).length=O.length+4:=by simp
     generalize O++[ak.gone,.gone,.spare (KK g x).length,.spare cp.length]=OX at Vh Wt WY ⊢;obtain⟨T,Yv⟩:∃T,T=O.length+3:=⟨_,rfl⟩
     rw[<-Yv]at Wt XU ⊢;obtain⟨Vu,O3,Uk,sR,XB⟩:∃Vu O3,OH g.name ids Vu X bW (Mc (decide (b.term.to.length=1)) cp k x L) O3 ∧
       (b.term.to.length=1->O3=(OX.set s (.spare (c.ins.length+cp.length))).set bW (.cells (aS (KE ss ids L) (k*7+1) [.aE 4 (c.ins.map bE.enc++cp.map bE.enc) (.tok s)]))) ∧
       (b.term.to.length≠1->O3=(OX.set (T) (.spare (cp.length+c2.ins.length))).set bW (.cells (aS (KE ss ids L) (t*7+1) [.aE 4 (cp.map bE.enc++c2.ins.map bE.enc) (.tok (T))]))):=by
      by_cases h1:b.term.to.length=1
      ·have:=Vh.row (c:=MJ cp c) (t:=s) hs hc rfl (.inl rfl);rw[<-LM (off:=1) (xs:=[.aE 4 (c.ins.map bE.enc++cp.map bE.enc) (.tok s)]) hs fA hc (by simp[Ll,MJ,aS]) (by simp)]at this;refine⟨_,_,by rw[Mc,if_pos (by simpa using h1),LL hc];exact this,fun _=>?_,fun q=>absurd h1 q⟩;simp[MJ]
      have:=Vh.row (c:=LN cp c2) (t:=T) Vq B9 rfl (.inr ⟨by omega,XU,_,Wt⟩);rw[<-LM (off:=1) (xs:=[.aE 4 (cp.map bE.enc++c2.ins.map bE.enc) (.tok (T))]) Vq VU B9 (by simp[Ll,LN,aS]) (by simp)]at this;refine⟨_,_,by rw[Mc,if_neg (by simpa using h1),<-ht,LL B9];exact this,fun q=>absurd q h1,fun _=>?_⟩;simp[LN]
     have Ze:=hW.few c (List.mem_of_getElem? hc);have YG:=hW.few c2 (List.mem_of_getElem? B9);have qn:=TW (k:=k) (n:=n) (by have:=yZ.few;omega) (by have:=yZ.to b jc;omega);have UL:Rq g (Mz k (n+1)) (Mc (decide (b.term.to.length=1)) cp k x L):=by
      have dD:=Sd k n;by_cases h1:b.term.to.length=1
      ·rw[Mc,if_pos (by simpa using h1),LL hc];exact hW.set hc rfl (by simp[MJ];omega) (by omega)
      rw[Mc,if_neg (by simpa using h1),<-ht,LL B9];exact hW.set B9 rfl (by simp[LN];omega) (by omega)
     have Ld:=Vh.out;have iI:=Vh.bl;have eJ:=Lp hL.ls hL.li;refine gI (⟨132,[(2,.mp 1 0),(4,.ip none [aI g.name,ay g.blocks]),(6,aI sp),(7,.mp X 0),(29,ay g.blocks),(30,aI g.blocks.length),(31,aI k),(8,aI k),(9,.ip none [a6 b.params,bD b.ins,aI b.term.kind,aI b.term.arg,aI b.term.n,a6 b.term.cases,aJ b.term.to]),(62,aJ b.term.to),(63,aI b.term.to.length),(64,aI n),(10,aI n)],O3⟩) ?_ ?_
     ·by_cases h1:b.term.to.length=1
      ·have d1:decide ((b.term.to.length:Int)=1)=true:=decide_eq_true (by omega);have cn:(KE ss ids L)[k*7+1]?=some (.aE 4 (c.ins.map bE.enc) (.tok s)):=Mq hs fA hc 1 (by omega);have fQ:=(Vh.sp k s c hs hc).2;refine aX ?_;simp -dsimp only[simprocAttr,↓aa,zp,d1];refine ah ?_;refine cS rfl ?_;have YZ:∀y,(OX.set s y)[bW]?=some (.cells (KE ss ids L)):=fun y=>bx iI (fun q=>by rw[<-q,fQ]at iI;simp at iI);refine j1 ?_;simp -dsimp only[simprocAttr,↓aa,zp,Ld,iI,cn,eJ,fQ,YZ,Int.toNat_natCast,Nd,List.length_cons,List.length_nil]
       repeat(refine⟨by omega,?_⟩)
       have Xw:bW≠s:=fun q=>by rw[<-q,iI]at fQ;simp at fQ
       have YY:X≠s:=fun q=>by rw[<-q,Ld]at fQ;simp at fQ
       have o5:=I fQ;refine⟨cm [bW,X,s] OX.length [.pure,.rd 1,.pure,.pure,.rd 1,.pure,.pure,.pure,.rd 0,.pure,.wr 3 [2],.pure,.pure,.wr 3 [0]] (by simp[hL.xb,Xw,YY]) (by simp;omega) (by simp only[List.length_set];rfl) rfl (by kernel_rfl),bd ?_⟩;show bg _ _;refine zq rfl ?_ ?_;simp -dsimp only[simprocAttr,↓aa,zp,zc];rw[sR h1]
      have d1:decide ((b.term.to.length:Int)=1)=false:=decide_eq_false (by omega);have cn:(KE ss ids L)[t*7+1]?=some (.aE 4 (c2.ins.map bE.enc) (.tok s2)):=Mq Vq VU B9 1 (by omega);refine aX ?_;simp -dsimp only[simprocAttr,↓aa,zp,d1];refine ah ?_;refine cE rfl ?_;rw[EZ];have Yw:∀y,(OX.set T y)[bW]?=some (.cells (KE ss ids L)):=fun y=>bx iI (by omega);refine aX ?_;simp -dsimp only[simprocAttr,↓aa,zp,Ld,iI,eJ,Int.toNat_natCast]
      repeat(refine⟨by omega,?_⟩)
      refine ah ?_;refine j1 ?_;simp -dsimp only[simprocAttr,↓aa,zp,Ld,iI,cn,eJ,Wt,Yw,Int.toNat_natCast,Nd,List.length_cons,List.length_nil]
      repeat(refine⟨by omega,?_⟩)
      refine bd ?_;show bg _ _;refine zq rfl ?_ ?_;simp -dsimp only[simprocAttr,↓aa,zp,zc];rw[XB h1]
     generalize Mc (decide (b.term.to.length=1)) cp k x L=L3 at Uk UL gp;obtain⟨c3,UO⟩:∃c,L3[k]?=some c:=⟨L3[k]'(by rw[UL.len];exact aZ),List.getElem?_eq_getElem _⟩
     obtain⟨s3,YX⟩:∃s,Vu[k]?=some s:=⟨Vu[k]'(by rw[Uk.ls,UL.len];exact aZ),List.getElem?_eq_getElem _⟩
     have VM:=UL.to k b c3 hb UO;have UU:c3.term.to≠[]:=fun z=>by
      rw[z]at VM;simp at VM;omega
     obtain⟨o1,o2,o3,o4⟩:=Uk.own k id c3 fA UO UU;obtain⟨y,hy⟩:∃y,c3.term.to[n]?=some y:=⟨c3.term.to[n]'(by omega),List.getElem?_eq_getElem _⟩
     have UP:(KE Vu ids L3)[k*7+6]?=some (.os id c3.term.to.length 2):=by
      rw[Mq YX fA UO 6 (by omega)];show some (LY id c3.term.to)=_;rw[LY,if_neg UU]
     have Xb:=Lp Uk.ls Uk.li;have oX:=Lv c3.term.to;have V4:=Uk.out;have W6:=Uk.bl;have Yr:=UL.len;have sP:=I o4;refine j1 ?_;simp -dsimp only[simprocAttr,↓aa,zp,V4,W6,UP,Xb,o4,oX,Int.toNat_natCast,Nd,List.length_cons,List.length_nil]
     repeat(refine⟨by omega,?_⟩)
     refine ah ?_;have fX:=SY hy;have kC:=fun(j:Nat) u v=>Mb (O:=O3.set id (.cells (aS (K3 c3.term.to) (n*2+1) [.v (.slice none 0 0)]))) (cs:=K3 c3.term.to) (xs:=[.v (.slice none 0 0)]) (ys:=[a6 []]) (i:=n*2+1) rfl (by rw[oX];simp;omega) (fun j u v h1 h2=>by
      match j,h1,h2 with
      | 0,h1,h2 =>
       simp only[List.getElem?_cons_zero,Option.some.injEq]at h1 h2;subst h1;subst h2;exact Td _
      | j+1,h1,h2=>simp at h1) j u v
     rw[fX]at kC;refine K8 id (K3 (c3.term.to.set n ⟨y.block,[]⟩)) (List.getElem?_set_self sP) (by rw[<-fX,ct (by rw[oX];simp;omega),ct (by rw[oX];simp;omega)]) (N' _) kC ?_;rw[List.set_set];have VF:=Uk.QW fA UO UU (l:=c3.term.to.set n ⟨y.block,[]⟩) List.length_set;have Yz:Rq g (Mz k (n+1)) (L3.set k (KI c3 (c3.term.to.set n ⟨y.block,[]⟩))):=UL.set UO (by simp[KI]) (UL.few c3 (List.mem_of_getElem? UO)) (Nat.le_refl _);rw[LL UO,P0,hy]at gp;simp only[Option.getD_some]at gp;generalize O3.set id (.cells (K3 (c3.term.to.set n ⟨y.block,[]⟩)))=O4 at VF ⊢;refine dc ?_
     repeat(refine⟨by omega,?_⟩)
     refine fV ?_;refine⟨⟨⟨n+1,Vu,_,O4⟩,qt,VF,Yz,gp⟩,by simp;omega,?_⟩;refine zq rfl ?_ ?_;simp -dsimp only[simprocAttr,↓aa,zp,zc]
     ·exact Sub.int (by simp)
     rfl
    refine aR ?_;simp -dsimp only[bX,ne_eq,Nat.reduceEqDiff,reduceCtorEq];have sV:b.term.to.length<=n:=by
     have:=of_decide_eq_false h;omega
    rw[List.drop_eq_nil_of_le sV]at gp;simp only[Q8]at gp;subst gp;have Zg:=yZ.few;refine dc ?_
    repeat(refine⟨by omega,?_⟩)
    refine fV ?_;refine⟨⟨⟨k+1,ss,L2,O⟩,aZ,hL,hW.mono (Sc (by have:=yZ.to b jc;omega)),cO⟩,by simp;omega,?_⟩;refine zq rfl ?_ ?_;simp -dsimp only[simprocAttr,↓aa,zp,zc]
    ·exact Sub.int (by simp)
    rfl
   refine aR ?_;simp -dsimp only[bX,ne_eq,Nat.reduceEqDiff,reduceCtorEq];have Vl:g.blocks.length<=k:=by
    have:=of_decide_eq_false h;omega
   rw[List.drop_eq_nil_of_le Vl]at cO;simp only[Pf]at cO;subst cO;have WV:=hW.len;have Ld:=hL.out;have Zc:=yZ.few;refine dd ?_;simp -dsimp only[simprocAttr,↓aa,zp,Ld]
   repeat(refine⟨by omega,?_⟩)
   refine ah ?_;refine aj (aU (ι:={Y:Nat×List ak // Y.1<=R.length∧OH g.name ids ss X bW (MA Y.1 R) Y.2}) (fun Y=>⟨132,[(2,.mp 1 0),(7,.mp X 0),(119,aI R.length),(120,aI Y.1.1)],Y.1.2⟩) (fun Y=>R.length-Y.1.1) ⟨⟨0,O⟩,by simp,by rw[Sg];exact hL⟩ ?_ ?_)
   ·refine zq rfl ?_ ?_;simp -dsimp only[simprocAttr,↓aa,zp,zc]
    all_goals rfl
   rintro⟨⟨j,O⟩,hj,hL⟩;simp only at hj hL;have US:=hL.ls;have Xm:=hL.li;rw[Qn]at US Xm;refine aA (ah ?_);apply gW rfl<;>intro h
   ·refine cA ?_;have nQ:j<R.length:=by simpa using h
    obtain⟨c,hc⟩:∃c,R[j]?=some c:=⟨R[j],List.getElem?_eq_getElem nQ⟩
    have W9:=TX hc;have dD:=Sf hc;obtain⟨id,fA⟩:∃id,ids[j]?=some id:=⟨ids[j]'(by omega),List.getElem?_eq_getElem _⟩
    obtain⟨s,hs⟩:∃s,ss[j]?=some s:=⟨ss[j]'(by omega),List.getElem?_eq_getElem _⟩
    have eJ:=Lp hL.ls hL.li;have YC:=Qn j R;refine aK (aj ?_);by_cases WA:j=0
    ·have d1:decide ((0:Int)<(j:Int))=false:=decide_eq_false (by omega);refine aA ?_
     repeat(refine⟨by omega,?_⟩)
     refine ah ?_;refine aX ?_;simp -dsimp only[simprocAttr,↓aa,zp,d1]
     repeat(refine⟨by omega,?_⟩)
     refine ah ?_;refine cE rfl ?_;refine jR ?_;refine dc ?_
     repeat(refine⟨by omega,?_⟩)
     refine fV ?_;refine⟨⟨⟨j+1,O⟩,nQ,by
      simp only;rw[dD,if_pos WA,K6 W9];exact hL⟩,by simp;omega,?_⟩
     refine zq rfl ?_ ?_;simp -dsimp only[simprocAttr,↓aa,zp,zc]
     ·exact Sub.int (by simp)
     rfl
    have d1:decide ((0:Int)<(j:Int))=true:=decide_eq_true (by omega);have Ld:=hL.out;have iI:=hL.bl;refine aA ?_
    repeat(refine⟨by omega,?_⟩)
    refine ah ?_;refine aX ?_;simp -dsimp only[simprocAttr,↓aa,zp,d1]
    repeat(refine⟨by omega,?_⟩)
    refine ah ?_;refine cS rfl ?_;refine j1 ?_;simp -dsimp only[simprocAttr,↓aa,zp,Ld,iI,eJ,Int.toNat_natCast,Nd,List.length_cons,List.length_nil]
    repeat(refine⟨by omega,?_⟩)
    refine ah ?_;have fX:=LM (s':=s) (c:=Nh c) (off:=0) (xs:=[a6 []]) hs fA W9 rfl (by simp);rw[Nat.add_zero,Mx hs]at fX;have kC:=fun(i:Nat) u v=>Mb (O:=O.set bW (.cells (aS (KE ss ids (MA j R)) (j*7) [.v (.slice none 0 0)]))) (cs:=KE ss ids (MA j R)) (xs:=[.v (.slice none 0 0)]) (ys:=[a6 []]) (i:=j*7) rfl (by rw[eJ];simp;omega) (fun i u v h1 h2=>by
     match i,h1,h2 with
     | 0,h1,h2 =>
      simp only[List.getElem?_cons_zero,Option.some.injEq]at h1 h2;subst h1;subst h2;exact Td _
     | i+1,h1,h2=>simp at h1) i u v
    rw[fX]at kC;refine K8 bW (KE ss ids ((MA j R).set j (Nh c))) (List.getElem?_set_self (I iI)) (by rw[<-fX,ct (by rw[eJ];simp;omega),ct (by rw[eJ];simp;omega)]) (L8 _ _ _) kC ?_;rw[List.set_set];have VF:=hL.Wl W9 (c:=Nh c) rfl rfl;generalize O.set bW (.cells (KE ss ids ((MA j R).set j (Nh c))))=O4 at VF ⊢;refine dc ?_
    repeat(refine⟨by omega,?_⟩)
    refine fV ?_;refine⟨⟨⟨j+1,O4⟩,nQ,by
     simp only;rw[dD,if_neg WA];exact VF⟩,by simp;omega,?_⟩
    refine zq rfl ?_ ?_;simp -dsimp only[simprocAttr,↓aa,zp,zc]
    ·exact Sub.int (by simp)
    rfl
   refine aR ?_;simp -dsimp only[bX,ne_eq,Nat.reduceEqDiff,reduceCtorEq];have NK:R.length<=j:=by
    have:=of_decide_eq_false h;omega
   rw[Ta NK]at hL;have UH:=KR 0 R;generalize Lf 0 R=B at hL UH ⊢;have Ld:=hL.out;have oZ:=hL.r1;have RA:=hL.b5;have uL:=hL.x5;have Tw:=I oZ;refine aX ?_;simp -dsimp only[simprocAttr,↓aa,zp,Ld,oZ];refine ah ?_;refine K8 bW (KL ids B) (bx hL.bl (by omega)) (by rw[LZ hL.li,Lp hL.ls hL.li]) (OQ _ _) (OP _ hL.ls hL.li) ?_;refine ND (ids:=ids) (bs:=B) (T:=[]) (X:=1) (oid:=bW) (name:=g.name) hL.li (by omega) (by rw[List.getElem?_set_ne (by omega)];exact List.getElem?_set_self Tw) (by rw[List.getElem?_set_self (by rw[List.length_set];exact I hL.bl)];simp[ao]) (fun j id c h1 h2 h3=>?_) (fun i j id c d h1 h2 h3 h4 h5 h6=>hL.inj i j id c d h1 h2 h3 h4 h5 h6) fun O1 dW S0=>?_
   ·obtain⟨o1,o2,o3,o4⟩:=hL.own j id c h1 h2 h3;exact⟨o2,by omega,by rw[List.getElem?_set_ne (Ne.symm o2),List.getElem?_set_ne (by omega)];exact o4⟩
   rw[List.append_nil]at S0;refine aq ?_;simp -dsimp only[simprocAttr,↓aa,zp,zr,Try.results53,S0];refine⟨?_,rfl⟩;simp[aw,ae.upto,az,Block.ai]
  exact cw.mp rfl rfl
 rw[if_neg hc]at fQ ⊢;obtain⟨e,he⟩:∃e,e=bo f:=⟨_,rfl⟩
 rw[<-he]at hc fQ ⊢;have jn:decide (e=0)=false:=decide_eq_false hc;refine zf true 0 Try.func53 Try.ntmps53 ?_;dsimp only[Tmp,TypeId,ax];refine aA (ah ?_);refine aH 1 0 (.ip none [aI f.name,ay f.blocks]) rfl (by simp[ak.aF]) trivial rfl ?_ ?_;rotate_left;simp -dsimp only[simprocAttr,↓aa,zp]
 ·refine aA ?_;refine zi fQ ?_;refine ah ?_;refine dd ?_;simp -dsimp only[simprocAttr,↓aa,zp,jn];refine ah ?_;refine cS rfl ?_;refine aA (ah ?_);refine aq ?_;simp -dsimp only[simprocAttr,↓aa,zp,zr,Try.results53];simp[aw,ae.upto]
 exact cw.mp rfl rfl
def Lc(er:Func->Int):List Func->Int
 | []=>0
 | f::r=>l4 (er f) (Lc er r)
theorem LU{er:Func->Int}:∀{l:List Func},Lc er l=0->∀f∈l,er f=0
 | [],_,f,hf=>by cases hf
 | g::r,h,f,hf=>by
  have:=hZ h;rcases List.mem_cons.1 hf with q|q
  ·subst q;exact this.1
  exact LU this.2 f q
def TI(gM:Func->Func)(er:Func->Int)(f:Func):ae:=if er f=0 then .df [(gM f).enc,aI 0]else .df [.agg [aI 0,.aE 7 [] .sh],aI (er f)]
def Oj(f:Func):Func:=LP (KD f) (LF f)
def O9(f:Func):Int:=if 128<f.blocks.length+(LC f).news.length then 2 else 0
theorem Q4{f:Func}(hc:bo f=0):PI f=TI Oj O9 f:=by
 unfold PI TI O9;rw[if_pos hc];by_cases h:128<f.blocks.length+(LC f).news.length
 ·rw[if_pos h,if_pos h,if_neg (by decide)]
 rw[if_neg h,if_neg h,if_pos rfl];rfl
theorem Ob{f:Func}(h:O9 f=0):f.blocks.length+(LC f).news.length<=128:=by
 unfold O9 at h;split at h
 ·simp at h
 omega
theorem Od:∀{l:List Func},Lc O9 l≠0->Lc O9 l=2
 | [],h=>absurd rfl h
 | f::r,h=>by
  unfold Lc at h ⊢;by_cases he:O9 f=0
  ·rw[cJ he]at h ⊢;exact Od h
  rw[fT he];unfold O9 at he ⊢;split at he
  ·rw[if_pos (by assumption)]
  exact absurd rfl he
def Nu(u:bR):bR:=⟨u.fns.map Oj,u.main⟩
def zU:ae:=.agg [.aE 2 [] .sh,aI 0]
def LW(u:bR):Int:=if dr u=0 then(if Lc O9 u.fns=0 then(if KX (Nu u)=0 then 0 else 2)else 2)else dr u
def Nc(u:bR):ae:=if LW u=0 then .df [(Nu u).enc,aI 0]else .df [zU,aI (LW u)]
theorem Qm(u:bR)(bB:u.fit)(RB:dr u=0->Lc O9 u.fns=0->(Nu u).fit):bw Try.prog 26 [u.enc] (Nc u):=by
 have oF:=mY u bB;by_cases hc:dr u=0
 ·have rZ:LW u=if Lc O9 u.fns=0 then(if KX (Nu u)=0 then 0 else 2)else 2:=if_pos hc
  rw[hc]at oF;have wj:=(tZ bB hc).few;have dZ:∀f∈u.fns,bw Try.prog 53 [f.enc] (TI Oj O9 f):=fun f hf=>by
   rw[<-Q4 ((Lz hc).2.2.2.1 f hf)];exact Q7 f (bB.2.2 f hf)
  obtain⟨R,hR⟩:∃R,R=Lc O9 u.fns:=⟨_,rfl⟩
  have xz:=fun h=>Mm (Nu u) (RB hc h);obtain⟨Y,hY⟩:∃Y,Y=Nc u:=⟨_,rfl⟩
  rw[<-hY];unfold Nc at hY;rw[rZ,<-hR]at hY;rw[<-hR]at xz;refine zf true 0 Try.func26 Try.ntmps26 ?_;dsimp only[Tmp,TypeId,ax];refine aA (ah ?_);refine aH 1 0 (.ip none [a9 u.fns,aI u.main]) rfl (by simp[ak.aF]) trivial rfl ?_ ?_;rotate_left;simp -dsimp only[simprocAttr,↓aa,zp]
  ·refine b8 ?_;refine zi oF ?_;refine ah ?_;refine aA (ah ?_);apply aP rfl<;>intro h
   ·cases h
   refine cA ?_;refine aA (ah ?_);refine gS 2 0 rfl rfl ?_;simp -dsimp only[simprocAttr,↓aa,zp];refine b8 (ah ?_);refine aj (aU (ι:={k:Nat // k<=u.fns.length∧R=Lc O9 (u.fns.drop k)}) (fun k=>⟨47,[(2,.mp 1 0),(3,aI 0),(5,.mp 2 0),(20,a9 u.fns),(21,aI u.fns.length),(22,aI k.1)],[.gone,.cells [.aE 2 [] .ex,aI 0],.cells [.aE 2 (((u.fns.take k.1).map Oj).map Func.enc) (.tok 3),aI u.main],.spare k.1]⟩) (fun k=>u.fns.length-k.1) ⟨0,by omega,hR⟩ ?_ ?_)
   ·refine zq rfl ?_ ?_;simp -dsimp only[simprocAttr,↓aa,zp,zc]
    all_goals rfl
   rintro⟨k,hk,R6⟩;refine aA (ah ?_);apply gW rfl<;>intro h
   ·refine cA ?_;have aZ:k<u.fns.length:=by simpa using h
    obtain⟨f,hf⟩:∃f,u.fns[k]?=some f:=⟨u.fns[k],by simp[aZ]⟩
    rw[bS hf]at R6;simp only[Lc]at R6;have tI:=dZ f (List.mem_of_getElem? hf);unfold TI at tI;have iz:(((u.fns.take (k+1)).map Oj).map Func.enc)=((u.fns.take k).map Oj).map Func.enc++[(Oj f).enc]:=by
     rw[List.take_add_one,hf];simp
    have iq:(((u.fns.take k).map Oj).map Func.enc).length=k:=by
     simp;omega
    have VH:∀n,aw n (((u.fns.take k).map Oj).map Func.enc):=fun n=>Func.ai n _;have W1:∀n,aw n (((u.fns.take k).map Oj).map Func.enc++[(Oj f).enc]):=fun n=>by
     rw[<-iz];exact Func.ai n _
    generalize ((u.fns.take k).map Oj).map Func.enc=T at *;refine aK (aj ?_);refine aX ?_;simp -dsimp only[simprocAttr,↓aa,zp,hf];refine ah ?_;refine aH 7 4 (.ip none [aI f.name,ay f.blocks]) rfl (by simp[ak.aF]) trivial rfl ?_ ?_;rotate_left;simp -dsimp only[simprocAttr,↓aa,zp]
    ·by_cases he:O9 f=0
     ·rw[if_pos he]at tI;rw[cJ he]at R6;generalize Oj f=g at *;unfold Func.enc at tI;refine aA ?_;refine zi tI ?_;refine ah ?_;refine aH 8 5 (.ip none [aI g.name,ay g.blocks]) rfl (by simp[ak.aF]) trivial rfl ?_ ?_;rotate_left;simp -dsimp only[simprocAttr,↓aa,zp]
      ·refine b8 (ah ?_);refine cE rfl ?_;refine cA ?_;refine j1 ?_;simp -dsimp only[simprocAttr,↓aa,zp,iq]
       repeat(refine⟨by omega,?_⟩)
       refine ah ?_;refine bT 4 [(2,.mp 1 0),(3,aI 0),(5,.mp 2 0),(20,a9 u.fns),(21,aI u.fns.length),(22,aI k)] (by simp) (by omega) [.gone,.cells [.aE 2 [] .ex,aI 0],.cells [.aE 2 (T++[g.enc]) (.tok 3),aI u.main],.spare (k+1)] ?_ ?_ ?_ ?_ ?_
       ·rfl
       ·simp[ak.upto,aw,ae.upto,az,Func.ai,Block.ai,VH,W1]
       ·simp[gj,St.get,bu,a7,Go.Av.look,Sub.refl]
       ·simp[ak.upto,aw,ae.upto,az,Func.ai,Block.ai,VH]
       refine dc ?_
       repeat(refine⟨by omega,?_⟩)
       refine fV ?_;refine⟨⟨k+1,aZ,R6⟩,by simp;omega,?_⟩;dsimp only;rw[iz];refine zq rfl ?_ ?_;simp -dsimp only[simprocAttr,↓aa,zp,zc]
       ·exact Sub.int (by simp)
       rfl
      exact cw.mp rfl rfl
     rw[if_neg he]at tI;rw[fT he]at R6;have Vi:R=2:=by
      rw[hR];exact Od (by rw[<-hR,R6];exact he)
     obtain⟨e,r6⟩:∃e,e=O9 f:=⟨_,rfl⟩
     rw[<-r6]at tI he R6;have jn:decide (e=0)=false:=decide_eq_false he;rw[R6]at Vi;rw[if_neg (show ¬(R=0) by rw[R6];exact he),if_neg (by decide)]at hY;refine aA ?_;refine zi tI ?_;refine ah ?_;refine dd ?_;simp -dsimp only[simprocAttr,↓aa,zp,jn];refine ah ?_;refine cS rfl ?_;refine aA (ah ?_);refine aq ?_;simp -dsimp only[simprocAttr,↓aa,zp,zr,Try.results26];rw[Vi,hY];simp[aw,ae.upto,zU]
    exact cw.mp rfl rfl
   refine aR ?_;simp -dsimp only[bX,ne_eq,Nat.reduceEqDiff,reduceCtorEq];have gT:k=u.fns.length:=by simp at h;omega
   subst gT;rw[List.drop_length]at R6;simp only[Lc]at R6;rw[if_pos R6]at hY;rw[List.take_length];have hm:=xz R6;unfold bR.enc Nu at hm;have VH:∀n,aw n ((u.fns.map Oj).map Func.enc):=fun n=>Func.ai n _;obtain⟨e,r6⟩:∃e,e=KX (Nu u):=⟨_,rfl⟩
   unfold Nu at r6;rw[<-r6]at hm;have Xe:KX (Nu u)=e:=by rw[r6];rfl
   rw[Xe]at hY;by_cases he:e=0
   ·subst he;rw[if_pos rfl,if_pos rfl]at hY;refine b8 ?_;refine zi hm ?_;refine ah ?_;refine cE rfl ?_;refine cA ?_;refine aA (ah ?_);refine aq ?_;simp -dsimp only[simprocAttr,↓aa,zp,zr,Try.results26];rw[hY];simp[aw,ae.upto];rw[List.map_map]at VH;exact⟨VH 0,by simp[bR.enc,Nu]⟩
   have jn:decide (e=0)=false:=decide_eq_false he;rw[if_neg he,if_neg (by decide)]at hY;refine dd ?_;simp -dsimp only[simprocAttr,↓aa,zp,jn];refine .inl ⟨_,hm,by simp only[aw,ae.upto,zt,zu,az],au ?_⟩;simp -dsimp only[simprocAttr,↓aa,zp,jn];refine ah ?_;apply aP rfl<;>intro h
   ·refine aA (ah ?_);refine aq ?_;simp -dsimp only[simprocAttr,↓aa,zp,zr,Try.results26];rw[hY];simp[aw,ae.upto,zU]
   exfalso;simp[he]at h
  exact cw.mp rfl rfl
 have rZ:LW u=dr u:=if_neg hc;unfold Nc;rw[rZ,if_neg hc];obtain⟨e,r6⟩:∃e,e=dr u:=⟨_,rfl⟩
 rw[<-r6]at hc oF ⊢;have jn:decide (e=0)=false:=decide_eq_false hc;refine zf true 0 Try.func26 Try.ntmps26 ?_;dsimp only[Tmp,TypeId,ax];refine aA (ah ?_);refine aH 1 0 (.ip none [a9 u.fns,aI u.main]) rfl (by simp[ak.aF]) trivial rfl ?_ ?_;rotate_left;simp -dsimp only[simprocAttr,↓aa,zp]
 ·refine b8 ?_;refine zi oF ?_;refine ah ?_;refine aX ?_;simp -dsimp only[simprocAttr,↓aa,zp,jn];refine ah ?_;refine cS rfl ?_;refine aA (ah ?_);refine aq ?_;simp -dsimp only[simprocAttr,↓aa,zp,zr,Try.results26];simp[aw,ae.upto,zU]
 exact cw.mp rfl rfl
def WO(p:Nat)(k:Int)(es:List Edge):List Int:=(es.filter fun e=>decide (e.block=k)).map fun _=>(p:Int)
def Wr(k:Int):Nat->List Block->List Int
 | _,[]=>[]
 | p,b::r=>WO p k b.term.to++Wr k (p+1) r
def XI(f:Func)(k:Int):List Int:=Wr k 0 f.blocks
theorem TH(p:Nat)(k:Int)(es:List Edge):(WO p k es).length=K7 k es:=by
 unfold WO K7;rw[List.length_map];exact(List.countP_eq_length_filter ..).symm
theorem Ru(k:Int):∀(bs:List Block) (p:Nat),(Wr k p bs).length=Mh k bs
 | [],_=>rfl
 | b::r,p=>by
  rw[Wr,List.length_append,TH,Ru k r];rfl
theorem P7(t:Int)(es:List Edge):K7 t es=(es.map Edge.block).countP fun b=>decide (b=t):=by
 unfold K7;rw[List.countP_map];rfl
theorem Mg.Yd{g G:Func}(h:Mg g G)(t:Int):Mh t G.blocks=Mh t g.blocks:=by
 have e:(G.blocks.map fun b=>b.term.to).map (K7 t)=(g.blocks.map fun b=>b.term.to).map (K7 t):=by
  apply List.ext_getElem?;intro j;rw[List.getElem?_map,List.getElem?_map,List.getElem?_map,List.getElem?_map];cases hj:G.blocks[j]? with
  | none =>
   have:g.blocks[j]?=none:=by
    rw[List.getElem?_eq_none_iff]at hj ⊢;rw[<-h.len];exact hj
   rw[this]
  | some c =>
   obtain⟨b,h1,h2,_⟩:=h.blk j c hj;rw[h1];show some (K7 t c.term.to)=some (K7 t b.term.to);rw[P7,P7,h2]
 show(((G.blocks.map fun b=>b.term.to).map (K7 t))).sum=_;rw[e];rfl
theorem Mg.QW{g G:Func}(h:Mg g G){j:Nat}{c:Block}(hc:G.blocks[j]?=some c){x:Edge}(hx:x∈c.term.to):∃b e,g.blocks[j]?=some b∧e∈b.term.to∧e.block=x.block∧b.term.to.length=c.term.to.length∧x.args=[]:=by
 obtain⟨b,h1,h2,h3,_⟩:=h.blk j c hc;have hl:=congrArg List.length h2;rw[List.length_map,List.length_map]at hl;have hm:x.block∈b.term.to.map Edge.block:=by
  rw[<-h2];exact List.mem_map.2 ⟨x,hx,rfl⟩
 obtain⟨e,he,heq⟩:=List.mem_map.1 hm;exact⟨b,e,h1,he,heq,hl.symm,h3 x hx⟩
theorem Mg.gr{g G:Func}(h:Mg g G)(hg:Ro g):Ro G where
 ne:=fun q=>by
  have:=h.len;rw[q]at this;exact hg.ne (List.length_eq_zero_iff.1 this.symm)
 few:=by rw[h.len];exact hg.few
 to:=fun c hc=>by
  obtain⟨j,hj⟩:=List.mem_iff_getElem?.1 hc;obtain⟨b,h1,h2,_⟩:=h.blk j c hj;have hl:=congrArg List.length h2;rw[List.length_map,List.length_map]at hl;rw[hl];exact hg.to b (List.mem_of_getElem? h1)
 db:=fun c hc e he=>by
  obtain⟨j,hj⟩:=List.mem_iff_getElem?.1 hc;obtain⟨b,e',h1,h2,h3,_⟩:=h.QW hj he;have:=hg.db b (List.mem_of_getElem? h1) e' h2;rw[h.len,<-h3];exact this
structure Rn(G:Func):Prop where
 gr:Ro G
 par:∀(j:Nat) c,G.blocks[j]?=some c->0<j->c.params=[]
 args:∀c∈G.blocks,∀e∈c.term.to,e.args=[]
 few:∀c∈G.blocks,∀e∈c.term.to,2<=c.term.to.length->(XI G e.block).length<=1
 ins:∀c∈G.blocks,c.ins.length<=2 ^ 47
theorem Uz{g G:Func}(h:Mg g G)(hg:Ro g)(hs:∀(k:Nat) c,g.blocks[k]?=some c->∀e∈c.term.to,LO g k e=false):Rn G where
 gr:=h.gr hg
 par:=fun j c hc hj=>by
  obtain⟨b,h1,h2,h3,h4⟩:=h.blk j c hc;exact h4 hj
 args:=fun c hc e he=>by
  obtain⟨j,hj⟩:=List.mem_iff_getElem?.1 hc;exact(h.QW hj he).choose_spec.choose_spec.2.2.2.2
 few:=fun c hc e he hl=>by
  obtain⟨j,hj⟩:=List.mem_iff_getElem?.1 hc;obtain⟨b,e',h1,h2,h3,h4,h5⟩:=h.QW hj he;have hb:=List.mem_of_getElem? h1;have S3:=hs j b h1 e' h2;have hr:=hg.db b hb e' h2;unfold LO at S3;have TO:aD g (j:Int)=b:=by simp[aD,h1]
  rw[TO,decide_eq_true (by omega),Bool.true_and,decide_eq_false_iff_not]at S3;rw[Mw (fun b hb e he=>by have:=hg.db b hb e he;omega) (by omega) hr.2]at S3;unfold XI;rw[Ru,h.Yd,<-h3];omega
 ins:=fun c hc=>(h.fit.2.2 c hc).2.2.1
theorem Tb{f:Func}(bB:f.fit)(hc:bo f=0)(hm:f.blocks.length+(LC f).news.length<=128):Mg (KD f) (Oj f)∧Rn (Oj f):=by
 have Qh:=L0 bB hm;have Wx:=LD bB hc hm;have TS:=KU bB hc;have hv:=KU Qh Wx;have hb:Mg (KD f) (Oj f):=by
  refine Q5 Qh hv (fun v h=>?_) ?_ hv.fn.ins
  ·rw[M4]at h;exact(TS.below h).2.1
  cases hq:K4 f with
  | nil =>
   have:LF f=0:=by
    unfold LF;rw[hq];rfl
   rw[this];exact PF
  | cons v r =>
   have:=TS.below (v:=v) (by rw[hq];exact List.mem_cons_self);unfold gX;omega
 exact⟨hb,Uz hb hv.fn.gr fun k c hk e he=>OC TS.fn.gr hv.fn.gr hk he⟩
theorem Tc{u:bR}(bB:u.fit)(hc:dr u=0)(h:Lc O9 u.fns=0):(Nu u).fit∧∀G∈(Nu u).fns,Rn G:=by
 have hf:∀f∈u.fns,Mg (KD f) (Oj f)∧Rn (Oj f):=fun f hf=>Tb (bB.2.2 f hf) ((Lz hc).2.2.2.1 f hf) (Ob (LU h f hf));refine⟨⟨bB.1,by
  show(u.fns.map Oj).length<=_;rw[List.length_map];exact bB.2.1,fun G hG=>?_⟩,fun G hG=>?_⟩
 ·obtain⟨f,h1,rfl⟩:=List.mem_map.1 hG;exact(hf f h1).1.fit
 obtain⟨f,h1,rfl⟩:=List.mem_map.1 hG;exact(hf f h1).2
theorem Wj{u:bR}(bB:u.fit)(hc:dr u=0)(h:Lc O9 u.fns=0):Ux (KS u) (Nu u) (fun fn=>LF (aL u fn)):=by
 have hm:∀f∈u.fns,f.blocks.length+(LC f).news.length<=128:=fun f hf=>Ob (LU h f hf);have tI:=(Lz hc).2.2.2.1;have hl:(KS u).fns.length=u.fns.length:=by
  unfold KS;rw[List.length_map]
 have hf:∀fn:Int,0<=fn->fn<(KS u).fns.length->aL u fn∈u.fns∧aL (KS u) fn=KD (aL u fn):=fun fn f0 f1=>⟨fN f0 (by omega),Lt f0 (by omega)⟩
 exact {
  len:=by
   show(u.fns.map Oj).length=_;rw[List.length_map,hl]
  main:=rfl
  fn:=fun fn f0 f1=>by
   obtain⟨h1,h2⟩:=hf fn f0 f1;rw[h2];have:(Nu u).fns[fn.toNat]?=some (Oj (aL u fn)):=by
    show(u.fns.map Oj)[fn.toNat]?=_;have hx:u.fns[fn.toNat]?=some (u.fns[fn.toNat]'(by omega)):=List.getElem?_eq_getElem _;rw[List.getElem?_map,hx];unfold aL;rw[hx];rfl
   show(Nu u).fns[fn.toNat]?.getD default=_;rw[this];rfl
  ok:=fun fn f0 f1=>by
   obtain⟨h1,h2⟩:=hf fn f0 f1;rw[h2];exact KU (L0 (bB.2.2 _ h1) (hm _ h1)) (LD (bB.2.2 _ h1) (tI _ h1) (hm _ h1))
  below:=fun fn f0 f1 x hx=>by
   obtain⟨h1,h2⟩:=hf fn f0 f1;rw[h2,M4]at hx;exact((KU (bB.2.2 _ h1) (tI _ h1)).below hx).2.1
  Vz:=fun fn f0 f1=>by
   obtain⟨h1,h2⟩:=hf fn f0 f1;rw[h2];have hv:=KU (bB.2.2 _ h1) (tI _ h1);have E3:=KU (L0 (bB.2.2 _ h1) (hm _ h1)) (LD (bB.2.2 _ h1) (tI _ h1) (hm _ h1));exact fun k c hk e he=>OC hv.fn.gr E3.fn.gr hk he }
theorem PK{u:bR}(bB:u.fit)(hc:dr u=0)(h:Lc O9 u.fns=0)(xz:KX (Nu u)=0)(he:(runM u 1500).e=0)(h5:(runM u 1500).fin≠5) :
  (bm (Nu u) 1000000).e=13∨((bm (Nu u) 1000000).e=0∧(bm (Nu u) 1000000).out=(runM u 1500).out∧(bm (Nu u) 1000000).fin=(runM u 1500).fin∧(bm (Nu u) 1000000).val=(runM u 1500).val):=by
 have hm:∀f∈u.fns,f.blocks.length+(LC f).news.length<=128:=fun f hf=>Ob (LU h f hf);obtain⟨s1,s2,s3,s4⟩:=Rk bB hc hm he;have lJ:=Nl bB hc hm;have hB:runM (KS u) 1000000=bm (KS u) 1000000:=by
  unfold runM;rw[if_neg (by rw[lJ];simp),if_neg (by decide)]
 rw[hB]at s1 s2 s3 s4;rw[<-s2,<-s3,<-s4];exact OL (Wj bB hc h).tm (pJ (OB bB hc hm) lJ) (Qv (Tc bB hc h).1 xz) (by omega) (F:=1000000) (G:=1000000) (by omega) (by omega) (by omega) s1 (by rw[s3];exact h5)
def SA:Int->List Block->Int
 | m,[]=>m
 | m,b::r=>SA (IntKind.i64.wrap (m+((b.ins.length:Int)+1))) r
def SB:Int->List Func->Int
 | m,[]=>m
 | m,f::r=>SB (SA m f.blocks) r
def To(u:bR):Bool:=decide (SB 0 u.fns<=400)&&decide ((u.fns.length:Int)<=8)
theorem Rh(u:bR)(bB:u.fit):bw Try.prog 19 [u.enc] (.v (.bool (To u))):=by
 obtain⟨R,hR⟩:∃R,R=SB 0 u.fns:=⟨_,rfl⟩
 have hlen:=bB.2.1;unfold To;rw[<-hR];refine zf true 0 Try.func19 Try.ntmps19 ?_;dsimp only[Tmp,TypeId,ax];refine aA (ah ?_);refine aH 1 0 (.ip none [a9 u.fns,aI u.main]) rfl (by simp[ak.aF]) trivial rfl ?_ ?_;rotate_left;simp -dsimp only[simprocAttr,↓aa,zp]
 ·refine aA (ah ?_);refine b8 (ah ?_);refine aj (aU (ι:={x:Nat×Int // x.1<=u.fns.length∧R=SB x.2 (u.fns.drop x.1)}) (fun x=>⟨38,[(1,.ip none [a9 u.fns,aI u.main]),(3,aI x.1.2),(9,a9 u.fns),(10,aI u.fns.length),(11,aI x.1.1)],[.gone]⟩) (fun x=>u.fns.length-x.1.1) ⟨(0,0),by omega,by simp[hR]⟩ ?_ ?_)
  ·refine zq rfl ?_ ?_;simp -dsimp only[simprocAttr,↓aa,zp,zc]
   all_goals rfl
  rintro⟨⟨k,n⟩,hk,hn⟩;simp only at hk hn;refine aA (ah ?_);apply gW rfl<;>intro h
  ·refine cA ?_;have aZ:k<u.fns.length:=by simpa using h
   obtain⟨f,hf⟩:∃f,u.fns[k]?=some f:=⟨u.fns[k],by simp[aZ]⟩
   rw[bS hf]at hn;simp only[SB]at hn;have dU:=bB.2.2 f (List.mem_of_getElem? hf);have gK:=dU.2.1;obtain⟨P,hP⟩:∃P,P=SA n f.blocks:=⟨_,rfl⟩
   rw[<-hP]at hn;refine aK (aj ?_);refine aX ?_;simp -dsimp only[simprocAttr,↓aa,zp,hf];refine ah ?_;refine aH 5 1 (.ip none [aI f.name,ay f.blocks]) rfl (by simp[ak.aF]) trivial rfl ?_ ?_;rotate_left;simp -dsimp only[simprocAttr,↓aa,zp]
   ·refine bT 1 [(1,.ip none [a9 u.fns,aI u.main]),(3,aI n),(9,a9 u.fns),(10,aI u.fns.length),(11,aI k),(5,.ip none [aI f.name,ay f.blocks])] (by simp) (by omega) [.gone] ?_ ?_ ?_ ?_ ?_
    ·rfl
    ·simp[ak.upto,aw,ae.upto,az,Func.ai,Block.ai]
    ·simp[gj,St.get,bu,a7,Go.Av.look,Sub.refl]
    ·simp[ak.upto,aw,ae.upto,az,Func.ai,Block.ai]
    refine aA (ah ?_);refine aj (aU (ι:={y:Nat×Int // y.1<=f.blocks.length∧P=SA y.2 (f.blocks.drop y.1)}) (fun y=>⟨38,[(1,.ip none [a9 u.fns,aI u.main]),(3,aI y.1.2),(9,a9 u.fns),(10,aI u.fns.length),(11,aI k),(16,ay f.blocks),(17,aI f.blocks.length),(18,aI y.1.1)],[.gone]⟩) (fun y=>f.blocks.length-y.1.1) ⟨(0,n),by omega,by simpa using hP⟩ ?_ ?_)
    ·refine zq rfl ?_ ?_;simp -dsimp only[simprocAttr,↓aa,zp,zc]
     all_goals rfl
    rintro⟨⟨j,m⟩,hj,hm⟩;simp only at hj hm;refine aA (ah ?_);apply gW rfl<;>intro h
    ·refine cA ?_;have nQ:j<f.blocks.length:=by simpa using h
     obtain⟨b,hb⟩:∃b,f.blocks[j]?=some b:=⟨f.blocks[j],by simp[nQ]⟩
     have XW:=(dU.2.2 b (List.mem_of_getElem? hb)).2.2.1;rw[bS hb]at hm;simp only[SA]at hm;refine aK (aj ?_);refine aX ?_;simp -dsimp only[simprocAttr,↓aa,zp,hb];refine ah ?_;refine aH 7 1 (.ip none [a6 b.params,bD b.ins,aI b.term.kind,aI b.term.arg,aI b.term.n,a6 b.term.cases,aJ b.term.to]) rfl (by simp[ak.aF]) trivial rfl ?_ ?_;rotate_left;simp -dsimp only[simprocAttr,↓aa,zp]
     ·refine kT ⟨false,false⟩ hT 5 rfl rfl rfl (by simp) ?_;simp -dsimp only[simprocAttr,↓aa,zp]
      repeat(refine⟨by omega,?_⟩)
      refine oK rfl rfl (by simp) rfl rfl ?_;simp -dsimp only[simprocAttr,↓aa,zp];refine ah ?_;refine bT 1 [(1,.ip none [a9 u.fns,aI u.main]),(3,aI (IntKind.i64.wrap (m+((b.ins.length:Int)+1)))),(9,a9 u.fns),(10,aI u.fns.length),(11,aI k),(16,ay f.blocks),(17,aI f.blocks.length),(18,aI j)] (by simp) (by omega) [.gone] ?_ ?_ ?_ ?_ ?_
      ·rfl
      ·simp[ak.upto,aw,ae.upto,az,Func.ai,Block.ai]
      ·simp[gj,St.get,bu,a7,Go.Av.look,Sub.refl]
      ·simp[ak.upto,aw,ae.upto,az,Func.ai,Block.ai]
      refine dc ?_
      repeat(refine⟨by omega,?_⟩)
      refine fV ?_;refine⟨⟨(j+1,IntKind.i64.wrap (m+((b.ins.length:Int)+1))),by simp only;omega,hm⟩,by simp;omega,?_⟩;refine zq rfl ?_ ?_;simp -dsimp only[simprocAttr,↓aa,zp,zc]
      ·exact Sub.int (by simp)
      rfl
     exact cw.mp rfl rfl
    refine aR ?_;simp -dsimp only[bX,ne_eq,Nat.reduceEqDiff,reduceCtorEq];have NK:f.blocks.length<=j:=by
     have:=of_decide_eq_false h;omega
    rw[List.drop_eq_nil_of_le NK]at hm;simp only[SA]at hm;subst hm;refine dc ?_
    repeat(refine⟨by omega,?_⟩)
    refine fV ?_;refine⟨⟨(k+1,P),by simp only;omega,hn⟩,by simp;omega,?_⟩;refine zq rfl ?_ ?_;simp -dsimp only[simprocAttr,↓aa,zp,zc]
    ·exact Sub.int (by simp)
    rfl
   exact cw.mp rfl rfl
  refine aR ?_;simp -dsimp only[bX,ne_eq,Nat.reduceEqDiff,reduceCtorEq];have gT:u.fns.length<=k:=by
   have:=of_decide_eq_false h;omega
  rw[List.drop_eq_nil_of_le gT]at hn;simp only[SB]at hn;subst hn;cases hd:decide (R<=400)
  ·refine aX ?_;simp -dsimp only[simprocAttr,↓aa,zp,hd];refine ah ?_;refine aq ?_;simp -dsimp only[simprocAttr,↓aa,zp,zr,Try.results19]
  refine aX ?_;simp -dsimp only[simprocAttr,↓aa,zp,hd];refine ah ?_;refine aq ?_;simp -dsimp only[simprocAttr,↓aa,zp,zr,Try.results19]
 exact cw.mp rfl rfl
theorem NV(u:bR)(bB:u.fit):bw Try.prog 9 [u.enc] (.v (.bool true)):=by
 have WG:=xj;have Vs:=Rh u bB;have oF:=mY u bB;have hle:=Qm u bB fun hc h=>(Tc bB hc h).1;unfold Nc at hle;cases hs:To u with
 | false =>
  rw[hs]at Vs;refine zf true 0 Try.func9 Try.ntmps9 ?_;dsimp only[Tmp,TypeId,ax];refine aA (ah ?_);refine aH 1 0 (.ip none [a9 u.fns,aI u.main]) rfl (by simp[ak.aF]) trivial rfl ?_ ?_;rotate_left;simp -dsimp only[simprocAttr,↓aa,zp]
  ·refine b8 ?_;refine zi WG ?_;refine ah ?_;refine cE rfl ?_;refine cA ?_;refine b8 ?_;refine zi Vs ?_;refine ah ?_;refine cS rfl ?_;refine aA (ah ?_);refine aq ?_;simp -dsimp only[simprocAttr,↓aa,zp,zr,Try.results9]
  exact cw.mp rfl rfl
 | true =>
  rw[hs]at Vs;by_cases hc:dr u=0
  ·rw[hc]at oF;by_cases he:LW u=0
   ·rw[if_pos he]at hle;have Cf:Lc O9 u.fns=0:=by
     unfold LW at he;rw[if_pos hc]at he;split at he
     ·assumption
     simp at he
    have xz:KX (Nu u)=0:=by
     unfold LW at he;rw[if_pos hc,if_pos Cf]at he;split at he
     ·assumption
     simp at he
    have RB:=(Tc bB hc Cf).1;have Ad:=Mm (Nu u) RB;rw[xz]at Ad;have UZ:=u6 u bB 1500;have Vn:=Sm (Nu u) RB 1000000;have X5:Qr (Nu u) 1000000=bm (Nu u) 1000000:=by
     unfold Qr;rw[if_neg (by rw[xz];simp),if_neg (by decide)]
    rw[X5]at Vn;have qx:=PK bB hc Cf xz;generalize Nu u=V at *;generalize runM u 1500=A at *;generalize bm V 1000000=B at *;obtain⟨out,fin,val,n,e⟩:=A;obtain⟨T7,VC,Wn,n2,e2⟩:=B;unfold BB.enc at UZ Vn;unfold bR.enc at hle Ad Vn;simp only at UZ Vn qx;have EX:=lD out T7 fin VC val Wn;unfold BW at EX;refine zf true 0 Try.func9 Try.ntmps9 ?_;dsimp only[Tmp,TypeId,ax];refine aA (ah ?_);refine aH 1 0 (.ip none [a9 u.fns,aI u.main]) rfl (by simp[ak.aF]) trivial rfl ?_ ?_;rotate_left;simp -dsimp only[simprocAttr,↓aa,zp]
    ·refine b8 ?_;refine zi WG ?_;refine ah ?_;refine cE rfl ?_;refine cA ?_;refine b8 ?_;refine zi Vs ?_;refine ah ?_;refine cE rfl ?_;refine cA ?_;refine aA ?_;refine zi hle ?_;refine ah ?_;refine b8 ?_;refine zi oF ?_;refine ah ?_;refine aA (ah ?_);refine cE rfl ?_;refine cA ?_;refine b8 (ah ?_);refine cE rfl ?_;refine cA ?_;refine aH 3 1 (.ip none [a9 V.fns,aI V.main]) rfl (by simp[ak.aF]) trivial rfl ?_ ?_;rotate_left;simp -dsimp only[simprocAttr,↓aa,zp]
     ·refine b8 ?_;refine zi Ad ?_;refine ah ?_;refine cE rfl ?_;refine cA ?_;refine aA ?_;refine zi UZ ?_;refine ah ?_;refine aH 6 2 (.ip none [.aE 1 (out.map aI) .sh,aI fin,aI val]) rfl (by simp[ak.aF]) trivial rfl ?_ ?_;rotate_left;simp -dsimp only[simprocAttr,↓aa,zp]
      ·by_cases h0:e=0
       ·subst h0;by_cases Xh:fin=5
        ·subst Xh;refine dd ?_;simp -dsimp only[simprocAttr,↓aa,zp,decide_true];refine ah ?_;refine cS rfl ?_;refine aA (ah ?_);refine aq ?_;simp -dsimp only[simprocAttr,↓aa,zp,zr,Try.results9]
        have d5:decide (fin=5)=false:=decide_eq_false Xh;have hh:=qx rfl Xh;refine dd ?_;simp -dsimp only[simprocAttr,↓aa,zp,d5];refine ah ?_;refine cE rfl ?_;refine cA ?_;refine aA ?_;refine zi Vn ?_;refine ah ?_;refine aH 9 3 (.ip none [.aE 1 (T7.map aI) .sh,aI VC,aI Wn]) rfl (by simp[ak.aF]) trivial rfl ?_ ?_;rotate_left;simp -dsimp only[simprocAttr,↓aa,zp]
        ·rcases hh with q|⟨q1,q2,q3,q4⟩
         ·subst q;refine aX ?_;simp -dsimp only[simprocAttr,↓aa,zp,decide_true];refine ah ?_;refine aq ?_;simp -dsimp only[simprocAttr,↓aa,zp,zr,Try.results9]
         subst q1 q2 q3 q4;simp only[decide_true,Bool.and_self]at EX;refine aX ?_;simp -dsimp only[simprocAttr,↓aa,zp,decide_true];refine .inl ⟨_,EX,by simp only[aw,ae.upto,zt,zu,az],au ?_⟩;simp -dsimp only[simprocAttr,↓aa,zp,decide_true];refine ah ?_;refine aq ?_;simp -dsimp only[simprocAttr,↓aa,zp,zr,Try.results9]
        exact cw.mp rfl rfl
       have d0:decide (e=0)=false:=decide_eq_false h0;refine dd ?_;simp -dsimp only[simprocAttr,↓aa,zp,d0];refine ah ?_;refine cS rfl ?_;refine aA (ah ?_);refine aq ?_;simp -dsimp only[simprocAttr,↓aa,zp,zr,Try.results9]
      exact cw.mp rfl rfl
     exact cw.mp rfl rfl
    exact cw.mp rfl rfl
   have YJ:LW u=2:=by
    unfold LW at he ⊢;rw[if_pos hc]at he ⊢;split at he
    ·rename_i q;rw[if_pos q];split at he
     ·exact absurd rfl he
     rename_i q2;rw[if_neg q2]
    rename_i q;rw[if_neg q]
   rw[if_neg he,YJ]at hle;unfold zU at hle;refine zf true 0 Try.func9 Try.ntmps9 ?_;dsimp only[Tmp,TypeId,ax];refine aA (ah ?_);refine aH 1 0 (.ip none [a9 u.fns,aI u.main]) rfl (by simp[ak.aF]) trivial rfl ?_ ?_;rotate_left;simp -dsimp only[simprocAttr,↓aa,zp]
   ·refine b8 ?_;refine zi WG ?_;refine ah ?_;refine cE rfl ?_;refine cA ?_;refine b8 ?_;refine zi Vs ?_;refine ah ?_;refine cE rfl ?_;refine cA ?_;refine aA ?_;refine zi hle ?_;refine ah ?_;refine b8 ?_;refine zi oF ?_;refine ah ?_;refine aA (ah ?_);refine cE rfl ?_;refine cA ?_;refine b8 (ah ?_);refine cS rfl ?_;refine aA (ah ?_);refine aq ?_;simp -dsimp only[simprocAttr,↓aa,zp,zr,Try.results9]
   exact cw.mp rfl rfl
  have rZ:LW u=dr u:=if_neg hc;rw[rZ,if_neg hc]at hle;unfold zU at hle;obtain⟨e,r6⟩:∃e,e=dr u:=⟨_,rfl⟩
  rw[<-r6]at hc oF hle;have jn:decide (e=0)=false:=decide_eq_false hc;refine zf true 0 Try.func9 Try.ntmps9 ?_;dsimp only[Tmp,TypeId,ax];refine aA (ah ?_);refine aH 1 0 (.ip none [a9 u.fns,aI u.main]) rfl (by simp[ak.aF]) trivial rfl ?_ ?_;rotate_left;simp -dsimp only[simprocAttr,↓aa,zp]
  ·refine b8 ?_;refine zi WG ?_;refine ah ?_;refine cE rfl ?_;refine cA ?_;refine b8 ?_;refine zi Vs ?_;refine ah ?_;refine cE rfl ?_;refine cA ?_;refine aA ?_;refine zi hle ?_;refine ah ?_;refine b8 ?_;refine zi oF ?_;refine ah ?_;refine aX ?_;simp -dsimp only[simprocAttr,↓aa,zp,jn];refine ah ?_;refine cS rfl ?_;refine aX ?_;simp -dsimp only[simprocAttr,↓aa,zp,decide_true];refine ah ?_;refine aq ?_;simp -dsimp only[simprocAttr,↓aa,zp,zr,Try.results9]
  exact cw.mp rfl rfl
end Go.Proofs.Ytkhnjeblbiocaaa
