/-
  Texts bound together by a program of mine: YtkkookchlddbkaaGreatT317, YtkkookchlddbkaaGreatVM1, YtkkookchlddbkaaGreatVM2, YtkkookchlddbkaaGreatVM3, YtkkookchlddbkaaGreatT318, YtkkookchlddbkaaGreatT319, YtkkookchlddbkaaGreatT320, YtkkookchlddbkaaGreatT321, YtkkookchlddbkaaGreatVM4, YtkkookchlddbkaaGreatVM5, YtkkookchlddbkaaGreatT322, YtkkookchlddbkaaGreatT323, YtkkookchlddbkaaGreatVPf, YtkkookchlddbkaaGreatT328, YtkkookchlddbkaaGreatT329, YtkkookchlddbkaaGreatT330, YtkkookchlddbkaaGreatT331, YtkkookchlddbkaaGreatT332, YtkkookchlddbkaaGreatT333, YtkkookchlddbkaaGreatT334, YtkkookchlddbkaaGreatT335, YtkkookchlddbkaaGreatT336, YtkkookchlddbkaaGreatT337, YtkkookchlddbkaaGreatVM8, YtkkookchlddbkaaGreatVM9, YtkkookchlddbkaaGreatVMa, YtkkookchlddbkaaGreatT338, YtkkookchlddbkaaGreatT339, YtkkookchlddbkaaGreatT340.
-/
import Derived.Test.YtkkookchlddbkaaGreatA4
set_option linter.all false
set_option maxRecDepth 100000
set_option maxHeartbeats 4000000

namespace Go.Proofs.YtkkookchlddbkaaGreat.V
open Go.Av
def fD(k:Nat):Nat->List fa->List (ByteArray×K)->Option (List (ByteArray×K))
 | _,[],acc=>some acc
 | n,c::r,acc=>match find acc c.name with
  | some _=>none
  | none=>fD k (n+1) r (acc++[(c.name,(⟨k,n,c.args.length⟩:K))])
def cK:Nat->List Data->List (ByteArray×K)->Option (List (ByteArray×K))
 | _,[],acc=>some acc
 | k,d::r,acc=>(fD k 0 d.cons acc).bind (cK (k+1) r)
def build(datas:List Data):Option bF:=(cK 0 datas []).map fun l=>⟨datas,l⟩
def nJ:ae:=.agg [.aC 3 [] .sh,.v (.map none)]
def uE:Option bF->ae
 | some t=>.c5 [t.enc,aI 0]
 | none=>.c5 [nJ,aI 7]
theorem BY(datas:List Data):aV Tryz.prog 26 [eD datas] (uE (build datas)):=by
 refine zf true 0 Tryz.func26 Tryz.ntmps26 ?_;dsimp only[Tmp,TypeId,ax];refine aB ?_
 (refine I ?_;simp -dsimp only[ai,ne_eq,Nat.reduceEqDiff,reduceCtorEq])
 refine aB ?_
 (refine I ?_;simp -dsimp only[ai,ne_eq,Nat.reduceEqDiff,reduceCtorEq])
 refine bT 0 rfl (fun hlen=>?_);simp only[List.length_map]at hlen;refine cj ?_
 (refine I ?_;simp -dsimp only[ai,ne_eq,Nat.reduceEqDiff,reduceCtorEq])
 refine aj (aO (ι:={q:Nat×List (ByteArray×K) // q.1<=datas.length∧cK 0 datas []=cK q.1 (datas.drop q.1) q.2}) (fun q=>⟨52,[(14,eD datas),(15,aI datas.length),(16,aI q.1.1),(2,.mp 0 0),(4,.mp 2 0)],[.cells [.aC 3 [] .ex,.v (.map none)],.map .str (q.1.2.map entry),.cells [.aC 3 (datas.map Data.enc) .sh,.mm 1]]⟩) (fun q=>datas.length-q.1.1) ⟨(0,[]),by omega,rfl⟩ ?_ ?_)
 ·refine zq rfl ?_ ?_;simp -dsimp only[simprocAttr,↓aa,zp,zc];rfl
 rintro⟨⟨k,acc⟩,hk,he⟩;simp only at hk he;refine aB ?_
 (refine I ?_;simp -dsimp only[ai,ne_eq,Nat.reduceEqDiff,reduceCtorEq])
 apply gr rfl<;>intro h
 ·(refine au ?_;simp -dsimp only[ai,ne_eq,Nat.reduceEqDiff,reduceCtorEq])
  have aN:k<datas.length:=by simpa using h
  obtain⟨d,hd⟩:∃d:Data,datas[k]?=some d:=⟨datas[k],by simp[aN]⟩
  have gy:datas.drop k=d::datas.drop (k+1):=by
   rw[List.drop_eq_getElem_cons aN];rw[List.getElem?_eq_getElem aN]at hd;simp only[Option.some.injEq]at hd;rw[hd]
  rw[gy,cK]at he;refine aG (aj ?_);refine aH ?_;simp -dsimp only[simprocAttr,↓aa,zp,hd]
  (refine I ?_;simp -dsimp only[ai,ne_eq,Nat.reduceEqDiff,reduceCtorEq])
  refine aB ?_
  (refine I ?_;simp -dsimp only[ai,ne_eq,Nat.reduceEqDiff,reduceCtorEq])
  refine bT 22 rfl (fun zJ=>?_);simp only[List.length_map]at zJ;refine aj (aO (ι:={q:Nat×List (ByteArray×K) // q.1<=d.cons.length∧cK 0 datas []=(fD k q.1 (d.cons.drop q.1) q.2).bind (cK (k+1) (datas.drop (k+1)))}) (fun q=>⟨52,[(22,eC d.cons),(23,aI d.cons.length),(24,aI q.1.1),(5,aI k),(14,eD datas),(15,aI datas.length),(16,aI k),(2,.mp 0 0),(4,.mp 2 0)],[.cells [.aC 3 [] .ex,.v (.map none)],.map .str (q.1.2.map entry),.cells [.aC 3 (datas.map Data.enc) .sh,.mm 1],.cells [.v (.string d.name),.v (.int .i64 d.params),.aC 2 (d.cons.map fa.enc) .sh]]⟩) (fun q=>d.cons.length-q.1.1) ⟨(0,acc),by omega,he⟩ ?_ ?_)
  ·refine zq rfl ?_ ?_;simp -dsimp only[simprocAttr,↓aa,zp,zc];rfl
  rintro⟨⟨n,eJ⟩,hn,pk⟩;simp only at hn pk;refine aB ?_
  (refine I ?_;simp -dsimp only[ai,ne_eq,Nat.reduceEqDiff,reduceCtorEq])
  apply gr rfl<;>intro h
  ·(refine au ?_;simp -dsimp only[ai,ne_eq,Nat.reduceEqDiff,reduceCtorEq])
   have iB:n<d.cons.length:=by simpa using h
   obtain⟨c,hc⟩:∃c,d.cons[n]?=some c:=⟨d.cons[n],by simp[iB]⟩
   have vg:d.cons.drop n=c::d.cons.drop (n+1):=by
    rw[List.drop_eq_getElem_cons iB];rw[List.getElem?_eq_getElem iB]at hc;simp only[Option.some.injEq]at hc;rw[hc]
   rw[vg,fD]at pk;refine aG (aj ?_);refine aH ?_;simp -dsimp only[simprocAttr,↓aa,zp,hc]
   (refine I ?_;simp -dsimp only[ai,ne_eq,Nat.reduceEqDiff,reduceCtorEq])
   cases hf:find eJ c.name with
   | some x =>
    rw[hf]at pk;have hb:build datas=none:=by rw[build,pk];rfl
    refine cg ?_;simp -dsimp only[simprocAttr,↓aa,zp,hf,Option.getD_some,Option.getD_none]
    (refine I ?_;simp -dsimp only[ai,ne_eq,Nat.reduceEqDiff,reduceCtorEq])
    refine aB ?_
    (refine I ?_;simp -dsimp only[ai,ne_eq,Nat.reduceEqDiff,reduceCtorEq])
    refine de rfl ?_;refine aB ?_
    (refine I ?_;simp -dsimp only[ai,ne_eq,Nat.reduceEqDiff,reduceCtorEq])
    refine ak ?_;simp -dsimp only[simprocAttr,↓aa,zp,zr,Tryz.results26];rw[hb];exact⟨by simp[aq,ae.upto],rfl⟩
   | none =>
    rw[hf]at pk;have CF:jG (eJ.map entry) (.string c.name) (.agg [aI k,aI n,aI c.args.length])=(eJ++[(c.name,(⟨k,n,c.args.length⟩:K))]).map entry:=xM eJ c.name ⟨k,n,c.args.length⟩ hf;refine cg ?_;simp -dsimp only[simprocAttr,↓aa,zp,hf,Option.getD_some,Option.getD_none]
    (refine I ?_;simp -dsimp only[ai,ne_eq,Nat.reduceEqDiff,reduceCtorEq])
    refine aB ?_
    (refine I ?_;simp -dsimp only[ai,ne_eq,Nat.reduceEqDiff,reduceCtorEq])
    refine cB rfl ?_
    (refine au ?_;simp -dsimp only[ai,ne_eq,Nat.reduceEqDiff,reduceCtorEq])
    refine fq ?_;simp -dsimp only[simprocAttr,↓aa,zp,CF]
    (refine I ?_;simp -dsimp only[ai,ne_eq,Nat.reduceEqDiff,reduceCtorEq])
    refine ba 4 [(22,eC d.cons),(23,aI d.cons.length),(24,aI n),(5,aI k),(14,eD datas),(15,aI datas.length),(16,aI k),(2,.mp 0 0),(4,.mp 2 0)] (by simp) (by simp) [.cells [.aC 3 [] .ex,.v (.map none)],.map .str ((eJ++[(c.name,(⟨k,n,c.args.length⟩:K))]).map entry),.cells [.aC 3 (datas.map Data.enc) .sh,.mm 1],.cells [.v (.string d.name),.v (.int .i64 d.params),.aC 2 (d.cons.map fa.enc) .sh]] ?_ ?_ ?_ ?_ ?_
    ·rfl
    ·simp[ay.upto,aq,ae.upto,Data.an,bM,fa.an];simpa using bM 4 (eJ++[(c.name,(⟨k,n,c.args.length⟩:K))])
    ·simp -dsimp only[simprocAttr,↓aa,zp,dy,exists_eq_left',Option.some.injEq,sub_self,and_true]
    ·simp[ae.upto,aq,Data.an,fa.an]
    refine du ?_
    repeat(refine⟨by omega,?_⟩)
    (refine I ?_;simp -dsimp only[ai,ne_eq,Nat.reduceEqDiff,reduceCtorEq])
    refine⟨⟨(n+1,eJ++[(c.name,(⟨k,n,c.args.length⟩:K))]),iB,pk⟩,by simp;omega,?_⟩;refine zq rfl ?_ ?_;simp -dsimp only[simprocAttr,↓aa,zp,zc]
    ·exact Sub.int (by simp)
    rfl
  refine aM ?_;simp -dsimp only[ai,ne_eq,Nat.reduceEqDiff,reduceCtorEq];have nX:n=d.cons.length:=by simp at h;omega
  subst nX;rw[List.drop_length,fD]at pk;refine ba 3 [(14,eD datas),(15,aI datas.length),(16,aI k),(2,.mp 0 0),(4,.mp 2 0)] (by simp) (by simp) [.cells [.aC 3 [] .ex,.v (.map none)],.map .str (eJ.map entry),.cells [.aC 3 (datas.map Data.enc) .sh,.mm 1]] ?_ ?_ ?_ ?_ ?_
  ·rfl
  ·simp[ay.upto,aq,ae.upto,Data.an,bM]
  ·simp -dsimp only[simprocAttr,↓aa,zp,dy,exists_eq_left',Option.some.injEq,sub_self,and_true]
  ·simp[ae.upto,aq,Data.an]
  refine du ?_
  repeat(refine⟨by omega,?_⟩)
  (refine I ?_;simp -dsimp only[ai,ne_eq,Nat.reduceEqDiff,reduceCtorEq])
  refine⟨⟨(k+1,eJ),aN,pk⟩,by simp;omega,?_⟩;refine zq rfl ?_ ?_;simp -dsimp only[simprocAttr,↓aa,zp,zc]
  ·exact Sub.int (by simp)
  rfl
 refine aM ?_;simp -dsimp only[ai,ne_eq,Nat.reduceEqDiff,reduceCtorEq];have gg:k=datas.length:=by simp at h;omega
 subst gg;rw[List.drop_length,cK]at he;have hb:build datas=some ⟨datas,acc⟩:=by rw[build,he];rfl
 refine aB ?_
 (refine I ?_;simp -dsimp only[ai,ne_eq,Nat.reduceEqDiff,reduceCtorEq])
 refine pK 1 rfl (by simp[ay.aP]) trivial [(2,.mp 0 0),(3,aI 0)] ?_ 0 (by omega) _ [.aC 3 (datas.map Data.enc) .sh,.im .str (acc.map entry)] rfl rfl ?_ ?_ ?_
 ·intro s y hy;simp only[Go.Av.look]at hy;split at hy
  ·cases hy;rename_i e;subst e;exact⟨_,rfl,.refl _⟩
  split at hy
  ·cases hy;rename_i e;subst e;exact⟨_,rfl,.refl _⟩
  cases hy
 ·simp[ae.scalar]
 ·intro j c d hc hd
  match j,hc,hd with
  | 0,hc,hd =>
   cases hc;cases hd;exact .refl _
  | 1,hc,hd =>
   cases hc;cases hd;exact .mm rfl
 refine ak ?_;simp -dsimp only[simprocAttr,↓aa,zp,zr,Tryz.results26];rw[hb];exact⟨by simp[aq,ae.upto,Data.an,bM],rfl⟩
end Go.Proofs.YtkkookchlddbkaaGreat.V
namespace Go.Proofs.YtkkookchlddbkaaGreat.V
mutual
def Pat.wt:Pat->Nat
 | .mk k _ _ l=>if k=0∨k=1 then 0 else 1+l.length+r6 l
def r6:List Pat->Nat
 | []=>0
 | p::r=>p.wt+r6 r
end
def sQ:List (List Pat)->Nat
 | []=>0
 | r::rs=>r6 r+sQ rs
theorem Pat.mF(p:Pat):p.free=true↔p.kind=0∨p.kind=1:=by simp[Pat.free]
theorem Pat.Bu(p:Pat):p.wt=if p.free then 0 else 1+p.args.length+r6 p.args:=by
 cases p with
 | mk k s n l =>
  have hf:(Pat.mk k s n l).free=true↔k=0∨k=1:=Pat.mF _;rw[Pat.wt];by_cases h:(Pat.mk k s n l).free=true
  ·rw[if_pos h,if_pos (hf.1 h)]
  rw[if_neg h,if_neg (fun e=>h (hf.2 e))];rfl
theorem ik:∀a b:List Pat,r6 (a++b)=r6 a+r6 b
 | [],b=>by simp[r6]
 | p::a,b=>by
  rw[List.cons_append,r6,r6,ik a b];omega
theorem ud(n:Nat):r6 (List.replicate n Pat.any)=0:=by
 induction n with
 | zero=>rfl
 | succ n ih =>
  rw[List.replicate_succ,r6,ih,Pat.Bu];rfl
theorem rS:∀rows:List (List Pat),sQ (cU rows)<=sQ rows
 | []=>Nat.le_refl _
 | []::r=>by
  have:=rS r;simp only[cU,sQ];omega
 | (p::x)::r=>by
  have:=rS r;simp only[cU];split
  ·simp only[sQ,r6];omega
  simp only[sQ];omega
theorem qx(s:ByteArray)(n:Nat):∀rows:List (List Pat),sQ (bd s n rows)<=sQ rows
 | []=>Nat.le_refl _
 | []::r=>by
  have:=qx s n r;simp only[bd,sQ];omega
 | (p::x)::r=>by
  have:=qx s n r;have hp:=p.Bu;simp only[bd];split
  ·simp only[sQ,r6,ik,ud];omega
  split
  ·rename_i h1 h2;rw[if_neg h1]at hp;simp only[sQ,r6,ik];omega
  simp only[sQ];omega
theorem iQ(s:ByteArray)(n:Nat):∀rows:List (List Pat),(∀p∈cn rows,p.name=s->p.args.length=n)->(∃p∈cn rows,p.name=s)->sQ (bd s n rows)+1+n<=sQ rows
 | [],_,h=>by
  obtain⟨p,hp,_⟩:=h;simp[cn]at hp
 | []::r,h1,h2=>by
  have:=iQ s n r (by simpa[cn]using h1) (by simpa[cn]using h2);simp only[bd,sQ];omega
 | (p::x)::r,h1,h2=>by
  have hp:=p.Bu;simp only[bd];simp only[cn]at h1 h2;split
  ·rename_i hf;rw[if_pos hf]at h1 h2;have:=iQ s n r h1 h2;simp only[sQ,r6,ik,ud];omega
  rename_i hf;rw[if_neg hf]at h1 h2 hp;split
  ·rename_i hs;have hl:=h1 p (by simp) hs;have:=qx s n r;simp only[sQ,r6,ik];omega
  rename_i hs;have:=iQ s n r (fun q hq=>h1 q (by simp[hq])) (by
   obtain⟨q,hq,e⟩:=h2;rcases List.mem_cons.1 hq with rfl|hq
   ·exact absurd e hs
   exact⟨q,hq,e⟩)
  simp only[sQ];omega
def eO(g:fa->List Pat×Bool):List fa->List Pat×Bool
 | []=>([],false)
 | c::r=>if(g c).2 then(.mk 3 c.name 0 ((g c).1.take c.args.length)::(g c).1.drop c.args.length,true)else eO g r
def bF.bA(t:bF):Nat->List (List Pat)->Nat->List Pat×Bool
 | 0,_,_=>([],false)
 | _+1,rows,0=>([],rows.isEmpty)
 | f+1,rows,m+1=>match t.mY (cn rows)with
  | some p=>(p::(t.bA f (cU rows) m).1,(t.bA f (cU rows) m).2)
  | none=>match cn rows with
   | []=>([],false)
   | p::_=>match t.datas[(t.gu p.name).data]? with
    | none=>([],false)
    | some d=>eO (fun c=>t.bA f (bd c.name c.args.length rows) (c.args.length+m)) d.cons
inductive Ty where
 | any
 | int
 | data (i:Nat) (f:ByteArray->List Ty)
mutual
def fC(t:bF):Pat->Ty->Prop
 | .mk k s _ l,ty=>if k=0∨k=1 then True else if k=2 then ty=.int else k=3∧∃i f K,ty=.data i f∧find t.cons s=some K∧K.data=i∧bt t l (f s)
def bt(t:bF):List Pat->List Ty->Prop
 | [],tys=>tys=[]
 | p::r,tys=>∃ty vZ,tys=ty::vZ∧fC t p ty∧bt t r vZ
end
theorem mw(t:bF)(p:Pat)(ty:Ty):fC t p ty↔if p.free then True else if p.kind=2 then ty=.int else p.kind=3∧∃i f K,ty=.data i f∧find t.cons p.name=some K∧K.data=i∧bt t p.args (f p.name):=by
 cases p with
 | mk k s n l =>
  have hf:(Pat.mk k s n l).free=true↔k=0∨k=1:=Pat.mF _;rw[fC];by_cases h:(Pat.mk k s n l).free=true
  ·rw[if_pos h,if_pos (hf.1 h)]
  rw[if_neg h,if_neg (fun e=>h (hf.2 e))];rfl
inductive og(t:bF):Ty->Prop
 | any:og t .any
 | int:og t .int
 | data {i:Nat} {f:ByteArray->List Ty} {d:Data} (hd:t.datas[i]?=some d) (cA:d.cons≠[]) (hl:∀c∈d.cons,(f c.name).length=c.args.length) (hw:∀c∈d.cons,∀ty∈f c.name,og t ty):og t (.data i f)
structure nK(t:bF):Prop where
 back:∀s K,find t.cons s=some K->∃d c,t.datas[K.data]?=some d∧c∈d.cons∧c.name=s∧c.args.length=K.many
 uniq:∀i d c,t.datas[i]?=some d->c∈d.cons->∃K,find t.cons c.name=some K∧K.data=i∧K.many=c.args.length
inductive lE where
 | blank
 | int (n:Int)
 | gu (s:ByteArray) (args:List lE)
mutual
def GG:Pat->lE->Prop
 | .mk k s n l,v=>if k=0∨k=1 then True else if k=2 then v=.int n else ∃vs,v=.gu s vs∧eY l vs
def eY:List Pat->List lE->Prop
 | [],vs=>vs=[]
 | p::r,vs=>∃v KV,vs=v::KV∧GG p v∧eY r KV
end
theorem gH(p:Pat)(v:lE):GG p v↔if p.free then True else if p.kind=2 then v=.int p.n else ∃vs,v=.gu p.name vs∧eY p.args vs:=by
 cases p with
 | mk k s n l =>
  have hf:(Pat.mk k s n l).free=true↔k=0∨k=1:=Pat.mF _;rw[GG];by_cases h:(Pat.mk k s n l).free=true
  ·rw[if_pos h,if_pos (hf.1 h)]
  rw[if_neg h,if_neg (fun e=>h (hf.2 e))];rfl
mutual
inductive Ob(t:bF):lE->Ty->Prop
 | any:Ob t .blank .any
 | int (n:Int):Ob t (.int n) .int
 | gu {i:Nat} {f:ByteArray->List Ty} {d:Data} {c:fa} {vs:List lE} (hd:t.datas[i]?=some d) (hc:c∈d.cons) (h:kH t vs (f c.name)):Ob t (.gu c.name vs) (.data i f)
inductive kH(t:bF):List lE->List Ty->Prop
 | nil:kH t [] []
 | cons {v:lE} {ty:Ty} {vs:List lE} {tys:List Ty} (h:Ob t v ty) (k:kH t vs tys):kH t (v::vs) (ty::tys)
end
theorem kH.C0{t:bF}:∀{tys:List Ty},(∀ty∈tys,∃v,Ob t v ty)->∃vs,kH t vs tys
 | [],_=>⟨[],.nil⟩
 | ty::tys,h=>by
  obtain⟨v,hv⟩:=h ty (by simp);obtain⟨vs,SE⟩:=kH.C0 (tys:=tys) fun y hy=>h y (by simp[hy]);exact⟨v::vs,.cons hv SE⟩
theorem kH.append{t:bF}:∀{vs:List lE} {tys:List Ty} {us:List lE} {sys:List Ty},kH t vs tys->kH t us sys->kH t (vs++us) (tys++sys)
 | _,_,_,_,.nil,k=>k
 | _,_,_,_,.cons h1 h2,k=>.cons h1 (h2.append k)
theorem kH.split{t:bF}:∀{tys sys:List Ty} {ws:List lE},kH t ws (tys++sys)->∃vs us,ws=vs++us∧kH t vs tys∧kH t us sys
 | [],_,ws,h=>⟨[],ws,rfl,.nil,h⟩
 | ty::tys,sys,_,.cons h1 h2=>by
  obtain⟨vs,us,rfl,k1,k2⟩:=kH.split h2;exact⟨_::vs,us,rfl,.cons h1 k1,k2⟩
theorem kH.len{t:bF}:∀{vs:List lE} {tys:List Ty},kH t vs tys->vs.length=tys.length
 | _,_,.nil=>rfl
 | _,_,.cons _ h=>by simp[h.len]
theorem og.V4{t:bF}{ty:Ty}(h:og t ty):∃v,Ob t v ty:=by
 induction h with
 | any=>exact⟨_,.any⟩
 | int=>exact⟨_,.int 0⟩
 | data hd cA hl hw ih =>
  rename_i i f d;obtain⟨c,hc⟩:∃c,c∈d.cons:=List.exists_mem_of_ne_nil _ cA;obtain⟨vs,SE⟩:=kH.C0 (ih c hc);exact⟨_,.gu hd hc SE⟩
theorem fH:∀{a b:List Pat} {u v:List lE},a.length=u.length->(eY (a++b) (u++v)↔eY a u∧eY b v)
 | [],b,[],v,_=>by simp[eY]
 | [],b,x::u,v,h=>by simp at h
 | p::a,b,[],v,h=>by simp at h
 | p::a,b,x::u,v,h=>by
  have ih:=fH (a:=a) (b:=b) (u:=u) (v:=v) (by simpa using h);simp only[List.cons_append,eY];constructor
  ·rintro⟨y,ys,e,h1,h2⟩;cases e;exact⟨⟨x,u,rfl,h1,(ih.1 h2).1⟩,(ih.1 h2).2⟩
  rintro⟨⟨y,ys,e,h1,h2⟩,h3⟩;cases e;exact⟨x,u++v,rfl,h1,ih.2 ⟨h2,h3⟩⟩
theorem vw:∀{a:List Pat} {u:List lE},eY a u->a.length=u.length
 | [],u,h=>by
  simp only[eY]at h;subst h;rfl
 | p::a,u,h=>by
  simp only[eY]at h;obtain⟨v,vs,rfl,_,h2⟩:=h;simp[vw h2]
theorem Mv(v:lE):GG Pat.any v:=by
 rw[gH];simp[Pat.any,Pat.free,Pat.kind]
theorem sx:∀{n:Nat} {u:List lE},u.length=n->eY (List.replicate n Pat.any) u
 | 0,[],_=>by simp[eY]
 | 0,_::_,h=>by simp at h
 | n+1,[],h=>by simp at h
 | n+1,x::u,h=>by
  simp only[List.replicate_succ,eY];exact⟨x,u,rfl,Mv x,sx (by simpa using h)⟩
def pX(rows:List (List Pat))(vs:List lE):Prop:=∀r∈rows,¬eY r vs
theorem iX:∀{rows:List (List Pat)} {p:Pat},p∈cn rows↔p.free=false∧∃x,(p::x)∈rows
 | [],p=>by simp[cn]
 | []::r,p=>by simp[cn,iX (rows:=r)]
 | (q::x)::r,p=>by
  simp only[cn];have ih:=iX (rows:=r) (p:=p);split
  ·rename_i h;rw[ih];constructor
   ·rintro⟨h1,y,hy⟩;exact⟨h1,y,by simp[hy]⟩
   rintro⟨h1,y,hy⟩;rcases List.mem_cons.1 hy with e|hy
   ·cases e;rw[h]at h1;cases h1
   exact⟨h1,y,hy⟩
  rename_i h;rw[List.mem_cons,ih];constructor
  ·rintro(rfl|⟨h1,y,hy⟩)
   ·exact⟨by simpa using h,x,by simp⟩
   exact⟨h1,y,by simp[hy]⟩
  rintro⟨h1,y,hy⟩;rcases List.mem_cons.1 hy with e|hy
  ·cases e;exact .inl rfl
  exact .inr ⟨h1,y,hy⟩
theorem lb:∀{rows:List (List Pat)} {x:List Pat},x∈cU rows↔∃p:Pat,p.free=true∧(p::x)∈rows
 | [],x=>by simp[cU]
 | []::r,x=>by simp[cU,lb (rows:=r)]
 | (q::y)::r,x=>by
  simp only[cU];have ih:=lb (rows:=r) (x:=x);split
  ·rename_i h;rw[List.mem_cons,ih];constructor
   ·rintro(rfl|⟨p,h1,h2⟩)
    ·exact⟨q,h,by simp⟩
    exact⟨p,h1,by simp[h2]⟩
   rintro⟨p,h1,h2⟩;rcases List.mem_cons.1 h2 with e|h2
   ·cases e;exact .inl rfl
   exact .inr ⟨p,h1,h2⟩
  rename_i h;rw[ih];constructor
  ·rintro⟨p,h1,h2⟩;exact⟨p,h1,by simp[h2]⟩
  rintro⟨p,h1,h2⟩;rcases List.mem_cons.1 h2 with e|h2
  ·cases e;exact absurd h1 h
  exact⟨p,h1,h2⟩
theorem g9{s:ByteArray}{n:Nat}:∀{rows:List (List Pat)} {y:List Pat},y∈bd s n rows↔∃p x,(p::x)∈rows∧(p.free=true∧y=List.replicate n Pat.any++x∨p.free=false∧p.name=s∧y=p.args++x)
 | [],y=>by simp[bd]
 | []::r,y=>by simp[bd,g9 (rows:=r)]
 | (q::z)::r,y=>by
  have ih:=g9 (rows:=r) (y:=y) (s:=s) (n:=n);have key:(∃p x,(p::x)∈(q::z)::r∧(p.free=true∧y=List.replicate n Pat.any++x∨p.free=false∧p.name=s∧y=p.args++x))↔(q.free=true∧y=List.replicate n Pat.any++z∨q.free=false∧q.name=s∧y=q.args++z)∨y∈bd s n r:=by
   rw[ih];constructor
   ·rintro⟨p,x,h1,h2⟩;rcases List.mem_cons.1 h1 with e|h1
    ·cases e;exact .inl h2
    exact .inr ⟨p,x,h1,h2⟩
   rintro(h|⟨p,x,h1,h2⟩)
   ·exact⟨q,z,by simp,h⟩
   exact⟨p,x,by simp[h1],h2⟩
  rw[key];simp only[bd];split
  ·rename_i h;rw[List.mem_cons];simp[h]
  rename_i h;have h':q.free=false:=by simpa using h
  split
  ·rename_i h2;rw[List.mem_cons];simp[h',h2]
  rename_i h2;simp[h',h2]
theorem tk(l:List Pat):∀(f n:Nat),l.any (fun p=>decide (p.n=(kQ l n f:Int)))=false∨∀j:Nat,n<=j->j<n+f->(j:Int)∈l.map Pat.n
 | 0,n=>.inr fun j h1 h2=>by omega
 | f+1,n=>by
  rw[kQ];by_cases h:l.any (fun p=>decide (p.n=(n:Int)))=true
  ·rw[if_pos h];rcases tk l f (n+1)with h1|h1
   ·exact .inl h1
   refine .inr fun j h2 h3=>?_;by_cases e:j=n
   ·subst e;obtain⟨q,hq,e⟩:=List.any_eq_true.1 h;exact List.mem_map.2 ⟨q,hq,by simpa using e⟩
   exact h1 j (by omega) (by omega)
  rw[if_neg h];exact .inl (by simpa using h)
theorem F0(l:List Pat)(p:Pat)(hp:p∈l):p.n≠(kQ l 0 (l.length+1):Int):=by
 rcases tk l (l.length+1) 0 with h|h
 ·intro e;have:l.any (fun p=>decide (p.n=(kQ l 0 (l.length+1):Int)))=true:=List.any_eq_true.2 ⟨p,hp,by simpa using e⟩;rw[this]at h;cases h
 have:=C9 (l.length+1) (l.map Pat.n) fun j hj=>h j (Nat.zero_le _) (by omega);simp at this;omega
theorem om:∀{l:List Pat} {cs:List fa} {c:fa},fw l cs=some c->c∈cs∧∀p∈l,p.name≠c.name
 | l,[],c,h=>by cases h
 | l,c0::r,c,h=>by
  rw[fw]at h;split at h
  ·obtain⟨h1,h2⟩:=om h;exact⟨by simp[h1],h2⟩
  rename_i hn;cases h;refine⟨by simp,fun p hp e=>hn ?_⟩;exact List.any_eq_true.2 ⟨p,hp,by simpa using e⟩
theorem oh:∀{l:List Pat} {cs:List fa},fw l cs=none->∀c∈cs,∃p∈l,p.name=c.name
 | l,[],h,c,hc=>by cases hc
 | l,c0::r,h,c,hc=>by
  rw[fw]at h;split at h
  ·rename_i hn;rcases List.mem_cons.1 hc with rfl|hc
   ·obtain⟨p,hp,e⟩:=List.any_eq_true.1 hn;exact⟨p,hp,by simpa using e⟩
   exact oh h c hc
  cases h
theorem fC.gu{t:bF}{p:Pat}{ty:Ty}(h:fC t p ty)(hf:p.free=false)(h2:¬p.kind=2):p.kind=3∧∃i f K,ty=.data i f∧find t.cons p.name=some K∧K.data=i∧bt t p.args (f p.name):=by
 rw[mw,if_neg (by simp[hf]),if_neg h2]at h;exact h
theorem fC.int{t:bF}{p:Pat}{ty:Ty}(h:fC t p ty)(hf:p.free=false)(h2:p.kind=2):ty=.int:=by
 rw[mw,if_neg (by simp[hf]),if_pos h2]at h;exact h
inductive O6(t:bF)(l:List Pat)(ty:Ty):Prop
 | some (q:Pat) (hq:t.mY l=some q) (h1:∃v,Ob t v ty∧∀p∈l,¬GG p v) (h2:∀v,GG q v->∀p∈l,¬GG p v)
 | none (hq:t.mY l=none) (i:Nat) (f:ByteArray->List Ty) (d:Data) (p:Pat) (r:List Pat) (hl:l=p::r) (ht:ty=.data i f) (hd:t.datas[i]?=some d) (hp:(t.gu p.name).data=i)
   (bq:∀c∈d.cons,∃p∈l,p.name=c.name) (h3:∀p∈l,p.kind=3)
theorem ui{t:bF}(hT:nK t){ty:Ty}(hw:og t ty){l:List Pat}(h:∀p∈l,p.free=false∧fC t p ty):O6 t l ty:=by
 cases l with
 | nil =>
  obtain⟨v,hv⟩:=hw.V4;exact .some Pat.any rfl ⟨v,hv,by simp⟩ (by simp)
 | cons p r =>
  obtain⟨hf,hp⟩:=h p (by simp);by_cases h2:p.kind=2
  ·have eW:=hp.int hf h2;subst eW;have bq:∀q∈p::r,q.kind=2:=fun q hq=>by
    obtain⟨k1,k2⟩:=h q hq;by_cases e:q.kind=2
    ·exact e
    obtain⟨_,i,f,K,e,_⟩:=k2.gu k1 e;cases e
   have cA:∀q∈p::r,∀v,v=.int (kQ (p::r) 0 ((p::r).length+1))->¬GG q v:=fun q hq v hv hm=>by
    rw[gH,if_neg (by simp[(h q hq).1]),if_pos (bq q hq),hv]at hm;simp only[lE.int.injEq]at hm;exact F0 _ q hq hm.symm
   refine .some (.mk 2 ByteArray.empty (kQ (p::r) 0 ((p::r).length+1)) []) (by rw[bF.mY,if_pos h2]) ⟨_,.int _,fun q hq=>cA q hq _ rfl⟩ fun v hm q hq=>cA q hq v ?_;rw[gH]at hm;simpa[Pat.free,Pat.kind,Pat.n]using hm
  obtain⟨h3,i,f,K,rfl,hK,hi,_⟩:=hp.gu hf h2;have ve:t.gu p.name=K:=by rw[bF.gu,hK];rfl
  obtain⟨d,c,hd,hc,_,_⟩:=hT.back _ _ hK;have bq:∀q∈p::r,q.kind=3:=fun q hq=>by
   obtain⟨k1,k2⟩:=h q hq;by_cases e:q.kind=2
   ·have:=k2.int k1 e;cases this
   exact(k2.gu k1 e).1
  have FA:t.mY (p::r)=(fw (p::r) d.cons).map fun c=>.mk 3 c.name 0 (List.replicate c.args.length Pat.any):=by
   rw[bF.mY,if_neg h2,ve,hd]
  cases QI:fw (p::r) d.cons with
  | some c =>
   obtain⟨k1,k2⟩:=om QI;have cA:∀q∈p::r,∀vs,¬GG q (.gu c.name vs):=fun q hq vs hm=>by
    have h3:=bq q hq;rw[gH,if_neg (by simp[(h q hq).1]),if_neg (by omega)]at hm;obtain⟨KV,e,_⟩:=hm;simp only[lE.gu.injEq]at e;exact k2 q hq e.1.symm
   refine .some (.mk 3 c.name 0 (List.replicate c.args.length Pat.any)) (by rw[FA,QI];rfl) ?_ ?_
   ·cases hw with
    | data rz Se rB xA =>
     rw[<-hi,hd]at rz;simp only[Option.some.injEq]at rz;subst rz;obtain⟨vs,SE⟩:=kH.C0 fun ty eW=>(xA c k1 ty eW).V4;exact⟨_,.gu (hi ▸ hd) k1 SE,fun q hq=>cA q hq vs⟩
   intro v hm q hq;rw[gH]at hm;simp only[Pat.free,Pat.kind,Pat.name,Pat.args]at hm;obtain⟨vs,rfl,_⟩:=hm;exact cA q hq vs
  | none =>
   exact .none (by rw[FA,QI];rfl) i f d p r rfl rfl (hi ▸ hd) (by rw[ve,hi]) (oh QI) bq
theorem Ci{rows:List (List Pat)}{v:lE}{vs:List lE}(h:pX rows (v::vs)):pX (cU rows) vs:=fun x hx hm=>by
 obtain⟨p,h1,h2⟩:=lb.1 hx;exact h _ h2 (by
  simp only[eY];exact⟨v,vs,rfl,by rw[gH,if_pos h1];trivial,hm⟩)
theorem pO{rows:List (List Pat)}{v:lE}{vs:List lE}(hv:∀p∈cn rows,¬GG p v)(h:pX (cU rows) vs):pX rows (v::vs):=fun r hr hm=>by
 cases r with
 | nil =>
  simp only[eY]at hm;cases hm
 | cons p x =>
  simp only[eY]at hm;obtain⟨v',KV,e,h1,h2⟩:=hm;cases e;by_cases hf:p.free=true
  ·exact h x (lb.2 ⟨p,hf,hr⟩) h2
  exact hv p (iX.2 ⟨by simpa using hf,x,hr⟩) h1
theorem yo{rows:List (List Pat)}{s:ByteArray}{us vs:List lE}(h:∀p∈cn rows,p.kind=3∧(p.name=s->p.args.length=us.length)):pX rows (.gu s us::vs)↔pX (bd s us.length rows) (us++vs):=by
 constructor
 ·intro hd y hy hm;obtain⟨p,x,h1,h2⟩:=g9.1 hy;refine hd _ h1 ?_;simp only[eY];rcases h2 with⟨hf,rfl⟩|⟨hf,hs,rfl⟩
  ·exact⟨_,vs,rfl,by rw[gH,if_pos hf];trivial,((fH (by simp)).1 hm).2⟩
  obtain⟨h3,h4⟩:=h p (iX.2 ⟨hf,x,h1⟩);obtain⟨k1,k2⟩:=(fH (h4 hs)).1 hm;exact⟨_,vs,rfl,by rw[gH,if_neg (by simp[hf]),if_neg (by omega)];exact⟨us,by rw[hs],k1⟩,k2⟩
 intro hd r hr hm;cases r with
 | nil =>
  simp only[eY]at hm;cases hm
 | cons p x =>
  simp only[eY]at hm;obtain⟨v',KV,e,h1,h2⟩:=hm;cases e;by_cases hf:p.free=true
  ·exact hd _ (g9.2 ⟨p,x,hr,.inl ⟨hf,rfl⟩⟩) ((fH (by simp)).2 ⟨sx rfl,h2⟩)
  obtain⟨h3,h4⟩:=h p (iX.2 ⟨by simpa using hf,x,hr⟩);rw[gH,if_neg hf,if_neg (by omega)]at h1;obtain⟨Ya,e,h5⟩:=h1;simp only[lE.gu.injEq]at e;obtain⟨e1,rfl⟩:=e;exact hd _ (g9.2 ⟨p,x,hr,.inr ⟨by simpa using hf,e1.symm,rfl⟩⟩) ((fH (h4 e1.symm)).2 ⟨h5,h2⟩)
def gW(t:bF)(rows:List (List Pat))(tys:List Ty):Prop:=∀r∈rows,bt t r tys
theorem bt.append{t:bF}:∀{a b:List Pat} {ta tb:List Ty},bt t a ta->bt t b tb->bt t (a++b) (ta++tb)
 | [],b,ta,tb,h,k=>by
  simp only[bt]at h;subst h;exact k
 | p::a,b,ta,tb,h,k=>by
  simp only[bt]at h;obtain⟨ty,tys,rfl,h1,h2⟩:=h;simp only[List.cons_append,bt];exact⟨ty,tys++tb,rfl,h1,h2.append k⟩
theorem bt.E6{t:bF}:∀{tys:List Ty},bt t (List.replicate tys.length Pat.any) tys
 | []=>by simp[bt]
 | ty::tys=>by
  simp only[List.length_cons,List.replicate_succ,bt];exact⟨ty,tys,rfl,by rw[mw];simp[Pat.any,Pat.free,Pat.kind],bt.E6⟩
theorem bt.len{t:bF}:∀{a:List Pat} {ta:List Ty},bt t a ta->a.length=ta.length
 | [],ta,h=>by
  simp only[bt]at h;subst h;rfl
 | p::a,ta,h=>by
  simp only[bt]at h;obtain⟨ty,tys,rfl,h1,h2⟩:=h;simp[h2.len]
theorem gW.cn{t:bF}{rows:List (List Pat)}{ty:Ty}{tys:List Ty}(h:gW t rows (ty::tys)):∀p∈cn rows,p.free=false∧fC t p ty:=fun p hp=>by
 obtain⟨h1,x,hx⟩:=iX.1 hp;have:=h _ hx;simp only[bt]at this;obtain⟨QX,vZ,e,h2,_⟩:=this;cases e;exact⟨h1,h2⟩
theorem gW.cU{t:bF}{rows:List (List Pat)}{ty:Ty}{tys:List Ty}(h:gW t rows (ty::tys)):gW t (cU rows) tys:=fun x hx=>by
 obtain⟨p,_,hp⟩:=lb.1 hx;have:=h _ hp;simp only[bt]at this;obtain⟨QX,vZ,e,_,h2⟩:=this;cases e;exact h2
theorem gW.bd{t:bF}{rows:List (List Pat)}{i:Nat}{f:ByteArray->List Ty}{tys:List Ty}(h:gW t rows (.data i f::tys))(s:ByteArray):gW t (bd s (f s).length rows) (f s++tys):=fun y hy=>by
 obtain⟨p,x,h1,h2⟩:=g9.1 hy;have:=h _ h1;simp only[bt]at this;obtain⟨QX,vZ,e,h3,h4⟩:=this;cases e;rcases h2 with⟨_,rfl⟩|⟨hf,hs,rfl⟩
 ·exact bt.E6.append h4
 by_cases e2:p.kind=2
 ·have:=h3.int hf e2;cases this
 obtain⟨_,i',f',K,e,_,_,h5⟩:=h3.gu hf e2;cases e;rw[hs]at h5;exact h5.append h4
theorem gW.gu{t:bF}(hT:nK t){rows:List (List Pat)}{i:Nat}{f:ByteArray->List Ty}{tys:List Ty}(h:gW t rows (.data i f::tys))(hw:og t (.data i f)){d:Data}(hd:t.datas[i]?=some d){c:fa}(hc:c∈d.cons) :
  (f c.name).length=c.args.length∧∀p∈Go.Proofs.YtkkookchlddbkaaGreat.V.cn rows,p.kind=3∧(p.name=c.name->p.args.length=c.args.length):=by
 have hl:(f c.name).length=c.args.length:=by
  cases hw with
  | data rz Se rB xA =>
   rw[hd]at rz;cases rz;exact rB c hc
 refine⟨hl,fun p hp=>?_⟩;obtain⟨h1,h2⟩:=h.cn p hp;by_cases e2:p.kind=2
 ·have:=h2.int h1 e2;cases this
 obtain⟨h3,i',f',K,e,_,_,h5⟩:=h2.gu h1 e2;cases e;exact⟨h3,fun e=>by rw[e]at h5;rw[h5.len,hl]⟩
def ug(t:bF)(tys:List Ty):Prop:=∀ty∈tys,og t ty
theorem ug.gu{t:bF}{i:Nat}{f:ByteArray->List Ty}{tys:List Ty}(h:ug t (.data i f::tys)){d:Data}(hd:t.datas[i]?=some d){c:fa}(hc:c∈d.cons):ug t (f c.name++tys):=fun ty eW=>by
 rcases List.mem_append.1 eW with eW|eW
 ·have:=h (.data i f) (by simp);cases this with
  | data rz Se rB xA =>
   rw[hd]at rz;cases rz;exact xA c hc ty eW
 exact h ty (by simp[eW])
theorem mo{g:fa->List Pat×Bool}:∀{l:List fa},(eO g l).2=true->∃c∈l,(g c).2=true∧(eO g l).1=.mk 3 c.name 0 ((g c).1.take c.args.length)::(g c).1.drop c.args.length
 | [],h=>by cases h
 | c::r,h=>by
  rw[eO]at h ⊢;split
  ·rename_i hc;exact⟨c,by simp,hc,rfl⟩
  rename_i hc;rw[if_neg hc]at h;obtain⟨c',h1,h2,h3⟩:=mo h;exact⟨c',by simp[h1],h2,h3⟩
theorem th{g:fa->List Pat×Bool}:∀{l:List fa} {c:fa},c∈l->(g c).2=true->(eO g l).2=true
 | c0::r,c,hc,h=>by
  rw[eO];split
  ·rfl
  rename_i hn;rcases List.mem_cons.1 hc with rfl|hc
  ·exact absurd h hn
  exact th hc h
theorem kZ{t:bF}(hT:nK t):∀(fu:Nat) (rows:List (List Pat)) (tys:List Ty),sQ rows+tys.length<fu->gW t rows tys->ug t tys ->
  ((t.bA fu rows tys.length).2=true↔∃vs,kH t vs tys∧pX rows vs) ∧
  ((t.bA fu rows tys.length).2=true->(t.bA fu rows tys.length).1.length=tys.length∧∀vs,eY (t.bA fu rows tys.length).1 vs->pX rows vs)
 | 0,rows,tys,h,_,_=>by omega
 | fu+1,rows,[],_,eW,_=>by
  have e:t.bA (fu+1) rows ([]:List Ty).length=([],rows.isEmpty):=rfl;rw[e];refine⟨⟨fun h=>⟨[],.nil,fun r hr=>?_⟩,fun⟨vs,h1,h2⟩=>?_⟩,fun h=>⟨rfl,fun vs _ r hr=>?_⟩⟩
  ·have:rows=[]:=List.isEmpty_iff.1 h;rw[this]at hr;cases hr
  ·cases h1;cases rows with
   | nil=>rfl
   | cons r rows =>
    have h3:=eW r (by simp);cases r with
    | nil=>exact absurd (by simp[eY]) (h2 [] (by simp))
    | cons p x =>
     simp only[bt]at h3;obtain⟨_,_,e,_⟩:=h3;cases e
  have:rows=[]:=List.isEmpty_iff.1 h;rw[this]at hr;cases hr
 | fu+1,rows,ty::tys,FD,eW,hw=>by
  simp only[List.length_cons]at FD;have CG:og t ty:=hw ty (by simp);have SH:ug t tys:=fun y hy=>hw y (by simp[hy]);cases ui hT CG eW.cn with
  | some q hq h1 h2 =>
   have hr:=rS rows;obtain⟨SK,Tn⟩:=kZ hT fu (cU rows) tys (by omega) eW.cU SH;have e:t.bA (fu+1) rows (ty::tys).length=(q::(t.bA fu (cU rows) tys.length).1,(t.bA fu (cU rows) tys.length).2):=by
    rw[List.length_cons,bF.bA,hq]
   rw[e];refine⟨⟨fun h=>?_,fun⟨vs,k1,k2⟩=>?_⟩,fun h=>?_⟩
   ·obtain⟨vs,k1,k2⟩:=SK.1 h;obtain⟨v,hv,hn⟩:=h1;exact⟨v::vs,.cons hv k1,pO hn k2⟩
   ·cases k1 with
    | cons k3 k4=>exact SK.2 ⟨_,k4,Ci k2⟩
   obtain⟨k1,k2⟩:=Tn h;refine⟨by simp[k1],fun vs hm=>?_⟩;simp only[eY]at hm;obtain⟨v,KV,rfl,h3,h4⟩:=hm;exact pO (h2 v h3) (k2 KV h4)
  | none hq i f d p r hl ht hd hp bq h3 =>
   subst ht;have e:t.bA (fu+1) rows (Ty.data i f::tys).length=eO (fun c=>t.bA fu (bd c.name c.args.length rows) (c.args.length+tys.length)) d.cons:=by
    rw[List.length_cons,bF.bA,hq,hl];simp only[hp,hd]
   have key:∀c∈d.cons,((t.bA fu (bd c.name c.args.length rows) (c.args.length+tys.length)).2=true↔∃vs,kH t vs (f c.name++tys)∧pX (bd c.name c.args.length rows) vs) ∧
     ((t.bA fu (bd c.name c.args.length rows) (c.args.length+tys.length)).2=true->(t.bA fu (bd c.name c.args.length rows) (c.args.length+tys.length)).1.length=c.args.length+tys.length ∧
      ∀vs,eY (t.bA fu (bd c.name c.args.length rows) (c.args.length+tys.length)).1 vs->pX (bd c.name c.args.length rows) vs):=fun c hc=>by
    obtain⟨k1,k2⟩:=eW.gu hT CG hd hc;have k3:=iQ c.name c.args.length rows (fun p hp=>(k2 p hp).2) (bq c hc);have k4:=eW.bd c.name;rw[k1]at k4;have:=kZ hT fu (bd c.name c.args.length rows) (f c.name++tys) (by rw[List.length_append,k1];omega) k4 (hw.gu hd hc);rw[List.length_append,k1]at this;exact this
   have Py:∀c∈d.cons,∀us vs:List lE,us.length=c.args.length->(pX rows (.gu c.name us::vs)↔pX (bd c.name c.args.length rows) (us++vs)):=fun c hc us vs hu=>by
    rw[<-hu];exact yo fun p hp=>by
     rw[hu];exact(eW.gu hT CG hd hc).2 p hp
   rw[e];refine⟨⟨fun h=>?_,fun⟨vs,k1,k2⟩=>?_⟩,fun h=>?_⟩
   ·obtain⟨c,hc,h4,_⟩:=mo h;obtain⟨ws,k1,k2⟩:=((key c hc).1).1 h4;obtain⟨us,vs,rfl,k3,k4⟩:=k1.split;exact⟨.gu c.name us::vs,.cons (.gu hd hc k3) k4,(Py c hc us vs (by rw[k3.len,(eW.gu hT CG hd hc).1])).2 k2⟩
   ·cases k1 with
    | cons k3 k4 =>
     cases k3 with
     | gu rz hc k5 =>
      rw[hd]at rz;cases rz;refine th hc (((key _ hc).1).2 ⟨_,k5.append k4,?_⟩);exact(Py _ hc _ _ (by rw[k5.len,(eW.gu hT CG hd hc).1])).1 k2
   obtain⟨c,hc,h4,h5⟩:=mo h;obtain⟨k1,k2⟩:=(key c hc).2 h4;rw[h5];refine⟨by simp[k1],fun vs hm=>?_⟩;simp only[eY]at hm;obtain⟨v,KV,rfl,h6,h7⟩:=hm;rw[gH]at h6;simp only[Pat.free,Pat.kind,Pat.name,Pat.args]at h6;obtain⟨us,rfl,h8⟩:=h6;have hu:us.length=c.args.length:=by
    have:=vw h8;simp[k1]at this;omega
   refine(Py c hc us KV hu).2 (k2 _ ?_);have:=(fH (a:=(t.bA fu (bd c.name c.args.length rows) (c.args.length+tys.length)).1.take c.args.length) (b:=(t.bA fu (bd c.name c.args.length rows) (c.args.length+tys.length)).1.drop c.args.length) (u:=us) (v:=KV) (vw h8)).2 ⟨h8,h7⟩;rw[List.take_append_drop]at this;exact this

end Go.Proofs.YtkkookchlddbkaaGreat.V
namespace Go.Proofs.YtkkookchlddbkaaGreat.V
open Go.Av
def E1(datas:List Data):Prop:=∀d∈datas,∀c∈d.cons,c.args.length<=2513169434843
theorem zM{t:bF}(hT:nK t)(hF:E1 t.datas){ty:Ty}{l:List Pat}(h:∀p∈l,p.free=false∧fC t p ty)(hb:l.length<=2 ^ 30):aV Tryz.prog 30 [t.enc,eR l] (my (t.mY l)):=by
 cases l with
 | nil=>exact BJ t
 | cons p r =>
  simp only[List.length_cons]at hb;by_cases h2:p.kind=2
  ·have:=BI t p r h2 (by omega);rw[bF.mY,if_pos h2];exact this
  obtain⟨hf,hp⟩:=h p (by simp);obtain⟨_,i,f,K,rfl,hK,hi,_⟩:=hp.gu hf h2;have ve:t.gu p.name=K:=by rw[bF.gu,hK];rfl
  obtain⟨d,c,hd,hc,_,_⟩:=hT.back _ _ hK;have:=BH t p r h2 d (by rw[ve,hd]) (hF d (List.mem_of_getElem? hd));rw[bF.mY,if_neg h2,ve,hd];exact this
def lg(rows:List (List Pat)):Prop:=rows.length<=64∧∀r∈rows,∀p∈r,p.nodes<=400
theorem lg.cU{rows:List (List Pat)}(h:lg rows):lg (cU rows):=by
 refine⟨Nat.le_trans (py rows) h.1,fun r hr p hp=>?_⟩;obtain⟨q,_,hq⟩:=lb.1 hr;exact h.2 _ hq p (by simp[hp])
theorem lg.bd{rows:List (List Pat)}(h:lg rows)(s:ByteArray)(n:Nat):lg (bd s n rows):=by
 refine⟨Nat.le_trans (lZ s n rows) h.1,fun r hr p hp=>?_⟩;obtain⟨q,x,hq,h1⟩:=g9.1 hr;rcases h1 with⟨_,rfl⟩|⟨_,_,rfl⟩
 ·rcases List.mem_append.1 hp with hp|hp
  ·rw[(List.mem_replicate.1 hp).2,Pat.fX];simp[Pat.any,Pat.args,bX]
  exact h.2 _ hq p (by simp[hp])
 rcases List.mem_append.1 hp with hp|hp
 ·have h1:=iZ hp;have h2:=h.2 _ hq q (by simp);rw[Pat.fX]at h2;omega
 exact h.2 _ hq p (by simp[hp])
theorem lg.args{rows:List (List Pat)}(h:lg rows):∀r∈rows,∀p∈r,p.args.length<=400:=fun r hr p hp=>by
 have h1:=iY p.args;have h2:=h.2 r hr p hp;rw[Pat.fX]at h2;omega
theorem gW.ne{t:bF}{rows:List (List Pat)}{ty:Ty}{tys:List Ty}(h:gW t rows (ty::tys)):∀r∈rows,r≠[]∧r.length=tys.length+1:=fun r hr=>by
 have:=(h r hr).len;simp only[List.length_cons]at this;exact⟨fun e=>by rw[e]at this;simp at this,this⟩
def iV(q:List Pat×Bool):ae:=.c5 [eR q.1,.v (.bool q.2)]
theorem rG{g:fa->List Pat×Bool}{m:Nat}:∀{l:List fa},(∀c∈l,(g c).1.length<=m)->(eO g l).1.length<=m+1
 | [],_=>by simp[eO]
 | c::r,h=>by
  rw[eO];split
  ·have:=h c (by simp);simp;omega
  exact rG fun c hc=>h c (by simp[hc])
theorem rH(t:bF):∀(fu:Nat) (rows:List (List Pat)) (m:Nat),(t.bA fu rows m).1.length<=fu
 | 0,_,_=>by simp[bF.bA]
 | fu+1,rows,0=>by simp[bF.bA]
 | fu+1,rows,m+1=>by
  rw[bF.bA];split
  ·have:=rH t fu (cU rows) m;simp;omega
  split
  ·simp
  split
  ·simp
  exact rG fun c _=>rH t fu _ _
def GJ(t:bF)(fu:Nat):Prop:=∀(rows:List (List Pat)) (tys:List Ty),sQ rows+tys.length<fu->gW t rows tys->ug t tys->lg rows->fu<=2 ^ 19 ->
  aV Tryz.prog 13 [t.enc,kV rows,aI tys.length] (iV (t.bA fu rows tys.length))
theorem AW{t:bF}(fu:Nat)(rows:List (List Pat)):aV Tryz.prog 13 [t.enc,kV rows,aI ([]:List Ty).length] (iV (t.bA (fu+1) rows ([]:List Ty).length)):=by
  have e:t.bA (fu+1) rows ([]:List Ty).length=([],rows.isEmpty):=rfl;rw[e];refine zf true 0 Tryz.func13 Tryz.ntmps13 ?_;dsimp only[Tmp,TypeId,ax];refine aB ?_
  (refine I ?_;simp -dsimp only[ai,ne_eq,Nat.reduceEqDiff,reduceCtorEq])
  refine cj ?_
  (refine I ?_;simp -dsimp only[ai,ne_eq,Nat.reduceEqDiff,reduceCtorEq])
  refine de rfl ?_;refine aB ?_
  (refine I ?_;simp -dsimp only[ai,ne_eq,Nat.reduceEqDiff,reduceCtorEq])
  refine ak ?_;simp -dsimp only[simprocAttr,↓aa,zp,zr,Tryz.results13];exact⟨by simp[aq,ae.upto],by cases rows<;>simp[iV]<;>omega⟩
theorem yY{t:bF}(Pm:nK t)(hF:E1 t.datas)(fu:Nat)(ih:GJ t fu)(rows:List (List Pat))(ty:Ty)(tys:List Ty)(FD:sQ rows+(ty::tys).length<fu+1)(eW:gW t rows (ty::tys))(hw:ug t (ty::tys))(hs:lg rows)(hb:fu+1<=2 ^ 19) :
  aV Tryz.prog 13 [t.enc,kV rows,aI (ty::tys).length] (iV (t.bA (fu+1) rows (ty::tys).length)):=by
  simp only[List.length_cons]at FD;have CG:og t ty:=hw ty (by simp);have SH:ug t tys:=fun y hy=>hw y (by simp[hy]);have HT:=hs.1;have gf:=ng rows;have FA:=zM Pm hF eW.cn (by omega);have nY:((tys.length+1:Nat):Int)-1=tys.length:=by omega
  rw[List.length_cons];refine zf true 0 Tryz.func13 Tryz.ntmps13 ?_;dsimp only[Tmp,TypeId,ax];refine aB ?_
  (refine I ?_;simp -dsimp only[ai,ne_eq,Nat.reduceEqDiff,reduceCtorEq])
  refine cj ?_
  (refine I ?_;simp -dsimp only[ai,ne_eq,Nat.reduceEqDiff,reduceCtorEq])
  apply aQ rfl<;>intro h
  ·simp at h;omega
  (refine au ?_;simp -dsimp only[ai,ne_eq,Nat.reduceEqDiff,reduceCtorEq])
  refine aB ?_;refine .inl ⟨_,(Cs rows (by omega) (fun r hr=>(eW.ne r hr).1)),by simp only[aq,ae.upto,zt,zu,ck,b8],ah ?_⟩;simp -dsimp only[simprocAttr,↓aa,zp]
  (refine I ?_;simp -dsimp only[ai,ne_eq,Nat.reduceEqDiff,reduceCtorEq])
  cases ui Pm CG eW.cn with
  | some q hq h1 h2 =>
   rw[hq]at FA;refine cj ?_;refine .inl ⟨_,FA,by simp only[aq,ae.upto,zt,zu,ck,b8],ah ?_⟩;simp -dsimp only[simprocAttr,↓aa,zp,my]
   (refine I ?_;simp -dsimp only[ai,ne_eq,Nat.reduceEqDiff,reduceCtorEq])
   refine aB ?_
   (refine I ?_;simp -dsimp only[ai,ne_eq,Nat.reduceEqDiff,reduceCtorEq])
   refine de rfl ?_;have e:t.bA (fu+1) rows (tys.length+1)=(q::(t.bA fu (cU rows) tys.length).1,(t.bA fu (cU rows) tys.length).2):=by
    rw[bF.bA,hq]
   have hr:=rS rows;have hlen:=rH t fu (cU rows) tys.length;rw[e];refine aB ?_;refine .inl ⟨_,(F5 rows (by omega) (fun r hr=>(eW.ne r hr).1)),by simp only[aq,ae.upto,zt,zu,ck,b8],ah ?_⟩;simp -dsimp only[simprocAttr,↓aa,zp]
   repeat(refine⟨by omega,?_⟩)
   simp -dsimp only[nY];refine .inl ⟨_,(ih (cU rows) tys (by omega) eW.cU SH hs.cU (by omega)),by simp only[aq,ae.upto,zt,zu,ck,b8],ah ?_⟩;simp -dsimp only[simprocAttr,↓aa,zp,iV];refine⟨?_,?_⟩
   ·(show fO _ _=true);kernel_rfl
   (refine I ?_;simp -dsimp only[ai,ne_eq,Nat.reduceEqDiff,reduceCtorEq])
   refine aB ?_
   repeat(refine⟨by omega,?_⟩)
   (refine I ?_;simp -dsimp only[ai,ne_eq,Nat.reduceEqDiff,reduceCtorEq])
   refine ak ?_;simp -dsimp only[simprocAttr,↓aa,zp,zr,Tryz.results13];exact⟨by simp[aq,ae.upto,Pat.an,Pat.aF],by simp[iV]⟩
  | none hq i f d p r hl ht hd hp bq h3 =>
   rw[hq]at FA;have e:t.bA (fu+1) rows (tys.length+1)=eO (fun c=>t.bA fu (bd c.name c.args.length rows) (c.args.length+tys.length)) d.cons:=by
    rw[bF.bA,hq,hl];simp only[hp,hd]
   rw[e];subst ht;refine cj ?_;refine .inl ⟨_,FA,by simp only[aq,ae.upto,zt,zu,ck,b8],ah ?_⟩;simp -dsimp only[simprocAttr,↓aa,zp,my]
   (refine I ?_;simp -dsimp only[ai,ne_eq,Nat.reduceEqDiff,reduceCtorEq])
   refine aB ?_
   (refine I ?_;simp -dsimp only[ai,ne_eq,Nat.reduceEqDiff,reduceCtorEq])
   apply aQ rfl<;>intro h
   ·cases h
   (refine au ?_;simp -dsimp only[ai,ne_eq,Nat.reduceEqDiff,reduceCtorEq])
   rw[hl];have rz:t.datas[((find t.cons p.name).getD K.zero).data]?=some d:=by
    rw[<-hd,<-hp];rfl
   refine cg ?_;simp -dsimp only[simprocAttr,↓aa,zp,EY,rz];refine⟨?_,?_⟩
   ·(show fO _ _=true);kernel_rfl
   (refine I ?_;simp -dsimp only[ai,ne_eq,Nat.reduceEqDiff,reduceCtorEq])
   refine bT 59 rfl (fun zJ=>?_);simp only[List.length_map]at zJ;have key:∀c∈d.cons,c.args.length<=400∧aV Tryz.prog 13 [t.enc,kV (bd c.name c.args.length rows),aI (c.args.length+tys.length:Nat)] (iV (t.bA fu (bd c.name c.args.length rows) (c.args.length+tys.length))) ∧
     ((t.bA fu (bd c.name c.args.length rows) (c.args.length+tys.length)).2=true->(t.bA fu (bd c.name c.args.length rows) (c.args.length+tys.length)).1.length=c.args.length+tys.length):=fun c hc=>by
    obtain⟨k1,k2⟩:=eW.gu Pm CG hd hc;have k3:=iQ c.name c.args.length rows (fun p hp=>(k2 p hp).2) (bq c hc);have k4:=eW.bd c.name;rw[k1]at k4;have k5:=ih (bd c.name c.args.length rows) (f c.name++tys) (by rw[List.length_append,k1];omega) k4 (hw.gu hd hc) (hs.bd _ _) (by omega);have k6:=(kZ Pm fu (bd c.name c.args.length rows) (f c.name++tys) (by rw[List.length_append,k1];omega) k4 (hw.gu hd hc)).2;rw[List.length_append,k1]at k5 k6;refine⟨?_,k5,fun h=>(k6 h).1⟩;obtain⟨q,hq,hn⟩:=bq c hc;rw[<-(k2 q hq).2 hn];obtain⟨_,x,hx⟩:=iX.1 hq;exact hs.args _ hx q (by simp)
   refine aj (aO (ι:={k:Nat // k<=d.cons.length∧eO (fun c=>t.bA fu (bd c.name c.args.length rows) (c.args.length+tys.length)) d.cons=eO (fun c=>t.bA fu (bd c.name c.args.length rows) (c.args.length+tys.length)) (d.cons.drop k)}) (fun k=>⟨97,[(1,kV rows),(2,aI (tys.length+1:Nat)),(3,.mp 0 0),(59,eC d.cons),(60,aI d.cons.length),(61,aI k.1)],[.cells [.aC 3 (t.datas.map Data.enc) .sh,.im .str (t.cons.map entry)],.cells [.v (.int .i64 Pat.any.kind),.v (.string Pat.any.name),.v (.int .i64 Pat.any.n),.aC 4 (Pat.any.args.map Pat.enc) .sh]]⟩) (fun k=>d.cons.length-k.1) ⟨0,by omega,rfl⟩ ?_ ?_)
   ·refine zq rfl ?_ ?_;simp -dsimp only[simprocAttr,↓aa,zp,zc];rfl
   rintro⟨k,DL,he⟩;refine aB ?_
   (refine I ?_;simp -dsimp only[ai,ne_eq,Nat.reduceEqDiff,reduceCtorEq])
   apply gr rfl<;>intro h
   ·(refine au ?_;simp -dsimp only[ai,ne_eq,Nat.reduceEqDiff,reduceCtorEq])
    have aN:k<d.cons.length:=by simpa using h
    obtain⟨c,hc⟩:∃c:fa,d.cons[k]?=some c:=⟨d.cons[k],by simp[aN]⟩
    have gy:d.cons.drop k=c::d.cons.drop (k+1):=by
     rw[List.drop_eq_getElem_cons aN];rw[List.getElem?_eq_getElem aN]at hc;simp only[Option.some.injEq]at hc;rw[hc]
    rw[gy,eO]at he;obtain⟨Pk,eL,hlen⟩:=key c (List.mem_of_getElem? hc);have gl:((c.args.length:Int)+((tys.length+1:Nat):Int))-1=((c.args.length+tys.length:Nat):Int):=by omega
    refine aG (aj ?_);refine aH ?_;simp -dsimp only[simprocAttr,↓aa,zp,hc]
    (refine I ?_;simp -dsimp only[ai,ne_eq,Nat.reduceEqDiff,reduceCtorEq])
    refine aB ?_
    (refine I ?_;simp -dsimp only[ai,ne_eq,Nat.reduceEqDiff,reduceCtorEq])
    refine aB ?_;refine .inl ⟨_,(AY rows c.name c.args.length (by omega) (by omega) (fun r hr=>(eW.ne r hr).1) (fun r hr=>by have:=(eW.ne r hr).2;omega) (fun r hr p hp=>by have:=hs.args r hr p hp;omega)),by simp only[aq,ae.upto,zt,zu,ck,b8],ah ?_⟩;simp -dsimp only[simprocAttr,↓aa,zp]
    repeat(refine⟨by omega,?_⟩)
    simp -dsimp only[gl];refine .inl ⟨_,eL,by simp only[aq,ae.upto,zt,zu,ck,b8],ah ?_⟩;simp -dsimp only[simprocAttr,↓aa,zp,iV];refine⟨?_,?_⟩
    ·(show fO _ _=true);kernel_rfl
    (refine I ?_;simp -dsimp only[ai,ne_eq,Nat.reduceEqDiff,reduceCtorEq])
    refine aB ?_
    (refine I ?_;simp -dsimp only[ai,ne_eq,Nat.reduceEqDiff,reduceCtorEq])
    obtain⟨⟨out,is⟩,hq⟩:∃q,q=t.bA fu (bd c.name c.args.length rows) (c.args.length+tys.length):=⟨_,rfl⟩
    have FJ:=rH t fu (bd c.name c.args.length rows) (c.args.length+tys.length);rw[<-hq]at he hlen FJ;simp only[<-hq];simp only at he hlen FJ;apply aQ rfl<;>intro h
    ·subst h;have PQ:=hlen rfl;rw[if_pos rfl]at he;refine aR 14 2 (.ip none [.v (.string c.name),.aC 4 (c.args.map Pat.enc) .sh]) rfl (by simp[ay.aP]) trivial rfl ?_ ?_;rotate_left;simp -dsimp only[simprocAttr,↓aa,zp];rotate_left
     ·exact da.mp rfl rfl
     refine aB ?_
     repeat(refine⟨by omega,?_⟩)
     simp -dsimp only[<-List.map_take];refine .inl ⟨_,Ca (out.take c.args.length) (by simp;omega),⟨⟨Pat.an _ _,trivial⟩,trivial⟩,ah ?_⟩;simp -dsimp only[simprocAttr,↓aa,zp];refine⟨?_,?_⟩
     ·(show fO _ _=true);kernel_rfl
     (refine I ?_;simp -dsimp only[ai,ne_eq,Nat.reduceEqDiff,reduceCtorEq])
     refine aB ?_;have pj:(List.drop c.args.length (List.map Pat.enc out)).length=tys.length:=by rw[List.length_drop,List.length_map];omega
     refine⟨by omega,by omega,by omega,?_,?_⟩
     ·(show fO _ _=true);kernel_rfl
     (refine I ?_;simp -dsimp only[ai,ne_eq,Nat.reduceEqDiff,reduceCtorEq])
     refine ak ?_;simp -dsimp only[simprocAttr,↓aa,zp,zr,Tryz.results13];rw[he];have hx:(ae.agg [.v (.int .i64 3),.v (.string c.name),.v (.int .i64 0),.aC 4 ((out.take c.args.length).map Pat.enc) .sh]::List.map ae.share (List.drop c.args.length (List.map Pat.enc out)))=((Pat.mk 3 c.name 0 (out.take c.args.length))::out.drop c.args.length).map Pat.enc:=by
      rw[<-List.map_drop,Pat.bV,List.map_cons,Pat.dN];rfl
     rw[hx];exact⟨⟨⟨Pat.an _ _,trivial⟩,trivial,trivial⟩,rfl⟩
    subst h;rw[if_neg (by simp)]at he
    (refine au ?_;simp -dsimp only[ai,ne_eq,Nat.reduceEqDiff,reduceCtorEq])
    refine ba 2 [(1,kV rows),(2,aI (tys.length+1:Nat)),(3,.mp 0 0),(59,eC d.cons),(60,aI d.cons.length),(61,aI k)] (by simp) (by simp) [.cells [.aC 3 (t.datas.map Data.enc) .sh,.im .str (t.cons.map entry)],.cells [.v (.int .i64 Pat.any.kind),.v (.string Pat.any.name),.v (.int .i64 Pat.any.n),.aC 4 (Pat.any.args.map Pat.enc) .sh]] ?_ ?_ ?_ ?_ ?_
    ·rfl
    ·simp[ay.upto,aq,ae.upto,Data.an,bM,Pat.an]
    ·simp -dsimp only[simprocAttr,↓aa,zp,dy,exists_eq_left',Option.some.injEq,sub_self,and_true]
    ·simp[ae.upto,aq,b8,fa.an]
    refine du ?_
    repeat(refine⟨by omega,?_⟩)
    (refine I ?_;simp -dsimp only[ai,ne_eq,Nat.reduceEqDiff,reduceCtorEq])
    refine⟨⟨k+1,aN,he⟩,by simp;omega,?_⟩;refine zq rfl ?_ ?_;simp -dsimp only[simprocAttr,↓aa,zp,zc]
    ·exact Sub.int (by simp)
    rfl
   refine aM ?_;simp -dsimp only[ai,ne_eq,Nat.reduceEqDiff,reduceCtorEq];have gg:k=d.cons.length:=by simp at h;omega
   subst gg;rw[List.drop_length,eO]at he;refine aB ?_
   (refine I ?_;simp -dsimp only[ai,ne_eq,Nat.reduceEqDiff,reduceCtorEq])
   refine ak ?_;simp -dsimp only[simprocAttr,↓aa,zp,zr,Tryz.results13];rw[he];exact⟨by simp[aq,ae.upto],by simp[iV]⟩
theorem rJ{t:bF}(Pm:nK t)(hF:E1 t.datas):∀fu:Nat,GJ t fu
 | 0,rows,tys,h,_,_,_,_=>by omega
 | fu+1,rows,[],_,_,_,_,_=>AW fu rows
 | fu+1,rows,ty::tys,h1,h2,h3,h4,h5=>yY Pm hF fu (rJ Pm hF fu) rows ty tys h1 h2 h3 h4 h5

def below(l:List Pat)(s:ByteArray)(n:Nat):List Pat:=(l.filter fun q=>decide (q.name=s)).map fun q=>q.args.getD n Pat.any
def bare(l:List Pat):List Pat:=l.filter fun p=>!p.free
def bF.gY(t:bF):Nat->List Pat->Bool
 | 0,_=>false
 | f+1,l0=>((bare l0).all fun p=>decide (t.kind p=t.kind ((bare l0).headD Pat.any))) &&
   (List.range (bare l0).length).all fun k=>match (bare l0)[k]? with
    | none=>true
    | some p=>((bare l0).take k).any (fun q=>decide (q.name=p.name)) || decide (p.kind≠3) || (List.range p.args.length).all fun n=>t.gY f (below (bare l0) p.name n)
theorem Ga(l:List Pat):(ar (l.map Pat.enc)).map ae.bp=ar (l.map Pat.enc):=by
 induction l with
 | nil=>rfl
 | cons p l ih =>
  simp only[List.map_cons,ar,List.flatMap_cons,List.map_append]at ih ⊢;rw[ih,Pat.al];rfl
theorem gF(t:bF):∀{l:List Pat},t.dD l=0↔∀a∈l,t.pattern a=0
 | []=>by simp[bF.dD]
 | p::r=>by
  rw[bF.dD];have ih:=gF t (l:=r);by_cases h:t.pattern p=0
  ·rw[if_pos h,ih];simp[h]
  rw[if_neg h];simp[h]
theorem j9{t:bF}{p:Pat}(h:t.pattern p=0)(h3:p.kind=3):∃k0,find t.cons p.name=some k0∧p.args.length=k0.many∧∀a∈p.args,t.pattern a=0:=by
 rw[bF.jV,if_neg (by omega),if_neg (by omega),if_neg (by omega),if_pos h3]at h;cases hf:find t.cons p.name with
 | none =>
  rw[hf]at h;simp at h
 | some k0 =>
  rw[hf]at h;simp only at h;by_cases hl:p.args.length=k0.many
  ·rw[if_pos hl,gF]at h;exact⟨k0,rfl,hl,h⟩
  rw[if_neg hl]at h;simp at h
theorem xB{t:bF}{p q:Pat}(h:t.kind q=t.kind p)(h3:p.kind=3):q.kind=3:=by
 unfold bF.kind at h;rw[if_neg (show ¬p.kind=2 by omega),if_pos h3]at h;split at h
 ·omega
 split at h
 ·assumption
 omega
theorem tl{l:List Pat}{s:ByteArray}{n:Nat}(h:∀q∈l,q.name=s->n<q.args.length):bX (below l s n)+(below l s n).length<=bX l:=by
 induction l with
 | nil=>simp[below,bX]
 | cons q r ih =>
  have ih:=ih fun x hx=>h x (by simp[hx]);simp only[below]at ih ⊢;rw[List.filter_cons];by_cases hq:q.name=s
  ·rw[if_pos (by simpa using hq)];have hn:=h q (by simp) hq;have hm:q.args.getD n Pat.any∈q.args:=by
    rw[List.getD_eq_getElem?_getD,List.getElem?_eq_getElem hn];exact List.getElem_mem hn
   have h1:=iZ hm;have h2:=q.fX;simp only[List.map_cons,bX,List.length_cons];omega
  rw[if_neg (by simpa using hq)];simp only[bX];omega
theorem pZ:∀l:List Pat,bX (bare l)<=bX l
 | []=>Nat.le_refl _
 | p::r=>by
  have ih:=pZ r;simp only[bare]at ih ⊢;rw[List.filter_cons];split
  ·simp only[bX];omega
  simp only[bX];omega
theorem BU{l:List Pat}{j:Nat}{q:Pat}(h:l[j]?=some q)(s:ByteArray)(n:Nat):below (l.take (j+1)) s n=if q.name=s then below (l.take j) s n++[q.args.getD n Pat.any]else below (l.take j) s n:=by
 rw[bN h,below,List.filter_append,List.map_append];by_cases hq:q.name=s
 ·rw[if_pos hq];simp[below,hq]
 rw[if_neg hq];simp[below,hq]
def bF.j2(t:bF)(f:Nat)(l:List Pat)(k:Nat):Bool:=match l[k]? with
 | none=>true
 | some p=>(l.take k).any (fun q=>decide (q.name=p.name)) || decide (p.kind≠3) || (List.range p.args.length).all fun n=>t.gY f (below l p.name n)
def Du(t:bF)(fu:Nat):Prop:=∀l:List Pat,bX l<fu->l≠[]->l.length<=2 ^ 30->(∀p∈l,t.pattern p=0)->aV Tryz.prog 28 [t.enc,eR l] (.v (.bool (t.gY fu l)))
theorem BM(t:bF)(fu:Nat)(ih:Du t fu)(l0:List Pat)(FD:bX l0<fu+1)(cA:l0≠[])(hb:l0.length<=2 ^ 30)(jh:∀p∈l0,t.pattern p=0):aV Tryz.prog 28 [t.enc,eR l0] (.v (.bool (t.gY (fu+1) l0))):=by
  obtain⟨l,hl⟩:∃l,l=bare l0:=⟨_,rfl⟩
  rw[bF.gY,<-hl];refine zf true 0 Tryz.func28 Tryz.ntmps28 ?_;dsimp only[Tmp,TypeId,ax];refine aB ?_
  (refine I ?_;simp -dsimp only[ai,ne_eq,Nat.reduceEqDiff,reduceCtorEq])
  refine aB ?_;refine .inr (.inl ⟨_,_,(Cb l0 cA hb [.cells [.aC 3 (t.datas.map Data.enc) .sh,.im .str (t.cons.map entry)]] (by simp[ay.upto,aq,ae.upto,Data.an,bM])),.inl (ah (zj ?_))⟩);refine .inr (.inl ⟨_,_,(tF Pat.free 55 free_spec [.cells [.aC 3 (t.datas.map Data.enc) .sh,.im .str (t.cons.map entry)],.cells (ar (l0.map Pat.enc))] (by simp[ay.upto,aq,ae.upto,Data.an,bM,Pat.dL]) 1 l0 hb rfl),.inl (ah (zj ?_))⟩)
  (refine I ?_;simp -dsimp only[ai,ne_eq,Nat.reduceEqDiff,reduceCtorEq])
  refine ux 1 rfl (by simp[ay.aP]) trivial [(1,eR l),(2,.mp 0 0)] ?_ ?_
  ·intro s y hy;simp only[Go.Av.look]at hy;split at hy
   ·cases hy;rename_i e;subst e;refine⟨_,rfl,da.ms (sz:=4) rfl ?_ ?_ ?_⟩
    ·simp[Pat.al]
    ·rw[hl,List.length_map];rfl
    rw[List.drop_zero,jr,List.take_append_of_le_length (by rw[Pat.iv];exact Nat.le_refl _),List.take_of_length_le (by rw[Pat.iv];exact Nat.le_refl _),Ga,hl];rfl
   split at hy
   ·cases hy;rename_i e;subst e;exact⟨_,rfl,.refl _⟩
   cases hy
  refine ba 1 [(1,eR l),(2,.mp 0 0)] (by simp) (by simp) [.cells [.aC 3 (t.datas.map Data.enc) .sh,.im .str (t.cons.map entry)]] ?_ ?_ ?_ ?_ ?_
  ·rfl
  ·simp[ay.upto,aq,ae.upto,Data.an,bM]
  ·simp -dsimp only[simprocAttr,↓aa,zp,dy,exists_eq_left',Option.some.injEq,sub_self,and_true]
  ·simp[ae.upto,aq,Pat.an]
  refine bT 1 rfl (fun hlen=>?_);simp only[List.length_map]at hlen;refine cj ?_
  (refine I ?_;simp -dsimp only[ai,ne_eq,Nat.reduceEqDiff,reduceCtorEq])
  obtain⟨B2,TM⟩:∃B2,B2=(List.range l.length).all (t.j2 fu l):=⟨_,rfl⟩
  have Rm:((List.range l.length).all fun k=>match l[k]? with
   | none=>true
   | some p=>(l.take k).any (fun q=>decide (q.name=p.name)) || decide (p.kind≠3) || (List.range p.args.length).all fun n=>t.gY fu (below l p.name n))=B2:=by
   rw[TM];rfl
  rw[Rm];clear Rm;refine aj (aO (ι:={k:Nat // k<=l.length∧(l.all fun p=>decide (t.kind p=t.kind (l.headD Pat.any)))=((l.drop k).all fun p=>decide (t.kind p=t.kind (l.headD Pat.any)))}) (fun k=>⟨79,[(1,eR l),(2,.mp 0 0),(16,eR l),(17,aI l.length),(18,aI k.1)],[.cells [.aC 3 (t.datas.map Data.enc) .sh,.im .str (t.cons.map entry)]]⟩) (fun k=>l.length-k.1) ⟨0,by omega,rfl⟩ ?_ ?_)
  ·refine zq rfl ?_ ?_;simp -dsimp only[simprocAttr,↓aa,zp,zc];rfl
  rintro⟨k,hk,he⟩;refine aB ?_
  (refine I ?_;simp -dsimp only[ai,ne_eq,Nat.reduceEqDiff,reduceCtorEq])
  apply gr rfl<;>intro h
  ·(refine au ?_;simp -dsimp only[ai,ne_eq,Nat.reduceEqDiff,reduceCtorEq])
   have aN:k<l.length:=by simpa using h
   obtain⟨p,hp⟩:∃p,l[k]?=some p:=⟨l[k],by simp[aN]⟩
   obtain⟨p0,nm⟩:∃p,l[0]?=some p:=⟨l[0],by simp[show 0<l.length by omega]⟩
   have gy:l.drop k=p::l.drop (k+1):=by
    rw[List.drop_eq_getElem_cons aN];rw[List.getElem?_eq_getElem aN]at hp;simp only[Option.some.injEq]at hp;rw[hp]
   have lR:l.headD Pat.any=p0:=by
    cases hle:l with
    | nil=>rw[hle]at nm;cases nm
    | cons q r=>rw[hle]at nm;cases nm;rfl
   rw[gy,List.all_cons,lR]at he;refine aG (aj ?_);refine aH ?_;simp -dsimp only[simprocAttr,↓aa,zp,hp]
   (refine I ?_;simp -dsimp only[ai,ne_eq,Nat.reduceEqDiff,reduceCtorEq])
   refine aH ?_;simp -dsimp only[simprocAttr,↓aa,zp,nm];refine .inl ⟨_,(xD t p),by simp only[aq,ae.upto,zt,zu,ck,b8],ah ?_⟩;simp -dsimp only[simprocAttr,↓aa,zp,nm];refine .inl ⟨_,(xD t p0),by simp only[aq,ae.upto,zt,zu,ck,b8],ah ?_⟩;simp -dsimp only[simprocAttr,↓aa,zp];refine⟨ob (by kernel_rfl),?_⟩
   (refine I ?_;simp -dsimp only[ai,ne_eq,Nat.reduceEqDiff,reduceCtorEq])
   apply aQ rfl<;>intro h
   ·have gg:¬t.kind p=t.kind p0:=by simpa using h
    simp only[gg,decide_false,Bool.false_and]at he;refine aB ?_
    (refine I ?_;simp -dsimp only[ai,ne_eq,Nat.reduceEqDiff,reduceCtorEq])
    refine ak ?_;simp -dsimp only[simprocAttr,↓aa,zp,zr,Tryz.results28];rw[lR,he];simp
   have gg:t.kind p=t.kind p0:=by simpa using h
   simp only[gg,decide_true,Bool.true_and]at he
   (refine au ?_;simp -dsimp only[ai,ne_eq,Nat.reduceEqDiff,reduceCtorEq])
   refine ba 1 [(1,eR l),(2,.mp 0 0),(16,eR l),(17,aI l.length),(18,aI k)] (by simp) (by simp) [.cells [.aC 3 (t.datas.map Data.enc) .sh,.im .str (t.cons.map entry)]] ?_ ?_ ?_ ?_ ?_
   ·rfl
   ·simp[ay.upto,aq,ae.upto,Data.an,bM]
   ·simp -dsimp only[simprocAttr,↓aa,zp,dy,exists_eq_left',Option.some.injEq,sub_self,and_true]
   ·simp[ae.upto,aq,Pat.an]
   refine du ?_
   repeat(refine⟨by omega,?_⟩)
   (refine I ?_;simp -dsimp only[ai,ne_eq,Nat.reduceEqDiff,reduceCtorEq])
   refine⟨⟨k+1,aN,?_⟩,by simp;omega,?_⟩
   ·rw[lR];exact he
   refine zq rfl ?_ ?_;simp -dsimp only[simprocAttr,↓aa,zp,zc]
   ·exact Sub.int (by simp)
   rfl
  refine aM ?_;simp -dsimp only[ai,ne_eq,Nat.reduceEqDiff,reduceCtorEq];have gg:k=l.length:=by simp at h;omega
  subst gg;rw[List.drop_length,List.all_nil]at he;rw[he,Bool.true_and];refine cj ?_
  (refine I ?_;simp -dsimp only[ai,ne_eq,Nat.reduceEqDiff,reduceCtorEq])
  have WW:bX l<=bX l0:=by
   rw[hl];exact pZ l0
  have Oy:∀q∈l,q∈l0:=fun q hq=>by
   rw[hl]at hq;exact(List.mem_filter.1 hq).1
  have HQ:∀p∈l,t.kind p=t.kind (l.headD Pat.any):=fun p hp=>by
   have:=List.all_eq_true.1 he p hp;simpa using this
  have XY:=iY l;refine aj (aO (ι:={k:Nat // k<=l.length∧∀j,j<k->t.j2 fu l j=true}) (fun k=>⟨79,[(1,eR l),(2,.mp 0 0),(32,eR l),(33,aI l.length),(34,aI k.1)],[.cells [.aC 3 (t.datas.map Data.enc) .sh,.im .str (t.cons.map entry)]]⟩) (fun k=>l.length-k.1) ⟨0,by omega,fun j hj=>by omega⟩ ?_ ?_)
  ·refine zq rfl ?_ ?_;simp -dsimp only[simprocAttr,↓aa,zp,zc];rfl
  rintro⟨k,hk,bq⟩;refine aB ?_
  (refine I ?_;simp -dsimp only[ai,ne_eq,Nat.reduceEqDiff,reduceCtorEq])
  apply gr rfl<;>intro h
  ·(refine au ?_;simp -dsimp only[ai,ne_eq,Nat.reduceEqDiff,reduceCtorEq])
   have aN:k<l.length:=by simpa using h
   obtain⟨p,hp⟩:∃p,l[k]?=some p:=⟨l[k],by simp[aN]⟩
   have oM:=List.mem_of_getElem? hp;refine aG (aj ?_);refine aH ?_;simp -dsimp only[simprocAttr,↓aa,zp,hp]
   (refine I ?_;simp -dsimp only[ai,ne_eq,Nat.reduceEqDiff,reduceCtorEq])
   refine cj ?_;simp -dsimp only[<-List.map_take]
   repeat(refine⟨by omega,?_⟩)
   refine .inr (.inr ⟨_,(jq (fun q=>decide (q.name=p.name)) 58 [] [.mp 1 0] [.cells [.aC 3 (t.datas.map Data.enc) .sh,.im .str (t.cons.map entry)],.cells [.v (.int .i64 p.kind),.v (.string p.name),.v (.int .i64 p.n),.aC 4 (p.args.map Pat.enc) .sh]] (by simp[ay.upto,aq,ae.upto,Data.an,bM,Pat.an]) (l.take k) (fun q _=>zO _ (by simp[ay.upto,aq,ae.upto,Data.an,bM,Pat.an]) 1 p rfl q)),ah (zj ?_)⟩)
   (refine I ?_;simp -dsimp only[ai,ne_eq,Nat.reduceEqDiff,reduceCtorEq])
   apply aQ rfl<;>intro h
   ·have lG:(l.take k).any (fun q=>decide (q.name=p.name))=true:=h;refine aM ?_;simp -dsimp only[ai,ne_eq,Nat.reduceEqDiff,reduceCtorEq];have wq:t.j2 fu l k=true:=by
     rw[bF.j2,hp];simp[lG]
    refine ba 1 [(1,eR l),(2,.mp 0 0),(32,eR l),(33,aI l.length),(34,aI k)] (by simp) (by simp) [.cells [.aC 3 (t.datas.map Data.enc) .sh,.im .str (t.cons.map entry)]] ?_ ?_ ?_ ?_ ?_
    ·rfl
    ·simp[ay.upto,aq,ae.upto,Data.an,bM]
    ·simp -dsimp only[simprocAttr,↓aa,zp,dy,exists_eq_left',Option.some.injEq,sub_self,and_true]
    ·simp[ae.upto,aq,Pat.an]
    refine du ?_
    repeat(refine⟨by omega,?_⟩)
    (refine I ?_;simp -dsimp only[ai,ne_eq,Nat.reduceEqDiff,reduceCtorEq])
    refine⟨⟨k+1,aN,?_⟩,by simp;omega,?_⟩
    ·intro j hj;rcases Nat.lt_succ_iff_lt_or_eq.1 hj with hj|hj
     ·exact bq j hj
     rw[hj];exact wq
    refine zq rfl ?_ ?_;simp -dsimp only[simprocAttr,↓aa,zp,zc]
    ·exact Sub.int (by simp)
    rfl
   have lG:(l.take k).any (fun q=>decide (q.name=p.name))=false:=h
   (refine au ?_;simp -dsimp only[ai,ne_eq,Nat.reduceEqDiff,reduceCtorEq])
   refine cj ?_
   (refine I ?_;simp -dsimp only[ai,ne_eq,Nat.reduceEqDiff,reduceCtorEq])
   apply aQ rfl<;>intro h
   ·have wu:¬p.kind=3:=by simpa using h
    refine aM ?_;simp -dsimp only[ai,ne_eq,Nat.reduceEqDiff,reduceCtorEq];have wq:t.j2 fu l k=true:=by
     rw[bF.j2,hp];simp[wu]
    refine ba 1 [(1,eR l),(2,.mp 0 0),(32,eR l),(33,aI l.length),(34,aI k)] (by simp) (by simp) [.cells [.aC 3 (t.datas.map Data.enc) .sh,.im .str (t.cons.map entry)]] ?_ ?_ ?_ ?_ ?_
    ·rfl
    ·simp[ay.upto,aq,ae.upto,Data.an,bM]
    ·simp -dsimp only[simprocAttr,↓aa,zp,dy,exists_eq_left',Option.some.injEq,sub_self,and_true]
    ·simp[ae.upto,aq,Pat.an]
    refine du ?_
    repeat(refine⟨by omega,?_⟩)
    (refine I ?_;simp -dsimp only[ai,ne_eq,Nat.reduceEqDiff,reduceCtorEq])
    refine⟨⟨k+1,aN,?_⟩,by simp;omega,?_⟩
    ·intro j hj;rcases Nat.lt_succ_iff_lt_or_eq.1 hj with hj|hj
     ·exact bq j hj
     rw[hj];exact wq
    refine zq rfl ?_ ?_;simp -dsimp only[simprocAttr,↓aa,zp,zc]
    ·exact Sub.int (by simp)
    rfl
   have wu:p.kind=3:=by simpa using h
   (refine au ?_;simp -dsimp only[ai,ne_eq,Nat.reduceEqDiff,reduceCtorEq])
   obtain⟨k0,GD,lr,TR⟩:=j9 (jh p (Oy p oM)) wu;have gO:∀q∈l,q.name=p.name->q.args.length=p.args.length∧∀a∈q.args,t.pattern a=0:=fun q hq hn=>by
    obtain⟨k1,ni,nk,Pp⟩:=j9 (jh q (Oy q hq)) (xB ((HQ q hq).trans (HQ p oM).symm) wu);rw[hn,GD]at ni;cases ni;exact⟨by rw[nk,lr],Pp⟩
   refine aB ?_
   (refine I ?_;simp -dsimp only[ai,ne_eq,Nat.reduceEqDiff,reduceCtorEq])
   refine bT 48 rfl (fun zK=>?_);simp only[List.length_map]at zK;refine aj (aO (ι:={n:Nat // n<=p.args.length∧∀j,j<n->t.gY fu (below l p.name j)=true}) (fun n=>⟨79,[(1,eR l),(2,.mp 0 0),(8,.mp 1 0),(32,eR l),(33,aI l.length),(34,aI k),(48,eR p.args),(49,aI p.args.length),(50,aI n.1)],[.cells [.aC 3 (t.datas.map Data.enc) .sh,.im .str (t.cons.map entry)],.cells [.v (.int .i64 p.kind),.v (.string p.name),.v (.int .i64 p.n),.aC 4 (p.args.map Pat.enc) .sh]]⟩) (fun n=>p.args.length-n.1) ⟨0,by omega,fun j hj=>by omega⟩ ?_ ?_)
   ·refine zq rfl ?_ ?_;simp -dsimp only[simprocAttr,↓aa,zp,zc];rfl
   rintro⟨n,hn,Ok⟩;refine aB ?_
   (refine I ?_;simp -dsimp only[ai,ne_eq,Nat.reduceEqDiff,reduceCtorEq])
   apply gr rfl<;>intro h
   ·(refine au ?_;simp -dsimp only[ai,ne_eq,Nat.reduceEqDiff,reduceCtorEq])
    have vk:n<p.args.length:=by simpa using h
    have XQ:=tl (l:=l) (s:=p.name) (n:=n) (fun q hq e=>by rw[(gO q hq e).1];exact vk);have VR:p.args.getD n Pat.any∈below l p.name n:=List.mem_map.2 ⟨p,List.mem_filter.2 ⟨oM,by simp⟩,rfl⟩;have Ry:below l p.name n≠[]:=fun e=>by rw[e]at VR;cases VR
    have Om:∀x:List Pat,(below x p.name n).length<=x.length:=fun x=>by
     rw[below,List.length_map];exact List.length_filter_le _ _
    have Vr:0<(below l p.name n).length:=List.length_pos_iff.2 Ry;have Te:l.length<=l0.length:=by
     rw[hl];exact List.length_filter_le _ _
    have eL:=ih (below l p.name n) (by omega) Ry (by have:=Om l;omega) (fun a ha=>by
     obtain⟨q,hq,rfl⟩:=List.mem_map.1 ha;obtain⟨K9,BB⟩:=List.mem_filter.1 hq;obtain⟨e1,e2⟩:=gO q K9 (by simpa using BB);refine e2 _ ?_;rw[List.getD_eq_getElem?_getD,List.getElem?_eq_getElem (by omega)];exact List.getElem_mem _)
    refine aG (aj ?_);refine aB ?_
    (refine I ?_;simp -dsimp only[ai,ne_eq,Nat.reduceEqDiff,reduceCtorEq])
    refine aB ?_
    (refine I ?_;simp -dsimp only[ai,ne_eq,Nat.reduceEqDiff,reduceCtorEq])
    refine j4 10 rfl ?_;simp -dsimp only[simprocAttr,↓aa,zp];refine cj ?_
    (refine I ?_;simp -dsimp only[ai,ne_eq,Nat.reduceEqDiff,reduceCtorEq])
    refine aj (aO (ι:={j:Nat // j<=l.length}) (fun j=>⟨79,[(1,eR l),(2,.mp 0 0),(8,.mp 1 0),(9,aI n),(32,eR l),(33,aI l.length),(34,aI k),(48,eR p.args),(49,aI p.args.length),(50,aI n),(53,eR l),(54,aI l.length),(55,aI j.1),(10,.aC 4 ((below (l.take j.1) p.name n).map Pat.enc) (.tok 2))],[.cells [.aC 3 (t.datas.map Data.enc) .sh,.im .str (t.cons.map entry)],.cells [.v (.int .i64 p.kind),.v (.string p.name),.v (.int .i64 p.n),.aC 4 (p.args.map Pat.enc) .sh],.spare (below (l.take j.1) p.name n).length]⟩) (fun j=>l.length-j.1) ⟨0,by omega⟩ ?_ ?_)
    ·refine zq rfl ?_ ?_;simp -dsimp only[simprocAttr,↓aa,zp,zc]
     ·exact Sub.aC (by simp[below])
     simp[below]
    rintro⟨j,hj⟩;refine aB ?_
    (refine I ?_;simp -dsimp only[ai,ne_eq,Nat.reduceEqDiff,reduceCtorEq])
    apply gr rfl<;>intro h
    ·(refine au ?_;simp -dsimp only[ai,ne_eq,Nat.reduceEqDiff,reduceCtorEq])
     have HU:j<l.length:=by simpa using h
     obtain⟨q,hq⟩:∃q,l[j]?=some q:=⟨l[j],by simp[HU]⟩
     have S8:=BU hq p.name n;have zF:=Om (l.take j);simp only[List.length_take]at zF;refine aG (aj ?_);refine aH ?_;simp -dsimp only[simprocAttr,↓aa,zp,hq]
     (refine I ?_;simp -dsimp only[ai,ne_eq,Nat.reduceEqDiff,reduceCtorEq])
     refine aB ?_
     (refine I ?_;simp -dsimp only[ai,ne_eq,Nat.reduceEqDiff,reduceCtorEq])
     apply aQ rfl<;>intro h
     ·have zL:q.name=p.name:=by simpa using h
      obtain⟨Uz,_⟩:=gO q (List.mem_of_getElem? hq) zL;have W2:q.args[n]?=some (q.args.getD n Pat.any):=by
       rw[List.getD_eq_getElem?_getD,List.getElem?_eq_getElem (by omega)];rfl
      refine fq ?_;simp -dsimp only[simprocAttr,↓aa,zp,W2]
      repeat(refine⟨by omega,?_⟩)
      (refine I ?_;simp -dsimp only[ai,ne_eq,Nat.reduceEqDiff,reduceCtorEq])
      refine ba 3 [(1,eR l),(2,.mp 0 0),(8,.mp 1 0),(9,aI n),(32,eR l),(33,aI l.length),(34,aI k),(48,eR p.args),(49,aI p.args.length),(50,aI n),(53,eR l),(54,aI l.length),(55,aI j),(10,.aC 4 ((below (l.take j) p.name n++[q.args.getD n Pat.any]).map Pat.enc) (.tok 2))] (by simp) (by omega) [.cells [.aC 3 (t.datas.map Data.enc) .sh,.im .str (t.cons.map entry)],.cells [.v (.int .i64 p.kind),.v (.string p.name),.v (.int .i64 p.n),.aC 4 (p.args.map Pat.enc) .sh],.spare (below (l.take j) p.name n++[q.args.getD n Pat.any]).length] ?_ ?_ ?_ ?_ ?_
      ·simp
      ·simp[ay.upto,aq,ae.upto,Data.an,bM,Pat.an]
      ·simp -dsimp only[simprocAttr,↓aa,zp,dy,exists_eq_left',Option.some.injEq,sub_self,and_true,true_and];exact Sub.aC (by simp)
      ·simp only[List.mem_cons,List.not_mem_nil,or_false,forall_eq_or_imp,forall_eq,ae.upto,Pat.an,and_true,true_and];omega
      refine du ?_
      repeat(refine⟨by omega,?_⟩)
      (refine I ?_;simp -dsimp only[ai,ne_eq,Nat.reduceEqDiff,reduceCtorEq])
      refine⟨⟨j+1,HU⟩,by simp;omega,?_⟩;refine zq rfl ?_ ?_;simp -dsimp only[simprocAttr,↓aa,zp,zc]
      ·exact⟨Sub.int (by simp),Sub.aC (by simp[S8,zL])⟩
      simp[S8,zL]
     have zL:¬q.name=p.name:=by simpa using h
     (refine au ?_;simp -dsimp only[ai,ne_eq,Nat.reduceEqDiff,reduceCtorEq])
     refine ba 3 [(1,eR l),(2,.mp 0 0),(8,.mp 1 0),(9,aI n),(32,eR l),(33,aI l.length),(34,aI k),(48,eR p.args),(49,aI p.args.length),(50,aI n),(53,eR l),(54,aI l.length),(55,aI j),(10,.aC 4 ((below (l.take j) p.name n).map Pat.enc) (.tok 2))] (by simp) (by omega) [.cells [.aC 3 (t.datas.map Data.enc) .sh,.im .str (t.cons.map entry)],.cells [.v (.int .i64 p.kind),.v (.string p.name),.v (.int .i64 p.n),.aC 4 (p.args.map Pat.enc) .sh],.spare (below (l.take j) p.name n).length] ?_ ?_ ?_ ?_ ?_
     ·rfl
     ·simp[ay.upto,aq,ae.upto,Data.an,bM,Pat.an]
     ·simp -dsimp only[simprocAttr,↓aa,zp,dy,exists_eq_left',Option.some.injEq,sub_self,and_true,true_and]
     ·simp only[List.mem_cons,List.not_mem_nil,or_false,forall_eq_or_imp,forall_eq,ae.upto,Pat.an,and_true,true_and];omega
     refine du ?_
     repeat(refine⟨by omega,?_⟩)
     (refine I ?_;simp -dsimp only[ai,ne_eq,Nat.reduceEqDiff,reduceCtorEq])
     refine⟨⟨j+1,HU⟩,by simp;omega,?_⟩;refine zq rfl ?_ ?_;simp -dsimp only[simprocAttr,↓aa,zp,zc]
     ·exact⟨Sub.int (by simp),Sub.aC (by simp[S8,zL])⟩
     simp[S8,zL]
    refine aM ?_;simp -dsimp only[ai,ne_eq,Nat.reduceEqDiff,reduceCtorEq];have WJ:j=l.length:=by simp at h;omega
    subst WJ;refine aH ?_;simp -dsimp only[simprocAttr,↓aa,zp,List.take_length];refine .inl ⟨_,eL,by simp only[aq,ae.upto,zt,zu,ck,b8],ah ?_⟩;simp -dsimp only[simprocAttr,↓aa,zp]
    (refine I ?_;simp -dsimp only[ai,ne_eq,Nat.reduceEqDiff,reduceCtorEq])
    apply aQ rfl<;>intro h
    ·have nW:t.gY fu (below l p.name n)=false:=by simpa using h
     have wq:t.j2 fu l k=false:=by
      rw[bF.j2,hp];simp only[lG,wu,Bool.false_or,ne_eq,not_true_eq_false,decide_false];cases hc:(List.range p.args.length).all fun n=>t.gY fu (below l p.name n)with
      | false=>rfl
      | true =>
       have:=List.all_eq_true.1 hc n (List.mem_range.2 vk);rw[nW]at this;cases this
     have hB:B2=false:=by
      cases hc:B2 with
      | false=>rfl
      | true =>
       rw[TM]at hc;have:=List.all_eq_true.1 hc k (List.mem_range.2 aN);rw[wq]at this;cases this
     refine aB ?_
     (refine I ?_;simp -dsimp only[ai,ne_eq,Nat.reduceEqDiff,reduceCtorEq])
     refine ak ?_;simp -dsimp only[simprocAttr,↓aa,zp,zr,Tryz.results28];rw[hB]
    have nW:t.gY fu (below l p.name n)=true:=by simpa using h
    (refine au ?_;simp -dsimp only[ai,ne_eq,Nat.reduceEqDiff,reduceCtorEq])
    refine ba 2 [(1,eR l),(2,.mp 0 0),(8,.mp 1 0),(32,eR l),(33,aI l.length),(34,aI k),(48,eR p.args),(49,aI p.args.length),(50,aI n)] (by simp) (by omega) [.cells [.aC 3 (t.datas.map Data.enc) .sh,.im .str (t.cons.map entry)],.cells [.v (.int .i64 p.kind),.v (.string p.name),.v (.int .i64 p.n),.aC 4 (p.args.map Pat.enc) .sh]] ?_ ?_ ?_ ?_ ?_
    ·rfl
    ·simp[ay.upto,aq,ae.upto,Data.an,bM,Pat.an]
    ·simp -dsimp only[simprocAttr,↓aa,zp,dy,exists_eq_left',Option.some.injEq,sub_self,and_true,true_and]
    ·simp[ae.upto,aq,Pat.an]
    refine du ?_
    repeat(refine⟨by omega,?_⟩)
    (refine I ?_;simp -dsimp only[ai,ne_eq,Nat.reduceEqDiff,reduceCtorEq])
    refine⟨⟨n+1,vk,?_⟩,by simp;omega,?_⟩
    ·intro j hj;rcases Nat.lt_succ_iff_lt_or_eq.1 hj with hj|hj
     ·exact Ok j hj
     rw[hj];exact nW
    refine zq rfl ?_ ?_;simp -dsimp only[simprocAttr,↓aa,zp,zc]
    ·exact Sub.int (by simp)
    rfl
   refine aM ?_;simp -dsimp only[ai,ne_eq,Nat.reduceEqDiff,reduceCtorEq];have HR:n=p.args.length:=by simp at h;omega
   subst HR;have wq:t.j2 fu l k=true:=by
    rw[bF.j2,hp];simp only[Bool.or_eq_true,List.all_eq_true,List.mem_range];exact .inr fun j hj=>Ok j hj
   refine ba 1 [(1,eR l),(2,.mp 0 0),(32,eR l),(33,aI l.length),(34,aI k)] (by simp) (by simp) [.cells [.aC 3 (t.datas.map Data.enc) .sh,.im .str (t.cons.map entry)]] ?_ ?_ ?_ ?_ ?_
   ·rfl
   ·simp[ay.upto,aq,ae.upto,Data.an,bM]
   ·simp -dsimp only[simprocAttr,↓aa,zp,dy,exists_eq_left',Option.some.injEq,sub_self,and_true]
   ·simp[ae.upto,aq,Pat.an]
   refine du ?_
   repeat(refine⟨by omega,?_⟩)
   (refine I ?_;simp -dsimp only[ai,ne_eq,Nat.reduceEqDiff,reduceCtorEq])
   refine⟨⟨k+1,aN,?_⟩,by simp;omega,?_⟩
   ·intro j hj;rcases Nat.lt_succ_iff_lt_or_eq.1 hj with hj|hj
    ·exact bq j hj
    rw[hj];exact wq
   refine zq rfl ?_ ?_;simp -dsimp only[simprocAttr,↓aa,zp,zc]
   ·exact Sub.int (by simp)
   rfl
  refine aM ?_;simp -dsimp only[ai,ne_eq,Nat.reduceEqDiff,reduceCtorEq];have gg:k=l.length:=by simp at h;omega
  subst gg;have hB:B2=true:=by
   rw[TM];exact List.all_eq_true.2 fun j hj=>bq j (List.mem_range.1 hj)
  refine aB ?_
  (refine I ?_;simp -dsimp only[ai,ne_eq,Nat.reduceEqDiff,reduceCtorEq])
  refine ak ?_;simp -dsimp only[simprocAttr,↓aa,zp,zr,Tryz.results28];rw[hB]
theorem um(t:bF):∀fu:Nat,Du t fu
 | 0,l,h,_,_,_=>by omega
 | fu+1,l,h1,h2,h3,h4=>BM t fu (um t fu) l h1 h2 h3 h4
def column(rows:List (List Pat))(n:Nat):List Pat:=rows.map fun r=>r.getD n Pat.any
def bF.kg(t:bF)(rows:List (List Pat))(n:Nat):Bool:=t.gY (bX (column rows n)+1) (column rows n)
def bF.kJ(t:bF)(rows:List (List Pat)):Int :=
 if(rows.all fun r=>decide (r.length=(rows.headD []).length))=false then 3
 else if t.dD rows.flatten≠0 then t.dD rows.flatten
 else if(List.range (rows.headD []).length).all (t.kg rows)then 0 else 10
def check(datas:List Data)(rows:List (List Pat)):Int :=
 if small datas rows=false then 2 else match build datas with
  | none=>7
  | some t=>t.kJ rows
def kl(datas:List Data)(rows:List (List Pat)):ae :=
 if check datas rows=0 then(match build datas with
  | some t=>.c5 [t.enc,aI 0]
  | none=>.c5 [nJ,aI 0])else .c5 [nJ,aI (check datas rows)]
theorem jn{datas:List Data}{rows:List (List Pat)}{e:Int}(h:check datas rows=e)(he:e≠0):.c5 [.agg [.aC 3 [] .sh,.v (.map none)],aI e]=kl datas rows:=by
 rw[kl,h,if_neg he];rfl
theorem rX{f:List Pat->Nat->Bool×Nat}(hf:∀l m m2,f l m=(true,m2)->m2=m+bX l):∀(l:List Pat) (m m2:Nat),iD f l m=(true,m2)->m2=m+bX l
 | [],m,m2,h=>by
  simp only[iD,Prod.mk.injEq]at h;simp[bX,h.2]
 | p::r,m,m2,h=>by
  rw[iD]at h;split at h
  ·simp at h
  cases hq:f p.args (m+1)with
  | mk b m3 =>
   rw[hq]at h;cases b with
   | false=>simp at h
   | true =>
    have h1:=hf _ _ _ hq;have h2:=rX hf r m3 m2 h;rw[bX,Pat.fX];omega
theorem l7:∀(d:Nat) (l:List Pat) (m m2:Nat),iS d l m=(true,m2)->m2=m+bX l
 | 0,l,m,m2,h=>by
  simp only[iS,Prod.mk.injEq,List.isEmpty_iff]at h;rw[h.1];simp[bX,h.2]
 | d+1,l,m,m2,h=>rX (l7 d) l m m2 h
def fh:List (List Pat)->Nat
 | []=>0
 | r::rs=>bX r+fh rs
theorem nT:∀(rows:List (List Pat)) (m:Nat),m<=400->dP rows m=true->m+fh rows<=400∧∀r∈rows,r.length<=16
 | [],m,hm,_=>⟨by simpa[fh]using hm,by simp⟩
 | r::rows,m,hm,h=>by
  rw[dP]at h;split at h
  ·cases h
  rename_i yz;cases hq:iS 20 r m with
  | mk b m2 =>
   rw[hq]at h;cases b with
   | false=>cases h
   | true =>
    have h1:=l7 _ _ _ _ hq;have h2:=rY 20 r m hm;rw[hq]at h2;obtain⟨h3,h4⟩:=nT rows m2 (h2 rfl) h;refine⟨by rw[fh];omega,fun x hx=>?_⟩;rcases List.mem_cons.1 hx with rfl|hx
    ·omega
    exact h4 x hx
theorem qy:∀{rows:List (List Pat)} {r:List Pat},r∈rows->bX r<=fh rows
 | q::rows,r,h=>by
  rw[fh];rcases List.mem_cons.1 h with rfl|h
  ·omega
  have:=qy h;omega
theorem tt{datas:List Data}{rows:List (List Pat)}(h:small datas rows=true):rows.length<=64∧fh rows<=400∧∀r∈rows,r.length<=16:=by
 simp only[small,Bool.and_eq_true,decide_eq_true_eq]at h;obtain⟨h1,h2⟩:=nT rows 0 (by omega) h.1;exact⟨h.2.1,by omega,h2⟩
theorem AD{rows:List (List Pat)}(h:∀r∈rows,r.length<=16):(rows.headD []).length<=16:=by
 cases rows with
 | nil=>simp
 | cons r rows=>exact h r (by simp)
theorem oB{datas:List Data}{rows:List (List Pat)}{t:bF}(h:check datas rows=0)(hb:build datas=some t):.c5 [t.enc,aI 0]=kl datas rows:=by
 rw[kl,h,if_pos rfl,hb]
theorem Ae{rows:List (List Pat)}{k:Nat}{r:List Pat}(h:rows[k]?=some r)(n:Nat):column (rows.take (k+1)) n=column (rows.take k) n++[r.getD n Pat.any]:=by
 rw[bN h];simp[column]
theorem nf(datas:List Data)(rows:List (List Pat)):aV Tryz.prog 12 [eD datas,kV rows] (kl datas rows):=by
 refine zf true 0 Tryz.func12 Tryz.ntmps12 ?_;dsimp only[Tmp,TypeId,ax];refine aB ?_
 (refine I ?_;simp -dsimp only[ai,ne_eq,Nat.reduceEqDiff,reduceCtorEq])
 refine cj ?_;refine .inl ⟨_,(Dd datas rows),by simp only[aq,ae.upto,zt,zu,ck,b8],ah ?_⟩;simp -dsimp only[simprocAttr,↓aa,zp]
 (refine I ?_;simp -dsimp only[ai,ne_eq,Nat.reduceEqDiff,reduceCtorEq])
 apply aQ rfl<;>intro h
 ·have hs:small datas rows=false:=by simpa using h
  refine aB ?_
  (refine I ?_;simp -dsimp only[ai,ne_eq,Nat.reduceEqDiff,reduceCtorEq])
  refine ak ?_;simp -dsimp only[simprocAttr,↓aa,zp,zr,Tryz.results12];exact⟨by simp[aq,ae.upto],jn (by rw[check,if_pos hs]) (by decide)⟩
 have hs:small datas rows=true:=by simpa using h
 (refine au ?_;simp -dsimp only[ai,ne_eq,Nat.reduceEqDiff,reduceCtorEq])
 have yD:=BY datas;cases xu:build datas with
 | none =>
  rw[xu]at yD;refine aB ?_;refine .inl ⟨_,yD,by simp only[aq,ae.upto,zt,zu,ck,b8],ah ?_⟩;simp -dsimp only[simprocAttr,↓aa,zp,uE,nJ]
  (refine I ?_;simp -dsimp only[ai,ne_eq,Nat.reduceEqDiff,reduceCtorEq])
  refine cj ?_
  (refine I ?_;simp -dsimp only[ai,ne_eq,Nat.reduceEqDiff,reduceCtorEq])
  refine de rfl ?_;refine aB ?_
  (refine I ?_;simp -dsimp only[ai,ne_eq,Nat.reduceEqDiff,reduceCtorEq])
  refine ak ?_;simp -dsimp only[simprocAttr,↓aa,zp,zr,Tryz.results12];exact⟨by simp[aq,ae.upto],jn (by rw[check,if_neg (by simp[hs]),xu]) (by decide)⟩
 | some t =>
  rw[xu]at yD;have wP:check datas rows=t.kJ rows:=by rw[check,if_neg (by simp[hs]),xu]
  refine aB ?_;refine .inl ⟨_,yD,by simp only[aq,ae.upto,zt,zu,ck,b8],ah ?_⟩;simp -dsimp only[simprocAttr,↓aa,zp,uE]
  (refine I ?_;simp -dsimp only[ai,ne_eq,Nat.reduceEqDiff,reduceCtorEq])
  refine cj ?_
  (refine I ?_;simp -dsimp only[ai,ne_eq,Nat.reduceEqDiff,reduceCtorEq])
  apply aQ rfl<;>intro h
  ·cases h
  (refine au ?_;simp -dsimp only[ai,ne_eq,Nat.reduceEqDiff,reduceCtorEq])
  refine cj ?_
  (refine I ?_;simp -dsimp only[ai,ne_eq,Nat.reduceEqDiff,reduceCtorEq])
  obtain⟨AK,VW,Sx⟩:=tt hs;have X2:=AD Sx;refine aj (aO (ι:={k:Nat // k<=rows.length∧(rows.all fun r=>decide (r.length=(rows.headD []).length))=((rows.drop k).all fun r=>decide (r.length=(rows.headD []).length))}) (fun k=>⟨102,[(1,kV rows),(4,.mp 0 0),(6,.mp 1 0),(33,kV rows),(34,aI rows.length),(35,aI k.1)],[.cells [.aC 3 [] .ex,.v (.map none)],.cells [.aC 3 (t.datas.map Data.enc) .sh,.im .str (t.cons.map entry)]]⟩) (fun k=>rows.length-k.1) ⟨0,by omega,rfl⟩ ?_ ?_)
  ·refine zq rfl ?_ ?_;simp -dsimp only[simprocAttr,↓aa,zp,zc];rfl
  rintro⟨k,hk,he⟩;refine aB ?_
  (refine I ?_;simp -dsimp only[ai,ne_eq,Nat.reduceEqDiff,reduceCtorEq])
  apply gr rfl<;>intro h
  ·(refine au ?_;simp -dsimp only[ai,ne_eq,Nat.reduceEqDiff,reduceCtorEq])
   have aN:k<rows.length:=by simpa using h
   obtain⟨r,hr⟩:∃r,rows[k]?=some r:=⟨rows[k],by simp[aN]⟩
   obtain⟨r0,pQ⟩:∃r,rows[0]?=some r:=⟨rows[0],by simp[show 0<rows.length by omega]⟩
   have gy:rows.drop k=r::rows.drop (k+1):=by
    rw[List.drop_eq_getElem_cons aN];rw[List.getElem?_eq_getElem aN]at hr;simp only[Option.some.injEq]at hr;rw[hr]
   have lR:rows.headD []=r0:=by
    cases hle:rows with
    | nil=>rw[hle]at pQ;cases pQ
    | cons q r=>rw[hle]at pQ;cases pQ;rfl
   rw[gy,List.all_cons,lR]at he;refine aG (aj ?_);refine aH ?_;simp -dsimp only[simprocAttr,↓aa,zp,hr]
   (refine I ?_;simp -dsimp only[ai,ne_eq,Nat.reduceEqDiff,reduceCtorEq])
   refine aH ?_;simp -dsimp only[simprocAttr,↓aa,zp,pQ]
   (refine I ?_;simp -dsimp only[ai,ne_eq,Nat.reduceEqDiff,reduceCtorEq])
   apply aQ rfl<;>intro h
   ·have cA:¬r.length=r0.length:=by
     simp at h;omega
    simp only[cA,decide_false,Bool.false_and]at he;refine aB ?_
    (refine I ?_;simp -dsimp only[ai,ne_eq,Nat.reduceEqDiff,reduceCtorEq])
    refine ak ?_;simp -dsimp only[simprocAttr,↓aa,zp,zr,Tryz.results12];exact⟨by simp[aq,ae.upto],jn (by rw[wP,bF.kJ,lR,if_pos he]) (by decide)⟩
   have cA:r.length=r0.length:=by
    simp at h;omega
   simp only[cA,decide_true,Bool.true_and]at he
   (refine au ?_;simp -dsimp only[ai,ne_eq,Nat.reduceEqDiff,reduceCtorEq])
   refine du ?_
   repeat(refine⟨by omega,?_⟩)
   (refine I ?_;simp -dsimp only[ai,ne_eq,Nat.reduceEqDiff,reduceCtorEq])
   refine⟨⟨k+1,aN,?_⟩,by simp;omega,?_⟩
   ·rw[lR];exact he
   refine zq rfl ?_ ?_;simp -dsimp only[simprocAttr,↓aa,zp,zc]
   ·exact Sub.int (by simp)
   rfl
  refine aM ?_;simp -dsimp only[ai,ne_eq,Nat.reduceEqDiff,reduceCtorEq];have gg:k=rows.length:=by simp at h;omega
  subst gg;rw[List.drop_length,List.all_nil]at he;have xw:∀r∈rows,r.length=(rows.headD []).length:=fun r hr=>by
   have:=List.all_eq_true.1 he r hr;simpa using this
  refine cj ?_
  (refine I ?_;simp -dsimp only[ai,ne_eq,Nat.reduceEqDiff,reduceCtorEq])
  refine aj (aO (ι:={k:Nat // k<=rows.length∧t.dD rows.flatten=t.dD (rows.drop k).flatten}) (fun k=>⟨102,[(1,kV rows),(4,.mp 0 0),(6,.mp 1 0),(48,kV rows),(49,aI rows.length),(50,aI k.1)],[.cells [.aC 3 [] .ex,.v (.map none)],.cells [.aC 3 (t.datas.map Data.enc) .sh,.im .str (t.cons.map entry)]]⟩) (fun k=>rows.length-k.1) ⟨0,by omega,rfl⟩ ?_ ?_)
  ·refine zq rfl ?_ ?_;simp -dsimp only[simprocAttr,↓aa,zp,zc];rfl
  rintro⟨k,hk,DO⟩;refine aB ?_
  (refine I ?_;simp -dsimp only[ai,ne_eq,Nat.reduceEqDiff,reduceCtorEq])
  apply gr rfl<;>intro h
  ·(refine au ?_;simp -dsimp only[ai,ne_eq,Nat.reduceEqDiff,reduceCtorEq])
   have aN:k<rows.length:=by simpa using h
   obtain⟨r,hr⟩:∃r,rows[k]?=some r:=⟨rows[k],by simp[aN]⟩
   have gy:rows.drop k=r::rows.drop (k+1):=by
    rw[List.drop_eq_getElem_cons aN];rw[List.getElem?_eq_getElem aN]at hr;simp only[Option.some.injEq]at hr;rw[hr]
   rw[gy,List.flatten_cons]at DO;refine aG (aj ?_);refine aH ?_;simp -dsimp only[simprocAttr,↓aa,zp,hr]
   (refine I ?_;simp -dsimp only[ai,ne_eq,Nat.reduceEqDiff,reduceCtorEq])
   refine bT 11 rfl (fun wU=>?_);simp only[List.length_map]at wU;refine aB ?_
   (refine I ?_;simp -dsimp only[ai,ne_eq,Nat.reduceEqDiff,reduceCtorEq])
   refine aj (aO (ι:={n:Nat // n<=r.length∧t.dD rows.flatten=t.dD (r.drop n++(rows.drop (k+1)).flatten)}) (fun n=>⟨102,[(1,kV rows),(4,.mp 0 0),(6,.mp 1 0),(48,kV rows),(49,aI rows.length),(50,aI k),(54,eR r),(55,aI r.length),(56,aI n.1)],[.cells [.aC 3 [] .ex,.v (.map none)],.cells [.aC 3 (t.datas.map Data.enc) .sh,.im .str (t.cons.map entry)]]⟩) (fun n=>r.length-n.1) ⟨0,by omega,DO⟩ ?_ ?_)
   ·refine zq rfl ?_ ?_;simp -dsimp only[simprocAttr,↓aa,zp,zc];rfl
   rintro⟨n,hn,zK⟩;refine aB ?_
   (refine I ?_;simp -dsimp only[ai,ne_eq,Nat.reduceEqDiff,reduceCtorEq])
   apply gr rfl<;>intro h
   ·(refine au ?_;simp -dsimp only[ai,ne_eq,Nat.reduceEqDiff,reduceCtorEq])
    have vk:n<r.length:=by simpa using h
    obtain⟨p,hp⟩:∃p,r[n]?=some p:=⟨r[n],by simp[vk]⟩
    have Pz:r.drop n=p::r.drop (n+1):=by
     rw[List.drop_eq_getElem_cons vk];rw[List.getElem?_eq_getElem vk]at hp;simp only[Option.some.injEq]at hp;rw[hp]
    rw[Pz,List.cons_append,bF.dD]at zK;refine aG (aj ?_);refine aH ?_;simp -dsimp only[simprocAttr,↓aa,zp,hp]
    (refine I ?_;simp -dsimp only[ai,ne_eq,Nat.reduceEqDiff,reduceCtorEq])
    refine aB ?_;refine .inl ⟨_,(rM t p),by simp only[aq,ae.upto,zt,zu,ck,b8],ah ?_⟩;simp -dsimp only[simprocAttr,↓aa,zp]
    (refine I ?_;simp -dsimp only[ai,ne_eq,Nat.reduceEqDiff,reduceCtorEq])
    refine aB ?_
    (refine I ?_;simp -dsimp only[ai,ne_eq,Nat.reduceEqDiff,reduceCtorEq])
    apply aQ rfl<;>intro h
    ·have cA:¬t.pattern p=0:=by simpa using h
     rw[if_neg cA]at zK;refine aB ?_
     (refine I ?_;simp -dsimp only[ai,ne_eq,Nat.reduceEqDiff,reduceCtorEq])
     refine ak ?_;simp -dsimp only[simprocAttr,↓aa,zp,zr,Tryz.results12];exact⟨by simp[aq,ae.upto],jn (by rw[wP,bF.kJ,if_neg (by rw[he];simp),if_pos (by rw[zK];exact cA),zK]) cA⟩
    have cA:t.pattern p=0:=by simpa using h
    rw[if_pos cA]at zK
    (refine au ?_;simp -dsimp only[ai,ne_eq,Nat.reduceEqDiff,reduceCtorEq])
    refine ba 2 [(1,kV rows),(4,.mp 0 0),(6,.mp 1 0),(48,kV rows),(49,aI rows.length),(50,aI k),(54,eR r),(55,aI r.length),(56,aI n)] (by simp) (by simp) [.cells [.aC 3 [] .ex,.v (.map none)],.cells [.aC 3 (t.datas.map Data.enc) .sh,.im .str (t.cons.map entry)]] ?_ ?_ ?_ ?_ ?_
    ·rfl
    ·simp[ay.upto,aq,ae.upto,Data.an,bM]
    ·simp -dsimp only[simprocAttr,↓aa,zp,dy,exists_eq_left',Option.some.injEq,sub_self,and_true]
    ·simp[ae.upto,aq,b8,Pat.an]
    refine du ?_
    repeat(refine⟨by omega,?_⟩)
    (refine I ?_;simp -dsimp only[ai,ne_eq,Nat.reduceEqDiff,reduceCtorEq])
    refine⟨⟨n+1,vk,zK⟩,by simp;omega,?_⟩;refine zq rfl ?_ ?_;simp -dsimp only[simprocAttr,↓aa,zp,zc]
    ·exact Sub.int (by simp)
    rfl
   refine aM ?_;simp -dsimp only[ai,ne_eq,Nat.reduceEqDiff,reduceCtorEq];have nX:n=r.length:=by simp at h;omega
   subst nX;rw[List.drop_length,List.nil_append]at zK;refine du ?_
   repeat(refine⟨by omega,?_⟩)
   (refine I ?_;simp -dsimp only[ai,ne_eq,Nat.reduceEqDiff,reduceCtorEq])
   refine⟨⟨k+1,aN,zK⟩,by simp;omega,?_⟩;refine zq rfl ?_ ?_;simp -dsimp only[simprocAttr,↓aa,zp,zc]
   ·exact Sub.int (by simp)
   rfl
  refine aM ?_;simp -dsimp only[ai,ne_eq,Nat.reduceEqDiff,reduceCtorEq];have gg:k=rows.length:=by simp at h;omega
  subst gg;rw[List.drop_length,List.flatten_nil,bF.dD]at DO;have Mj:∀r∈rows,∀p∈r,t.pattern p=0:=fun r hr p hp=>(gF t).1 DO p (List.mem_flatten.2 ⟨r,hr,hp⟩);have tJ:t.kJ rows=if(List.range (rows.headD []).length).all (t.kg rows)then 0 else 10:=by
   rw[bF.kJ,if_neg (by rw[he];simp),if_neg (by rw[DO];simp)]
  refine cj ?_
  (refine I ?_;simp -dsimp only[ai,ne_eq,Nat.reduceEqDiff,reduceCtorEq])
  refine aj (aO (ι:={n:Nat // n<=(rows.headD []).length∧∀j,j<n->t.kg rows j=true}) (fun n=>⟨102,[(1,kV rows),(4,.mp 0 0),(6,.mp 1 0),(15,aI n.1)],[.cells [.aC 3 [] .ex,.v (.map none)],.cells [.aC 3 (t.datas.map Data.enc) .sh,.im .str (t.cons.map entry)]]⟩) (fun n=>(rows.headD []).length-n.1) ⟨0,by omega,fun j hj=>by omega⟩ ?_ ?_)
  ·refine zq rfl ?_ ?_;simp -dsimp only[simprocAttr,↓aa,zp,zc];rfl
  rintro⟨n,hn,bq⟩;refine cj ?_;refine cO (fun h=>?_) (fun h=>?_)
  ·have lu:0<rows.length:=by
    simp at h;omega
   obtain⟨r0,pQ⟩:∃r,rows[0]?=some r:=⟨rows[0],by simp[lu]⟩
   have lR:rows.headD []=r0:=by
    cases hle:rows with
    | nil=>rw[hle]at pQ;cases pQ
    | cons q r=>rw[hle]at pQ;cases pQ;rfl
   simp -dsimp only[simprocAttr,↓aa,zp,h,pQ]
   (refine I ?_;simp -dsimp only[ai,ne_eq,Nat.reduceEqDiff,reduceCtorEq])
   apply aQ rfl<;>intro h
   ·have vk:n<(rows.headD []).length:=by
     rw[lR];simpa using h
    (refine au ?_;simp -dsimp only[ai,ne_eq,Nat.reduceEqDiff,reduceCtorEq])
    refine aG (aj ?_);refine aB ?_
    (refine I ?_;simp -dsimp only[ai,ne_eq,Nat.reduceEqDiff,reduceCtorEq])
    refine j4 16 rfl ?_;simp -dsimp only[simprocAttr,↓aa,zp];refine cj ?_
    (refine I ?_;simp -dsimp only[ai,ne_eq,Nat.reduceEqDiff,reduceCtorEq])
    refine aj (aO (ι:={k:Nat // k<=rows.length}) (fun k=>⟨102,[(1,kV rows),(4,.mp 0 0),(6,.mp 1 0),(15,aI n),(82,kV rows),(83,aI rows.length),(84,aI k.1),(16,.aC 4 ((column (rows.take k.1) n).map Pat.enc) (.tok 2))],[.cells [.aC 3 [] .ex,.v (.map none)],.cells [.aC 3 (t.datas.map Data.enc) .sh,.im .str (t.cons.map entry)],.spare (column (rows.take k.1) n).length]⟩) (fun k=>rows.length-k.1) ⟨0,by omega⟩ ?_ ?_)
    ·refine zq rfl ?_ ?_;simp -dsimp only[simprocAttr,↓aa,zp,zc]
     ·exact Sub.aC (by simp[column])
     simp[column]
    rintro⟨k,hk⟩;refine aB ?_
    (refine I ?_;simp -dsimp only[ai,ne_eq,Nat.reduceEqDiff,reduceCtorEq])
    apply gr rfl<;>intro h
    ·(refine au ?_;simp -dsimp only[ai,ne_eq,Nat.reduceEqDiff,reduceCtorEq])
     have aN:k<rows.length:=by simpa using h
     obtain⟨r,hr⟩:∃r,rows[k]?=some r:=⟨rows[k],by simp[aN]⟩
     have W4:r[n]?=some (r.getD n Pat.any):=by
      have:=xw r (List.mem_of_getElem? hr);rw[List.getD_eq_getElem?_getD,List.getElem?_eq_getElem (by omega)];rfl
     have lB:(column (rows.take k) n).length<=rows.length:=by
      rw[column,List.length_map,List.length_take];omega
     have e:=Ae hr n;refine aG (aj ?_);refine aH ?_;simp -dsimp only[simprocAttr,↓aa,zp,hr]
     (refine I ?_;simp -dsimp only[ai,ne_eq,Nat.reduceEqDiff,reduceCtorEq])
     refine fq ?_;simp -dsimp only[simprocAttr,↓aa,zp,W4]
     repeat(refine⟨by omega,?_⟩)
     (refine I ?_;simp -dsimp only[ai,ne_eq,Nat.reduceEqDiff,reduceCtorEq])
     refine du ?_
     repeat(refine⟨by omega,?_⟩)
     (refine I ?_;simp -dsimp only[ai,ne_eq,Nat.reduceEqDiff,reduceCtorEq])
     refine⟨⟨k+1,aN⟩,by simp;omega,?_⟩;refine zq rfl ?_ ?_;simp -dsimp only[simprocAttr,↓aa,zp,zc]
     ·exact⟨Sub.int (by simp),Sub.aC (by simp[e])⟩
     simp[e]
    refine aM ?_;simp -dsimp only[ai,ne_eq,Nat.reduceEqDiff,reduceCtorEq];have gg:k=rows.length:=by simp at h;omega
    subst gg;have LR:column rows n≠[]:=fun e=>by
     have:=congrArg List.length e;rw[column,List.length_map]at this;simp at this;rw[this]at lu;simp at lu
    have eL:=um t (bX (column rows n)+1) (column rows n) (by omega) LR (by rw[column,List.length_map];omega) (fun p hp=>by
     obtain⟨r,hr,rfl⟩:=List.mem_map.1 hp;have:=xw r hr;refine Mj r hr _ ?_;rw[List.getD_eq_getElem?_getD,List.getElem?_eq_getElem (by omega)];exact List.getElem_mem _)
    refine aH ?_;simp -dsimp only[simprocAttr,↓aa,zp,List.take_length];refine .inl ⟨_,eL,by simp only[aq,ae.upto,zt,zu,ck,b8],ah ?_⟩;simp -dsimp only[simprocAttr,↓aa,zp]
    (refine I ?_;simp -dsimp only[ai,ne_eq,Nat.reduceEqDiff,reduceCtorEq])
    apply aQ rfl<;>intro h
    ·have nW:t.kg rows n=false:=by simpa[bF.kg]using h
     have Hz:t.kJ rows=10:=by
      rw[tJ,if_neg];intro hc;have:=List.all_eq_true.1 hc n (List.mem_range.2 vk);rw[nW]at this;cases this
     refine aB ?_
     (refine I ?_;simp -dsimp only[ai,ne_eq,Nat.reduceEqDiff,reduceCtorEq])
     refine ak ?_;simp -dsimp only[simprocAttr,↓aa,zp,zr,Tryz.results12];exact⟨by simp[aq,ae.upto],jn (wP.trans Hz) (by decide)⟩
    have nW:t.kg rows n=true:=by simpa[bF.kg]using h
    (refine au ?_;simp -dsimp only[ai,ne_eq,Nat.reduceEqDiff,reduceCtorEq])
    refine ba 2 [(1,kV rows),(4,.mp 0 0),(6,.mp 1 0),(15,aI n)] (by simp) (by omega) [.cells [.aC 3 [] .ex,.v (.map none)],.cells [.aC 3 (t.datas.map Data.enc) .sh,.im .str (t.cons.map entry)]] ?_ ?_ ?_ ?_ ?_
    ·rfl
    ·simp[ay.upto,aq,ae.upto,Data.an,bM]
    ·simp -dsimp only[simprocAttr,↓aa,zp,dy,exists_eq_left',Option.some.injEq,sub_self,and_true]
    ·simp[ae.upto,aq,b8]
    refine du ?_
    repeat(refine⟨by omega,?_⟩)
    (refine I ?_;simp -dsimp only[ai,ne_eq,Nat.reduceEqDiff,reduceCtorEq])
    refine⟨⟨n+1,vk,?_⟩,by show(rows.headD []).length-(n+1)<(rows.headD []).length-n;omega,?_⟩
    ·intro j hj;rcases Nat.lt_succ_iff_lt_or_eq.1 hj with hj|hj
     ·exact bq j hj
     rw[hj];exact nW
    refine zq rfl ?_ ?_;simp -dsimp only[simprocAttr,↓aa,zp,zc]
    ·exact Sub.int (by simp)
    rfl
   have nX:n=(rows.headD []).length:=by
    rw[lR]at hn ⊢;simp at h;omega
   have h0:t.kJ rows=0:=by
    rw[tJ,if_pos];exact List.all_eq_true.2 fun j hj=>bq j (by have:=List.mem_range.1 hj;omega)
   refine aM ?_;simp -dsimp only[ai,ne_eq,Nat.reduceEqDiff,reduceCtorEq];refine aB ?_
   (refine I ?_;simp -dsimp only[ai,ne_eq,Nat.reduceEqDiff,reduceCtorEq])
   refine ak ?_;simp -dsimp only[simprocAttr,↓aa,zp,zr,Tryz.results12];exact⟨by simp[aq,ae.upto,bF.aF],oB (wP.trans h0) xu⟩
  have hz:rows=[]:=by
   cases rows with
   | nil=>rfl
   | cons r x=>simp at h
  have h0:t.kJ rows=0:=by
   rw[tJ,if_pos];rw[hz];rfl
  simp -dsimp only[simprocAttr,↓aa,zp,h]
  (refine I ?_;simp -dsimp only[ai,ne_eq,Nat.reduceEqDiff,reduceCtorEq])
  refine cB rfl ?_;refine aM ?_;simp -dsimp only[ai,ne_eq,Nat.reduceEqDiff,reduceCtorEq];refine aB ?_
  (refine I ?_;simp -dsimp only[ai,ne_eq,Nat.reduceEqDiff,reduceCtorEq])
  refine ak ?_;simp -dsimp only[simprocAttr,↓aa,zp,zr,Tryz.results12];exact⟨by simp[aq,ae.upto,bF.aF],oB (wP.trans h0) xu⟩
end Go.Proofs.YtkkookchlddbkaaGreat.V
namespace Go.Proofs.YtkkookchlddbkaaGreat.V
theorem mD:∀(l:List (ByteArray×K)) (s:ByteArray) (k:K) (x:ByteArray),find (l++[(s,k)]) x=match find l x with
  | some y=>some y
  | none=>if s=x then some k else none
 | [],s,k,x=>by simp[find]
 | (n,k')::r,s,k,x=>by
  simp only[List.cons_append,find];by_cases h:n=x
  ·simp[h]
  simp only[h,if_false];exact mD r s k x
theorem uj(k:Nat):∀(cs:List fa) (n:Nat) (acc eJ:List (ByteArray×K)),fD k n cs acc=some eJ ->
  (∀x y,find acc x=some y->find eJ x=some y) ∧
  (∀x y,find eJ x=some y->find acc x=some y∨∃c∈cs,c.name=x∧y.data=k∧y.many=c.args.length) ∧
  (∀c∈cs,∃y,find eJ c.name=some y∧y.data=k∧y.many=c.args.length)
 | [],n,acc,eJ,h=>by
  simp only[fD,Option.some.injEq]at h;subst h;exact⟨fun x y h=>h,fun x y h=>.inl h,by simp⟩
 | c::r,n,acc,eJ,h=>by
  rw[fD]at h;cases hf:find acc c.name with
  | some z =>
   rw[hf]at h;cases h
  | none =>
   rw[hf]at h;obtain⟨h1,h2,h3⟩:=uj k r (n+1) _ eJ h;have vm:find (acc++[(c.name,(⟨k,n,c.args.length⟩:K))]) c.name=some ⟨k,n,c.args.length⟩:=by
    rw[mD,hf];simp
   refine⟨fun x y hx=>h1 x y (by rw[mD,hx]),fun x y hx=>?_,fun c' nO=>?_⟩
   ·rcases h2 x y hx with h4|⟨c',h4,h5⟩
    ·rw[mD]at h4;cases hq:find acc x with
     | some z =>
      rw[hq]at h4;exact .inl h4
     | none =>
      rw[hq]at h4;simp only at h4;split at h4
      ·rename_i e;cases h4;exact .inr ⟨c,by simp,e,rfl,rfl⟩
      cases h4
    exact .inr ⟨c',by simp[h4],h5⟩
   rcases List.mem_cons.1 nO with rfl|nO
   ·exact⟨_,h1 _ _ vm,rfl,rfl⟩
   exact h3 c' nO
theorem sS:∀(ds:List Data) (k:Nat) (acc eJ:List (ByteArray×K)),cK k ds acc=some eJ ->
  (∀x y,find acc x=some y->find eJ x=some y) ∧
  (∀x y,find eJ x=some y->find acc x=some y∨∃j d c,ds[j]?=some d∧c∈d.cons∧c.name=x∧y.data=k+j∧y.many=c.args.length) ∧
  (∀j d c,ds[j]?=some d->c∈d.cons->∃y,find eJ c.name=some y∧y.data=k+j∧y.many=c.args.length)
 | [],k,acc,eJ,h=>by
  simp only[cK,Option.some.injEq]at h;subst h;exact⟨fun x y h=>h,fun x y h=>.inl h,fun j d c hj=>by simp at hj⟩
 | d::r,k,acc,eJ,h=>by
  rw[cK]at h;obtain⟨Ll,h0,h⟩:=Option.bind_eq_some_iff.1 h;obtain⟨a1,a2,a3⟩:=uj k d.cons 0 acc Ll h0;obtain⟨b1,b2,b3⟩:=sS r (k+1) Ll eJ h;refine⟨fun x y hx=>b1 x y (a1 x y hx),fun x y hx=>?_,fun j d' c hj hc=>?_⟩
  ·rcases b2 x y hx with h1|⟨j,d',c,h1,h2,h3,h4,h5⟩
   ·rcases a2 x y h1 with h2|⟨c,h2,h3,h4,h5⟩
    ·exact .inl h2
    exact .inr ⟨0,d,c,rfl,h2,h3,by omega,h5⟩
   exact .inr ⟨j+1,d',c,by simpa using h1,h2,h3,by omega,h5⟩
  cases j with
  | zero =>
   simp only[List.getElem?_cons_zero,Option.some.injEq]at hj;subst hj;obtain⟨y,h1,h2,h3⟩:=a3 c hc;exact⟨y,b1 _ _ h1,by omega,h3⟩
  | succ j =>
   obtain⟨y,h1,h2,h3⟩:=b3 j d' c (by simpa using hj) hc;exact⟨y,h1,by omega,h3⟩
theorem zX{datas:List Data}{t:bF}(h:build datas=some t):nK t∧t.datas=datas:=by
 unfold build at h;obtain⟨l,hl,rfl⟩:=Option.map_eq_some_iff.1 h;obtain⟨_,h2,h3⟩:=sS datas 0 [] l hl;refine⟨⟨fun s y hs=>?_,fun i d c hi hc=>?_⟩,rfl⟩
 ·rcases h2 s y hs with h4|⟨j,d,c,k1,k2,k3,k4,k5⟩
  ·simp[find]at h4
  exact⟨d,c,by rw[k4,Nat.zero_add];exact k1,k2,k3,k5.symm⟩
 obtain⟨y,k1,k2,k3⟩:=h3 i d c hi hc;exact⟨y,k1,by omega,k3⟩
theorem bt.C1{t:bF}:∀{l:List Pat} {tys:List Ty},l.length=tys.length->(∀(n:Nat) ty,tys[n]?=some ty->fC t (l.getD n Pat.any) ty)->bt t l tys
 | [],[],_,_=>by simp[bt]
 | [],_::_,h,_=>by simp at h
 | _::_,[],h,_=>by simp at h
 | p::l,ty::tys,h,k=>by
  simp only[bt];refine⟨ty,tys,rfl,by simpa using k 0 ty rfl,bt.C1 (by simpa using h) fun n QX hn=>?_⟩;have:=k (n+1) QX (by simpa using hn);simpa using this
theorem bt.get{t:bF}:∀{l:List Pat} {tys:List Ty},bt t l tys->∀(n:Nat) p ty,l[n]?=some p->tys[n]?=some ty->fC t p ty
 | p::l,tys,h,n,q,ty,hq,ht=>by
  simp only[bt]at h;obtain⟨QX,vZ,rfl,h1,h2⟩:=h;cases n with
  | zero =>
   simp only[List.getElem?_cons_zero,Option.some.injEq]at hq ht;subst hq;subst ht;exact h1
  | succ n=>exact h2.get n q ty (by simpa using hq) (by simpa using ht)
 | [],_,_,n,q,ty,hq,_=>by simp at hq
theorem fI{l:List Pat}{p:Pat}:p∈bare l↔p∈l∧p.free=false:=by
 rw[bare,List.mem_filter];simp
theorem LI{t:bF}{p:Pat}{ty:Ty}(h:p.free=true):fC t p ty:=by
 rw[mw,if_pos h];trivial
theorem xC{t:bF}{p:Pat}(hf:p.free=false)(jh:t.pattern p=0):p.kind=2∨p.kind=3:=by
 have h1:¬(p.kind=0∨p.kind=1):=fun h=>by
  rw[<-Pat.mF,hf]at h;cases h
 rw[bF.jV,if_neg (fun e=>h1 (.inl e)),if_neg (fun e=>h1 (.inr e))]at jh;by_cases h2:p.kind=2
 ·exact .inl h2
 rw[if_neg h2]at jh;by_cases h3:p.kind=3
 ·exact .inr h3
 rw[if_neg h3]at jh;cases jh
theorem ug.E6{t:bF}(n:Nat):ug t (List.replicate n .any):=fun ty eW=>by
 rw[(List.mem_replicate.1 eW).2];exact .any
theorem u9{s:ByteArray}:∀{l:List Pat},(∃p∈l,p.name=s)->∃(k:Nat) (q:Pat),l[k]?=some q∧q.name=s∧(l.take k).any (fun q=>decide (q.name=s))=false
 | [],h=>by
  obtain⟨p,hp,_⟩:=h;cases hp
 | q::l,h=>by
  by_cases hq:q.name=s
  ·exact⟨0,q,rfl,hq,rfl⟩
  obtain⟨p,hp,e⟩:=h;rcases List.mem_cons.1 hp with rfl|hp
  ·exact absurd e hq
  obtain⟨k,r,h1,h2,h3⟩:=u9 (l:=l) ⟨p,hp,e⟩;exact⟨k+1,r,by simpa using h1,h2,by simp[hq]at h3 ⊢;exact h3⟩
theorem x7{t:bF}{fu:Nat}{l0:List Pat}(jh:∀p∈l0,t.pattern p=0)(h:t.gY (fu+1) l0=true):(∀p∈bare l0,t.kind p=t.kind ((bare l0).headD Pat.any))∧∀p∈bare l0,p.kind=3->∀n,n<p.args.length->t.gY fu (below (bare l0) p.name n)=true:=by
 rw[bF.gY,Bool.and_eq_true]at h;obtain⟨h1,h2⟩:=h;have hk:∀p∈bare l0,t.kind p=t.kind ((bare l0).headD Pat.any):=fun p hp=>by simpa using List.all_eq_true.1 h1 p hp
 refine⟨hk,fun p hp h3 n hn=>?_⟩;obtain⟨k,q,k1,k2,k3⟩:=u9 (l:=bare l0) ⟨p,hp,rfl⟩;have aN:k<(bare l0).length:=Go.Av.ag k1;have hq:=List.mem_of_getElem? k1;have:=List.all_eq_true.1 h2 k (List.mem_range.2 aN);rw[k1]at this;have Uy:=xB ((hk q hq).trans (hk p hp).symm) h3;obtain⟨ka,f1,m1,_⟩:=j9 (jh q (fI.1 hq).1) Uy;obtain⟨kb,f2,m2,_⟩:=j9 (jh p (fI.1 hp).1) h3;rw[k2,f2]at f1;cases f1;simp only[k2,k3,Uy,Bool.false_or,ne_eq,not_true_eq_false,decide_false]at this;exact List.all_eq_true.1 this n (List.mem_range.2 (by omega))
theorem mN{l:List Pat}{s:ByteArray}{n:Nat}{a:Pat}:a∈below l s n↔∃q∈l,q.name=s∧a=q.args.getD n Pat.any:=by
 rw[below,List.mem_map];constructor
 ·rintro⟨q,hq,rfl⟩;obtain⟨h1,h2⟩:=List.mem_filter.1 hq;exact⟨q,h1,by simpa using h2,rfl⟩
 rintro⟨q,h1,h2,rfl⟩;exact⟨q,List.mem_filter.2 ⟨h1,by simpa using h2⟩,rfl⟩
theorem rn{l:List Pat}{n:Nat}(h:n<l.length):l.getD n Pat.any∈l:=by
 rw[List.getD_eq_getElem?_getD,List.getElem?_eq_getElem h];exact List.getElem_mem h
theorem zP{t:bF}(hT:nK t):∀(fu:Nat) (l:List Pat),(∀p∈l,t.pattern p=0)->t.gY fu l=true->∃ty,og t ty∧∀p∈l,fC t p ty
 | 0,l,_,h=>by cases h
 | fu+1,l0,jh,h=>by
  obtain⟨hk,hb⟩:=x7 jh h;have lift:∀ty,(∀p∈bare l0,fC t p ty)->∀p∈l0,fC t p ty:=fun ty eW p hp=>by
   by_cases hf:p.free=true
   ·exact LI hf
   exact eW p (fI.2 ⟨hp,by simpa using hf⟩)
  cases hl:bare l0 with
  | nil=>exact⟨.any,.any,lift _ (by rw[hl];simp)⟩
  | cons p0 r =>
   have nm:p0∈bare l0:=by rw[hl];simp
   have mU:∀p∈bare l0,t.kind p=t.kind p0:=fun p hp=>by
    have:=hk p hp;rw[hl]at this;exact this
   have FM:∀p∈bare l0,t.pattern p=0:=fun p hp=>jh p (fI.1 hp).1;rcases xC (fI.1 nm).2 (FM p0 nm)with h2|h3
   ·refine⟨.int,.int,lift _ fun p hp=>?_⟩;have Mi:p.kind=2:=by
     rcases xC (fI.1 hp).2 (FM p hp)with e|e
     ·exact e
     have:=xB (mU p hp).symm e;omega
    rw[mw,if_neg (by simp[(fI.1 hp).2]),if_pos Mi]
   have Oj:∀p∈bare l0,p.kind=3:=fun p hp=>xB (mU p hp) h3;have RI:∀p∈bare l0,(t.gu p.name).data=(t.gu p0.name).data:=fun p hp=>by
    have:=mU p hp;rw[bF.kind,bF.kind,if_neg (by have:=Oj p hp;omega),if_pos (Oj p hp),if_neg (by omega),if_pos h3]at this;omega
   have hf:∀s:ByteArray,∃tys:List Ty,tys.length=(t.gu s).many∧(∀ty∈tys,og t ty)∧∀q∈bare l0,q.name=s->bt t q.args tys:=fun s=>by
    by_cases hs:∃q∈bare l0,q.name=s
    ·obtain⟨q0,H5,sr⟩:=hs;obtain⟨k0,f0,m0,_⟩:=j9 (FM q0 H5) (Oj q0 H5);have ve:t.gu s=k0:=by rw[bF.gu,<-sr,f0];rfl
     have hlen:∀q∈bare l0,q.name=s->q.args.length=k0.many∧∀a∈q.args,t.pattern a=0:=fun q hq hn=>by
      obtain⟨k1,f1,m1,a1⟩:=j9 (FM q hq) (Oj q hq);rw[hn,<-sr,f0]at f1;cases f1;exact⟨m1,a1⟩
     have each:∀n,n<k0.many->∃ty,og t ty∧∀a∈below (bare l0) s n,fC t a ty:=fun n hn=>by
      refine zP hT fu (below (bare l0) s n) (fun a ha=>?_) ?_
      ·obtain⟨q,hq,zL,rfl⟩:=mN.1 ha;obtain⟨e1,e2⟩:=hlen q hq zL;exact e2 _ (rn (by omega))
      have:=hb q0 H5 (Oj q0 H5) n (by omega);rw[sr]at this;exact this
     obtain⟨tys,Lb,H6⟩:=Go.Av.lW (p:=fun(n:Nat) (ty:Ty)=>og t ty∧∀a∈below (bare l0) s n,fC t a ty) k0.many id each;refine⟨tys,by rw[ve,Lb],fun ty eW=>?_,fun q hq zL=>?_⟩
     ·obtain⟨i,hi⟩:=List.mem_iff_getElem?.1 eW;exact(H6 i ty hi).1
     obtain⟨e1,_⟩:=hlen q hq zL;exact bt.C1 (by omega) fun n ty hn=>(H6 n ty hn).2 _ (mN.2 ⟨q,hq,zL,rfl⟩)
    exact⟨List.replicate (t.gu s).many .any,by simp,ug.E6 _,fun q hq hn=>absurd ⟨q,hq,hn⟩ hs⟩
   obtain⟨k0,f0,m0,_⟩:=j9 (FM p0 nm) h3;obtain⟨d,c0,hd,RB,_,_⟩:=hT.back _ _ f0;have ve:t.gu p0.name=k0:=by rw[bF.gu,f0];rfl
   refine⟨.data k0.data (fun s=>Classical.choose (hf s)),.data hd (fun e=>by rw[e]at RB;cases RB) (fun c hc=>?_) (fun c hc=>(Classical.choose_spec (hf c.name)).2.1),lift _ fun p hp=>?_⟩
   ·rw[(Classical.choose_spec (hf c.name)).1];obtain⟨y,f1,_,m1⟩:=hT.uniq _ _ _ hd hc;rw[bF.gu,f1];exact m1
   obtain⟨k1,f1,m1,_⟩:=j9 (FM p hp) (Oj p hp);have RH:t.gu p.name=k1:=by rw[bF.gu,f1];rfl
   have Vz:=RI p hp;rw[RH,ve]at Vz;rw[mw,if_neg (by simp[(fI.1 hp).2]),if_neg (by have:=Oj p hp;omega)];exact⟨Oj p hp,k0.data,_,k1,rfl,f1,Vz,(Classical.choose_spec (hf p.name)).2.2 p hp rfl⟩
theorem Bm{t:bF}:∀(fu:Nat) (l:List Pat) (ty:Ty),bX l<fu->(∀p∈l,t.pattern p=0)->(∀p∈l,fC t p ty)->t.gY fu l=true
 | 0,l,ty,h,_,_=>by omega
 | fu+1,l0,ty,FD,jh,eW=>by
  have hk:∀p∈bare l0,∀q∈bare l0,t.kind p=t.kind q:=fun p hp q hq=>by
   obtain⟨CD,Mi⟩:=fI.1 hp;obtain⟨K9,BB⟩:=fI.1 hq;by_cases h2:p.kind=2
   ·have e:=(eW p CD).int Mi h2;subst e;have BB:q.kind=2:=by
     by_cases e:q.kind=2
     ·exact e
     obtain⟨_,i,f,k0,e,_⟩:=(eW q K9).gu BB e;cases e
    rw[bF.kind,bF.kind,if_pos h2,if_pos BB]
   obtain⟨h3,i,f,k0,rfl,f0,d0,_⟩:=(eW p CD).gu Mi h2;have Sp:¬q.kind=2:=fun e=>by
    have:=(eW q K9).int BB e;cases this
   obtain⟨QG,i',f',X7,e,V',V9,_⟩:=(eW q K9).gu BB Sp;cases e;rw[bF.kind,bF.kind,if_neg h2,if_pos h3,if_neg Sp,if_pos QG,bF.gu,bF.gu,f0,V'];simp[d0,V9]
  rw[bF.gY,Bool.and_eq_true];refine⟨List.all_eq_true.2 fun p hp=>?_,List.all_eq_true.2 fun k mU=>?_⟩
  ·have:(bare l0).headD Pat.any∈bare l0:=by
    cases hl:bare l0 with
    | nil=>rw[hl]at hp;cases hp
    | cons q r=>simp
   simpa using hk p hp _ this
  have aN:=List.mem_range.1 mU;have CE:(bare l0)[k]?=some (bare l0)[k]:=List.getElem?_eq_getElem aN;rw[CE];generalize DO:(bare l0)[k]=p at CE;have hp:=List.mem_of_getElem? CE;obtain⟨CD,Mi⟩:=fI.1 hp;simp only[Bool.or_eq_true,List.all_eq_true,List.mem_range];by_cases h3:p.kind=3
  ·refine .inr fun n hn=>?_;have gO:∀q∈bare l0,q.name=p.name->n<q.args.length∧∀a∈q.args,t.pattern a=0:=fun q hq zL=>by
    obtain⟨ka,f1,m1,a1⟩:=j9 (jh q (fI.1 hq).1) (xB (hk q hq p hp) h3);obtain⟨kb,f2,m2,_⟩:=j9 (jh p CD) h3;rw[zL,f2]at f1;cases f1;exact⟨by omega,a1⟩
   have h1:=tl (l:=bare l0) (s:=p.name) (n:=n) fun q hq e=>(gO q hq e).1;have h2:=pZ l0;have eN:p.args.getD n Pat.any∈below (bare l0) p.name n:=mN.2 ⟨p,hp,rfl,rfl⟩;have lu:0<(below (bare l0) p.name n).length:=List.length_pos_iff.2 fun e=>by rw[e]at eN;cases eN
   obtain⟨_,i,f,k0,UL,f0,d0,dt⟩:=(eW p CD).gu Mi (by omega);have gf:=dt.len;have iM:(f p.name)[n]?=some ((f p.name)[n]'(by omega)):=List.getElem?_eq_getElem (by omega);refine Bm fu (below (bare l0) p.name n) ((f p.name)[n]'(by omega)) (by omega) (fun a ha=>?_) (fun a ha=>?_)
   ·obtain⟨q,hq,zL,rfl⟩:=mN.1 ha;obtain⟨e1,e2⟩:=gO q hq zL;exact e2 _ (rn e1)
   obtain⟨q,hq,zL,rfl⟩:=mN.1 ha;obtain⟨e1,e2⟩:=gO q hq zL;have Uy:=xB (hk q hq p hp) h3;obtain⟨_,i',f',k1,e,f1,d1,HB⟩:=(eW q (fI.1 hq).1).gu (fI.1 hq).2 (by omega);rw[UL]at e;cases e;rw[zL]at HB;exact HB.get n _ _ (by rw[List.getD_eq_getElem?_getD,List.getElem?_eq_getElem e1];rfl) iM
  exact .inl (.inr (by simpa using h3))
structure gV(t:bF)(rows:List (List Pat))(tys:List Ty):Prop where
 EU:nK t
 len:rows.length<=64
 nodes:fh rows<=400
 wf:ug t tys
 typed:gW t rows tys
 ok:∀r∈rows,∀p∈r,t.pattern p=0
theorem ll{datas:List Data}{rows:List (List Pat)}(h:check datas rows=0):∃t,build datas=some t∧t.datas=datas∧(∀r∈rows,r.length=(rows.headD []).length)∧(rows.headD []).length<=16∧∃tys,tys.length=(rows.headD []).length∧gV t rows tys:=by
 unfold check at h;by_cases hs:small datas rows=true
 ·rw[if_neg (by simp[hs])]at h;obtain⟨AK,VW,Sx⟩:=tt hs;cases hb:build datas with
  | none =>
   rw[hb]at h;cases h
  | some t =>
   rw[hb]at h;simp only at h;obtain⟨hT,lq⟩:=zX hb;unfold bF.kJ at h;by_cases h1:(rows.all fun r=>decide (r.length=(rows.headD []).length))=true
   ·rw[if_neg (by rw[h1];simp)]at h;have hl:∀r∈rows,r.length=(rows.headD []).length:=fun r hr=>by simpa using List.all_eq_true.1 h1 r hr
    by_cases h2:t.dD rows.flatten=0
    ·rw[if_neg (by simp[h2])]at h;have Mj:∀r∈rows,∀p∈r,t.pattern p=0:=fun r hr p hp=>(gF t).1 h2 p (List.mem_flatten.2 ⟨r,hr,hp⟩);by_cases h3:(List.range (rows.headD []).length).all (t.kg rows)=true
     ·have each:∀n,n<(rows.headD []).length->∃ty,og t ty∧∀p∈column rows n,fC t p ty:=fun n hn=>by
       have:=List.all_eq_true.1 h3 n (List.mem_range.2 hn);refine zP hT _ _ (fun p hp=>?_) this;obtain⟨r,hr,rfl⟩:=List.mem_map.1 hp;exact Mj r hr _ (rn (by rw[hl r hr];exact hn))
      obtain⟨tys,Lb,H6⟩:=Go.Av.lW (p:=fun(n:Nat) (ty:Ty)=>og t ty∧∀p∈column rows n,fC t p ty) _ id each;refine⟨t,rfl,lq,hl,AD Sx,tys,Lb,hT,AK,VW,fun ty eW=>?_,fun r hr=>?_,Mj⟩
      ·obtain⟨i,hi⟩:=List.mem_iff_getElem?.1 eW;exact(H6 i ty hi).1
      exact bt.C1 (by rw[Lb,hl r hr]) fun n ty hn=>(H6 n ty hn).2 _ (List.mem_map.2 ⟨r,hr,rfl⟩)
     rw[if_neg h3]at h;cases h
    rw[if_pos (by simpa using h2)]at h;exact absurd h h2
   rw[if_pos (by simpa using h1)]at h;cases h
 rw[if_pos (by simpa using hs)]at h;cases h
theorem Hb{datas:List Data}{rows:List (List Pat)}{t:bF}{tys:List Ty}(hb:build datas=some t)(hs:small datas rows=true)(eW:gW t rows tys)(jh:∀r∈rows,∀p∈r,t.pattern p=0):check datas rows=0:=by
 unfold check;rw[if_neg (by simp[hs]),hb];have hl:∀r∈rows,r.length=(rows.headD []).length:=fun r hr=>by
  cases rows with
  | nil=>cases hr
  | cons q rows =>
   rw[(eW r hr).len];exact((eW q (by simp)).len).symm
 have h1:(rows.all fun r=>decide (r.length=(rows.headD []).length))=true:=List.all_eq_true.2 fun r hr=>by simpa using hl r hr
 have h2:t.dD rows.flatten=0:=(gF t).2 fun p hp=>by
  obtain⟨r,hr,hp⟩:=List.mem_flatten.1 hp;exact jh r hr p hp
 show t.kJ rows=0;unfold bF.kJ;rw[if_neg (by rw[h1];simp),if_neg (by simp[h2]),if_pos];refine List.all_eq_true.2 fun n hn=>?_;have hn:=List.mem_range.1 hn;have hlen:∀r∈rows,n<r.length:=fun r hr=>by rw[hl r hr];exact hn
 cases rows with
 | nil=>simp at hn
 | cons q rows =>
  have mV:n<tys.length:=by
   have:=(eW q (by simp)).len;simp at hn;omega
  refine Bm _ _ (tys[n]) (by omega) (fun p hp=>?_) (fun p hp=>?_)
  ·obtain⟨r,hr,rfl⟩:=List.mem_map.1 hp;exact jh r hr _ (rn (hlen r hr))
  obtain⟨r,hr,rfl⟩:=List.mem_map.1 hp;exact(eW r hr).get n _ _ (by rw[List.getD_eq_getElem?_getD,List.getElem?_eq_getElem (hlen r hr)];rfl) (List.getElem?_eq_getElem mV)
mutual
theorem Pat.SW:∀p:Pat,p.wt+1<=2*p.nodes
 | .mk k s n l=>by
  have:=wm l;rw[Pat.wt,Pat.nodes];split<;>omega
theorem wm:∀l:List Pat,r6 l+l.length<=2*bX l
 | []=>by simp[r6,bX]
 | p::r=>by
  have h1:=p.SW;have h2:=wm r;simp only[r6,bX,List.length_cons];omega
end
theorem Gw(l:List Pat):r6 l<=2*bX l:=by
 have:=wm l;omega
theorem xR:∀rows:List (List Pat),sQ rows<=2*fh rows
 | []=>by simp[sQ]
 | r::rows=>by
  have h1:=Gw r;have h2:=xR rows;simp only[sQ,fh];omega
theorem gV.small{t:bF}{rows:List (List Pat)}{tys:List Ty}(h:gV t rows tys):lg rows:=by
 refine⟨h.len,fun r hr p hp=>?_⟩;have h1:=iZ hp;have h2:=qy hr;have:=h.nodes;omega
theorem gV.wt{t:bF}{rows:List (List Pat)}{tys:List Ty}(h:gV t rows tys):sQ rows<=800:=by
 have:=xR rows;have:=h.nodes;omega
theorem nA:∀{a b:List (List Pat)},a.Sublist b->fh a<=fh b
 | _,_,.slnil=>Nat.le_refl _
 | _,_,.cons r h=>by
  have:=nA h;rw[fh];omega
 | _,_,.cons_cons r h=>by
  have:=nA h;rw[fh,fh];omega
theorem gV.sub{t:bF}{rows less:List (List Pat)}{tys:List Ty}(h:gV t rows tys)(hs:less.Sublist rows):gV t less tys where
 EU:=h.EU
 len:=Nat.le_trans hs.length_le h.len
 nodes:=Nat.le_trans (nA hs) h.nodes
 wf:=h.wf
 typed:=fun r hr=>h.typed r (hs.subset hr)
 ok:=fun r hr=>h.ok r (hs.subset hr)
@[irreducible] def bF.missing (t:bF) (rows:List (List Pat)) (m:Nat):List Pat×Bool:=t.bA 5000 rows m
def fW(datas:List Data)(rows:List (List Pat))(bz:Int):List Pat×Int :=
 if check datas rows≠0 then([],check datas rows)
 else if bz<0∨16<bz∨(0<rows.length∧bz≠(rows.headD []).length)then([],1)
 else match build datas with
  | none=>([],0)
  | some t=>if(t.missing rows bz.toNat).2 then((t.missing rows bz.toNat).1,0)else([],0)
def Q1(t:bF)(rows:List (List Pat))(tys:List Ty):Prop:=∃vs,kH t vs tys∧pX rows vs
theorem AV{t:bF}{rows:List (List Pat)}{tys:List Ty}(h:gV t rows tys)(hl:tys.length<=16):((t.missing rows tys.length).2=true↔Q1 t rows tys)∧((t.missing rows tys.length).2=true->(t.missing rows tys.length).1.length=tys.length∧∀vs,eY (t.missing rows tys.length).1 vs->pX rows vs):=by
 unfold bF.missing;exact kZ h.EU 5000 rows tys (by have:=h.wt;omega) h.typed h.wf
end Go.Proofs.YtkkookchlddbkaaGreat.V
namespace Go.Proofs.YtkkookchlddbkaaGreat.V
open Go.Av
theorem pN{datas:List Data}{rows:List (List Pat)}{t:bF}(h:check datas rows=0)(hb:build datas=some t):kl datas rows=.c5 [t.enc,aI 0]:=(oB h hb).symm
theorem qZ{datas:List Data}{rows:List (List Pat)}(h:check datas rows≠0):kl datas rows=.c5 [nJ,aI (check datas rows)]:=by
 rw[kl,if_neg h]
theorem pW(datas:List Data)(rows:List (List Pat)):aV Tryz.prog 11 [eD datas,kV rows] (aI (check datas rows)):=by
 have hc:=nf datas rows;by_cases h0:check datas rows=0
 ·obtain⟨t,hb,_⟩:=ll h0;rw[pN h0 hb]at hc;rw[h0];refine zf true 0 Tryz.func11 Tryz.ntmps11 ?_;dsimp only[Tmp,TypeId,ax];refine aB ?_
  (refine I ?_;simp -dsimp only[ai,ne_eq,Nat.reduceEqDiff,reduceCtorEq])
  refine aB ?_;refine .inl ⟨_,hc,by simp only[aq,ae.upto,zt,zu,ck,b8],ah ?_⟩;simp -dsimp only[simprocAttr,↓aa,zp]
  (refine I ?_;simp -dsimp only[ai,ne_eq,Nat.reduceEqDiff,reduceCtorEq])
  refine aB ?_
  (refine I ?_;simp -dsimp only[ai,ne_eq,Nat.reduceEqDiff,reduceCtorEq])
  refine ak ?_;simp -dsimp only[simprocAttr,↓aa,zp,zr,Tryz.results11]
 rw[qZ h0]at hc;refine zf true 0 Tryz.func11 Tryz.ntmps11 ?_;dsimp only[Tmp,TypeId,ax];refine aB ?_
 (refine I ?_;simp -dsimp only[ai,ne_eq,Nat.reduceEqDiff,reduceCtorEq])
 refine aB ?_;refine .inl ⟨_,hc,by simp only[aq,ae.upto,zt,zu,ck,b8],ah ?_⟩;simp -dsimp only[simprocAttr,↓aa,zp,nJ]
 (refine I ?_;simp -dsimp only[ai,ne_eq,Nat.reduceEqDiff,reduceCtorEq])
 refine aB ?_
 (refine I ?_;simp -dsimp only[ai,ne_eq,Nat.reduceEqDiff,reduceCtorEq])
 refine ak ?_;simp -dsimp only[simprocAttr,↓aa,zp,zr,Tryz.results11]
theorem rI{t:bF}{rows:List (List Pat)}{tys:List Ty}(eo:gV t rows tys)(hF:E1 t.datas)(hl:tys.length<=16){bz:Int}(hc:bz=(tys.length:Nat)):aV Tryz.prog 13 [t.enc,kV rows,aI bz] (iV (t.missing rows bz.toNat)):=by
 have:=rJ eo.EU hF 5000 rows tys (by have:=eo.wt;omega) eo.typed eo.wf eo.small (by omega);rw[hc,Int.toNat_natCast,bF.missing];exact this
theorem AB(rows:List (List Pat))(h:0<rows.length):rows[0]?=some (rows.headD []):=by
 cases rows with
 | nil=>simp at h
 | cons r x=>rfl
theorem xV{datas:List Data}(hF:E1 datas)(rows:List (List Pat))(bz:Int):aV Tryz.prog 6 [eD datas,kV rows,aI bz] (.c5 [eR (fW datas rows bz).1,aI (fW datas rows bz).2]):=by
 have hc:=nf datas rows;rw[fW];by_cases h0:check datas rows=0
 ·obtain⟨t,hb,lq,hl,yz,tys,eW,eo⟩:=ll h0;rw[pN h0 hb]at hc;rw[if_neg (by simp[h0]),hb];simp only;have HT:=eo.len;have lR:=AB rows;generalize hR:(if bz<0∨16<bz∨(0<rows.length∧bz≠(rows.headD []).length)then(([]:List Pat),(1:Int))else if(t.missing rows bz.toNat).2=true then((t.missing rows bz.toNat).1,0)else([],0))=R;refine zf true 0 Tryz.func6 Tryz.ntmps6 ?_;dsimp only[Tmp,TypeId,ax];refine aB ?_
  (refine I ?_;simp -dsimp only[ai,ne_eq,Nat.reduceEqDiff,reduceCtorEq])
  refine aB ?_;refine .inl ⟨_,hc,by simp only[aq,ae.upto,zt,zu,ck,b8],ah ?_⟩;simp -dsimp only[simprocAttr,↓aa,zp]
  (refine I ?_;simp -dsimp only[ai,ne_eq,Nat.reduceEqDiff,reduceCtorEq])
  refine aG (aj ?_);refine aB ?_
  (refine I ?_;simp -dsimp only[ai,ne_eq,Nat.reduceEqDiff,reduceCtorEq])
  apply aQ rfl<;>intro h
  ·cases h
  refine aB ?_;refine cO (fun h1=>?_) (fun h1=>?_)
  ·have nh:decide (bz<0)=false:=by simpa using h1
   have LO:¬bz<0:=by simpa using nh
   simp -dsimp only[simprocAttr,↓aa,zp,nh];refine cO (fun h2=>?_) (fun h2=>?_)
   ·have LP:decide (16<bz)=false:=by simpa using h2
    have LQ:¬16<bz:=by simpa using LP
    simp -dsimp only[simprocAttr,↓aa,zp,nh,LP];refine cO (fun h3=>?_) (fun h3=>?_)
    ·have lu:0<rows.length:=by
      have h4:(0:Int)<rows.length:=of_decide_eq_true h3;omega
     have pQ:=lR lu;simp -dsimp only[simprocAttr,↓aa,zp,nh,LP,h3,pQ]
     (refine I ?_;simp -dsimp only[ai,ne_eq,Nat.reduceEqDiff,reduceCtorEq])
     apply aQ rfl<;>intro h
     ·have cA:¬bz=(rows.headD []).length:=by simpa using h
      have xu:bz<0∨16<bz∨(0<rows.length∧bz≠(rows.headD []).length):=by exact .inr (.inr ⟨lu,cA⟩)
      rw[if_pos xu]at hR;refine aB ?_
      (refine I ?_;simp -dsimp only[ai,ne_eq,Nat.reduceEqDiff,reduceCtorEq])
      refine ak ?_;simp -dsimp only[simprocAttr,↓aa,zp,zr,Tryz.results6];rw[<-hR];exact⟨by simp[aq,ae.upto],rfl⟩
     have cA:bz=(rows.headD []).length:=by simpa using h
     have tJ:bz.toNat=tys.length:=by rw[eW];omega
     have xu:¬(bz<0∨16<bz∨(0<rows.length∧bz≠(rows.headD []).length)):=by rintro(e|e|⟨_,e⟩);exact LO e;exact LQ e;exact e cA
     have HX:=rI eo (lq.symm ▸ hF) (by omega) (show bz=(tys.length:Nat) by omega);rw[if_neg xu]at hR;obtain⟨⟨out,is⟩,hq⟩:∃q,q=t.missing rows bz.toNat:=⟨_,rfl⟩
     rw[<-hq]at HX hR
     (refine au ?_;simp -dsimp only[ai,ne_eq,Nat.reduceEqDiff,reduceCtorEq])
     refine aB ?_;refine .inl ⟨_,HX,by simp only[aq,ae.upto,zt,zu,ck,b8],ah ?_⟩;simp -dsimp only[simprocAttr,↓aa,zp,iV]
     (refine I ?_;simp -dsimp only[ai,ne_eq,Nat.reduceEqDiff,reduceCtorEq])
     refine cj ?_
     (refine I ?_;simp -dsimp only[ai,ne_eq,Nat.reduceEqDiff,reduceCtorEq])
     apply aQ rfl<;>intro h
     ·have PH:is=false:=by simpa using h
      subst PH;refine aB ?_
      (refine I ?_;simp -dsimp only[ai,ne_eq,Nat.reduceEqDiff,reduceCtorEq])
      refine ak ?_;simp -dsimp only[simprocAttr,↓aa,zp,zr,Tryz.results6];rw[<-hR];exact⟨by simp[aq,ae.upto],rfl⟩
     have PH:is=true:=by simpa using h
     subst PH
     (refine au ?_;simp -dsimp only[ai,ne_eq,Nat.reduceEqDiff,reduceCtorEq])
     refine aB ?_
     (refine I ?_;simp -dsimp only[ai,ne_eq,Nat.reduceEqDiff,reduceCtorEq])
     refine ak ?_;simp -dsimp only[simprocAttr,↓aa,zp,zr,Tryz.results6];rw[<-hR];exact⟨by simp[aq,ae.upto,Pat.an],rfl⟩
    have hz:rows=[]:=by
     cases rows with
     | nil=>rfl
     | cons r x=>simp at h3
    simp -dsimp only[simprocAttr,↓aa,zp,nh,LP,h3]
    (refine I ?_;simp -dsimp only[ai,ne_eq,Nat.reduceEqDiff,reduceCtorEq])
    apply aQ rfl<;>intro h
    ·cases h
    have tJ:bz.toNat=(List.replicate bz.toNat Ty.any).length:=by simp
    have xu:¬(bz<0∨16<bz∨(0<rows.length∧bz≠(rows.headD []).length)):=by rintro(e|e|⟨e,_⟩);exact LO e;exact LQ e;rw[hz]at e;simp at e
    have UK:gV t rows (List.replicate bz.toNat Ty.any):=⟨eo.EU,eo.len,eo.nodes,ug.E6 _,(by rw[hz];intro r hr;cases hr),eo.ok⟩
    have HX:=rI UK (lq.symm ▸ hF) (by rw[List.length_replicate];omega) (show bz=((List.replicate bz.toNat Ty.any).length:Nat) by rw[List.length_replicate];omega);rw[if_neg xu]at hR;obtain⟨⟨out,is⟩,hq⟩:∃q,q=t.missing rows bz.toNat:=⟨_,rfl⟩
    rw[<-hq]at HX hR
    (refine au ?_;simp -dsimp only[ai,ne_eq,Nat.reduceEqDiff,reduceCtorEq])
    refine aB ?_;refine .inl ⟨_,HX,by simp only[aq,ae.upto,zt,zu,ck,b8],ah ?_⟩;simp -dsimp only[simprocAttr,↓aa,zp,iV]
    (refine I ?_;simp -dsimp only[ai,ne_eq,Nat.reduceEqDiff,reduceCtorEq])
    refine cj ?_
    (refine I ?_;simp -dsimp only[ai,ne_eq,Nat.reduceEqDiff,reduceCtorEq])
    apply aQ rfl<;>intro h
    ·have PH:is=false:=by simpa using h
     subst PH;refine aB ?_
     (refine I ?_;simp -dsimp only[ai,ne_eq,Nat.reduceEqDiff,reduceCtorEq])
     refine ak ?_;simp -dsimp only[simprocAttr,↓aa,zp,zr,Tryz.results6];rw[<-hR];exact⟨by simp[aq,ae.upto],rfl⟩
    have PH:is=true:=by simpa using h
    subst PH
    (refine au ?_;simp -dsimp only[ai,ne_eq,Nat.reduceEqDiff,reduceCtorEq])
    refine aB ?_
    (refine I ?_;simp -dsimp only[ai,ne_eq,Nat.reduceEqDiff,reduceCtorEq])
    refine ak ?_;simp -dsimp only[simprocAttr,↓aa,zp,zr,Tryz.results6];rw[<-hR];exact⟨by simp[aq,ae.upto,Pat.an],rfl⟩
   have LP:decide (16<bz)=true:=by simpa using h2
   have LQ:16<bz:=by simpa using LP
   simp -dsimp only[simprocAttr,↓aa,zp,nh,LP]
   (refine I ?_;simp -dsimp only[ai,ne_eq,Nat.reduceEqDiff,reduceCtorEq])
   refine de rfl ?_
   skip
   have xu:bz<0∨16<bz∨(0<rows.length∧bz≠(rows.headD []).length):=.inr (.inl LQ);rw[if_pos xu]at hR;refine aB ?_
   (refine I ?_;simp -dsimp only[ai,ne_eq,Nat.reduceEqDiff,reduceCtorEq])
   refine ak ?_;simp -dsimp only[simprocAttr,↓aa,zp,zr,Tryz.results6];rw[<-hR];exact⟨by simp[aq,ae.upto],rfl⟩
  have nh:decide (bz<0)=true:=by simpa using h1
  have LO:bz<0:=by simpa using nh
  simp -dsimp only[simprocAttr,↓aa,zp,nh]
  (refine I ?_;simp -dsimp only[ai,ne_eq,Nat.reduceEqDiff,reduceCtorEq])
  refine de rfl ?_
  skip
  have xu:bz<0∨16<bz∨(0<rows.length∧bz≠(rows.headD []).length):=.inl LO;rw[if_pos xu]at hR;refine aB ?_
  (refine I ?_;simp -dsimp only[ai,ne_eq,Nat.reduceEqDiff,reduceCtorEq])
  refine ak ?_;simp -dsimp only[simprocAttr,↓aa,zp,zr,Tryz.results6];rw[<-hR];exact⟨by simp[aq,ae.upto],rfl⟩
 rw[qZ h0]at hc;rw[if_pos h0];refine zf true 0 Tryz.func6 Tryz.ntmps6 ?_;dsimp only[Tmp,TypeId,ax];refine aB ?_
 (refine I ?_;simp -dsimp only[ai,ne_eq,Nat.reduceEqDiff,reduceCtorEq])
 refine aB ?_;refine .inl ⟨_,hc,by simp only[aq,ae.upto,zt,zu,ck,b8],ah ?_⟩;simp -dsimp only[simprocAttr,↓aa,zp,nJ]
 (refine I ?_;simp -dsimp only[ai,ne_eq,Nat.reduceEqDiff,reduceCtorEq])
 refine aG (aj ?_);refine aB ?_
 (refine I ?_;simp -dsimp only[ai,ne_eq,Nat.reduceEqDiff,reduceCtorEq])
 apply aQ rfl<;>intro h
 ·refine aB ?_
  (refine I ?_;simp -dsimp only[ai,ne_eq,Nat.reduceEqDiff,reduceCtorEq])
  refine ak ?_;simp -dsimp only[simprocAttr,↓aa,zp,zr,Tryz.results6];simp[aq,ae.upto]
 have:check datas rows=0:=by simpa using h
 exact absurd this h0
end Go.Proofs.YtkkookchlddbkaaGreat.V
namespace Go.Av

end Go.Av
namespace Go.Proofs.YtkkookchlddbkaaGreat.V
open Go.Av

structure a8 where
 ix:Int
 bP:List Pat
structure bc where
 kind:Int
 row:Int
 path:List Int
 names:List ByteArray
 words:List Int
 kids:List Int
deriving DecidableEq
abbrev nS(s:ByteArray):ae:=.v (.string s)
def a8.enc(r:a8):ae:=.agg [.v (.int .i64 r.ix),.aC 4 (r.bP.map Pat.enc) .sh]
def bc.enc(t:bc):ae:=.agg [.v (.int .i64 t.kind),.v (.int .i64 t.row),.aC 1 (t.path.map aI) .sh,.aC 1 (t.names.map nS) .sh,.aC 1 (t.words.map aI) .sh,.aC 1 (t.kids.map aI) .sh]
abbrev eM(l:List a8):ae:=.aC 2 (l.map a8.enc) .sh
abbrev eT(l:List bc):ae:=.aC 6 (l.map bc.enc) .sh
abbrev xn(l:List (List Int)):ae:=.aC 1 (l.map eI) .sh
abbrev Fp(l:List ByteArray):ae:=.aC 1 (l.map nS) .sh
theorem aL(n:Nat)(l:List Int):aq n (l.map aI):=by
 rw[a9];intro x hx;obtain⟨c,_,rfl⟩:=List.mem_map.1 hx;trivial
theorem pv(n:Nat)(l:List ByteArray):aq n (l.map nS):=by
 rw[a9];intro x hx;obtain⟨c,_,rfl⟩:=List.mem_map.1 hx;trivial
theorem uh(l:List Int):(l.map aI).map ae.share=l.map aI:=by
 rw[List.map_map];rfl
theorem Ig(l:List ByteArray):(l.map nS).map ae.share=l.map nS:=by
 rw[List.map_map];rfl
theorem gM(n:Nat)(l:List (List Int)):aq n (l.map eI):=by
 rw[a9];intro x hx;obtain⟨c,_,rfl⟩:=List.mem_map.1 hx;exact⟨aL n c,trivial⟩
theorem Hj(l:List (List Int)):(l.map eI).map ae.share=l.map eI:=by
 rw[List.map_map];rfl
theorem a8.fold(r:a8):ae.agg [.v (.int .i64 r.ix),.aC 4 (r.bP.map Pat.enc) .sh]=r.enc:=rfl
theorem a8.al(r:a8):r.enc.cells=[.v (.int .i64 r.ix),.aC 4 (r.bP.map Pat.enc) .sh]:=rfl
theorem a8.ao(r:a8):r.enc.share=r.enc:=rfl
theorem a8.aw(r:a8):r.enc.flat:=trivial
theorem a8.aF(n:Nat)(r:a8):r.enc.upto n:=by
 simp[a8.enc,ae.upto,aq,Pat.an]
theorem a8.an(n:Nat)(l:List a8):aq n (l.map a8.enc):=by
 rw[a9];intro x hx;obtain⟨c,_,rfl⟩:=List.mem_map.1 hx;exact c.aF n
theorem a8.bV(l:List a8):(l.map a8.enc).map ae.share=l.map a8.enc:=by
 rw[List.map_map];rfl
theorem bc.fold(t:bc):ae.agg [.v (.int .i64 t.kind),.v (.int .i64 t.row),.aC 1 (t.path.map aI) .sh,.aC 1 (t.names.map nS) .sh,.aC 1 (t.words.map aI) .sh,.aC 1 (t.kids.map aI) .sh]=t.enc:=rfl
theorem bc.al(t:bc):t.enc.cells=[.v (.int .i64 t.kind),.v (.int .i64 t.row),.aC 1 (t.path.map aI) .sh,.aC 1 (t.names.map nS) .sh,.aC 1 (t.words.map aI) .sh,.aC 1 (t.kids.map aI) .sh]:=rfl
theorem bc.ao(t:bc):t.enc.share=t.enc:=rfl
theorem bc.aw(t:bc):t.enc.flat:=trivial
theorem bc.aF(n:Nat)(t:bc):t.enc.upto n:=by
 simp[bc.enc,ae.upto,aq,aL,pv]
theorem bc.an(n:Nat)(l:List bc):aq n (l.map bc.enc):=by
 rw[a9];intro x hx;obtain⟨c,_,rfl⟩:=List.mem_map.1 hx;exact c.aF n
theorem bc.bV(l:List bc):(l.map bc.enc).map ae.share=l.map bc.enc:=by
 rw[List.map_map];rfl
def U5:=And.intro @aL <|
 And.intro @pv <|
 And.intro @uh <|
 And.intro @Ig <|
 And.intro @gM <|
 And.intro @Hj <|
 And.intro @a8.fold <|
 And.intro @a8.al <|
 And.intro @a8.ao <|
 And.intro @a8.aw <|
 And.intro @a8.aF <|
 And.intro @a8.an <|
 And.intro @a8.bV <|
 And.intro @bc.fold <|
 And.intro @bc.al <|
 And.intro @bc.ao <|
 And.intro @bc.aw <|
 And.intro @bc.aF <|
 And.intro @bc.an <|
 @bc.bV
def aE:=And.intro zp U5
def iF:=And.intro zu <|And.intro @a8.aF <|And.intro @a8.an <|And.intro @aL <|And.intro @gM <|And.intro @pv <|And.intro @bc.aF <|And.intro @bc.an <|And.intro @ck @b8
theorem jU(p:Pat):aV Tryz.prog 37 [p.enc] (.v (.bool p.free)):=by
 refine zf true 0 Tryz.func37 Tryz.ntmps37 ?_;dsimp only[Tmp,TypeId,ax];refine aH ?_;simp -dsimp only[simprocAttr,↓aa,aE]
 (refine I ?_;simp -dsimp only[ai,ne_eq,Nat.reduceEqDiff,reduceCtorEq])
 refine aH ?_;simp -dsimp only[simprocAttr,↓aa,aE];refine cO (fun h=>?_) (fun h=>?_)
 ·simp -dsimp only[simprocAttr,↓aa,aE,h]
  (refine I ?_;simp -dsimp only[ai,ne_eq,Nat.reduceEqDiff,reduceCtorEq])
  refine ak ?_;simp -dsimp only[simprocAttr,↓aa,aE,zr,Tryz.results37]
  simp_all [Pat.free]
 simp -dsimp only[simprocAttr,↓aa,aE,h]
 (refine I ?_;simp -dsimp only[ai,ne_eq,Nat.reduceEqDiff,reduceCtorEq])
 refine ak ?_;simp -dsimp only[simprocAttr,↓aa,aE,zr,Tryz.results37]
 simp_all [Pat.free]
theorem ox(p:Pat):aV Tryz.prog 36 [p.enc] (.v (.bool (!p.free))):=by
 refine zf true 0 Tryz.func36 Tryz.ntmps36 ?_;dsimp only[Tmp,TypeId,ax];refine aH ?_;simp -dsimp only[simprocAttr,↓aa,aE]
 (refine I ?_;simp -dsimp only[ai,ne_eq,Nat.reduceEqDiff,reduceCtorEq])
 refine aH ?_;simp -dsimp only[simprocAttr,↓aa,aE];refine .inl ⟨_,jU p,by simp only[aq,ae.upto,zt,iF],ah ?_⟩;simp -dsimp only[simprocAttr,↓aa,aE]
 (refine I ?_;simp -dsimp only[ai,ne_eq,Nat.reduceEqDiff,reduceCtorEq])
 refine ak ?_;simp -dsimp only[simprocAttr,↓aa,aE,zr,Tryz.results36]
theorem sW(p:Pat)(s:ByteArray)(x:ae)(oa:Option Addr):aV Tryz.prog 39 [p.enc,.ip oa [.v (.string s),x]] (.v (.bool (decide (p.name=s)))):=by
 refine zf true 0 Tryz.func39 Tryz.ntmps39 ?_;dsimp only[Tmp,TypeId,ax];refine aH ?_;simp -dsimp only[simprocAttr,↓aa,aE]
 (refine I ?_;simp -dsimp only[ai,ne_eq,Nat.reduceEqDiff,reduceCtorEq])
 refine aH ?_;simp -dsimp only[simprocAttr,↓aa,aE]
 (refine I ?_;simp -dsimp only[ai,ne_eq,Nat.reduceEqDiff,reduceCtorEq])
 refine ak ?_;simp -dsimp only[simprocAttr,↓aa,aE,zr,Tryz.results39]
theorem Br(q p:Pat)(oa:Option Addr):aV Tryz.prog 67 [q.enc,.ip oa p.enc.cells] (.v (.bool (decide (q.n=p.n)))):=by
 refine zf true 0 Tryz.func67 Tryz.ntmps67 ?_;dsimp only[Tmp,TypeId,ax];refine aH ?_;simp -dsimp only[simprocAttr,↓aa,aE]
 (refine I ?_;simp -dsimp only[ai,ne_eq,Nat.reduceEqDiff,reduceCtorEq])
 refine aH ?_;simp -dsimp only[simprocAttr,↓aa,aE]
 (refine I ?_;simp -dsimp only[ai,ne_eq,Nat.reduceEqDiff,reduceCtorEq])
 refine ak ?_;simp -dsimp only[simprocAttr,↓aa,aE,zr,Tryz.results67]
theorem A2(p:Pat):aV Tryz.prog 70 [p.enc] (.v (.bool false)):=by
 refine zf true 0 Tryz.func70 Tryz.ntmps70 ?_;dsimp only[Tmp,TypeId,ax];refine aH ?_;simp -dsimp only[simprocAttr,↓aa,aE]
 (refine I ?_;simp -dsimp only[ai,ne_eq,Nat.reduceEqDiff,reduceCtorEq])
 refine aH ?_;simp -dsimp only[simprocAttr,↓aa,aE]
 (refine I ?_;simp -dsimp only[ai,ne_eq,Nat.reduceEqDiff,reduceCtorEq])
 refine ak ?_;simp -dsimp only[simprocAttr,↓aa,aE,zr,Tryz.results70]
def a8.step(c:Nat)(f:Pat->Bool)(many:Nat)(r:a8):Option a8 :=
 match r.bP[c]? with
 | none=>none
 | some p=>if p.free then some ⟨r.ix,r.bP.take c++(r.bP.drop (c+1)++List.replicate many Pat.any)⟩
  else if f p then some ⟨r.ix,r.bP.take c++(r.bP.drop (c+1)++(if p.kind=3 then p.args else List.replicate many Pat.any))⟩else none
def aW(c:Nat)(f:Pat->Bool)(many:Nat)(rows:List a8):List a8:=rows.filterMap (a8.step c f many)
theorem nG(c:Nat):((c:Int)+1).toNat=c+1:=by omega
theorem D2(n:Nat):List.replicate n (ae.agg [.v (.int .i64 0),.v (.string ByteArray.empty),.v (.int .i64 0),.aC 4 [] .sh])=(List.replicate n Pat.any).map Pat.enc:=by
 rw[List.map_replicate];rfl
theorem fJ(c:Nat)(f:Pat->Bool)(many:Nat)(rows:List a8):(aW c f many rows).length<=rows.length:=List.length_filterMap_le _ _
theorem nx(rows:List a8)(c many:Nat)(f:Pat->Bool)(id:Nat)(cs:List ae)(iq:cs.map ae.share=cs)(bD:∀n,aq n cs)(hb:rows.length<=2 ^ 30)(rC:many<=2 ^ 20)(hc:∀r∈rows,c<r.bP.length)(PX:∀r∈rows,r.bP.length<=2 ^ 20)(dt:∀r∈rows,∀p∈r.bP,p.args.length<=2 ^ 20)
  (hf:∀r∈rows,∀p∈r.bP,aV Tryz.prog id (p.enc::cs) (.v (.bool (f p)))) :
  aV Tryz.prog 42 [eM rows,.v (.int .i64 c),.fn (.func id) [] cs,.v (.int .i64 many)] (eM (aW c f many rows)):=by
 refine zf true 0 Tryz.func42 Tryz.ntmps42 ?_;dsimp only[Tmp,TypeId,ax];refine aH ?_;simp -dsimp only[simprocAttr,↓aa,aE]
 (refine I ?_;simp -dsimp only[ai,ne_eq,Nat.reduceEqDiff,reduceCtorEq])
 refine aH ?_;simp -dsimp only[simprocAttr,↓aa,aE]
 (refine I ?_;simp -dsimp only[ai,ne_eq,Nat.reduceEqDiff,reduceCtorEq])
 refine cg ?_;simp -dsimp only[simprocAttr,↓aa,aE]
 (refine I ?_;simp -dsimp only[ai,ne_eq,Nat.reduceEqDiff,reduceCtorEq])
 refine j4 9 rfl ?_;simp -dsimp only[simprocAttr,↓aa,aE];refine aj (aO (ι:={k:Nat // k<=rows.length}) (fun k=>⟨66,[(1,.v (.int .i64 c)),(2,.fn (.func id) [] cs),(3,.v (.int .i64 many)),(14,eM rows),(15,.v (.int .i64 rows.length)),(16,.v (.int .i64 k)),(9,.aC 2 ((aW c f many (rows.take k)).map a8.enc) (.tok 0))],[.spare (aW c f many (rows.take k)).length]⟩) (fun k=>rows.length-k) ⟨0,by omega⟩ ?_ ?_)
 ·refine zq rfl ?_ ?_;simp -dsimp only[simprocAttr,↓aa,aE,zc]
  ·exact Sub.aC (by simp[aW])
  simp[aW]
 rintro⟨k,hk⟩;refine aH ?_;simp -dsimp only[simprocAttr,↓aa,aE]
 (refine I ?_;simp -dsimp only[ai,ne_eq,Nat.reduceEqDiff,reduceCtorEq])
 apply gr rfl<;>intro h
 ·(refine au ?_;simp -dsimp only[ai,ne_eq,Nat.reduceEqDiff,reduceCtorEq])
  have aN:k<rows.length:=by simpa using h
  obtain⟨r,hr⟩:∃r,rows[k]?=some r:=⟨rows[k],by simp[aN]⟩
  have eN:=List.mem_of_getElem? hr;obtain⟨p,hp⟩:∃p,r.bP[c]?=some p:=⟨r.bP[c]'(hc r eN),by simp[hc r eN]⟩
  have Th:=List.mem_of_getElem? hp;have h1:=PX _ eN;have h2:=dt _ eN p Th;have h3:=hc r eN;have hlen:=fJ c f many (rows.take k);simp only[List.length_take]at hlen;refine aG (aj ?_);refine aH ?_;simp -dsimp only[simprocAttr,↓aa,aE,hr]
  (refine I ?_;simp -dsimp only[ai,ne_eq,Nat.reduceEqDiff,reduceCtorEq])
  refine aH ?_;simp -dsimp only[simprocAttr,↓aa,aE,hp]
  (refine I ?_;simp -dsimp only[ai,ne_eq,Nat.reduceEqDiff,reduceCtorEq])
  refine cg ?_;simp -dsimp only[simprocAttr,↓aa,aE];refine .inl ⟨_,jU p,by simp only[aq,ae.upto,zt,iF,bD],ah ?_⟩;simp -dsimp only[simprocAttr,↓aa,aE];refine cO (fun cx=>?_) (fun cx=>?_)
  ·have nm:p.free=false:=by simpa using cx
   simp -dsimp only[simprocAttr,↓aa,aE,nm,iq];refine .inl ⟨_,(hf r eN p Th),by simp only[aq,ae.upto,zt,iF,bD],ah ?_⟩;simp -dsimp only[simprocAttr,↓aa,aE,nm]
   (refine I ?_;simp -dsimp only[ai,ne_eq,Nat.reduceEqDiff,reduceCtorEq])
   apply aQ rfl<;>intro h
   ·have K5:f p=false:=by simpa using h
    refine aM ?_;simp -dsimp only[ai,ne_eq,Nat.reduceEqDiff,reduceCtorEq];refine ba 1 [(1,.v (.int .i64 c)),(2,.fn (.func id) [] cs),(3,.v (.int .i64 many)),(14,eM rows),(15,.v (.int .i64 rows.length)),(16,.v (.int .i64 k)),(9,.aC 2 ((aW c f many (rows.take k)).map a8.enc) (.tok 0))] (by simp) (by omega) [.spare (aW c f many (rows.take k)).length] ?_ ?_ ?_ ?_ ?_
    ·rfl
    ·simp[ay.upto]
    ·simp -dsimp only[simprocAttr,↓aa,aE,dy,exists_eq_left',Option.some.injEq,sub_self,and_true]
    ·simp[ae.upto,aq,a8.an,bD]
    refine fq ?_;simp -dsimp only[simprocAttr,↓aa,aE];refine⟨by omega,by omega,?_⟩
    (refine I ?_;simp -dsimp only[ai,ne_eq,Nat.reduceEqDiff,reduceCtorEq])
    refine⟨⟨k+1,aN⟩,by simp;omega,?_⟩;have e:aW c f many (rows.take (k+1))=aW c f many (rows.take k):=by
     simp[bN hr,aW,a8.step,hp,nm,K5]
    refine zq rfl ?_ ?_;simp -dsimp only[simprocAttr,↓aa,aE,zc]
    ·exact⟨Sub.int (by simp),Sub.aC (by rw[e])⟩
    simp[e]
   have K5:f p=true:=by simpa using h
   (refine au ?_;simp -dsimp only[ai,ne_eq,Nat.reduceEqDiff,reduceCtorEq])
   refine S0 ?_;simp -dsimp only[simprocAttr,↓aa,aE,D2];refine⟨by omega,by omega,?_⟩
   (refine I ?_;simp -dsimp only[ai,ne_eq,Nat.reduceEqDiff,reduceCtorEq])
   refine cg ?_;simp -dsimp only[simprocAttr,↓aa,aE,nm];refine .inl ⟨_,jU p,by simp only[aq,ae.upto,zt,iF,bD],ah ?_⟩;simp -dsimp only[simprocAttr,↓aa,aE,nm]
   (refine I ?_;simp -dsimp only[ai,ne_eq,Nat.reduceEqDiff,reduceCtorEq])
   apply aQ rfl<;>intro h
   ·have wu:p.kind=3:=by simpa using h
    refine fq ?_;simp -dsimp only[simprocAttr,↓aa,aE]
    (refine I ?_;simp -dsimp only[ai,ne_eq,Nat.reduceEqDiff,reduceCtorEq])
    have e:aW c f many (rows.take (k+1))=aW c f many (rows.take k)++[⟨r.ix,r.bP.take c++(r.bP.drop (c+1)++p.args)⟩]:=by
     simp[bN hr,aW,a8.step,hp,nm,K5,wu]
    refine fq ?_;simp -dsimp only[simprocAttr,↓aa,aE,<-List.map_take,<-List.map_drop,nG,List.take_length]
    repeat(refine⟨by omega,?_⟩)
    refine .inl ⟨_,(km [r.bP.take c,r.bP.drop (c+1),p.args] (by simp) (by simp[total];omega)),by simp only[aq,ae.upto,zt,iF,bD],ah ?_⟩;simp -dsimp only[simprocAttr,↓aa,aE]
    repeat(refine⟨by omega,?_⟩)
    refine⟨?_,?_⟩
    ·(show fO _ _=true);kernel_rfl
    (refine I ?_;simp -dsimp only[ai,ne_eq,Nat.reduceEqDiff,reduceCtorEq])
    refine ba 1 [(1,.v (.int .i64 c)),(2,.fn (.func id) [] cs),(3,.v (.int .i64 many)),(14,eM rows),(15,.v (.int .i64 rows.length)),(16,.v (.int .i64 k)),(9,.aC 2 ((aW c f many (rows.take (k+1))).map a8.enc) (.tok 0))] (by simp) (by omega) [.spare ((aW c f many (rows.take k)).length+1)] ?_ ?_ ?_ ?_ ?_
    ·rfl
    ·simp[ay.upto]
    ·simp -dsimp only[simprocAttr,↓aa,aE,dy,exists_eq_left',Option.some.injEq,sub_self,and_true];exact Sub.aC (by simp[e,a8.enc])
    ·simp[ae.upto,aq,a8.an,bD]
    refine fq ?_;simp -dsimp only[simprocAttr,↓aa,aE];refine⟨by omega,by omega,?_⟩
    (refine I ?_;simp -dsimp only[ai,ne_eq,Nat.reduceEqDiff,reduceCtorEq])
    refine⟨⟨k+1,aN⟩,by simp;omega,?_⟩;refine zq rfl ?_ ?_;simp -dsimp only[simprocAttr,↓aa,aE,zc]
    ·exact Sub.int (by simp)
    simp[e]
   have wu:¬p.kind=3:=by simpa using h
   (refine au ?_;simp -dsimp only[ai,ne_eq,Nat.reduceEqDiff,reduceCtorEq])
   have e:aW c f many (rows.take (k+1))=aW c f many (rows.take k)++[⟨r.ix,r.bP.take c++(r.bP.drop (c+1)++List.replicate many Pat.any)⟩]:=by
    simp[bN hr,aW,a8.step,hp,nm,K5,wu]
   refine fq ?_;simp -dsimp only[simprocAttr,↓aa,aE,<-List.map_take,<-List.map_drop,nG,List.take_length]
   repeat(refine⟨by omega,?_⟩)
   refine .inl ⟨_,(km [r.bP.take c,r.bP.drop (c+1),List.replicate many Pat.any] (by simp) (by simp[total];omega)),by simp only[aq,ae.upto,zt,iF,bD],ah ?_⟩;simp -dsimp only[simprocAttr,↓aa,aE]
   repeat(refine⟨by omega,?_⟩)
   refine⟨?_,?_⟩
   ·(show fO _ _=true);kernel_rfl
   (refine I ?_;simp -dsimp only[ai,ne_eq,Nat.reduceEqDiff,reduceCtorEq])
   refine ba 1 [(1,.v (.int .i64 c)),(2,.fn (.func id) [] cs),(3,.v (.int .i64 many)),(14,eM rows),(15,.v (.int .i64 rows.length)),(16,.v (.int .i64 k)),(9,.aC 2 ((aW c f many (rows.take (k+1))).map a8.enc) (.tok 0))] (by simp) (by omega) [.spare ((aW c f many (rows.take k)).length+1)] ?_ ?_ ?_ ?_ ?_
   ·rfl
   ·simp[ay.upto]
   ·simp -dsimp only[simprocAttr,↓aa,aE,dy,exists_eq_left',Option.some.injEq,sub_self,and_true];exact Sub.aC (by simp[e,a8.enc])
   ·simp[ae.upto,aq,a8.an,bD]
   refine fq ?_;simp -dsimp only[simprocAttr,↓aa,aE];refine⟨by omega,by omega,?_⟩
   (refine I ?_;simp -dsimp only[ai,ne_eq,Nat.reduceEqDiff,reduceCtorEq])
   refine⟨⟨k+1,aN⟩,by simp;omega,?_⟩;refine zq rfl ?_ ?_;simp -dsimp only[simprocAttr,↓aa,aE,zc]
   ·exact Sub.int (by simp)
   simp[e]
  have nm:p.free=true:=by simpa using cx
  simp -dsimp only[simprocAttr,↓aa,aE,nm]
  (refine I ?_;simp -dsimp only[ai,ne_eq,Nat.reduceEqDiff,reduceCtorEq])
  refine cB rfl ?_
  (refine au ?_;simp -dsimp only[ai,ne_eq,Nat.reduceEqDiff,reduceCtorEq])
  refine S0 ?_;simp -dsimp only[simprocAttr,↓aa,aE,D2];refine⟨by omega,by omega,?_⟩
  (refine I ?_;simp -dsimp only[ai,ne_eq,Nat.reduceEqDiff,reduceCtorEq])
  refine cg ?_;simp -dsimp only[simprocAttr,↓aa,aE,nm];refine .inl ⟨_,jU p,by simp only[aq,ae.upto,zt,iF,bD],ah ?_⟩;simp -dsimp only[simprocAttr,↓aa,aE,nm]
  (refine I ?_;simp -dsimp only[ai,ne_eq,Nat.reduceEqDiff,reduceCtorEq])
  refine cB rfl ?_
  (refine au ?_;simp -dsimp only[ai,ne_eq,Nat.reduceEqDiff,reduceCtorEq])
  have e:aW c f many (rows.take (k+1))=aW c f many (rows.take k)++[⟨r.ix,r.bP.take c++(r.bP.drop (c+1)++List.replicate many Pat.any)⟩]:=by
   simp[bN hr,aW,a8.step,hp,nm]
  refine fq ?_;simp -dsimp only[simprocAttr,↓aa,aE,<-List.map_take,<-List.map_drop,nG,List.take_length]
  repeat(refine⟨by omega,?_⟩)
  refine .inl ⟨_,(km [r.bP.take c,r.bP.drop (c+1),List.replicate many Pat.any] (by simp) (by simp[total];omega)),by simp only[aq,ae.upto,zt,iF,bD],ah ?_⟩;simp -dsimp only[simprocAttr,↓aa,aE]
  repeat(refine⟨by omega,?_⟩)
  refine⟨?_,?_⟩
  ·(show fO _ _=true);kernel_rfl
  (refine I ?_;simp -dsimp only[ai,ne_eq,Nat.reduceEqDiff,reduceCtorEq])
  refine ba 1 [(1,.v (.int .i64 c)),(2,.fn (.func id) [] cs),(3,.v (.int .i64 many)),(14,eM rows),(15,.v (.int .i64 rows.length)),(16,.v (.int .i64 k)),(9,.aC 2 ((aW c f many (rows.take (k+1))).map a8.enc) (.tok 0))] (by simp) (by omega) [.spare ((aW c f many (rows.take k)).length+1)] ?_ ?_ ?_ ?_ ?_
  ·rfl
  ·simp[ay.upto]
  ·simp -dsimp only[simprocAttr,↓aa,aE,dy,exists_eq_left',Option.some.injEq,sub_self,and_true];exact Sub.aC (by simp[e,a8.enc])
  ·simp[ae.upto,aq,a8.an,bD]
  refine fq ?_;simp -dsimp only[simprocAttr,↓aa,aE];refine⟨by omega,by omega,?_⟩
  (refine I ?_;simp -dsimp only[ai,ne_eq,Nat.reduceEqDiff,reduceCtorEq])
  refine⟨⟨k+1,aN⟩,by simp;omega,?_⟩;refine zq rfl ?_ ?_;simp -dsimp only[simprocAttr,↓aa,aE,zc]
  ·exact Sub.int (by simp)
  simp[e]
 refine aM ?_;simp -dsimp only[ai,ne_eq,Nat.reduceEqDiff,reduceCtorEq];have aN:k=rows.length:=by simp at h;omega
 subst aN;refine aH ?_;simp -dsimp only[simprocAttr,↓aa,aE]
 (refine I ?_;simp -dsimp only[ai,ne_eq,Nat.reduceEqDiff,reduceCtorEq])
 refine ak ?_;simp -dsimp only[simprocAttr,↓aa,aE,zr,Tryz.results42,List.take_length]
theorem pq{O:List ay}(hO:∀o∈O,o.upto (O.length+1))(m:Nat):∀o∈O++[ay.spare m],o.upto (O.length+1):=fun o ho=>by
 rcases List.mem_append.1 ho with ho|ho
 ·exact hO o ho
 rw[List.mem_singleton.1 ho];trivial
theorem pC(O:List ay)(x:ay):(O++[x]).take (O.length+1)=O++[x]:=List.take_of_length_le (by simp)
theorem Aa(l:List Int)(hb:l.length<=2 ^ 30)(hl:l≠[])(O:List ay)(hO:∀o∈O,o.upto (O.length+1)) :
  aY Tryz.prog 17 O [eI l] fun r O'=>r=.aC 1 (l.map aI) (.tok O.length)∧O'=O++[.spare l.length]:=by
 refine zf false (O.length+1) Tryz.func17 Tryz.ntmps17 ?_;dsimp only[Tmp,TypeId,ax];refine aH ?_;simp -dsimp only[simprocAttr,↓aa,aE]
 (refine I ?_;simp -dsimp only[ai,ne_eq,Nat.reduceEqDiff,reduceCtorEq])
 refine jk 0 rfl (fun h=>?_) ?_
 ·exact absurd (List.map_eq_nil_iff.1 h) hl
 simp -dsimp only[simprocAttr,↓aa,aE];refine cg ?_;simp -dsimp only[simprocAttr,↓aa,aE]
 (refine I ?_;simp -dsimp only[ai,ne_eq,Nat.reduceEqDiff,reduceCtorEq])
 refine cB rfl ?_
 (refine au ?_;simp -dsimp only[ai,ne_eq,Nat.reduceEqDiff,reduceCtorEq])
 refine aH ?_;simp -dsimp only[simprocAttr,↓aa,aE];refine⟨by omega,by omega,?_⟩
 (refine I ?_;simp -dsimp only[ai,ne_eq,Nat.reduceEqDiff,reduceCtorEq])
 refine ak ?_;simp -dsimp only[simprocAttr,↓aa,aE,zr,Tryz.results17,pC];exact⟨pq hO _,by omega⟩
theorem Cu(O:List ay)(hO:∀o∈O,o.upto (O.length+1))(n:Nat)(hb:n<=2 ^ 40):aY Tryz.prog 90 O [.v (.slice none 0 0),.v (.int .i64 n)] fun r O'=>r=.aC 1 [] (.tok O.length)∧O'=O++[.spare 0]:=by
 refine zf false (O.length+1) Tryz.func90 Tryz.ntmps90 ?_;dsimp only[Tmp,TypeId,ax];refine cy.cover (τ:=⟨27,[(0,.aC 1 [] .ex),(1,.v (.int .i64 n))],O⟩) ?_ ⟨rfl,rfl,⟨_,rfl,Sub.nil rfl (by simp) (by simp)⟩,⟨_,rfl,Sub.refl _⟩,trivial⟩;refine aH ?_;simp -dsimp only[simprocAttr,↓aa,aE]
 (refine I ?_;simp -dsimp only[ai,ne_eq,Nat.reduceEqDiff,reduceCtorEq])
 refine cg ?_;simp -dsimp only[simprocAttr,↓aa,aE]
 (refine I ?_;simp -dsimp only[ai,ne_eq,Nat.reduceEqDiff,reduceCtorEq])
 apply aQ rfl<;>intro h
 ·simp at h;omega
 (refine au ?_;simp -dsimp only[ai,ne_eq,Nat.reduceEqDiff,reduceCtorEq])
 refine cg ?_;simp -dsimp only[simprocAttr,↓aa,aE];refine⟨by omega,by omega,?_⟩
 (refine I ?_;simp -dsimp only[ai,ne_eq,Nat.reduceEqDiff,reduceCtorEq])
 refine aH ?_;simp -dsimp only[simprocAttr,↓aa,aE]
 (refine I ?_;simp -dsimp only[ai,ne_eq,Nat.reduceEqDiff,reduceCtorEq])
 apply aQ rfl<;>intro h
 ·have hn:0<n:=by
   simp at h;omega
  refine Tt ?_;simp -dsimp only[simprocAttr,↓aa,aE];refine⟨Tryz.underlying3,by omega,by omega,by omega,hn,?_⟩
  (refine I ?_;simp -dsimp only[ai,ne_eq,Nat.reduceEqDiff,reduceCtorEq])
  refine aH ?_;simp -dsimp only[simprocAttr,↓aa,aE]
  (refine I ?_;simp -dsimp only[ai,ne_eq,Nat.reduceEqDiff,reduceCtorEq])
  refine ak ?_;simp -dsimp only[simprocAttr,↓aa,aE,zr,Tryz.results90,pC];exact⟨pq hO _,by simp[aq],by omega⟩
 have hn:n=0:=by
  simp at h;omega
 (refine au ?_;simp -dsimp only[ai,ne_eq,Nat.reduceEqDiff,reduceCtorEq])
 refine j4 0 rfl ?_;simp -dsimp only[simprocAttr,↓aa,aE];refine aH ?_;simp -dsimp only[simprocAttr,↓aa,aE]
 (refine I ?_;simp -dsimp only[ai,ne_eq,Nat.reduceEqDiff,reduceCtorEq])
 refine ak ?_;simp -dsimp only[simprocAttr,↓aa,aE,zr,Tryz.results90,pC];exact⟨pq hO _,by simp[aq],by omega⟩
theorem vV{α:Type}{rows:List (List α)}{k:Nat}{r:List α}(h:rows[k]?=some r):(rows.take (k+1)).flatten=(rows.take k).flatten++r:=by
 rw[bN h];simp
theorem KL{α:Type}(rows:List (List α))(k:Nat):(rows.take k).flatten.length<=rows.flatten.length:=by
 have:rows.flatten=(rows.take k).flatten++(rows.drop k).flatten:=by rw[<-List.flatten_append,List.take_append_drop]
 rw[this];simp
theorem yl(rows:List (List (List Int)))(hb:rows.length<=2 ^ 30)(ht:rows.flatten.length<=2 ^ 30)(O:List ay)(hO:∀o∈O,o.upto (O.length+1)) :
  aY Tryz.prog 69 O [.aC 1 (rows.map xn) .ex] fun r O'=>r=.aC 1 (rows.flatten.map eI) (.tok O.length)∧O'=O++[.spare rows.flatten.length]:=by
 refine zf false (O.length+1) Tryz.func69 Tryz.ntmps69 ?_;dsimp only[Tmp,TypeId,ax];refine aH ?_;simp -dsimp only[simprocAttr,↓aa,aE]
 (refine I ?_;simp -dsimp only[ai,ne_eq,Nat.reduceEqDiff,reduceCtorEq])
 refine aH ?_;simp -dsimp only[simprocAttr,↓aa,aE]
 (refine I ?_;simp -dsimp only[ai,ne_eq,Nat.reduceEqDiff,reduceCtorEq])
 refine cg ?_;simp -dsimp only[simprocAttr,↓aa,aE]
 (refine I ?_;simp -dsimp only[ai,ne_eq,Nat.reduceEqDiff,reduceCtorEq])
 refine aj (aO (ι:={k:Nat // k<=rows.length}) (fun k=>⟨36,[(0,.aC 1 (rows.map xn) .ex),(9,.aC 1 (rows.map xn) .ex),(10,.v (.int .i64 rows.length)),(11,.v (.int .i64 k.1)),(3,.v (.int .i64 (rows.take k.1).flatten.length))],O⟩) (fun k=>rows.length-k.1) ⟨0,by omega⟩ ?_ ?_)
 ·refine zq rfl ?_ ?_;simp -dsimp only[simprocAttr,↓aa,aE,zc,List.flatten_nil];rfl
 rintro⟨k,hk⟩;refine aH ?_;simp -dsimp only[simprocAttr,↓aa,aE]
 (refine I ?_;simp -dsimp only[ai,ne_eq,Nat.reduceEqDiff,reduceCtorEq])
 apply gr rfl<;>intro h
 ·(refine au ?_;simp -dsimp only[ai,ne_eq,Nat.reduceEqDiff,reduceCtorEq])
  have aN:k<rows.length:=by simpa using h
  obtain⟨r,hr⟩:∃r,rows[k]?=some r:=⟨rows[k],by simp[aN]⟩
  have h1:=congrArg List.length (vV hr);have h2:=KL rows (k+1);rw[List.length_append]at h1;refine aG (aj ?_);refine aH ?_;simp -dsimp only[simprocAttr,↓aa,aE,hr]
  (refine I ?_;simp -dsimp only[ai,ne_eq,Nat.reduceEqDiff,reduceCtorEq])
  refine aH ?_;simp -dsimp only[simprocAttr,↓aa,aE];refine⟨by omega,by omega,?_⟩
  (refine I ?_;simp -dsimp only[ai,ne_eq,Nat.reduceEqDiff,reduceCtorEq])
  refine aH ?_;simp -dsimp only[simprocAttr,↓aa,aE]
  (refine I ?_;simp -dsimp only[ai,ne_eq,Nat.reduceEqDiff,reduceCtorEq])
  apply aQ rfl<;>intro h
  ·simp at h;omega
  (refine au ?_;simp -dsimp only[ai,ne_eq,Nat.reduceEqDiff,reduceCtorEq])
  refine fq ?_;simp -dsimp only[simprocAttr,↓aa,aE];refine⟨by omega,by omega,?_⟩
  (refine I ?_;simp -dsimp only[ai,ne_eq,Nat.reduceEqDiff,reduceCtorEq])
  refine⟨⟨k+1,aN⟩,by simp;omega,?_⟩;refine zq rfl ?_ ?_;simp -dsimp only[simprocAttr,↓aa,aE,zc]
  ·exact⟨Sub.int (by simp),Sub.int (by simp only[h1];omega)⟩
  rfl
 refine aM ?_;simp -dsimp only[ai,ne_eq,Nat.reduceEqDiff,reduceCtorEq];have aN:k=rows.length:=by simp at h;omega
 subst aN;simp only[List.take_length];refine aH ?_;simp -dsimp only[simprocAttr,↓aa,aE];refine .inr (.inl ⟨_,_,(Cu O hO rows.flatten.length (by omega)),.inl (ah ?_)⟩);simp -dsimp only[simprocAttr,↓aa,aE]
 (refine I ?_;simp -dsimp only[ai,ne_eq,Nat.reduceEqDiff,reduceCtorEq])
 refine cg ?_;simp -dsimp only[simprocAttr,↓aa,aE]
 (refine I ?_;simp -dsimp only[ai,ne_eq,Nat.reduceEqDiff,reduceCtorEq])
 refine aj (aO (ι:={k:Nat // k<=rows.length}) (fun k=>⟨36,[(25,.aC 1 (rows.map xn) .ex),(26,.v (.int .i64 rows.length)),(27,.v (.int .i64 k.1)),(6,.aC 1 ((rows.take k.1).flatten.map eI) (.tok O.length))],O++[.spare (rows.take k.1).flatten.length]⟩) (fun k=>rows.length-k.1) ⟨0,by omega⟩ ?_ ?_)
 ·refine zq rfl ?_ ?_;simp -dsimp only[simprocAttr,↓aa,aE,zc,List.flatten_nil];rfl
 rintro⟨k,hk⟩;refine aH ?_;simp -dsimp only[simprocAttr,↓aa,aE]
 (refine I ?_;simp -dsimp only[ai,ne_eq,Nat.reduceEqDiff,reduceCtorEq])
 apply gr rfl<;>intro h
 ·(refine au ?_;simp -dsimp only[ai,ne_eq,Nat.reduceEqDiff,reduceCtorEq])
  have aN:k<rows.length:=by simpa using h
  obtain⟨r,hr⟩:∃r,rows[k]?=some r:=⟨rows[k],by simp[aN]⟩
  have h1:=congrArg List.length (vV hr);have h2:=KL rows (k+1);rw[List.length_append]at h1;refine aG (aj ?_);refine aH ?_;simp -dsimp only[simprocAttr,↓aa,aE,hr]
  (refine I ?_;simp -dsimp only[ai,ne_eq,Nat.reduceEqDiff,reduceCtorEq])
  refine fq ?_;simp -dsimp only[simprocAttr,↓aa,aE];refine⟨by omega,by omega,?_⟩
  (refine I ?_;simp -dsimp only[ai,ne_eq,Nat.reduceEqDiff,reduceCtorEq])
  refine fq ?_;simp -dsimp only[simprocAttr,↓aa,aE];refine⟨by omega,by omega,?_⟩
  (refine I ?_;simp -dsimp only[ai,ne_eq,Nat.reduceEqDiff,reduceCtorEq])
  refine⟨⟨k+1,aN⟩,by simp;omega,?_⟩;have e:=vV hr;refine zq rfl ?_ ?_;simp -dsimp only[simprocAttr,↓aa,aE,zc]
  ·exact⟨Sub.int (by simp),Sub.aC (by simp[e])⟩
  simp[e]
 refine aM ?_;simp -dsimp only[ai,ne_eq,Nat.reduceEqDiff,reduceCtorEq];have aN:k=rows.length:=by simp at h;omega
 subst aN;refine aH ?_;simp -dsimp only[simprocAttr,↓aa,aE,List.take_length]
 (refine I ?_;simp -dsimp only[ai,ne_eq,Nat.reduceEqDiff,reduceCtorEq])
 refine ak ?_;simp -dsimp only[simprocAttr,↓aa,aE,zr,Tryz.results69,List.take_length,pC];exact⟨pq hO _,by omega⟩
theorem oD(a b:List Int):aV Tryz.prog 88 [eI a,eI b] (.v (.bool (decide (a=b)))):=by
 refine zf true 0 Tryz.func88 Tryz.ntmps88 ?_;dsimp only[Tmp,TypeId,ax];refine aH ?_;simp -dsimp only[simprocAttr,↓aa,aE]
 (refine I ?_;simp -dsimp only[ai,ne_eq,Nat.reduceEqDiff,reduceCtorEq])
 refine cg ?_;simp -dsimp only[simprocAttr,↓aa,aE]
 (refine I ?_;simp -dsimp only[ai,ne_eq,Nat.reduceEqDiff,reduceCtorEq])
 apply aQ rfl<;>intro h
 ·have cA:¬a.length=b.length:=by
   simp at h;omega
  refine aH ?_;simp -dsimp only[simprocAttr,↓aa,aE]
  (refine I ?_;simp -dsimp only[ai,ne_eq,Nat.reduceEqDiff,reduceCtorEq])
  refine ak ?_;simp -dsimp only[simprocAttr,↓aa,aE,zr,Tryz.results88];have:¬a=b:=fun e=>cA (by rw[e]);simp[this]
 have FC:a.length=b.length:=by
  simp at h;omega
 (refine au ?_;simp -dsimp only[ai,ne_eq,Nat.reduceEqDiff,reduceCtorEq])
 refine bT 0 rfl (fun hlen=>?_);simp only[List.length_map]at hlen;refine cg ?_;simp -dsimp only[simprocAttr,↓aa,aE]
 (refine I ?_;simp -dsimp only[ai,ne_eq,Nat.reduceEqDiff,reduceCtorEq])
 refine aj (aO (ι:={k:Nat // k<=a.length∧a.take k=b.take k}) (fun k=>⟨26,[(0,eI a),(1,eI b),(12,aI a.length),(13,aI k.1)],[]⟩) (fun k=>a.length-k.1) ⟨0,by omega,by simp⟩ ?_ ?_)
 ·refine zq rfl ?_ ?_;simp -dsimp only[simprocAttr,↓aa,aE,zc];rfl
 rintro⟨k,hk,hs⟩;refine aH ?_;simp -dsimp only[simprocAttr,↓aa,aE]
 (refine I ?_;simp -dsimp only[ai,ne_eq,Nat.reduceEqDiff,reduceCtorEq])
 apply gr rfl<;>intro h
 ·(refine au ?_;simp -dsimp only[ai,ne_eq,Nat.reduceEqDiff,reduceCtorEq])
  have aN:k<a.length:=by simpa using h
  obtain⟨y,hy⟩:∃y,a[k]?=some y:=⟨a[k],by simp[aN]⟩
  obtain⟨z,hz⟩:∃z,b[k]?=some z:=⟨b[k]'(by omega),by simp[show k<b.length by omega]⟩
  refine aG (aj ?_);refine aH ?_;simp -dsimp only[simprocAttr,↓aa,aE]
  (refine I ?_;simp -dsimp only[ai,ne_eq,Nat.reduceEqDiff,reduceCtorEq])
  refine aH ?_;simp -dsimp only[simprocAttr,↓aa,aE,hy,hz];refine⟨ob (by kernel_rfl),?_⟩
  (refine I ?_;simp -dsimp only[ai,ne_eq,Nat.reduceEqDiff,reduceCtorEq])
  apply aQ rfl<;>intro h
  ·have P8:¬y=z:=by simpa using h
   refine aH ?_;simp -dsimp only[simprocAttr,↓aa,aE]
   (refine I ?_;simp -dsimp only[ai,ne_eq,Nat.reduceEqDiff,reduceCtorEq])
   refine ak ?_;simp -dsimp only[simprocAttr,↓aa,aE,zr,Tryz.results88];have:¬a=b:=fun e=>by
    subst e;rw[hy]at hz;simp only[Option.some.injEq]at hz;exact P8 hz
   simp[this]
  have P8:y=z:=by simpa using h
  (refine au ?_;simp -dsimp only[ai,ne_eq,Nat.reduceEqDiff,reduceCtorEq])
  refine fq ?_;simp -dsimp only[simprocAttr,↓aa,aE];refine⟨by omega,by omega,?_⟩
  (refine I ?_;simp -dsimp only[ai,ne_eq,Nat.reduceEqDiff,reduceCtorEq])
  refine⟨⟨k+1,aN,by rw[bN hy,bN hz,hs,P8]⟩,by simp;omega,?_⟩;refine zq rfl ?_ ?_;simp -dsimp only[simprocAttr,↓aa,aE,zc]
  ·exact Sub.int (by simp)
  rfl
 refine aM ?_;simp -dsimp only[ai,ne_eq,Nat.reduceEqDiff,reduceCtorEq];have aN:k=a.length:=by simp at h;omega
 subst aN;rw[List.take_length,FC,List.take_length]at hs;refine aH ?_;simp -dsimp only[simprocAttr,↓aa,aE]
 (refine I ?_;simp -dsimp only[ai,ne_eq,Nat.reduceEqDiff,reduceCtorEq])
 refine ak ?_;simp -dsimp only[simprocAttr,↓aa,aE,zr,Tryz.results88];simp[hs]
theorem Ap(a b:List ByteArray):aV Tryz.prog 89 [Fp a,Fp b] (.v (.bool (decide (a=b)))):=by
 refine zf true 0 Tryz.func89 Tryz.ntmps89 ?_;dsimp only[Tmp,TypeId,ax];refine aH ?_;simp -dsimp only[simprocAttr,↓aa,aE]
 (refine I ?_;simp -dsimp only[ai,ne_eq,Nat.reduceEqDiff,reduceCtorEq])
 refine cg ?_;simp -dsimp only[simprocAttr,↓aa,aE]
 (refine I ?_;simp -dsimp only[ai,ne_eq,Nat.reduceEqDiff,reduceCtorEq])
 apply aQ rfl<;>intro h
 ·have cA:¬a.length=b.length:=by
   simp at h;omega
  refine aH ?_;simp -dsimp only[simprocAttr,↓aa,aE]
  (refine I ?_;simp -dsimp only[ai,ne_eq,Nat.reduceEqDiff,reduceCtorEq])
  refine ak ?_;simp -dsimp only[simprocAttr,↓aa,aE,zr,Tryz.results89];have:¬a=b:=fun e=>cA (by rw[e]);simp[this]
 have FC:a.length=b.length:=by
  simp at h;omega
 (refine au ?_;simp -dsimp only[ai,ne_eq,Nat.reduceEqDiff,reduceCtorEq])
 refine bT 0 rfl (fun hlen=>?_);simp only[List.length_map]at hlen;refine cg ?_;simp -dsimp only[simprocAttr,↓aa,aE]
 (refine I ?_;simp -dsimp only[ai,ne_eq,Nat.reduceEqDiff,reduceCtorEq])
 refine aj (aO (ι:={k:Nat // k<=a.length∧a.take k=b.take k}) (fun k=>⟨26,[(0,Fp a),(1,Fp b),(12,aI a.length),(13,aI k.1)],[]⟩) (fun k=>a.length-k.1) ⟨0,by omega,by simp⟩ ?_ ?_)
 ·refine zq rfl ?_ ?_;simp -dsimp only[simprocAttr,↓aa,aE,zc];rfl
 rintro⟨k,hk,hs⟩;refine aH ?_;simp -dsimp only[simprocAttr,↓aa,aE]
 (refine I ?_;simp -dsimp only[ai,ne_eq,Nat.reduceEqDiff,reduceCtorEq])
 apply gr rfl<;>intro h
 ·(refine au ?_;simp -dsimp only[ai,ne_eq,Nat.reduceEqDiff,reduceCtorEq])
  have aN:k<a.length:=by simpa using h
  obtain⟨y,hy⟩:∃y,a[k]?=some y:=⟨a[k],by simp[aN]⟩
  obtain⟨z,hz⟩:∃z,b[k]?=some z:=⟨b[k]'(by omega),by simp[show k<b.length by omega]⟩
  refine aG (aj ?_);refine aH ?_;simp -dsimp only[simprocAttr,↓aa,aE]
  (refine I ?_;simp -dsimp only[ai,ne_eq,Nat.reduceEqDiff,reduceCtorEq])
  refine aH ?_;simp -dsimp only[simprocAttr,↓aa,aE,hy,hz];refine⟨ob (by kernel_rfl),?_⟩
  (refine I ?_;simp -dsimp only[ai,ne_eq,Nat.reduceEqDiff,reduceCtorEq])
  apply aQ rfl<;>intro h
  ·have P8:¬y=z:=by simpa using h
   refine aH ?_;simp -dsimp only[simprocAttr,↓aa,aE]
   (refine I ?_;simp -dsimp only[ai,ne_eq,Nat.reduceEqDiff,reduceCtorEq])
   refine ak ?_;simp -dsimp only[simprocAttr,↓aa,aE,zr,Tryz.results89];have:¬a=b:=fun e=>by
    subst e;rw[hy]at hz;simp only[Option.some.injEq]at hz;exact P8 hz
   simp[this]
  have P8:y=z:=by simpa using h
  (refine au ?_;simp -dsimp only[ai,ne_eq,Nat.reduceEqDiff,reduceCtorEq])
  refine fq ?_;simp -dsimp only[simprocAttr,↓aa,aE];refine⟨by omega,by omega,?_⟩
  (refine I ?_;simp -dsimp only[ai,ne_eq,Nat.reduceEqDiff,reduceCtorEq])
  refine⟨⟨k+1,aN,by rw[bN hy,bN hz,hs,P8]⟩,by simp;omega,?_⟩;refine zq rfl ?_ ?_;simp -dsimp only[simprocAttr,↓aa,aE,zc]
  ·exact Sub.int (by simp)
  rfl
 refine aM ?_;simp -dsimp only[ai,ne_eq,Nat.reduceEqDiff,reduceCtorEq];have aN:k=a.length:=by simp at h;omega
 subst aN;rw[List.take_length,FC,List.take_length]at hs;refine aH ?_;simp -dsimp only[simprocAttr,↓aa,aE]
 (refine I ?_;simp -dsimp only[ai,ne_eq,Nat.reduceEqDiff,reduceCtorEq])
 refine ak ?_;simp -dsimp only[simprocAttr,↓aa,aE,zr,Tryz.results89];simp[hs]
theorem Iz(a b:bc):a=b↔a.kind=b.kind∧a.row=b.row∧a.path=b.path∧a.names=b.names∧a.words=b.words∧a.kids=b.kids:=by
 cases a;cases b;simp
theorem Ge(a b:bc):aV Tryz.prog 65 [a.enc,b.enc] (.v (.bool (decide (a=b)))):=by
 refine zf true 0 Tryz.func65 Tryz.ntmps65 ?_;dsimp only[Tmp,TypeId,ax];refine aH ?_;simp -dsimp only[simprocAttr,↓aa,aE]
 (refine I ?_;simp -dsimp only[ai,ne_eq,Nat.reduceEqDiff,reduceCtorEq])
 refine aH ?_;simp -dsimp only[simprocAttr,↓aa,aE];refine cO (fun h0=>?_) (fun h0=>?_)
 ·have e0:a.kind=b.kind:=by simpa using h0
  simp -dsimp only[simprocAttr,↓aa,aE,h0];refine cO (fun h1=>?_) (fun h1=>?_)
  ·have e1:a.row=b.row:=by simpa using h1
   simp -dsimp only[simprocAttr,↓aa,aE,h1];refine .inl ⟨_,oD a.path b.path,by simp only[aq,ae.upto,zt,iF],ah ?_⟩;simp -dsimp only[simprocAttr,↓aa,aE];refine cO (fun h2=>?_) (fun h2=>?_)
   ·have e2:a.path=b.path:=by simpa using h2
    simp -dsimp only[simprocAttr,↓aa,aE,h2];refine .inl ⟨_,Ap a.names b.names,by simp only[aq,ae.upto,zt,iF],ah ?_⟩;simp -dsimp only[simprocAttr,↓aa,aE];refine cO (fun h3=>?_) (fun h3=>?_)
    ·have e3:a.names=b.names:=by simpa using h3
     simp -dsimp only[simprocAttr,↓aa,aE,h3];refine .inl ⟨_,oD a.words b.words,by simp only[aq,ae.upto,zt,iF],ah ?_⟩;simp -dsimp only[simprocAttr,↓aa,aE];refine cO (fun h4=>?_) (fun h4=>?_)
     ·have e4:a.words=b.words:=by simpa using h4
      simp -dsimp only[simprocAttr,↓aa,aE,h4];refine .inl ⟨_,oD a.kids b.kids,by simp only[aq,ae.upto,zt,iF],ah ?_⟩;simp -dsimp only[simprocAttr,↓aa,aE]
      (refine I ?_;simp -dsimp only[ai,ne_eq,Nat.reduceEqDiff,reduceCtorEq])
      refine ak ?_;simp -dsimp only[simprocAttr,↓aa,aE,zr,Tryz.results65];simp[Iz,e0,e1,e2,e3,e4]
     have cA:¬a=b:=fun e=>by
      subst e;simp at h4
     simp -dsimp only[simprocAttr,↓aa,aE,h4]
     (refine I ?_;simp -dsimp only[ai,ne_eq,Nat.reduceEqDiff,reduceCtorEq])
     refine ak ?_;simp -dsimp only[simprocAttr,↓aa,aE,zr,Tryz.results65];simp[cA]
    have cA:¬a=b:=fun e=>by
     subst e;simp at h3
    simp -dsimp only[simprocAttr,↓aa,aE,h3]
    (refine I ?_;simp -dsimp only[ai,ne_eq,Nat.reduceEqDiff,reduceCtorEq])
    refine ak ?_;simp -dsimp only[simprocAttr,↓aa,aE,zr,Tryz.results65];simp[cA]
   have cA:¬a=b:=fun e=>by
    subst e;simp at h2
   simp -dsimp only[simprocAttr,↓aa,aE,h2]
   (refine I ?_;simp -dsimp only[ai,ne_eq,Nat.reduceEqDiff,reduceCtorEq])
   refine ak ?_;simp -dsimp only[simprocAttr,↓aa,aE,zr,Tryz.results65];simp[cA]
  have cA:¬a=b:=fun e=>by
   subst e;simp at h1
  simp -dsimp only[simprocAttr,↓aa,aE,h1]
  (refine I ?_;simp -dsimp only[ai,ne_eq,Nat.reduceEqDiff,reduceCtorEq])
  refine ak ?_;simp -dsimp only[simprocAttr,↓aa,aE,zr,Tryz.results65];simp[cA]
 have cA:¬a=b:=fun e=>by
  subst e;simp at h0
 simp -dsimp only[simprocAttr,↓aa,aE,h0]
 (refine I ?_;simp -dsimp only[ai,ne_eq,Nat.reduceEqDiff,reduceCtorEq])
 refine ak ?_;simp -dsimp only[simprocAttr,↓aa,aE,zr,Tryz.results65];simp[cA]
theorem E4(x t:bc)(oa:Option Addr):aV Tryz.prog 64 [x.enc,.ip oa t.enc.cells] (.v (.bool (decide (x=t)))):=by
 refine zf true 0 Tryz.func64 Tryz.ntmps64 ?_;dsimp only[Tmp,TypeId,ax];refine aH ?_;simp -dsimp only[simprocAttr,↓aa,aE]
 (refine I ?_;simp -dsimp only[ai,ne_eq,Nat.reduceEqDiff,reduceCtorEq])
 refine aH ?_;simp -dsimp only[simprocAttr,↓aa,aE];refine .inl ⟨_,Ge x t,by simp only[aq,ae.upto,zt,iF],ah ?_⟩;simp -dsimp only[simprocAttr,↓aa,aE]
 (refine I ?_;simp -dsimp only[ai,ne_eq,Nat.reduceEqDiff,reduceCtorEq])
 refine ak ?_;simp -dsimp only[simprocAttr,↓aa,aE,zr,Tryz.results64]
theorem FR(t:bc)(oa:Option Addr)(l:List bc):aV Tryz.prog 63 [eT l,.fn (.func 64) [] [.ip oa t.enc.cells]] (aI (idx (fun x=>decide (x=t)) l)):=by
 refine zf true 0 Tryz.func63 Tryz.ntmps63 ?_;dsimp only[Tmp,TypeId,ax];refine aH ?_;simp -dsimp only[simprocAttr,↓aa,aE]
 (refine I ?_;simp -dsimp only[ai,ne_eq,Nat.reduceEqDiff,reduceCtorEq])
 refine bT 0 rfl (fun hlen=>?_);simp only[List.length_map]at hlen;refine cg ?_;simp -dsimp only[simprocAttr,↓aa,aE]
 (refine I ?_;simp -dsimp only[ai,ne_eq,Nat.reduceEqDiff,reduceCtorEq])
 refine aj (aO (ι:={k:Nat // k<=l.length∧∀j p,j<k->l[j]?=some p->decide (p=t)=false}) (fun k=>⟨19,[(0,eT l),(1,.fn (.func 64) [] [.ip oa t.enc.cells]),(7,.v (.int .i64 l.length)),(8,.v (.int .i64 k.1))],[]⟩) (fun k=>l.length-k.1) ⟨0,by omega,by intros;omega⟩ ?_ ?_)
 ·refine zq rfl ?_ ?_;simp -dsimp only[simprocAttr,↓aa,aE,zc];rfl
 rintro⟨k,hk,bq⟩;refine aH ?_;simp -dsimp only[simprocAttr,↓aa,aE]
 (refine I ?_;simp -dsimp only[ai,ne_eq,Nat.reduceEqDiff,reduceCtorEq])
 apply gr rfl<;>intro h
 ·(refine au ?_;simp -dsimp only[ai,ne_eq,Nat.reduceEqDiff,reduceCtorEq])
  have aN:k<l.length:=by simpa using h
  obtain⟨p,hp⟩:∃p,l[k]?=some p:=⟨l[k],by simp[aN]⟩
  refine aG (aj ?_);refine aH ?_;simp -dsimp only[simprocAttr,↓aa,aE]
  (refine I ?_;simp -dsimp only[ai,ne_eq,Nat.reduceEqDiff,reduceCtorEq])
  refine aH ?_;simp -dsimp only[simprocAttr,↓aa,aE,hp];refine .inl ⟨_,E4 p t oa,by simp only[aq,ae.upto,zt,iF],ah ?_⟩;simp -dsimp only[simprocAttr,↓aa,aE]
  (refine I ?_;simp -dsimp only[ai,ne_eq,Nat.reduceEqDiff,reduceCtorEq])
  apply aQ rfl<;>intro h
  ·refine aH ?_;simp -dsimp only[simprocAttr,↓aa,aE]
   (refine I ?_;simp -dsimp only[ai,ne_eq,Nat.reduceEqDiff,reduceCtorEq])
   refine ak ?_;simp -dsimp only[simprocAttr,↓aa,aE,zr,Tryz.results63];rw[jw hp h bq]
  (refine au ?_;simp -dsimp only[ai,ne_eq,Nat.reduceEqDiff,reduceCtorEq])
  have hb:decide (p=t)=false:=by simpa using h
  refine fq ?_;simp -dsimp only[simprocAttr,↓aa,aE];refine⟨by omega,by omega,?_⟩
  (refine I ?_;simp -dsimp only[ai,ne_eq,Nat.reduceEqDiff,reduceCtorEq])
  refine⟨⟨k+1,aN,fun j q hj hq=>?_⟩,by simp;omega,?_⟩
  ·rcases Nat.lt_succ_iff_lt_or_eq.1 hj with hj|hj
   ·exact bq j q hj hq
   subst hj;rw[hp]at hq;simp only[Option.some.injEq]at hq;rw[<-hq];exact hb
  refine zq rfl ?_ ?_;simp -dsimp only[simprocAttr,↓aa,aE,zc]
  ·exact Sub.int (by simp)
  rfl
 refine aM ?_;simp -dsimp only[ai,ne_eq,Nat.reduceEqDiff,reduceCtorEq];have aN:k=l.length:=by simp at h;omega
 subst aN;refine aH ?_;simp -dsimp only[simprocAttr,↓aa,aE]
 (refine I ?_;simp -dsimp only[ai,ne_eq,Nat.reduceEqDiff,reduceCtorEq])
 refine ak ?_;simp -dsimp only[simprocAttr,↓aa,aE,zr,Tryz.results63];rw[jv bq]
structure BS where
 outs:List bc
 many:Nat
 full:Bool
def BS.add(s:BS)(t:bc):Int×BS:=if idx (fun x=>decide (x=t)) s.outs<0 then(s.outs.length,{ s with outs:=s.outs++[t] })else(idx (fun x=>decide (x=t)) s.outs,s)
def BS.objs(cm:ae)(s:BS):List ay:=[.cells [cm,.aC 6 (s.outs.map bc.enc) (.tok 1),.v (.int .i64 s.many),.v (.bool s.full)],.spare s.outs.length]
theorem BS.upto{cm:ae}(Cz:cm.upto 2)(l:List bc)(m:Nat)(b:Bool)(n:Nat):∀o∈[ay.cells [cm,.aC 6 (l.map bc.enc) (.tok 1),.v (.int .i64 m),.v (.bool b)],.spare n],o.upto 2:=by
 simp[ay.upto,aq,ae.upto,Cz,bc.an]
theorem mM(cm:ae)(Cz:cm.upto 2)(s:BS)(t:bc)(hb:s.outs.length<=2 ^ 20):aY Tryz.prog 34 (s.objs cm) [.mp 0 0,t.enc] fun r O'=>r=aI (s.add t).1∧O'=(s.add t).2.objs cm:=by
 obtain⟨z,hz⟩:∃z,z=idx (fun x=>decide (x=t)) s.outs:=⟨_,rfl⟩
 unfold BS.add;rw[<-hz];simp only[BS.objs];refine zf true 2 Tryz.func34 Tryz.ntmps34 ?_;dsimp only[Tmp,TypeId,ax];refine aH ?_;simp -dsimp only[simprocAttr,↓aa,aE]
 (refine I ?_;simp -dsimp only[ai,ne_eq,Nat.reduceEqDiff,reduceCtorEq])
 refine aR 3 2 (.ip none t.enc.cells) rfl (by simp[ay.aP]) trivial rfl ?_ ?_;rotate_left;simp -dsimp only[simprocAttr,↓aa,aE]
 ·refine cg ?_;simp -dsimp only[simprocAttr,↓aa,aE];refine .inl ⟨_,FR t none s.outs,by simp only[aq,ae.upto,zt,iF],ah ?_⟩;simp -dsimp only[simprocAttr,↓aa,aE]
  (refine I ?_;simp -dsimp only[ai,ne_eq,Nat.reduceEqDiff,reduceCtorEq])
  refine aH ?_;simp -dsimp only[simprocAttr,↓aa,aE,<-hz]
  (refine I ?_;simp -dsimp only[ai,ne_eq,Nat.reduceEqDiff,reduceCtorEq])
  apply aQ rfl<;>intro h
  ·have h0:¬z<0:=by
    simp at h;omega
   rw[if_neg h0];refine aH ?_;simp -dsimp only[simprocAttr,↓aa,aE]
   (refine I ?_;simp -dsimp only[ai,ne_eq,Nat.reduceEqDiff,reduceCtorEq])
   refine ak ?_;simp -dsimp only[simprocAttr,↓aa,aE,zr,Tryz.results34];exact BS.upto Cz _ _ _ _
  have h0:z<0:=by
   simp at h;omega
  rw[if_pos h0]
  (refine au ?_;simp -dsimp only[ai,ne_eq,Nat.reduceEqDiff,reduceCtorEq])
  refine aH ?_;simp -dsimp only[simprocAttr,↓aa,aE];refine⟨by omega,by omega,?_⟩;refine⟨ob (by kernel_rfl),?_⟩
  (refine I ?_;simp -dsimp only[ai,ne_eq,Nat.reduceEqDiff,reduceCtorEq])
  refine aH ?_;simp -dsimp only[simprocAttr,↓aa,aE];refine⟨by omega,by omega,?_⟩
  (refine I ?_;simp -dsimp only[ai,ne_eq,Nat.reduceEqDiff,reduceCtorEq])
  refine ak ?_;simp -dsimp only[simprocAttr,↓aa,aE,zr,Tryz.results34];refine⟨?_,by simp,by simp⟩;have:=BS.upto Cz (s.outs++[t]) s.many s.full (s.outs.length+1);simpa using this
 exact da.mp rfl rfl
def qE(q:List Int)(n:Nat):List (List Int):=(List.range n).map fun(k:Nat)=>q++[(k:Int)]
theorem Gp(q:List Int)(n:Nat):qE q (n+1)=qE q n++[q++[(n:Int)]]:=by
 simp[qE,List.range_succ]
theorem rZ(q:List Int)(n:Nat):(qE q n).length=n:=by simp[qE]
theorem p8(paths:List (List Int))(c many:Nat)(q:List Int)(hq:paths[c]?=some q)(cA:q≠[])(Uz:q.length<=2 ^ 20)(hb:paths.length<=2 ^ 20)(eS:many<=2 ^ 20) :
  aV Tryz.prog 43 [xn paths,.v (.int .i64 c),.v (.int .i64 many)] (xn (paths.take c++paths.drop (c+1)++qE q many)):=by
 have hc:=ag hq;obtain⟨A,hA⟩:∃A,A=paths.take c++paths.drop (c+1):=⟨_,rfl⟩
 have Rl:A.length<=2 ^ 20:=by
  rw[hA];simp;omega
 rw[<-hA];refine zf true 0 Tryz.func43 Tryz.ntmps43 ?_;dsimp only[Tmp,TypeId,ax];refine aH ?_;simp -dsimp only[simprocAttr,↓aa,aE]
 (refine I ?_;simp -dsimp only[ai,ne_eq,Nat.reduceEqDiff,reduceCtorEq])
 refine aH ?_;simp -dsimp only[simprocAttr,↓aa,aE,<-List.map_take,<-List.map_drop,nG,List.take_length]
 repeat(refine⟨by omega,?_⟩)
 refine .inr (.inl ⟨_,_,(yl [paths.take c,paths.drop (c+1)] (by simp) (by simp;omega) [] (by simp)),.inl (ah ?_)⟩);simp -dsimp only[simprocAttr,↓aa,aE];have gf:[paths.take c,paths.drop (c+1)].flatten=A:=by
  rw[hA];simp
 simp -dsimp only[simprocAttr,↓aa,aE,gf];refine⟨ob (by kernel_rfl),?_⟩
 (refine I ?_;simp -dsimp only[ai,ne_eq,Nat.reduceEqDiff,reduceCtorEq])
 refine cg ?_;simp -dsimp only[simprocAttr,↓aa,aE]
 (refine I ?_;simp -dsimp only[ai,ne_eq,Nat.reduceEqDiff,reduceCtorEq])
 refine aj (aO (ι:={k:Nat // k<=many}) (fun k=>⟨35,[(0,xn paths),(1,.v (.int .i64 c)),(18,.v (.int .i64 many)),(19,.v (.int .i64 k.1)),(7,.aC 1 ((A++qE q k.1).map eI) (.tok 0))],[.spare (A.length+k.1)]⟩) (fun k=>many-k.1) ⟨0,by omega⟩ ?_ ?_)
 ·refine zq rfl ?_ ?_;simp -dsimp only[simprocAttr,↓aa,aE,zc]
  ·exact Sub.aC (by simp[qE])
  simp
 rintro⟨k,hk⟩;refine aH ?_;simp -dsimp only[simprocAttr,↓aa,aE]
 (refine I ?_;simp -dsimp only[ai,ne_eq,Nat.reduceEqDiff,reduceCtorEq])
 apply gr rfl<;>intro h
 ·(refine au ?_;simp -dsimp only[ai,ne_eq,Nat.reduceEqDiff,reduceCtorEq])
  have aN:k<many:=by simpa using h
  have wx:=rZ q k;refine aG (aj ?_);refine aH ?_;simp -dsimp only[simprocAttr,↓aa,aE]
  (refine I ?_;simp -dsimp only[ai,ne_eq,Nat.reduceEqDiff,reduceCtorEq])
  refine fq ?_;simp -dsimp only[simprocAttr,↓aa,aE,hq];refine .inr (.inl ⟨_,_,(Aa q (by omega) cA [.spare (A.length+k)] (by simp[ay.upto])),.inl (ah ?_)⟩);simp -dsimp only[simprocAttr,↓aa,aE,wx]
  repeat(refine⟨by omega,?_⟩)
  (refine I ?_;simp -dsimp only[ai,ne_eq,Nat.reduceEqDiff,reduceCtorEq])
  refine ba 1 [(0,xn paths),(1,.v (.int .i64 c)),(18,.v (.int .i64 many)),(19,.v (.int .i64 k)),(7,.aC 1 ((A++qE q (k+1)).map eI) (.tok 0))] (by simp) (by simp) [.spare (A.length+(k+1))] ?_ ?_ ?_ ?_ ?_
  ·rfl
  ·simp[ay.upto]
  ·simp -dsimp only[simprocAttr,↓aa,aE,dy,exists_eq_left',Option.some.injEq,sub_self,and_true];exact Sub.aC (by simp[Gp])
  ·simp[ae.upto,aq,gM,-List.map_append]
  refine fq ?_;simp -dsimp only[simprocAttr,↓aa,aE]
  repeat(refine⟨by omega,?_⟩)
  (refine I ?_;simp -dsimp only[ai,ne_eq,Nat.reduceEqDiff,reduceCtorEq])
  refine⟨⟨k+1,aN⟩,by simp;omega,?_⟩;refine zq rfl ?_ ?_;simp -dsimp only[simprocAttr,↓aa,aE,zc]
  ·exact Sub.int (by simp)
  rfl
 refine aM ?_;simp -dsimp only[ai,ne_eq,Nat.reduceEqDiff,reduceCtorEq];have aN:k=many:=by simp at h;omega
 subst aN;refine aH ?_;simp -dsimp only[simprocAttr,↓aa,aE]
 (refine I ?_;simp -dsimp only[ai,ne_eq,Nat.reduceEqDiff,reduceCtorEq])
 refine ak ?_;simp -dsimp only[simprocAttr,↓aa,aE,zr,Tryz.results43,List.take_length]
def a8.has(c:Nat)(f:Pat->Bool)(r:a8):Bool :=
 match r.bP[c]? with
 | none=>false
 | some p=>!p.free&&f p
theorem zW(r:a8)(c:Nat)(oa obb:Option Addr)(f:Pat->Bool)(id:Nat)(cs:List ae)(iq:cs.map ae.share=cs)(bD:∀n,aq n cs)(hc:c<r.bP.length)
  (hf:∀p∈r.bP,aV Tryz.prog id (p.enc::cs) (.v (.bool (f p)))) :
  aV Tryz.prog 41 [r.enc,.ip oa [.v (.int .i64 c)],.ip obb [.fn (.func id) [] cs]] (.v (.bool (r.has c f))):=by
 obtain⟨p,hp⟩:∃p,r.bP[c]?=some p:=⟨r.bP[c]'hc,by simp[hc]⟩
 have Th:=List.mem_of_getElem? hp;refine zf true 0 Tryz.func41 Tryz.ntmps41 ?_;dsimp only[Tmp,TypeId,ax];refine aH ?_;simp -dsimp only[simprocAttr,↓aa,aE]
 (refine I ?_;simp -dsimp only[ai,ne_eq,Nat.reduceEqDiff,reduceCtorEq])
 refine aH ?_;simp -dsimp only[simprocAttr,↓aa,aE,hp];refine .inl ⟨_,jU p,by simp only[aq,ae.upto,zt,iF,bD],ah ?_⟩;simp -dsimp only[simprocAttr,↓aa,aE];refine cO (fun h=>?_) (fun h=>?_)
 ·have nm:p.free=false:=by simpa using h
  simp -dsimp only[simprocAttr,↓aa,aE,nm,hp,iq];refine .inl ⟨_,(hf p Th),by simp only[aq,ae.upto,zt,iF,bD],ah ?_⟩;simp -dsimp only[simprocAttr,↓aa,aE,nm];refine⟨ob (by kernel_rfl),?_⟩
  (refine I ?_;simp -dsimp only[ai,ne_eq,Nat.reduceEqDiff,reduceCtorEq])
  refine ak ?_;simp -dsimp only[simprocAttr,↓aa,aE,zr,Tryz.results41];simp[a8.has,hp,nm]
 have nm:p.free=true:=by simpa using h
 simp -dsimp only[simprocAttr,↓aa,aE,nm];refine⟨ob (by kernel_rfl),?_⟩
 (refine I ?_;simp -dsimp only[ai,ne_eq,Nat.reduceEqDiff,reduceCtorEq])
 refine ak ?_;simp -dsimp only[simprocAttr,↓aa,aE,zr,Tryz.results41];simp[a8.has,hp,nm]
theorem FQ(c:Nat)(oa obb:Option Addr)(f:Pat->Bool)(id:Nat)(cs:List ae)(iq:cs.map ae.share=cs)(bD:∀n,aq n cs)(l:List a8)(hc:∀r∈l,c<r.bP.length)
  (hf:∀r∈l,∀p∈r.bP,aV Tryz.prog id (p.enc::cs) (.v (.bool (f p)))) :
  aV Tryz.prog 68 [eM l,.fn (.func 41) [] [.ip oa [.v (.int .i64 c)],.ip obb [.fn (.func id) [] cs]]] (aI (idx (a8.has c f) l)):=by
 refine zf true 0 Tryz.func68 Tryz.ntmps68 ?_;dsimp only[Tmp,TypeId,ax];refine aH ?_;simp -dsimp only[simprocAttr,↓aa,aE]
 (refine I ?_;simp -dsimp only[ai,ne_eq,Nat.reduceEqDiff,reduceCtorEq])
 refine bT 0 rfl (fun hlen=>?_);simp only[List.length_map]at hlen;refine cg ?_;simp -dsimp only[simprocAttr,↓aa,aE]
 (refine I ?_;simp -dsimp only[ai,ne_eq,Nat.reduceEqDiff,reduceCtorEq])
 refine aj (aO (ι:={k:Nat // k<=l.length∧∀j p,j<k->l[j]?=some p->a8.has c f p=false}) (fun k=>⟨19,[(0,eM l),(1,.fn (.func 41) [] [.ip oa [.v (.int .i64 c)],.ip obb [.fn (.func id) [] cs]]),(7,.v (.int .i64 l.length)),(8,.v (.int .i64 k.1))],[]⟩) (fun k=>l.length-k.1) ⟨0,by omega,by intros;omega⟩ ?_ ?_)
 ·refine zq rfl ?_ ?_;simp -dsimp only[simprocAttr,↓aa,aE,zc];rfl
 rintro⟨k,hk,bq⟩;refine aH ?_;simp -dsimp only[simprocAttr,↓aa,aE]
 (refine I ?_;simp -dsimp only[ai,ne_eq,Nat.reduceEqDiff,reduceCtorEq])
 apply gr rfl<;>intro h
 ·(refine au ?_;simp -dsimp only[ai,ne_eq,Nat.reduceEqDiff,reduceCtorEq])
  have aN:k<l.length:=by simpa using h
  obtain⟨p,hp⟩:∃p,l[k]?=some p:=⟨l[k],by simp[aN]⟩
  have eN:=List.mem_of_getElem? hp;refine aG (aj ?_);refine aH ?_;simp -dsimp only[simprocAttr,↓aa,aE]
  (refine I ?_;simp -dsimp only[ai,ne_eq,Nat.reduceEqDiff,reduceCtorEq])
  refine aH ?_;simp -dsimp only[simprocAttr,↓aa,aE,hp,iq];refine .inl ⟨_,zW p c oa obb f id cs iq bD (hc p eN) (hf p eN),by simp only[aq,ae.upto,zt,iF,bD],ah ?_⟩;simp -dsimp only[simprocAttr,↓aa,aE]
  (refine I ?_;simp -dsimp only[ai,ne_eq,Nat.reduceEqDiff,reduceCtorEq])
  apply aQ rfl<;>intro h
  ·refine aH ?_;simp -dsimp only[simprocAttr,↓aa,aE]
   (refine I ?_;simp -dsimp only[ai,ne_eq,Nat.reduceEqDiff,reduceCtorEq])
   refine ak ?_;simp -dsimp only[simprocAttr,↓aa,aE,zr,Tryz.results68];rw[jw hp h bq]
  (refine au ?_;simp -dsimp only[ai,ne_eq,Nat.reduceEqDiff,reduceCtorEq])
  have hb:a8.has c f p=false:=by simpa using h
  refine fq ?_;simp -dsimp only[simprocAttr,↓aa,aE];refine⟨by omega,by omega,?_⟩
  (refine I ?_;simp -dsimp only[ai,ne_eq,Nat.reduceEqDiff,reduceCtorEq])
  refine⟨⟨k+1,aN,fun j q hj hq=>?_⟩,by simp;omega,?_⟩
  ·rcases Nat.lt_succ_iff_lt_or_eq.1 hj with hj|hj
   ·exact bq j q hj hq
   subst hj;rw[hp]at hq;simp only[Option.some.injEq]at hq;rw[<-hq];exact hb
  refine zq rfl ?_ ?_;simp -dsimp only[simprocAttr,↓aa,aE,zc]
  ·exact Sub.int (by simp)
  rfl
 refine aM ?_;simp -dsimp only[ai,ne_eq,Nat.reduceEqDiff,reduceCtorEq];have aN:k=l.length:=by simp at h;omega
 subst aN;refine aH ?_;simp -dsimp only[simprocAttr,↓aa,aE]
 (refine I ?_;simp -dsimp only[ai,ne_eq,Nat.reduceEqDiff,reduceCtorEq])
 refine ak ?_;simp -dsimp only[simprocAttr,↓aa,aE,zr,Tryz.results68];rw[jv bq]
theorem E5(c:Nat)(oa obb:Option Addr)(f:Pat->Bool)(id:Nat)(cs:List ae)(iq:cs.map ae.share=cs)(bD:∀n,aq n cs)(l:List a8)(hc:∀r∈l,c<r.bP.length)
  (hf:∀r∈l,∀p∈r.bP,aV Tryz.prog id (p.enc::cs) (.v (.bool (f p)))) :
  aV Tryz.prog 40 [eM l,.fn (.func 41) [] [.ip oa [.v (.int .i64 c)],.ip obb [.fn (.func id) [] cs]]] (.v (.bool (l.any (a8.has c f)))):=by
 refine zf true 0 Tryz.func40 Tryz.ntmps40 ?_;dsimp only[Tmp,TypeId,ax];refine aH ?_;simp -dsimp only[simprocAttr,↓aa,aE]
 (refine I ?_;simp -dsimp only[ai,ne_eq,Nat.reduceEqDiff,reduceCtorEq])
 refine aH ?_;simp -dsimp only[simprocAttr,↓aa,aE,iq];refine .inl ⟨_,FQ c oa obb f id cs iq bD l hc hf,by simp only[aq,ae.upto,zt,iF,bD],ah ?_⟩;simp -dsimp only[simprocAttr,↓aa,aE]
 (refine I ?_;simp -dsimp only[ai,ne_eq,Nat.reduceEqDiff,reduceCtorEq])
 refine ak ?_;simp -dsimp only[simprocAttr,↓aa,aE,zr,Tryz.results40];rw[np]
def BS.count(s:BS):BS:={ s with many:=s.many+1,full:=s.full ||decide (4096<s.many+1) }
def gP:bc:=⟨0,0,[],[],[],[]⟩
abbrev oc:=List a8->List (List Int)->BS->Int×BS
def bR(paths:List (List Int))(c many:Nat):List (List Int):=paths.take c++paths.drop (c+1)++qE (paths[c]?.getD []) many
def mq(f:oc)(rows:List a8)(paths:List (List Int))(c:Nat)(s:BS):Int×BS:=f (aW c (fun _=>false) 0 rows) (bR paths c 0) s
def cH(f:oc)(rows:List a8)(paths:List (List Int))(c:Nat)(a:(List ByteArray×List Int)×BS)(k:fa):(List ByteArray×List Int)×BS :=
 if rows.any (a8.has c fun p=>decide (p.name=k.name))then
  ((a.1.1++[k.name],a.1.2++[(f (aW c (fun p=>decide (p.name=k.name)) k.args.length rows) (bR paths c k.args.length) a.2).1]),(f (aW c (fun p=>decide (p.name=k.name)) k.args.length rows) (bR paths c k.args.length) a.2).2)
 else a
def b7(f:oc)(rows:List a8)(paths:List (List Int))(c:Nat)(a:(List Int×List Int)×BS)(r:a8):(List Int×List Int)×BS :=
 match r.bP[c]? with
 | none=>a
 | some p=>if p.free || decide (p.n∈a.1.1)then a
  else((a.1.1++[p.n],a.1.2++[(f (aW c (fun q=>decide (q.n=p.n)) 0 rows) (bR paths c 0) a.2).1]),(f (aW c (fun q=>decide (q.n=p.n)) 0 rows) (bR paths c 0) a.2).2)
def j1(f:oc)(rows:List a8)(paths:List (List Int))(c:Nat)(s:BS):Int×BS :=
 let a:=rows.foldl (b7 f rows paths c) (([],[]),s);let o:=mq f rows paths c a.2
 o.2.add ⟨3,0,paths[c]?.getD [],[],a.1.1,a.1.2++[o.1]⟩
def rb(f:oc)(d:Data)(rows:List a8)(paths:List (List Int))(c:Nat)(s:BS):Int×BS :=
 let a:=d.cons.foldl (cH f rows paths c) (([],[]),s);let o:=if a.1.1.length<d.cons.length then mq f rows paths c a.2 else(-1,a.2)
 o.2.add ⟨2,0,paths[c]?.getD [],a.1.1,[],a.1.2++[o.1]⟩
def bm(look:ByteArray->Option Data):Nat->oc
 | 0=>fun _ _ s=>(0,s)
 | fu+1=>fun rows paths s =>
  match rows with
  | []=>s.count.add gP
  | r0::_=>if s.count.full then s.count.add gP else
   match r0.bP.findIdx? (fun p=>!p.free)with
   | none=>s.count.add ⟨1,r0.ix,[],[],[],[]⟩
   | some c=>match r0.bP[c]? with
    | none=>(0,s.count)
    | some p=>if p.kind=2 then j1 (bm look fu) rows paths c s.count
     else match look p.name with
      | none=>(0,s.count)
      | some d=>rb (bm look fu) d rows paths c s.count
def eF(datas:List Data)(k:Nat):Data:=(datas[k]?).getD ⟨ByteArray.empty,0,[]⟩
def fQ(datas:List Data)(p:ByteArray×K):Value×ae:=(.string p.1,.ip none (eF datas p.2.data).enc.cells)
theorem ua(datas:List Data):∀(l:List (ByteArray×K)) (s:ByteArray),iy (l.map (fQ datas)) (.string s)=(find l s).map fun k=>ae.ip none (eF datas k.data).enc.cells
 | [],_=>rfl
 | (n,k)::r,s=>by
  simp only[List.map_cons,fQ,iy,find,ua datas r s];have:gN (.string n) (.string s)=decide (n=s):=by
   simp[gN]
  rw[this];by_cases h:n=s<;>simp[h]
theorem Iu(datas:List Data):∀(l:List (ByteArray×K)) (s:ByteArray) (k:K),find l s=none->jG (l.map (fQ datas)) (.string s) (.ip none (eF datas k.data).enc.cells)=(l++[(s,k)]).map (fQ datas)
 | [],_,_,_=>rfl
 | (n,k')::r,s,k,h=>by
  simp only[find]at h;split at h
  ·cases h
  rename_i hn;have:gN (.string n) (.string s)=decide (n=s):=by
   simp[gN]
  simp only[List.map_cons,List.cons_append,fQ,jG,this,hn,decide_false,Bool.false_eq_true,if_false];have ih:=Iu datas r s k h;rw[<-ih]
theorem yS(datas:List Data)(n:Nat)(l:List (ByteArray×K)):kC n (l.map (fQ datas)):=by
 rw[je];intro x hx;obtain⟨p,_,rfl⟩:=List.mem_map.1 hx;have:=(eF datas p.2.data).aF n;exact this
def OO(datas:List Data):Option bF->ae
 | some t=>.c5 [.im .str (t.cons.map (fQ datas)),aI 0]
 | none=>.c5 [.v (.map none),aI 7]
theorem nq(datas:List Data):aV Tryz.prog 14 [eD datas] (OO datas (build datas)):=by
 refine zf true 0 Tryz.func14 Tryz.ntmps14 ?_;dsimp only[Tmp,TypeId,ax];refine aH ?_;simp -dsimp only[simprocAttr,↓aa,aE]
 (refine I ?_;simp -dsimp only[ai,ne_eq,Nat.reduceEqDiff,reduceCtorEq])
 refine aH ?_;simp -dsimp only[simprocAttr,↓aa,aE]
 (refine I ?_;simp -dsimp only[ai,ne_eq,Nat.reduceEqDiff,reduceCtorEq])
 refine bT 0 rfl (fun hlen=>?_);simp only[List.length_map]at hlen;refine cg ?_;simp -dsimp only[simprocAttr,↓aa,aE]
 (refine I ?_;simp -dsimp only[ai,ne_eq,Nat.reduceEqDiff,reduceCtorEq])
 refine aj (aO (ι:={q:Nat×List (ByteArray×K) // q.1<=datas.length∧cK 0 datas []=cK q.1 (datas.drop q.1) q.2}) (fun q=>⟨38,[(0,eD datas),(4,.mm 0),(10,aI datas.length),(11,aI q.1.1)],[.map .str (q.1.2.map (fQ datas))]⟩) (fun q=>datas.length-q.1.1) ⟨(0,[]),by omega,rfl⟩ ?_ ?_)
 ·refine zq rfl ?_ ?_;simp -dsimp only[simprocAttr,↓aa,aE,zc];rfl
 rintro⟨⟨k,acc⟩,hk,he⟩;simp only at hk he;refine aH ?_;simp -dsimp only[simprocAttr,↓aa,aE]
 (refine I ?_;simp -dsimp only[ai,ne_eq,Nat.reduceEqDiff,reduceCtorEq])
 apply gr rfl<;>intro h
 ·(refine au ?_;simp -dsimp only[ai,ne_eq,Nat.reduceEqDiff,reduceCtorEq])
  have aN:k<datas.length:=by simpa using h
  obtain⟨d,hd⟩:∃d:Data,datas[k]?=some d:=⟨datas[k],by simp[aN]⟩
  have wq:eF datas k=d:=by simp[eF,hd]
  have gy:datas.drop k=d::datas.drop (k+1):=by
   rw[List.drop_eq_getElem_cons aN];rw[List.getElem?_eq_getElem aN]at hd;simp only[Option.some.injEq]at hd;rw[hd]
  rw[gy,cK]at he;refine aG (aj ?_);refine aH ?_;simp -dsimp only[simprocAttr,↓aa,aE]
  (refine I ?_;simp -dsimp only[ai,ne_eq,Nat.reduceEqDiff,reduceCtorEq])
  refine aH ?_;simp -dsimp only[simprocAttr,↓aa,aE,hd]
  (refine I ?_;simp -dsimp only[ai,ne_eq,Nat.reduceEqDiff,reduceCtorEq])
  refine bT 18 rfl (fun zJ=>?_);simp only[List.length_map]at zJ;refine aj (aO (ι:={q:Nat×List (ByteArray×K) // q.1<=d.cons.length∧cK 0 datas []=(fD k q.1 (d.cons.drop q.1) q.2).bind (cK (k+1) (datas.drop (k+1)))}) (fun q=>⟨38,[(18,eC d.cons),(19,aI d.cons.length),(20,aI q.1.1),(5,aI k),(0,eD datas),(4,.mm 0),(10,aI datas.length),(11,aI k)],[.map .str (q.1.2.map (fQ datas))]⟩) (fun q=>d.cons.length-q.1.1) ⟨(0,acc),by omega,he⟩ ?_ ?_)
  ·refine zq rfl ?_ ?_;simp -dsimp only[simprocAttr,↓aa,aE,zc];rfl
  rintro⟨⟨n,eJ⟩,hn,pk⟩;simp only at hn pk;refine aH ?_;simp -dsimp only[simprocAttr,↓aa,aE]
  (refine I ?_;simp -dsimp only[ai,ne_eq,Nat.reduceEqDiff,reduceCtorEq])
  apply gr rfl<;>intro h
  ·(refine au ?_;simp -dsimp only[ai,ne_eq,Nat.reduceEqDiff,reduceCtorEq])
   have iB:n<d.cons.length:=by simpa using h
   obtain⟨c,hc⟩:∃c,d.cons[n]?=some c:=⟨d.cons[n],by simp[iB]⟩
   have vg:d.cons.drop n=c::d.cons.drop (n+1):=by
    rw[List.drop_eq_getElem_cons iB];rw[List.getElem?_eq_getElem iB]at hc;simp only[Option.some.injEq]at hc;rw[hc]
   rw[vg,fD]at pk;refine aG (aj ?_);refine aH ?_;simp -dsimp only[simprocAttr,↓aa,aE,hc]
   (refine I ?_;simp -dsimp only[ai,ne_eq,Nat.reduceEqDiff,reduceCtorEq])
   cases hf:find eJ c.name with
   | some x =>
    rw[hf]at pk;have hb:build datas=none:=by rw[build,pk];rfl
    refine cg ?_;simp -dsimp only[simprocAttr,↓aa,aE,ua,hf,Option.map_some,Option.getD_some];refine⟨⟨_,Tryz.underlying104⟩,?_⟩
    (refine I ?_;simp -dsimp only[ai,ne_eq,Nat.reduceEqDiff,reduceCtorEq])
    refine de rfl ?_;refine aH ?_;simp -dsimp only[simprocAttr,↓aa,aE]
    (refine I ?_;simp -dsimp only[ai,ne_eq,Nat.reduceEqDiff,reduceCtorEq])
    refine ak ?_;simp -dsimp only[simprocAttr,↓aa,aE,zr,Tryz.results14];rw[hb];exact⟨by simp[aq,ae.upto],rfl⟩
   | none =>
    rw[hf]at pk;have CF:jG (eJ.map (fQ datas)) (.string c.name) (.ip none [.v (.string d.name),.v (.int .i64 d.params),.aC 2 (d.cons.map fa.enc) .sh])=(eJ++[(c.name,(⟨k,n,c.args.length⟩:K))]).map (fQ datas):=by
     rw[<-Iu datas eJ c.name ⟨k,n,c.args.length⟩ hf];simp only[wq];rfl
    refine cg ?_;simp -dsimp only[simprocAttr,↓aa,aE,ua,hf,Option.map_none,Option.getD_none,List.getD_cons_zero];refine⟨⟨_,Tryz.underlying104⟩,?_⟩
    (refine I ?_;simp -dsimp only[ai,ne_eq,Nat.reduceEqDiff,reduceCtorEq])
    refine cB rfl ?_
    (refine au ?_;simp -dsimp only[ai,ne_eq,Nat.reduceEqDiff,reduceCtorEq])
    refine fq ?_;simp -dsimp only[simprocAttr,↓aa,aE,hd,CF];refine⟨ob (by kernel_rfl),?_⟩
    (refine I ?_;simp -dsimp only[ai,ne_eq,Nat.reduceEqDiff,reduceCtorEq])
    refine ba 1 [(18,eC d.cons),(19,aI d.cons.length),(20,aI n),(5,aI k),(0,eD datas),(4,.mm 0),(10,aI datas.length),(11,aI k)] (by simp) (by simp) [.map .str ((eJ++[(c.name,(⟨k,n,c.args.length⟩:K))]).map (fQ datas))] ?_ ?_ ?_ ?_ ?_
    ·rfl
    ·simp only[List.mem_singleton,forall_eq,ay.upto];exact yS datas 1 _
    ·simp -dsimp only[simprocAttr,↓aa,aE,dy,exists_eq_left',Option.some.injEq,sub_self,and_true]
    ·simp[ae.upto,aq,Data.an,fa.an]
    refine fq ?_;simp -dsimp only[simprocAttr,↓aa,aE]
    repeat(refine⟨by omega,?_⟩)
    (refine I ?_;simp -dsimp only[ai,ne_eq,Nat.reduceEqDiff,reduceCtorEq])
    refine⟨⟨(n+1,eJ++[(c.name,(⟨k,n,c.args.length⟩:K))]),iB,pk⟩,by simp;omega,?_⟩;refine zq rfl ?_ ?_;simp -dsimp only[simprocAttr,↓aa,aE,zc]
    ·exact Sub.int (by simp)
    rfl
  refine aM ?_;simp -dsimp only[ai,ne_eq,Nat.reduceEqDiff,reduceCtorEq];have nX:n=d.cons.length:=by simp at h;omega
  subst nX;rw[List.drop_length,fD]at pk;refine fq ?_;simp -dsimp only[simprocAttr,↓aa,aE]
  repeat(refine⟨by omega,?_⟩)
  (refine I ?_;simp -dsimp only[ai,ne_eq,Nat.reduceEqDiff,reduceCtorEq])
  refine⟨⟨(k+1,eJ),aN,pk⟩,by simp;omega,?_⟩;refine zq rfl ?_ ?_;simp -dsimp only[simprocAttr,↓aa,aE,zc]
  ·exact Sub.int (by simp)
  rfl
 refine aM ?_;simp -dsimp only[ai,ne_eq,Nat.reduceEqDiff,reduceCtorEq];have gg:k=datas.length:=by simp at h;omega
 subst gg;rw[List.drop_length,cK]at he;have hb:build datas=some ⟨datas,acc⟩:=by rw[build,he];rfl
 refine aR 4 0 (.im .str (acc.map (fQ datas))) rfl (by simp[ay.aP]) trivial rfl ?_ ?_;rotate_left;simp -dsimp only[simprocAttr,↓aa,aE]
 ·refine aH ?_;simp -dsimp only[simprocAttr,↓aa,aE]
  (refine I ?_;simp -dsimp only[ai,ne_eq,Nat.reduceEqDiff,reduceCtorEq])
  refine ak ?_;simp -dsimp only[simprocAttr,↓aa,aE,zr,Tryz.results14];rw[hb];exact⟨by simp[aq,ae.upto,yS],rfl⟩
 exact da.mm rfl
end Go.Proofs.YtkkookchlddbkaaGreat.V
namespace Go.Proofs.YtkkookchlddbkaaGreat.V
theorem jZ{α:Type}{l:List α}{c:Nat}{x:α}(h:l[c]?=some x):l=l.take c++x::l.drop (c+1):=by
 obtain⟨hc,e⟩:=List.getElem?_eq_some_iff.1 h;rw[<-e,<-List.drop_eq_getElem_cons hc,List.take_append_drop]
theorem bt.split{t:bF}:∀{ta tb:List Ty} {l:List Pat},bt t l (ta++tb)->bt t (l.take ta.length) ta∧bt t (l.drop ta.length) tb
 | [],tb,l,h=>by simpa[bt]using h
 | ty::ta,tb,[],h=>by simp[bt]at h
 | ty::ta,tb,p::r,h=>by
  simp only[List.cons_append,bt]at h;obtain⟨QX,vZ,e,h1,h2⟩:=h;cases e;have ih:=bt.split h2;simp only[List.length_cons,List.take_succ_cons,List.drop_succ_cons,bt];exact⟨⟨ty,ta,rfl,h1,ih.1⟩,ih.2⟩
theorem bt.parts{t:bF}{l:List Pat}{tys:List Ty}{c:Nat}{ty:Ty}{p:Pat}(h:bt t l tys)(hc:tys[c]?=some ty)(hp:l[c]?=some p):bt t (l.take c) (tys.take c)∧fC t p ty∧bt t (l.drop (c+1)) (tys.drop (c+1)):=by
 have aN:c<tys.length:=(List.getElem?_eq_some_iff.1 hc).1;have h1:bt t l (tys.take c++ty::tys.drop (c+1)):=by
  rw[<-jZ hc];exact h
 have hl:(tys.take c).length=c:=by
  rw[List.length_take];omega
 obtain⟨a,b⟩:=h1.split;rw[hl]at a b;have e:l.drop c=p::l.drop (c+1):=by
  obtain⟨nO,e⟩:=List.getElem?_eq_some_iff.1 hp;rw[<-e,<-List.drop_eq_getElem_cons nO]
 rw[e]at b;simp only[bt]at b;obtain⟨_,_,e,h1,h2⟩:=b;cases e;exact⟨a,h1,h2⟩
mutual
def Pat.QD:Pat->Nat
 | .mk k _ _ l=>if k=0∨k=1 then 0 else 1+mh l
def mh:List Pat->Nat
 | []=>0
 | p::r=>p.QD+mh r
end
theorem Pat.Cc(p:Pat):p.QD=if p.free then 0 else 1+mh p.args:=by
 cases p with
 | mk k s n l =>
  have hf:(Pat.mk k s n l).free=true↔k=0∨k=1:=Pat.mF _;rw[Pat.QD];by_cases h:(Pat.mk k s n l).free=true
  ·rw[if_pos h,if_pos (hf.1 h)]
  rw[if_neg h,if_neg (fun e=>h (hf.2 e))];rfl
theorem lO:∀a b:List Pat,mh (a++b)=mh a+mh b
 | [],b=>by simp[mh]
 | p::a,b=>by
  rw[List.cons_append,mh,mh,lO a b];omega
theorem Ac(n:Nat):mh (List.replicate n Pat.any)=0:=by
 induction n with
 | zero=>rfl
 | succ n ih =>
  rw[List.replicate_succ,mh,ih,Pat.Cc];rfl
mutual
theorem Pat.Fk:∀p:Pat,p.QD<=p.nodes
 | .mk k s n l=>by
  rw[Pat.QD,Pat.nodes];have:=qf l;split<;>omega
theorem qf:∀l:List Pat,mh l<=bX l
 | []=>Nat.le_refl _
 | p::r=>by
  rw[mh,bX];have:=Pat.Fk p;have:=qf r;omega
end
def kU:List a8->Nat
 | []=>0
 | r::rs=>mh r.bP+kU rs
def Dq:List a8->Nat
 | []=>0
 | r::rs=>r6 r.bP+Dq rs
theorem EX{l:List Pat}{c:Nat}{p:Pat}(h:l[c]?=some p):r6 l=r6 (l.take c)+p.wt+r6 (l.drop (c+1)):=by
 have e:=congrArg r6 (jZ h);rw[ik,r6]at e;omega
theorem Ad{l:List Pat}{c:Nat}{p:Pat}(h:l[c]?=some p):mh l=mh (l.take c)+p.QD+mh (l.drop (c+1)):=by
 have e:=congrArg mh (jZ h);rw[lO,mh]at e;omega
def mr(c many:Nat)(r:a8)(p:Pat):List Pat:=r.bP.take c++(r.bP.drop (c+1)++if p.free=false∧p.kind=3 then p.args else List.replicate many Pat.any)
theorem a8.step_eq{c many:Nat}{f:Pat->Bool}{r:a8}{p:Pat}(hp:r.bP[c]?=some p):r.step c f many=if p.free=true∨f p=true then some ⟨r.ix,mr c many r p⟩else none:=by
 unfold a8.step mr;rw[hp];cases h1:p.free<;>cases h2:f p<;>simp[h1,h2]
def Fits(f:Pat->Bool)(many:Nat)(p:Pat):Prop:=p.free=false->f p=true->if p.kind=3 then p.args.length=many else many=0
theorem sG{c many:Nat}{f:Pat->Bool}{r:a8}{p:Pat}(hp:r.bP[c]?=some p)(hf:Fits f many p)(hk:p.free=true∨f p=true):r6 (mr c many r p)+(if p.free then 0 else 1+many)<=r6 r.bP∧mh (mr c many r p)+(if p.free then 0 else 1)<=mh r.bP:=by
 have h1:=EX hp;have h2:=Ad hp;have h3:=p.Bu;have h4:=p.Cc;unfold mr;rw[ik,ik,lO,lO];cases cx:p.free with
 | true =>
  simp only[Bool.true_eq_false,false_and,if_false,ud,Ac,if_true];omega
 | false =>
  rw[cx]at h3 h4;simp only[Bool.false_eq_true,if_false]at h3 h4;have eV:=hf cx (by simpa[cx]using hk);by_cases QG:p.kind=3
  ·rw[if_pos QG]at eV;simp only[QG,and_self,if_true,Bool.false_eq_true,if_false];omega
  rw[if_neg QG]at eV;subst eV;simp only[QG,and_false,if_false,ud,Ac,Bool.false_eq_true];omega
theorem nw(c:Nat)(f:Pat->Bool)(many:Nat)(r:a8)(rs:List a8):aW c f many (r::rs)=(match r.step c f many with|some x=>[x]|none=>[])++aW c f many rs:=by
 unfold aW;rw[List.filterMap_cons];cases r.step c f many<;>rfl
def x3(c:Nat)(rows:List a8):Prop:=∀r∈rows,c<r.bP.length
theorem x3.get{c:Nat}{rows:List a8}(h:x3 c rows){r:a8}(hr:r∈rows):∃p,r.bP[c]?=some p:=⟨r.bP[c]'(h r hr),by simp[h r hr]⟩
theorem qv{c many:Nat}{f:Pat->Bool}:∀(rows:List a8),x3 c rows->(∀r∈rows,∀p,r.bP[c]?=some p->Fits f many p)->Dq (aW c f many rows)<=Dq rows∧kU (aW c f many rows)<=kU rows
 | [],_,_=>⟨Nat.le_refl _,Nat.le_refl _⟩
 | r::rs,hw,hf=>by
  obtain⟨SK,Tn⟩:=qv (c:=c) (many:=many) (f:=f) rs (fun x hx=>hw x (by simp[hx])) (fun x hx=>hf x (by simp[hx]));obtain⟨p,hp⟩:=hw.get (r:=r) (by simp);rw[nw,a8.step_eq hp];by_cases hk:p.free=true∨f p=true
  ·have:=sG hp (hf r (by simp) p hp) hk;rw[if_pos hk];simp only[List.singleton_append,Dq,kU];omega
  rw[if_neg hk];simp only[List.nil_append,Dq,kU];omega
theorem iP{c many:Nat}{f:Pat->Bool}:∀(rows:List a8),x3 c rows->(∀r∈rows,∀p,r.bP[c]?=some p->Fits f many p)->(∃r∈rows,∃p,r.bP[c]?=some p∧p.free=false∧(f p=true∨many=0))->Dq (aW c f many rows)+1+many<=Dq rows
 | [],_,_,h=>by
  obtain⟨r,hr,_⟩:=h;cases hr
 | r::rs,hw,hf,h=>by
  have xA:x3 c rs:=fun x hx=>hw x (by simp[hx]);have fA:∀r∈rs,∀p,r.bP[c]?=some p->Fits f many p:=fun x hx=>hf x (by simp[hx]);obtain⟨SK,Tn⟩:=qv (c:=c) (many:=many) (f:=f) rs xA fA;obtain⟨p,hp⟩:=hw.get (r:=r) (by simp);rw[nw,a8.step_eq hp];have hh:(p.free=false∧(f p=true∨many=0))∨∃r∈rs,∃p,r.bP[c]?=some p∧p.free=false∧(f p=true∨many=0):=by
   obtain⟨r',xy,q,hq,h1,h2⟩:=h;rcases List.mem_cons.1 xy with rfl|xy
   ·rw[hp]at hq;cases hq;exact .inl ⟨h1,h2⟩
   exact .inr ⟨r',xy,q,hq,h1,h2⟩
  have CG:=EX hp;have DO:=p.Bu;by_cases hk:p.free=true∨f p=true
  ·have hr:=sG hp (hf r (by simp) p hp) hk;rw[if_pos hk];simp only[List.singleton_append,Dq];rcases hh with⟨h1,_⟩|hh
   ·rw[h1]at hr;simp only[Bool.false_eq_true,if_false]at hr;omega
   have:=iP rs xA fA hh;omega
  rw[if_neg hk];simp only[List.nil_append,Dq];rcases hh with⟨h1,h2⟩|hh
  ·rw[h1]at DO;simp only[Bool.false_eq_true,if_false]at DO;rcases h2 with h2|h2
   ·exact absurd (.inr h2) hk
   omega
  have:=iP rs xA fA hh;omega
theorem hH{c many:Nat}{f:Pat->Bool}:∀(rows:List a8),x3 c rows->(∀r∈rows,∀p,r.bP[c]?=some p->Fits f many p)->(∃r∈rows,∃p,r.bP[c]?=some p∧p.free=false)->kU (aW c f many rows)+1<=kU rows
 | [],_,_,h=>by
  obtain⟨r,hr,_⟩:=h;cases hr
 | r::rs,hw,hf,h=>by
  have xA:x3 c rs:=fun x hx=>hw x (by simp[hx]);have fA:∀r∈rs,∀p,r.bP[c]?=some p->Fits f many p:=fun x hx=>hf x (by simp[hx]);obtain⟨SK,Tn⟩:=qv (c:=c) (many:=many) (f:=f) rs xA fA;obtain⟨p,hp⟩:=hw.get (r:=r) (by simp);rw[nw,a8.step_eq hp];have hh:p.free=false∨∃r∈rs,∃p,r.bP[c]?=some p∧p.free=false:=by
   obtain⟨r',xy,q,hq,h1⟩:=h;rcases List.mem_cons.1 xy with rfl|xy
   ·rw[hp]at hq;cases hq;exact .inl h1
   exact .inr ⟨r',xy,q,hq,h1⟩
  have CG:=Ad hp;have DO:=p.Cc;by_cases hk:p.free=true∨f p=true
  ·have hr:=sG hp (hf r (by simp) p hp) hk;rw[if_pos hk];simp only[List.singleton_append,kU];rcases hh with h1|hh
   ·rw[h1]at hr;simp only[Bool.false_eq_true,if_false]at hr;omega
   have:=hH rs xA fA hh;omega
  rw[if_neg hk];simp only[List.nil_append,kU];rcases hh with h1|hh
  ·rw[h1]at DO;simp only[Bool.false_eq_true,if_false]at DO;omega
  have:=hH rs xA fA hh;omega
theorem lY{c many:Nat}{f:Pat->Bool}{rows:List a8}(hw:x3 c rows){x:a8}(h:x∈aW c f many rows):∃r∈rows,∃p,r.bP[c]?=some p∧(p.free=true∨f p=true)∧x=⟨r.ix,mr c many r p⟩:=by
 obtain⟨r,hr,e⟩:=List.mem_filterMap.1 h;obtain⟨p,hp⟩:=hw.get hr;rw[a8.step_eq hp]at e;split at e
 ·rename_i hk;simp only[Option.some.injEq]at e;exact⟨r,hr,p,hp,hk,e.symm⟩
 cases e
theorem pJ(k:Nat):∀(cs:List fa) (n:Nat) (acc eJ:List (ByteArray×K)),fD k n cs acc=some eJ->(cs.map fa.name).Nodup∧∀c∈cs,find acc c.name=none
 | [],n,acc,eJ,h=>⟨.nil,fun c hc=>by cases hc⟩
 | c::r,n,acc,eJ,h=>by
  rw[fD]at h;cases hf:find acc c.name with
  | some z =>
   rw[hf]at h;cases h
  | none =>
   rw[hf]at h;obtain⟨h1,h2⟩:=pJ k r (n+1) _ eJ h;have hold:∀x∈r,find acc x.name=none∧x.name≠c.name:=fun x hx=>by
    have:=h2 x hx;rw[mD]at this;cases hq:find acc x.name with
    | some z =>
     rw[hq]at this;cases this
    | none =>
     rw[hq]at this;simp only at this;split at this
     ·cases this
     rename_i e;exact⟨rfl,fun q=>e q.symm⟩
   refine⟨?_,fun x hx=>?_⟩
   ·rw[List.map_cons,List.nodup_cons];refine⟨fun hm=>?_,h1⟩;obtain⟨x,hx,e⟩:=List.mem_map.1 hm;exact(hold x hx).2 e
   rcases List.mem_cons.1 hx with rfl|hx
   ·exact hf
   exact(hold x hx).1
theorem oo:∀(ds:List Data) (k:Nat) (acc eJ:List (ByteArray×K)),cK k ds acc=some eJ->∀d∈ds,(d.cons.map fa.name).Nodup
 | [],_,_,_,_,d,hd=>by cases hd
 | x::r,k,acc,eJ,h,d,hd=>by
  rw[cK]at h;cases hc:fD k 0 x.cons acc with
  | none =>
   rw[hc]at h;cases h
  | some Ll =>
   rw[hc]at h;rcases List.mem_cons.1 hd with rfl|hd
   ·exact(pJ k _ 0 _ _ hc).1
   exact oo r (k+1) Ll eJ h d hd
theorem lK{datas:List Data}{t:bF}(h:build datas=some t):∀d∈t.datas,(d.cons.map fa.name).Nodup:=by
 have hd:=(zX h).2;rw[hd];unfold build at h;cases ha:cK 0 datas []with
 | none =>
  rw[ha]at h;cases h
 | some l=>exact oo datas 0 [] l ha
theorem y4{t:bF}{p:Pat}(h:t.pattern p=0)(h3:p.kind=3):∀a∈p.args,t.pattern a=0:=by
 rw[bF.jV,h3,if_neg (by decide),if_neg (by decide),if_neg (by decide),if_pos rfl]at h;cases hf:find t.cons p.name with
 | none =>
  rw[hf]at h;cases h
 | some K =>
  rw[hf]at h;simp only at h;split at h
  ·exact(gF t).1 h
  cases h
theorem A3{t:bF}{p:Pat}(h:t.pattern p=0)(h2:p.kind=2):-1073741824<=p.n∧p.n<=1073741823:=by
 rw[bF.jV,h2,if_neg (by decide),if_neg (by decide),if_pos rfl]at h;split at h
 ·cases h
 split at h
 ·cases h
 omega
structure xU(t:bF)(rows:List a8)(tys:List Ty):Prop where
 nodup:∀d∈t.datas,(d.cons.map fa.name).Nodup
 ok:∀r∈rows,∀p∈r.bP,t.pattern p=0
 ix:∀r∈rows,0<=r.ix
 EU:nK t
 len:rows.length<=64
 typed:∀r∈rows,bt t r.bP tys
 wf:ug t tys
 nodes:∀r∈rows,∀p∈r.bP,p.nodes<=400
theorem xU.wide{t:bF}{rows:List a8}{tys:List Ty}(h:xU t rows tys){c:Nat}(hc:c<tys.length):x3 c rows:=fun r hr=>by
 rw[(h.typed r hr).len];exact hc
theorem ug.append{t:bF}{a b:List Ty}(h:ug t a)(k:ug t b):ug t (a++b):=fun ty eW=>by
 rcases List.mem_append.1 eW with q|q
 ·exact h ty q
 exact k ty q
theorem xU.narrow{t:bF}{rows:List a8}{tys:List Ty}(h:xU t rows tys){c many:Nat}{f:Pat->Bool}{ty:Ty}{nt:List Ty}(hc:tys[c]?=some ty)(hn:nt.length=many)(hw:ug t nt)
  (hf:∀p:Pat,p.free=false->f p=true->p.kind=3->fC t p ty->bt t p.args nt):xU t (aW c f many rows) (tys.take c++(tys.drop (c+1)++nt)) where
 EU:=h.EU
 nodup:=h.nodup
 ok:=fun x hx q hq=>by
  obtain⟨r,hr,p,hp,hk,rfl⟩:=lY (h.wide (List.getElem?_eq_some_iff.1 hc).1) hx;have hN:=h.ok r hr;simp only[mr]at hq;rcases List.mem_append.1 hq with hq|hq
  ·exact hN q (List.mem_of_mem_take hq)
  rcases List.mem_append.1 hq with hq|hq
  ·exact hN q (List.mem_of_mem_drop hq)
  split at hq
  ·rename_i hh;exact y4 (hN p (List.mem_of_getElem? hp)) hh.2 q hq
  rw[(List.mem_replicate.1 hq).2];simp[bF.jV,Pat.any,Pat.kind]
 ix:=fun x hx=>by
  obtain⟨r,hr,p,hp,hk,rfl⟩:=lY (h.wide (List.getElem?_eq_some_iff.1 hc).1) hx;exact h.ix r hr
 len:=Nat.le_trans (fJ _ _ _ _) h.len
 typed:=fun x hx=>by
  obtain⟨r,hr,p,hp,hk,rfl⟩:=lY (h.wide (List.getElem?_eq_some_iff.1 hc).1) hx;obtain⟨h1,h2,h3⟩:=(h.typed r hr).parts hc hp;refine h1.append (h3.append ?_);split
  ·rename_i hh;exact hf p hh.1 (by simpa[hh.1]using hk) hh.2 h2
  rw[<-hn];exact bt.E6
 wf:=ug.append (fun ty eW=>h.wf ty (List.mem_of_mem_take eW)) (ug.append (fun ty eW=>h.wf ty (List.mem_of_mem_drop eW)) hw)
 nodes:=fun x hx q hq=>by
  obtain⟨r,hr,p,hp,hk,rfl⟩:=lY (h.wide (List.getElem?_eq_some_iff.1 hc).1) hx;have hN:=h.nodes r hr;simp only[mr]at hq;rcases List.mem_append.1 hq with hq|hq
  ·exact hN q (List.mem_of_mem_take hq)
  rcases List.mem_append.1 hq with hq|hq
  ·exact hN q (List.mem_of_mem_drop hq)
  split at hq
  ·have h1:=iZ hq;have h2:=hN p (List.mem_of_getElem? hp);rw[Pat.fX]at h2;omega
  rw[(List.mem_replicate.1 hq).2];simp[Pat.any,Pat.nodes,bX]
theorem fC.kind{t:bF}{p:Pat}{ty:Ty}(h:fC t p ty)(hf:p.free=false):(p.kind=2∧ty=.int)∨(p.kind=3∧∃i f K,ty=.data i f∧find t.cons p.name=some K∧K.data=i∧bt t p.args (f p.name)):=by
 by_cases h2:p.kind=2
 ·exact .inl ⟨h2,h.int hf h2⟩
 exact .inr (h.gu hf h2)
def dB:List a8->List lE->Option Int->Prop
 | [],_,o=>o=none
 | r::rs,vs,o=>(eY r.bP vs∧o=some r.ix)∨(¬eY r.bP vs∧dB rs vs o)
theorem u7:∀(rows:List a8) (vs:List lE),∃o,dB rows vs o
 | [],_=>⟨none,rfl⟩
 | r::rs,vs=>by
  by_cases h:eY r.bP vs
  ·exact⟨_,.inl ⟨h,rfl⟩⟩
  obtain⟨o,ho⟩:=u7 rs vs;exact⟨o,.inr ⟨h,ho⟩⟩
theorem rj:∀{rows:List a8} {vs:List lE},dB rows vs none↔∀r∈rows,¬eY r.bP vs
 | [],_=>by simp[dB]
 | r::rs,vs=>by
  simp[dB,rj (rows:=rs)]
theorem rk:∀{rows:List a8} {vs:List lE} {k:Int},dB rows vs (some k)↔∃a r b,rows=a++r::b∧r.ix=k∧eY r.bP vs∧∀x∈a,¬eY x.bP vs
 | [],_,_=>by simp[dB]
 | r::rs,vs,k=>by
  have ih:=rk (rows:=rs) (vs:=vs) (k:=k);simp only[dB];constructor
  ·rintro(⟨h,e⟩|⟨h,h2⟩)
   ·cases e;exact⟨[],r,rs,rfl,rfl,h,by simp⟩
   obtain⟨a,x,b,e,h3,h4,h5⟩:=ih.1 h2;refine⟨r::a,x,b,by rw[e];rfl,h3,h4,fun y hy=>?_⟩;rcases List.mem_cons.1 hy with rfl|hy
   ·exact h
   exact h5 y hy
  rintro⟨a,x,b,e,h3,h4,h5⟩;cases a with
  | nil =>
   cases e;exact .inl ⟨h4,by rw[h3]⟩
  | cons y a =>
   cases e;exact .inr ⟨h5 _ (by simp),ih.2 ⟨a,x,b,rfl,h3,h4,fun z hz=>h5 z (by simp[hz])⟩⟩
theorem jt{g:a8->Option a8}{X Y:List lE}{o:Option Int}:∀{rows:List a8},(∀r∈rows,match g r with
  | none=>¬eY r.bP X
  | some r'=>r'.ix=r.ix∧(eY r'.bP Y↔eY r.bP X))->(dB (rows.filterMap g) Y o↔dB rows X o)
 | [],_=>by simp[dB]
 | r::rs,h=>by
  have ih:=jt (g:=g) (X:=X) (Y:=Y) (o:=o) (rows:=rs) fun x hx=>h x (by simp[hx]);have hr:=h r (by simp);rw[List.filterMap_cons];cases e:g r with
  | none =>
   rw[e]at hr;simp only at hr ⊢;rw[ih];simp only[dB];constructor
   ·intro k;exact .inr ⟨hr,k⟩
   rintro(⟨k,_⟩|⟨_,k⟩)
   ·exact absurd k hr
   exact k
  | some r' =>
   rw[e]at hr;simp only at hr ⊢;simp only[dB,ih,hr.1,hr.2]
theorem pr{l:List Pat}{c:Nat}{p:Pat}(hp:l[c]?=some p){us ws:List lE}{v:lE}(hu:us.length=c):eY l (us++v::ws)↔eY (l.take c) us∧GG p v∧eY (l.drop (c+1)) ws:=by
 have hc:c<l.length:=(List.getElem?_eq_some_iff.1 hp).1;have e:=jZ hp
 conv=>lhs;rw[e]
 rw[fH (by rw[List.length_take,hu];omega)];simp only[eY];constructor
 ·rintro⟨a,y,ys,e,h1,h2⟩;cases e;exact⟨a,h1,h2⟩
 rintro⟨a,h1,h2⟩;exact⟨a,v,ws,rfl,h1,h2⟩
theorem sy{r:a8}{c many:Nat}{p:Pat}(hp:r.bP[c]?=some p){us ws xs:List lE}(hu:us.length=c)(hw:c+1+ws.length=r.bP.length)(hlen:p.free=false->p.kind=3->p.args.length=xs.length)(hm:xs.length=many) :
  eY (mr c many r p) (us++(ws++xs))↔eY (r.bP.take c) us∧eY (r.bP.drop (c+1)) ws∧(if p.free=false∧p.kind=3 then eY p.args xs else True):=by
 unfold mr;rw[fH (by rw[List.length_take,hu];omega),fH (by rw[List.length_drop];omega)];split
 ·rfl
 have:=sx (n:=many) (u:=xs) hm;simp[this]
theorem Fv{t:bF}{rows:List a8}{tys:List Ty}(h:xU t rows tys){c:Nat}{i:Nat}{F:ByteArray->List Ty}(hc:tys[c]?=some (.data i F)){s:ByteArray}{us xs ws:List lE}(hu:us.length=c)(hw:c+1+ws.length=tys.length)(ha:xs.length=(F s).length)(o:Option Int) :
  dB (aW c (fun p=>decide (p.name=s)) (F s).length rows) (us++(ws++xs)) o↔dB rows (us++.gu s xs::ws) o:=by
 refine jt fun r hr=>?_;obtain⟨p,hp⟩:=(h.wide (List.getElem?_eq_some_iff.1 hc).1).get hr;obtain⟨h1,h2,h3⟩:=(h.typed r hr).parts hc hp;have hl:=(h.typed r hr).len;rw[a8.step_eq hp];have hk:p.free=false->p.kind=3∧(p.name=s->p.args.length=xs.length):=fun cx=>by
  rcases h2.kind cx with⟨_,e⟩|⟨k3,i',f',K,e,_,_,dt⟩
  ·cases e
  cases e;refine⟨k3,fun e=>?_⟩;rw[<-e]at ha;rw[ha,dt.len]
 by_cases kn:p.free=true∨decide (p.name=s)=true
 ·rw[if_pos kn];refine⟨rfl,?_⟩;rw[sy hp hu (by omega) (fun h1 h2=>(hk h1).2 (by simpa[h1]using kn)) ha,pr hp hu,gH];cases cx:p.free with
  | true=>simp
  | false =>
   have hn:p.name=s:=by simpa[cx]using kn
   have k3:=(hk cx).1;simp only[Bool.false_eq_true,if_false,k3,true_and,if_true];rw[if_neg (by decide)];constructor
   ·rintro⟨a,b,d⟩;exact⟨a,⟨xs,by rw[hn],d⟩,b⟩
   rintro⟨a,⟨vs,e,d⟩,b⟩;cases e;exact⟨a,b,d⟩
 rw[if_neg kn];intro eS;rw[pr hp hu,gH]at eS;have cx:p.free=false:=by
  cases hq:p.free with
  | true=>exact absurd (.inl hq) kn
  | false=>rfl
 rw[cx]at eS;have k3:=(hk cx).1;simp only[Bool.false_eq_true,if_false,k3]at eS;rw[if_neg (by decide)]at eS;obtain⟨_,⟨vs,e,_⟩,_⟩:=eS;cases e;exact kn (.inr (by simp))
theorem Ct{t:bF}{rows:List a8}{tys:List Ty}(h:xU t rows tys){c:Nat}(hc:tys[c]?=some .int){n:Int}{us ws:List lE}(hu:us.length=c)(hw:c+1+ws.length=tys.length)(o:Option Int) :
  dB (aW c (fun p=>decide (p.n=n)) 0 rows) (us++(ws++[])) o↔dB rows (us++.int n::ws) o:=by
 refine jt fun r hr=>?_;obtain⟨p,hp⟩:=(h.wide (List.getElem?_eq_some_iff.1 hc).1).get hr;obtain⟨h1,h2,h3⟩:=(h.typed r hr).parts hc hp;have hl:=(h.typed r hr).len;rw[a8.step_eq hp];have hk:p.free=false->p.kind=2:=fun cx=>by
  rcases h2.kind cx with⟨k2,_⟩|⟨_,_,_,_,e,_⟩
  ·exact k2
  cases e
 by_cases kn:p.free=true∨decide (p.n=n)=true
 ·rw[if_pos kn];refine⟨rfl,?_⟩;rw[sy (xs:=[]) (many:=0) (ws:=ws) hp hu (by omega) (fun h1 h2=>by rw[hk h1]at h2;cases h2) rfl,pr hp hu,gH];cases cx:p.free with
  | true=>simp
  | false =>
   have hn:p.n=n:=by simpa[cx]using kn
   simp[hk cx,hn]
 rw[if_neg kn];intro eS;rw[pr hp hu,gH]at eS;have cx:p.free=false:=by
  cases hq:p.free with
  | true=>exact absurd (.inl hq) kn
  | false=>rfl
 rw[cx]at eS;simp only[Bool.false_eq_true,if_false,hk cx,if_true]at eS;obtain⟨_,e,_⟩:=eS;cases e;exact kn (.inr (by simp))
theorem sY{t:bF}{rows:List a8}{tys:List Ty}(h:xU t rows tys){c:Nat}{ty:Ty}(hc:tys[c]?=some ty){v:lE}{us ws:List lE}(hu:us.length=c)(hw:c+1+ws.length=tys.length)(hv:∀r∈rows,∀p,r.bP[c]?=some p->p.free=false->¬GG p v)(o:Option Int) :
  dB (aW c (fun _=>false) 0 rows) (us++(ws++[])) o↔dB rows (us++v::ws) o:=by
 refine jt fun r hr=>?_;obtain⟨p,hp⟩:=(h.wide (List.getElem?_eq_some_iff.1 hc).1).get hr;have hl:=(h.typed r hr).len;rw[a8.step_eq hp];cases cx:p.free with
 | true =>
  rw[if_pos (.inl rfl)];refine⟨rfl,?_⟩;rw[sy (xs:=[]) (many:=0) (ws:=ws) hp hu (by omega) (fun h1=>by rw[cx]at h1;cases h1) rfl,pr hp hu,gH];simp[cx]
 | false =>
  rw[if_neg (by simp)];intro eS;rw[pr hp hu]at eS;exact hv r hr p hp cx eS.2.1
theorem BS.kf(s:BS)(t:bc):(t∈s.outs∧(s.add t).2=s∧∃k:Nat,(s.add t).1=k∧s.outs[k]?=some t)∨(t ∉ s.outs∧(s.add t).2 = { s with outs:=s.outs++[t] }∧(s.add t).1=s.outs.length):=by
 unfold BS.add idx;cases h:s.outs.findIdx? (fun x=>decide (x=t))with
 | none =>
  rw[List.findIdx?_eq_none_iff]at h;refine .inr ⟨fun hm=>?_,by simp,by simp⟩;have:=h t hm;simp at this
 | some k =>
  rw[List.findIdx?_eq_some_iff_getElem]at h;obtain⟨aN,e,_⟩:=h;have e:s.outs[k]=t:=by simpa using e
  have hn:¬((k:Int)<0):=by omega
  simp only[if_neg hn];refine .inl ⟨e ▸ List.getElem_mem _,trivial,k,rfl,by rw[List.getElem?_eq_getElem aN,e]⟩
def BS.KZ(s:BS):Nat:=if gP∈s.outs then 0 else 1
def BS.Room(s:BS)(d:Nat):Prop:=s.outs.length+s.KZ+d<=1+min s.many 4096∧s.outs.length+d<=s.many
structure jH(s s':BS)(B:Nat):Prop where
 pre:s.outs <+: s'.outs
 le:s.many<=s'.many
 full:s'.full=decide (4096<s'.many)
 room:∀d,s.Room d->s'.Room d
 top:s'.many<=max s.many 4096+B
 one:4096<s.many->s'.many<=s.many+1
theorem BS.GM{s:BS}{t:bc}{d:Nat}(h:s.Room (d+1)):(s.add t).2.Room d:=by
 obtain⟨h1,h2⟩:=h;rcases s.kf t with⟨_,e,_⟩|⟨_,e,_⟩<;>rw[e]
 ·exact⟨by omega,by omega⟩
 refine⟨?_,?_⟩
 ·have hg:BS.KZ { s with outs:=s.outs++[t] }<=s.KZ:=by
   unfold BS.KZ;by_cases hm:gP∈s.outs
   ·rw[if_pos hm,if_pos (by simp[hm])];exact Nat.le_refl _
   rw[if_neg hm];split<;>omega
  simp only[List.length_append,List.length_singleton];omega
 simp only[List.length_append,List.length_singleton];omega
theorem BS.GL{s:BS}{d:Nat}(h1:s.outs.length+s.KZ+d<=1+min s.many 4096)(h2:s.outs.length+d+1<=s.many):(s.add gP).2.Room d:=by
 rcases s.kf gP with⟨_,e,_⟩|⟨hn,e,_⟩<;>rw[e]
 ·exact⟨by omega,by omega⟩
 have h0:s.KZ=1:=if_neg hn;refine⟨?_,?_⟩
 ·have hg:BS.KZ { s with outs:=s.outs++[gP] }=0:=if_pos (by simp);simp only[List.length_append,List.length_singleton,hg];omega
 simp only[List.length_append,List.length_singleton];omega
theorem BS.mZ(s:BS)(t:bc):s.outs <+: (s.add t).2.outs:=by
 rcases s.kf t with⟨_,e,_⟩|⟨_,e,_⟩<;>rw[e]
 ·exact List.prefix_refl _
 exact List.prefix_append _ _
theorem BS.gw(s:BS)(t:bc):(s.add t).2.many=s.many∧(s.add t).2.full=s.full:=by
 rcases s.kf t with⟨_,e,_⟩|⟨_,e,_⟩<;>rw[e]<;>exact⟨rfl,rfl⟩
theorem BS.add_get(s:BS)(t:bc):∃k:Nat,(s.add t).1=k∧(s.add t).2.outs[k]?=some t:=by
 rcases s.kf t with⟨_,e,k,h1,h2⟩|⟨_,e,h1⟩
 ·exact⟨k,h1,by rw[e,h2]⟩
 exact⟨s.outs.length,h1,by rw[e];simp⟩
theorem BS.eE{s:BS}(h:s.full=decide (4096<s.many)):s.count.full=decide (4096<s.count.many):=by
 simp only[BS.count,h];by_cases h1:4096<s.many
 ·simp[h1];omega
 simp[h1]
theorem BS.gE(s:BS):s.count.KZ=s.KZ:=rfl
theorem BS.dz(s:BS):s.count.outs=s.outs:=rfl
theorem BS.cM(s:BS):s.count.many=s.many+1:=rfl
theorem BS.g7{s:BS}(h:s.full=decide (4096<s.many))(hn:s.count.full=false):s.many+1<=4096:=by
 rw[BS.eE h,BS.cM]at hn;simpa using hn
theorem jH.SQ{s:BS}(h:s.full=decide (4096<s.many)):jH s s 0 where
 pre:=List.prefix_refl _
 le:=Nat.le_refl _
 full:=h
 room:=fun _ h=>h
 top:=by omega
 one:=fun _=>by omega
theorem vx{s:BS}(h:s.full=decide (4096<s.many))(B:Nat):jH s (s.count.add gP).2 (B+1) where
 pre:=s.count.mZ gP
 le:=by
  rw[(s.count.gw _).1];simp[BS.count]
 full:=by
  rw[(s.count.gw _).1,(s.count.gw _).2];exact BS.eE h
 room:=fun d hd=>BS.GL (by
  have h1:=hd.1;simp only[BS.gE,BS.dz,BS.cM];omega) (by
  have h2:=hd.2;simp only[BS.gE,BS.dz,BS.cM];omega)
 top:=by
  rw[(s.count.gw _).1];simp only[BS.gE,BS.dz,BS.cM];omega
 one:=fun _=>by
  rw[(s.count.gw _).1];exact Nat.le_refl _
theorem vy{s s1:BS}(h:s.full=decide (4096<s.many))(hf:s.count.full=false){B:Nat}(hm:jH s.count s1 B)(t:bc):jH s (s1.add t).2 B where
 pre:=(show s.outs <+: s1.outs from hm.pre).trans (s1.mZ t)
 le:=by
  rw[(s1.gw _).1];have:=hm.le;simp only[BS.gE,BS.dz,BS.cM]at this;omega
 full:=by
  rw[(s1.gw _).1,(s1.gw _).2];exact hm.full
 room:=fun d hd=>by
  have hf:=BS.g7 h hf;refine BS.GM (hm.room _ ⟨?_,?_⟩)
  ·have:=hd.1;simp only[BS.gE,BS.dz,BS.cM];omega
  have:=hd.2;simp only[BS.gE,BS.dz,BS.cM];omega
 top:=by
  rw[(s1.gw _).1];have hf:=BS.g7 h hf;have:=hm.top;simp only[BS.gE,BS.dz,BS.cM]at this;omega
 one:=fun hh=>by
  have hf:=BS.g7 h hf;omega
structure dr(s s':BS)(B n:Nat):Prop where
 pre:s.outs <+: s'.outs
 le:s.many<=s'.many
 full:s'.full=decide (4096<s'.many)
 room:∀d,s.Room d->s'.Room d
 top:s'.many<=max s.many 4096+B+n
theorem dr.start{s:BS}(h:s.full=decide (4096<s.many))(B:Nat):dr s s B 0 where
 pre:=List.prefix_refl _
 le:=Nat.le_refl _
 full:=h
 room:=fun _ h=>h
 top:=by omega
theorem dr.step{s s1 s2:BS}{B n:Nat}(h:dr s s1 B n)(k:jH s1 s2 B):dr s s2 B (n+1) where
 pre:=h.pre.trans k.pre
 le:=Nat.le_trans h.le k.le
 full:=k.full
 room:=fun d hd=>k.room d (h.room d hd)
 top:=by
  have h1:=h.top;have h2:=k.top;have h3:=k.one;have h4:=h.le;omega
theorem dr.pH{s s1:BS}{B n m:Nat}(h:dr s s1 B n)(hm:n<=m):dr s s1 B m where
 pre:=h.pre
 le:=h.le
 full:=h.full
 room:=h.room
 top:=by
  have h1:=h.top;omega
theorem dr.node{s s1:BS}(h:s.full=decide (4096<s.many))(hf:s.count.full=false){B n:Nat}(hm:dr s.count s1 B n)(t:bc):jH s (s1.add t).2 (B+n) :=
 vy h hf ⟨hm.pre,hm.le,hm.full,hm.room,by have:=hm.top;omega,fun hh=>by
  have hf:=BS.g7 h hf;simp only[BS.cM]at hh;omega⟩ t
def ke(f:oc)(B:Nat):Prop:=∀rows paths s,rows.length<=64->s.full=decide (4096<s.many)->jH s (f rows paths s).2 B
theorem jL{f:oc}{B:Nat}(hf:ke f B){rows:List a8}(hr:rows.length<=64){paths:List (List Int)}{c:Nat}:∀(l:List fa) (a:(List ByteArray×List Int)×BS) (s:BS) (n:Nat),dr s a.2 B n->dr s (l.foldl (cH f rows paths c) a).2 B (n+l.length)
 | [],a,s,n,h=>h
 | k::l,a,s,n,h=>by
  rw[List.foldl_cons];have h':dr s (cH f rows paths c a k).2 B (n+1):=by
   unfold cH;split
   ·exact h.step (hf _ _ _ (Nat.le_trans (fJ _ _ _ _) hr) h.full)
   exact h.pH (by omega)
  exact(jL hf hr l _ s (n+1) h').pH (by simp only[List.length_cons];omega)
theorem jf{f:oc}{B:Nat}(hf:ke f B){rows:List a8}(hr:rows.length<=64){paths:List (List Int)}{c:Nat}:∀(l:List a8) (a:(List Int×List Int)×BS) (s:BS) (n:Nat),dr s a.2 B n->dr s (l.foldl (b7 f rows paths c) a).2 B (n+l.length)
 | [],a,s,n,h=>h
 | k::l,a,s,n,h=>by
  rw[List.foldl_cons];have h':dr s (b7 f rows paths c a k).2 B (n+1):=by
   unfold b7;split
   ·exact h.pH (by omega)
   split
   ·exact h.pH (by omega)
   exact h.step (hf _ _ _ (Nat.le_trans (fJ _ _ _ _) hr) h.full)
  exact(jf hf hr l _ s (n+1) h').pH (by simp only[List.length_cons];omega)
theorem l5{f:oc}{B:Nat}(hf:ke f B){rows:List a8}(hr:rows.length<=64){paths:List (List Int)}{c:Nat}{s s1:BS}{n:Nat}(h:dr s s1 B n):dr s (mq f rows paths c s1).2 B (n+1) :=
 h.step (hf _ _ _ (Nat.le_trans (fJ _ _ _ _) hr) h.full)
theorem zD{f:oc}{B:Nat}(hf:ke f B){rows:List a8}(hr:rows.length<=64){paths:List (List Int)}{c:Nat}{s:BS}(h:s.full=decide (4096<s.many))(hn:s.count.full=false):jH s (j1 f rows paths c s.count).2 (B+65):=by
 unfold j1;have h1:=jf hf hr (paths:=paths) (c:=c) rows (([],[]),s.count) s.count 0 (dr.start (BS.eE h) B);exact((l5 hf hr h1).pH (by omega)).node h hn _
theorem Ag{f:oc}{B:Nat}(hf:ke f B){d:Data}(hd:d.cons.length<=256){rows:List a8}(hr:rows.length<=64){paths:List (List Int)}{c:Nat}{s:BS}(h:s.full=decide (4096<s.many))(hn:s.count.full=false):jH s (rb f d rows paths c s.count).2 (B+257):=by
 unfold rb;have h1:=jL hf hr (paths:=paths) (c:=c) d.cons (([],[]),s.count) s.count 0 (dr.start (BS.eE h) B);simp only;refine dr.node h hn ?_ _;split
 ·exact(l5 hf hr h1).pH (by omega)
 exact h1.pH (by omega)
theorem jH.pH{s s':BS}{B B':Nat}(h:jH s s' B)(hb:B<=B'):jH s s' B':=⟨h.pre,h.le,h.full,h.room,by have:=h.top;omega,h.one⟩
theorem tj{s:BS}(h:s.full=decide (4096<s.many))(B:Nat):jH s s.count (B+1) where
 pre:=List.prefix_refl _
 le:=by simp[BS.count]
 full:=BS.eE h
 room:=fun d hd=>⟨by
  have:=hd.1;simp only[BS.gE,BS.dz,BS.cM];omega,by
  have:=hd.2;simp only[BS.gE,BS.dz,BS.cM];omega⟩
 top:=by
  simp only[BS.gE,BS.dz,BS.cM];omega
 one:=fun _=>by simp[BS.count]
theorem dT{look:ByteArray->Option Data}(hl:∀s d,look s=some d->d.cons.length<=256):∀fu:Nat,ke (bm look fu) (300*fu)
 | 0=>fun rows paths s _ h=>jH.SQ h
 | fu+1=>fun rows paths s hr h=>by
  have ih:=dT hl fu;have LY:jH s s.count (300*(fu+1)):=(tj h 0).pH (by omega);unfold bm;split
  ·exact(vx h 0).pH (by omega)
  split
  ·exact(vx h 0).pH (by omega)
  rename_i hn;have hn:s.count.full=false:=by simpa using hn
  split
  ·exact(vy h hn (jH.SQ (BS.eE h)) _).pH (by omega)
  split
  ·exact LY
  split
  ·exact(zD ih hr h hn).pH (by omega)
  split
  ·exact LY
  rename_i d hd;exact(Ag ih (hl _ _ hd) hr h hn).pH (by omega)
def bw(t:bF)(s:ByteArray):Option Data:=(find t.cons s).map fun k=>eF t.datas k.data
structure tU(t:bF)(rows:List a8)(paths:List (List Int))(tys:List Ty):Prop where
 m:xU t rows tys
 len:paths.length=tys.length
 wide:paths.length+Dq rows<=2 ^ 19
 jz:∀q∈paths,q≠[]∧q.length+Dq rows<=2 ^ 19
 pos:∀q∈paths,∀x∈q,0<=x
structure mb(s:BS):Prop where
 full:s.full=decide (4096<s.many)
 room:s.Room 0
 many:s.many<=2 ^ 40
theorem mb.outs{s:BS}(h:mb s):s.outs.length<=2 ^ 20:=by
 have:=h.room.1;omega
theorem mb.count{s:BS}(h:mb s)(hn:s.count.full=false):mb s.count where
 full:=BS.eE h.full
 room:=(tj h.full 0).room 0 h.room
 many:=by
  have:=BS.g7 h.full hn;rw[BS.cM];omega
theorem mb.yZ{s s':BS}(h:mb s){B n:Nat}(hm:dr s s' B n)(hs:s.many<=4096)(hb:B+n<=2 ^ 39):mb s' where
 full:=hm.full
 room:=hm.room 0 h.room
 many:=by
  have:=hm.top;omega
def BD(rows:List a8)(c:Nat):Prop:=∃r∈rows,∃p,r.bP[c]?=some p∧p.free=false
theorem tU.child{t:bF}{rows:List a8}{paths:List (List Int)}{tys:List Ty}(h:tU t rows paths tys){c many:Nat}{f:Pat->Bool}{ty:Ty}{nt:List Ty}(hc:tys[c]?=some ty)(hn:nt.length=many)(hw:ug t nt)
  (hf:∀p:Pat,p.free=false->f p=true->p.kind=3->fC t p ty->bt t p.args nt) (CG:Dq (aW c f many rows)+1+many<=Dq rows) :
  tU t (aW c f many rows) (bR paths c many) (tys.take c++(tys.drop (c+1)++nt)):=by
 have aN:c<paths.length:=by
  rw[h.len];exact(List.getElem?_eq_some_iff.1 hc).1
 have hl:(bR paths c many).length+1=paths.length+many:=by
  unfold bR;rw[List.length_append,List.length_append,List.length_take,List.length_drop,rZ];omega
 have hm:paths[c]?.getD []∈paths:=by
  rw[List.getElem?_eq_getElem aN];exact List.getElem_mem _
 refine⟨h.m.narrow hc hn hw hf,?_,?_,fun q hq=>?_,fun q hq x hx=>?_⟩
 ·have:=h.len;rw[List.length_append,List.length_append,List.length_take,List.length_drop,hn];omega
 ·have:=h.wide;omega
 ·unfold bR at hq;rcases List.mem_append.1 hq with hq|hq
  ·have So:q∈paths:=by
    rcases List.mem_append.1 hq with hq|hq
    ·exact List.mem_of_mem_take hq
    exact List.mem_of_mem_drop hq
   have:=h.jz q So;exact⟨this.1,by have:=this.2;omega⟩
  obtain⟨k,_,rfl⟩:=List.mem_map.1 hq;have:=(h.jz _ hm).2;refine⟨by simp,?_⟩;rw[List.length_append,List.length_singleton];omega
 unfold bR at hq;rcases List.mem_append.1 hq with hq|hq
 ·rcases List.mem_append.1 hq with hq|hq
  ·exact h.pos q (List.mem_of_mem_take hq) x hx
  exact h.pos q (List.mem_of_mem_drop hq) x hx
 obtain⟨k,_,rfl⟩:=List.mem_map.1 hq;rcases List.mem_append.1 hx with hx|hx
 ·exact h.pos _ hm x hx
 rw[List.mem_singleton.1 hx];omega
theorem tU.other{t:bF}{rows:List a8}{paths:List (List Int)}{tys:List Ty}(h:tU t rows paths tys){c:Nat}{ty:Ty}(hc:tys[c]?=some ty)(ha:BD rows c) :
  tU t (aW c (fun _=>false) 0 rows) (bR paths c 0) (tys.take c++(tys.drop (c+1)++[]))∧kU (aW c (fun _=>false) 0 rows)+1<=kU rows:=by
 have hw:=h.m.wide (List.getElem?_eq_some_iff.1 hc).1;have iA:∀r∈rows,∀p,r.bP[c]?=some p->Fits (fun _=>false) 0 p:=fun _ _ _ _ _ e=>by cases e
 refine⟨h.child hc rfl (fun ty eW=>by cases eW) (fun _ _ e=>by cases e) (iP rows hw iA ?_),hH rows hw iA ha⟩;obtain⟨r,hr,p,hp,cx⟩:=ha;exact⟨r,hr,p,hp,cx,.inr rfl⟩
theorem tU.word{t:bF}{rows:List a8}{paths:List (List Int)}{tys:List Ty}(h:tU t rows paths tys){c:Nat}(hc:tys[c]?=some .int)(ha:BD rows c)(n:Int) :
  tU t (aW c (fun q=>decide (q.n=n)) 0 rows) (bR paths c 0) (tys.take c++(tys.drop (c+1)++[]))∧kU (aW c (fun q=>decide (q.n=n)) 0 rows)+1<=kU rows:=by
 have hw:=h.m.wide (List.getElem?_eq_some_iff.1 hc).1;have iA:∀r∈rows,∀p,r.bP[c]?=some p->Fits (fun q=>decide (q.n=n)) 0 p:=fun r hr p hp cx _=>by
  rcases((h.m.typed r hr).parts hc hp).2.1.kind cx with⟨k2,_⟩|⟨_,_,_,_,e,_⟩
  ·rw[k2,if_neg (by decide)]
  cases e
 refine⟨h.child hc rfl (fun ty eW=>by cases eW) (fun p cx _ h3 eW=>?_) (iP rows hw iA ?_),hH rows hw iA ha⟩
 ·rcases eW.kind cx with⟨k2,_⟩|⟨_,_,_,_,e,_⟩
  ·rw[k2]at h3;cases h3
  cases e
 obtain⟨r,hr,p,hp,cx⟩:=ha;exact⟨r,hr,p,hp,cx,.inr rfl⟩
theorem yB{r:a8}{c:Nat}{f:Pat->Bool}:r.has c f=true↔∃p,r.bP[c]?=some p∧p.free=false∧f p=true:=by
 unfold a8.has;cases h:r.bP[c]? with
 | none=>simp
 | some p=>simp
theorem tU.gu{t:bF}{rows:List a8}{paths:List (List Int)}{tys:List Ty}(h:tU t rows paths tys){c i:Nat}{F:ByteArray->List Ty}(hc:tys[c]?=some (.data i F)){d:Data}(hd:t.datas[i]?=some d){k:fa}(hk:k∈d.cons)(ha:rows.any (a8.has c fun p=>decide (p.name=k.name))=true) :
  (F k.name).length=k.args.length∧k.args.length<=400∧tU t (aW c (fun p=>decide (p.name=k.name)) k.args.length rows) (bR paths c k.args.length) (tys.take c++(tys.drop (c+1)++F k.name))∧kU (aW c (fun p=>decide (p.name=k.name)) k.args.length rows)+1<=kU rows:=by
 have hw:=h.m.wide (List.getElem?_eq_some_iff.1 hc).1;have OJ:=h.m.wf _ (List.mem_of_getElem? hc);have Mp:(F k.name).length=k.args.length∧ug t (F k.name):=by
  cases OJ with
  | data rz cA hl hw =>
   rw[hd]at rz;cases rz;exact⟨hl k hk,hw k hk⟩
 have dt:∀p:Pat,p.free=false->decide (p.name=k.name)=true->fC t p (.data i F)->p.kind=3∧bt t p.args (F k.name):=fun p cx hn eW=>by
  rcases eW.kind cx with⟨_,e⟩|⟨k3,i',F',K,e,_,_,ha⟩
  ·cases e
  cases e;have hn:p.name=k.name:=by simpa using hn
  rw[hn]at ha;exact⟨k3,ha⟩
 have iA:∀r∈rows,∀p,r.bP[c]?=some p->Fits (fun p=>decide (p.name=k.name)) k.args.length p:=fun r hr p hp cx hn=>by
  obtain⟨k3,ha⟩:=dt p cx hn ((h.m.typed r hr).parts hc hp).2.1;rw[if_pos k3,ha.len,Mp.1]
 obtain⟨r,hr,hh⟩:=List.any_eq_true.1 ha;obtain⟨p,hp,cx,hn⟩:=yB.1 hh;have Pk:k.args.length<=400:=by
  obtain⟨k3,ha⟩:=dt p cx hn ((h.m.typed r hr).parts hc hp).2.1;have h1:=h.m.nodes r hr p (List.mem_of_getElem? hp);have h2:=iY p.args;rw[Pat.fX]at h1;have:=ha.len;omega
 refine⟨Mp.1,Pk,h.child hc Mp.1 Mp.2 (fun p cx hn h3 eW=>(dt p cx hn eW).2) (iP rows hw iA ⟨r,hr,p,hp,cx,.inl hn⟩),hH rows hw iA ⟨r,hr,p,hp,cx⟩⟩
theorem tU.column{t:bF}{rows:List a8}{paths:List (List Int)}{tys:List Ty}(h:tU t rows paths tys){r:a8}(hr:r∈rows){c:Nat}{p:Pat}(hp:r.bP[c]?=some p)(cx:p.free=false) :
  ∃ty,tys[c]?=some ty∧BD rows c∧((p.kind=2∧ty=.int)∨(p.kind=3∧∃i F d K,ty=.data i F∧find t.cons p.name=some K∧K.data=i∧t.datas[i]?=some d∧bw t p.name=some d)):=by
 have aN:c<tys.length:=by
  rw[<-(h.m.typed r hr).len];exact(List.getElem?_eq_some_iff.1 hp).1
 refine⟨tys[c],by simp[aN],⟨r,hr,p,hp,cx⟩,?_⟩;rcases((h.m.typed r hr).parts (ty:=tys[c]) (by simp[aN]) hp).2.1.kind cx with⟨k2,e⟩|⟨k3,i,F,K,e,hf,hK,_⟩
 ·exact .inl ⟨k2,e⟩
 obtain⟨d,_,hd,_,_,_⟩:=h.m.EU.back _ _ hf;rw[hK]at hd;refine .inr ⟨k3,i,F,d,K,e,hf,hK,hd,?_⟩;unfold bw eF;rw[hf,Option.map_some,hK,hd];rfl
end Go.Proofs.YtkkookchlddbkaaGreat.V
namespace Go.Proofs.YtkkookchlddbkaaGreat.V
open Go.Av
theorem s9(l:List Int)(x:Int):aV Tryz.prog 20 [eI l,aI x] (aI (idx (fun y=>decide (x=y)) l)):=by
 refine zf true 0 Tryz.func20 Tryz.ntmps20 ?_;dsimp only[Tmp,TypeId,ax];refine aH ?_;simp -dsimp only[simprocAttr,↓aa,aE]
 (refine I ?_;simp -dsimp only[ai,ne_eq,Nat.reduceEqDiff,reduceCtorEq])
 refine bT 0 rfl (fun hlen=>?_);simp only[List.length_map]at hlen;refine cg ?_;simp -dsimp only[simprocAttr,↓aa,aE]
 (refine I ?_;simp -dsimp only[ai,ne_eq,Nat.reduceEqDiff,reduceCtorEq])
 refine aj (aO (ι:={k:Nat // k<=l.length∧∀j p,j<k->l[j]?=some p->decide (x=p)=false}) (fun k=>⟨19,[(0,eI l),(1,aI x),(7,.v (.int .i64 l.length)),(8,.v (.int .i64 k.1))],[]⟩) (fun k=>l.length-k.1) ⟨0,by omega,by intros;omega⟩ ?_ ?_)
 ·refine zq rfl ?_ ?_;simp -dsimp only[simprocAttr,↓aa,aE,zc];rfl
 rintro⟨k,hk,bq⟩;refine aH ?_;simp -dsimp only[simprocAttr,↓aa,aE]
 (refine I ?_;simp -dsimp only[ai,ne_eq,Nat.reduceEqDiff,reduceCtorEq])
 apply gr rfl<;>intro h
 ·(refine au ?_;simp -dsimp only[ai,ne_eq,Nat.reduceEqDiff,reduceCtorEq])
  have aN:k<l.length:=by simpa using h
  obtain⟨p,hp⟩:∃p,l[k]?=some p:=⟨l[k],by simp[aN]⟩
  refine aG (aj ?_);refine aH ?_;simp -dsimp only[simprocAttr,↓aa,aE]
  (refine I ?_;simp -dsimp only[ai,ne_eq,Nat.reduceEqDiff,reduceCtorEq])
  refine aH ?_;simp -dsimp only[simprocAttr,↓aa,aE,hp]
  (refine I ?_;simp -dsimp only[ai,ne_eq,Nat.reduceEqDiff,reduceCtorEq])
  apply aQ rfl<;>intro h
  ·refine aH ?_;simp -dsimp only[simprocAttr,↓aa,aE]
   (refine I ?_;simp -dsimp only[ai,ne_eq,Nat.reduceEqDiff,reduceCtorEq])
   refine ak ?_;simp -dsimp only[simprocAttr,↓aa,aE,zr,Tryz.results20];rw[jw hp h bq]
  (refine au ?_;simp -dsimp only[ai,ne_eq,Nat.reduceEqDiff,reduceCtorEq])
  have hb:decide (x=p)=false:=by simpa using h
  refine fq ?_;simp -dsimp only[simprocAttr,↓aa,aE];refine⟨by omega,by omega,?_⟩
  (refine I ?_;simp -dsimp only[ai,ne_eq,Nat.reduceEqDiff,reduceCtorEq])
  refine⟨⟨k+1,aN,fun j q hj hq=>?_⟩,by simp;omega,?_⟩
  ·rcases Nat.lt_succ_iff_lt_or_eq.1 hj with hj|hj
   ·exact bq j q hj hq
   subst hj;rw[hp]at hq;simp only[Option.some.injEq]at hq;rw[<-hq];exact hb
  refine zq rfl ?_ ?_;simp -dsimp only[simprocAttr,↓aa,aE,zc]
  ·exact Sub.int (by simp)
  rfl
 refine aM ?_;simp -dsimp only[ai,ne_eq,Nat.reduceEqDiff,reduceCtorEq];have aN:k=l.length:=by simp at h;omega
 subst aN;refine aH ?_;simp -dsimp only[simprocAttr,↓aa,aE]
 (refine I ?_;simp -dsimp only[ai,ne_eq,Nat.reduceEqDiff,reduceCtorEq])
 refine ak ?_;simp -dsimp only[simprocAttr,↓aa,aE,zr,Tryz.results20];rw[jv bq]
theorem oC(l:List Int)(x:Int):aV Tryz.prog 66 [eI l,aI x] (.v (.bool (decide (x∈l)))):=by
 refine zf true 0 Tryz.func66 Tryz.ntmps66 ?_;dsimp only[Tmp,TypeId,ax];refine aH ?_;simp -dsimp only[simprocAttr,↓aa,aE]
 (refine I ?_;simp -dsimp only[ai,ne_eq,Nat.reduceEqDiff,reduceCtorEq])
 refine aH ?_;simp -dsimp only[simprocAttr,↓aa,aE];refine .inl ⟨_,s9 l x,by simp only[aq,ae.upto,zt,iF],ah ?_⟩;simp -dsimp only[simprocAttr,↓aa,aE]
 (refine I ?_;simp -dsimp only[ai,ne_eq,Nat.reduceEqDiff,reduceCtorEq])
 refine ak ?_;simp -dsimp only[simprocAttr,↓aa,aE,zr,Tryz.results66];rw[np];have:l.any (fun y=>decide (x=y))=decide (x∈l):=by
  rw[Bool.eq_iff_iff];simp[List.any_eq_true]
 rw[this]
def lN(t:bF):ae:=.im .str (t.cons.map (fQ t.datas))
theorem fE(t:bF)(n:Nat):(lN t).upto n:=yS _ _ _
def qK(t:bF)(fu:Nat):Prop:=∀rows paths tys s,tU t rows paths tys->mb s->kU rows<fu->aY Tryz.prog 15 (s.objs (lN t)) [.mp 0 0,eM rows,xn paths] fun r O'=>r=aI (bm (bw t) fu rows paths s).1∧O'=(bm (bw t) fu rows paths s).2.objs (lN t)
theorem c6(t:bF)(s:BS):∀o∈s.objs (lN t),o.upto 2:=BS.upto (fE t 2) _ _ _ _
theorem vE{t:bF}{fu:Nat}(ih:qK t fu){rows:List a8}{paths:List (List Int)}{tys:List Ty}{c:Nat}{ty:Ty}{s:BS}(h:tU t rows paths tys)(hc:tys[c]?=some ty)(ha:BD rows c)(hs:mb s)(FD:kU rows<=fu) :
  aY Tryz.prog 44 (s.objs (lN t)) [.mp 0 0,eM rows,xn paths,aI c] fun r O'=>r=aI (mq (bm (bw t) fu) rows paths c s).1∧O'=(mq (bm (bw t) fu) rows paths c s).2.objs (lN t):=by
 obtain⟨hp,aN⟩:=h.other hc ha;have tJ:=(List.getElem?_eq_some_iff.1 hc).1;have hlen:=h.len;have OK:=h.wide;have hb:=ih _ _ _ s hp hs (by omega);obtain⟨q,hq⟩:∃q,paths[c]?=some q:=⟨paths[c]'(by omega),by simp⟩
 have Sq:=h.jz q (List.mem_of_getElem? hq);have hN:=h.m.nodes;have HD:bR paths c 0=paths.take c++paths.drop (c+1)++qE q 0:=by
  unfold bR;rw[hq];rfl
 have rq:=h.m.len;unfold mq;generalize hR:bm (bw t) fu (aW c (fun _=>false) 0 rows) (bR paths c 0) s=R at hb ⊢;have fk:=c6 t s;have gz:=c6 t R.2;simp only[BS.objs]at hb fk gz ⊢;refine zf true 2 Tryz.func44 Tryz.ntmps44 ?_;dsimp only[Tmp,TypeId,ax];refine aH ?_;simp -dsimp only[simprocAttr,↓aa,aE]
 (refine I ?_;simp -dsimp only[ai,ne_eq,Nat.reduceEqDiff,reduceCtorEq])
 refine aH ?_;simp -dsimp only[simprocAttr,↓aa,aE];refine .inl ⟨_,nx rows c 0 (fun _=>false) 70 [] rfl (fun _=>trivial) (by omega) (by omega) (h.m.wide tJ) (fun r hr=>by have:=(h.m.typed r hr).len;omega) (fun r hr p hp=>by have:=hN r hr p hp;rw[Pat.fX]at this;have:=iY p.args;omega) (fun r hr p hp=>A2 p),by simp only[aq,ae.upto,zt,iF],ah ?_⟩;simp -dsimp only[simprocAttr,↓aa,aE];refine .inl ⟨_,p8 paths c 0 q hq Sq.1 (by omega) (by omega) (by omega),by simp only[aq,ae.upto,zt,iF],ah ?_⟩;simp -dsimp only[simprocAttr,↓aa,aE,<-HD];refine .inr (.inl ⟨_,_,hb,.inl (ah ?_)⟩);simp -dsimp only[simprocAttr,↓aa,aE]
 (refine I ?_;simp -dsimp only[ai,ne_eq,Nat.reduceEqDiff,reduceCtorEq])
 refine ak ?_;simp -dsimp only[simprocAttr,↓aa,aE,zr,Tryz.results44];exact gz
theorem xQ{f:oc}{rows:List a8}{paths:List (List Int)}{c:Nat}:∀(l:List a8) (a:(List Int×List Int)×BS),(l.foldl (b7 f rows paths c) a).1.1.length<=a.1.1.length+l.length∧(l.foldl (b7 f rows paths c) a).1.2.length<=a.1.2.length+l.length
 | [],a=>⟨Nat.le_refl _,Nat.le_refl _⟩
 | r::l,a=>by
  rw[List.foldl_cons];have ih:=xQ (f:=f) (rows:=rows) (paths:=paths) (c:=c) l (b7 f rows paths c a r);have hs:(b7 f rows paths c a r).1.1.length<=a.1.1.length+1∧(b7 f rows paths c a r).1.2.length<=a.1.2.length+1:=by
   unfold b7;split
   ·exact⟨by omega,by omega⟩
   split
   ·exact⟨by omega,by omega⟩
   simp
  simp only[List.length_cons];exact⟨by omega,by omega⟩
def r5(cm:ae)(q:List Int)(A:(List Int×List Int)×BS):List ay :=
 [.cells [cm,.aC 6 (A.2.outs.map bc.enc) (.tok 1),.v (.int .i64 A.2.many),.v (.bool A.2.full)],.spare A.2.outs.length,.cells [aI 3,aI 0,.aC 1 (q.map aI) .sh,.aC 1 [] .ex,.aC 1 (A.1.1.map aI) (.tok 3),.aC 1 (A.1.2.map aI) (.tok 4)],.spare A.1.1.length,.spare A.1.2.length]
theorem Dp{t:bF}{fu:Nat}(ih:qK t fu){rows:List a8}{paths:List (List Int)}{tys:List Ty}{c:Nat}{s:BS}(cX:tU t rows paths tys)(hc:tys[c]?=some .int)(ha:BD rows c)(hs:mb s)(vi:s.many<=4096)(FD:kU rows<=fu)(PF:fu<=1000)(hl:∀s d,bw t s=some d->d.cons.length<=256) :
  aY Tryz.prog 38 (s.objs (lN t)) [.mp 0 0,eM rows,xn paths,aI c] fun r O'=>r=aI (j1 (bm (bw t) fu) rows paths c s).1∧O'=(j1 (bm (bw t) fu) rows paths c s).2.objs (lN t):=by
 have tJ:=(List.getElem?_eq_some_iff.1 hc).1;have hlen:=cX.len;have OK:=cX.wide;obtain⟨q,hq⟩:∃q,paths[c]?=some q:=⟨paths[c]'(by omega),by simp⟩
 have Sq:=cX.jz q (List.mem_of_getElem? hq);have hN:=cX.m.nodes;have rq:=cX.m.len;have vq:∀k,mb ((rows.take k).foldl (b7 (bm (bw t) fu) rows paths c) (([],[]),s)).2:=fun k=>by
  refine hs.yZ (jf (dT hl fu) rq (rows.take k) (([],[]),s) s 0 (dr.start hs.full _)) vi ?_;simp only[List.length_take];omega
 have xw:∀k,((rows.take k).foldl (b7 (bm (bw t) fu) rows paths c) (([],[]),s)).1.1.length<=64∧((rows.take k).foldl (b7 (bm (bw t) fu) rows paths c) (([],[]),s)).1.2.length<=64:=fun k=>by
  have:=xQ (f:=bm (bw t) fu) (rows:=rows) (paths:=paths) (c:=c) (rows.take k) (([],[]),s);simp only[List.length_take,List.length_nil]at this;exact⟨by omega,by omega⟩
 unfold j1;simp only[BS.objs,hq,Option.getD_some];refine zf true 2 Tryz.func38 Tryz.ntmps38 ?_;dsimp only[Tmp,TypeId,ax];refine aH ?_;simp -dsimp only[simprocAttr,↓aa,aE]
 (refine I ?_;simp -dsimp only[ai,ne_eq,Nat.reduceEqDiff,reduceCtorEq])
 refine aH ?_;simp -dsimp only[simprocAttr,↓aa,aE,hq]
 (refine I ?_;simp -dsimp only[ai,ne_eq,Nat.reduceEqDiff,reduceCtorEq])
 refine gZ 2 4 rfl rfl ?_;simp -dsimp only[simprocAttr,↓aa,aE];refine gZ 2 5 rfl rfl ?_;simp -dsimp only[simprocAttr,↓aa,aE];refine cg ?_;simp -dsimp only[simprocAttr,↓aa,aE]
 (refine I ?_;simp -dsimp only[ai,ne_eq,Nat.reduceEqDiff,reduceCtorEq])
 refine aj (aO (ι:={k:Nat // k<=rows.length}) (fun k=>⟨75,[(9,.mp 2 0),(0,.mp 0 0),(1,eM rows),(2,xn paths),(3,aI c),(19,eM rows),(20,aI rows.length),(21,aI k.1)],r5 (lN t) q ((rows.take k.1).foldl (b7 (bm (bw t) fu) rows paths c) (([],[]),s))⟩) (fun k=>rows.length-k.1) ⟨0,by omega⟩ ?_ ?_)
 ·refine zq rfl ?_ ?_;simp -dsimp only[simprocAttr,↓aa,aE,zc];rfl
 rintro⟨k,hk⟩;have eo:=vq k;have hle:=xw k;simp only[r5];generalize hA:(rows.take k).foldl (b7 (bm (bw t) fu) rows paths c) (([],[]),s)=A at eo hle;refine aH ?_;simp -dsimp only[simprocAttr,↓aa,aE]
 (refine I ?_;simp -dsimp only[ai,ne_eq,Nat.reduceEqDiff,reduceCtorEq])
 apply gr rfl<;>intro h
 ·(refine au ?_;simp -dsimp only[ai,ne_eq,Nat.reduceEqDiff,reduceCtorEq])
  have aN:k<rows.length:=by simpa using h
  obtain⟨r,hr⟩:∃r,rows[k]?=some r:=⟨rows[k],by simp[aN]⟩
  have eN:=List.mem_of_getElem? hr;obtain⟨p,hp⟩:=(cX.m.wide tJ).get eN;have oL:(rows.take (k+1)).foldl (b7 (bm (bw t) fu) rows paths c) (([],[]),s)=b7 (bm (bw t) fu) rows paths c A r:=by
   rw[bN hr,List.foldl_append,hA];rfl
  refine aG (aj ?_);refine aH ?_;simp -dsimp only[simprocAttr,↓aa,aE,hr]
  (refine I ?_;simp -dsimp only[ai,ne_eq,Nat.reduceEqDiff,reduceCtorEq])
  refine aH ?_;simp -dsimp only[simprocAttr,↓aa,aE,hp]
  (refine I ?_;simp -dsimp only[ai,ne_eq,Nat.reduceEqDiff,reduceCtorEq])
  refine aR 12 6 (.ip none p.enc.cells) rfl (by simp[ay.aP]) trivial rfl ?_ ?_;rotate_left;simp -dsimp only[simprocAttr,↓aa,aE]
  ·refine cg ?_;simp -dsimp only[simprocAttr,↓aa,aE];refine .inl ⟨_,jU p,by simp only[aq,ae.upto,zt,iF],ah ?_⟩;simp -dsimp only[simprocAttr,↓aa,aE];refine cO (fun cx=>?_) (fun cx=>?_)
   ·have nm:p.free=false:=by simpa using cx
    simp -dsimp only[simprocAttr,↓aa,aE,nm];refine .inl ⟨_,oC A.1.1 p.n,by simp only[aq,ae.upto,zt,iF],ah ?_⟩;simp -dsimp only[simprocAttr,↓aa,aE]
    (refine I ?_;simp -dsimp only[ai,ne_eq,Nat.reduceEqDiff,reduceCtorEq])
    apply aQ rfl<;>intro h
    ·have K6:p.n∈A.1.1:=by simpa using h
     have he:b7 (bm (bw t) fu) rows paths c A r=A:=by
      unfold b7;rw[hp];simp[K6]
     refine aM ?_;simp -dsimp only[ai,ne_eq,Nat.reduceEqDiff,reduceCtorEq];refine ba 5 [(9,.mp 2 0),(0,.mp 0 0),(1,eM rows),(2,xn paths),(3,aI c),(19,eM rows),(20,aI rows.length),(21,aI k)] (by simp) (by omega) (r5 (lN t) q A) ?_ ?_ ?_ ?_ ?_
     ·rfl
     ·simp[r5,ay.upto,aq,ae.upto,fE,bc.an,aL]
     ·simp -dsimp only[simprocAttr,↓aa,aE,dy,exists_eq_left',Option.some.injEq,sub_self,and_true]
     ·simp[ae.upto,aq,a8.an,gM]
     refine fq ?_;simp -dsimp only[simprocAttr,↓aa,aE]
     repeat(refine⟨by omega,?_⟩)
     (refine I ?_;simp -dsimp only[ai,ne_eq,Nat.reduceEqDiff,reduceCtorEq])
     refine⟨⟨k+1,aN⟩,by simp;omega,?_⟩;refine zq rfl ?_ ?_;simp -dsimp only[simprocAttr,↓aa,aE,zc]
     ·exact Sub.int (by simp)
     rw[oL,he];rfl
    have K6:p.n ∉ A.1.1:=by simpa using h
    have PO:=nx rows c 0 (fun q'=>decide (q'.n=p.n)) 67 [.ip none [.v (.int .i64 p.kind),.v (.string p.name),.v (.int .i64 p.n),.aC 4 (p.args.map Pat.enc) .sh]] rfl (fun n=>by simp[aq,ae.upto,Pat.an]) (by omega) (by omega) (cX.m.wide tJ) (fun r hr=>by have:=(cX.m.typed r hr).len;omega) (fun r hr p hp=>by have:=hN r hr p hp;rw[Pat.fX]at this;have:=iY p.args;omega) (fun r' xy p' FN=>by have:=Br p' p none;rw[Pat.al p]at this;exact this);obtain⟨sb,On⟩:=cX.word hc ha p.n;have hb:=ih _ _ _ A.2 sb eo (by omega);have HD:bR paths c 0=paths.take c++paths.drop (c+1)++qE q 0:=by
     unfold bR;rw[hq];rfl
    have he:b7 (bm (bw t) fu) rows paths c A r=((A.1.1++[p.n],A.1.2++[(bm (bw t) fu (aW c (fun q=>decide (q.n=p.n)) 0 rows) (bR paths c 0) A.2).1]),(bm (bw t) fu (aW c (fun q=>decide (q.n=p.n)) 0 rows) (bR paths c 0) A.2).2):=by
     unfold b7;rw[hp];simp[nm,K6]
    have rD:=vq (k+1);rw[oL,he]at rD;generalize hR:bm (bw t) fu (aW c (fun q=>decide (q.n=p.n)) 0 rows) (bR paths c 0) A.2=R at hb he rD;have fk:=c6 t A.2;have gz:=c6 t R.2;simp only[BS.objs]at hb fk gz
    (refine au ?_;simp -dsimp only[ai,ne_eq,Nat.reduceEqDiff,reduceCtorEq])
    refine aH ?_;simp -dsimp only[simprocAttr,↓aa,aE];refine⟨by omega,by omega,?_⟩
    (refine I ?_;simp -dsimp only[ai,ne_eq,Nat.reduceEqDiff,reduceCtorEq])
    refine aH ?_;simp -dsimp only[simprocAttr,↓aa,aE]
    (refine I ?_;simp -dsimp only[ai,ne_eq,Nat.reduceEqDiff,reduceCtorEq])
    refine fq ?_;simp -dsimp only[simprocAttr,↓aa,aE];refine .inl ⟨_,PO,by simp only[aq,ae.upto,zt,iF],ah ?_⟩;simp -dsimp only[simprocAttr,↓aa,aE];refine .inl ⟨_,p8 paths c 0 q hq Sq.1 (by omega) (by omega) (by omega),by simp only[aq,ae.upto,zt,iF],ah ?_⟩;simp -dsimp only[simprocAttr,↓aa,aE,<-HD];refine .inr (.inl ⟨_,_,aY.frame hb rfl (by simp[aq,ae.upto,a8.an,gM]) fk [.cells [aI 3,aI 0,.aC 1 (q.map aI) .sh,.aC 1 [] .ex,.aC 1 (A.1.1.map aI++[aI p.n]) (.tok 3),.aC 1 (A.1.2.map aI) (.tok 4)],.spare (A.1.1.length+1),.spare A.1.2.length,.cells [.v (.int .i64 r.ix),.aC 4 (r.bP.map Pat.enc) .sh],.gone],.inr ⟨_,_,gm (O:=[_,_]) (O':=[_,_]) (X:=[.cells [aI 3,aI 0,.aC 1 (q.map aI) .sh,.aC 1 [] .ex,.aC 1 (A.1.1.map aI++[aI p.n]) (.tok 3),.aC 1 (A.1.2.map aI) (.tok 4)],.spare (A.1.1.length+1),.spare A.1.2.length,.cells [.v (.int .i64 r.ix),.aC 4 (r.bP.map Pat.enc) .sh],.gone]) rfl,ah ?_⟩⟩);simp -dsimp only[simprocAttr,↓aa,aE];refine⟨by omega,by omega,?_⟩;refine⟨ob (by kernel_rfl),?_⟩
    (refine I ?_;simp -dsimp only[ai,ne_eq,Nat.reduceEqDiff,reduceCtorEq])
    refine ba 5 [(9,.mp 2 0),(0,.mp 0 0),(1,eM rows),(2,xn paths),(3,aI c),(19,eM rows),(20,aI rows.length),(21,aI k)] (by simp) (by omega) (r5 (lN t) q ((A.1.1++[p.n],A.1.2++[R.1]),R.2)) ?_ ?_ ?_ ?_ ?_
    ·simp[r5]
    ·simp[r5,ay.upto,aq,ae.upto,fE,bc.an,aL,-List.map_append]
    ·simp -dsimp only[simprocAttr,↓aa,aE,dy,exists_eq_left',Option.some.injEq,sub_self,and_true]
    ·simp[ae.upto,aq,a8.an,gM]
    refine fq ?_;simp -dsimp only[simprocAttr,↓aa,aE]
    repeat(refine⟨by omega,?_⟩)
    (refine I ?_;simp -dsimp only[ai,ne_eq,Nat.reduceEqDiff,reduceCtorEq])
    refine⟨⟨k+1,aN⟩,by simp;omega,?_⟩;refine zq rfl ?_ ?_;simp -dsimp only[simprocAttr,↓aa,aE,zc]
    ·exact Sub.int (by simp)
    rw[oL,he];rfl
   have nm:p.free=true:=by simpa using cx
   have he:b7 (bm (bw t) fu) rows paths c A r=A:=by
    unfold b7;rw[hp];simp[nm]
   simp -dsimp only[simprocAttr,↓aa,aE,nm]
   (refine I ?_;simp -dsimp only[ai,ne_eq,Nat.reduceEqDiff,reduceCtorEq])
   refine de rfl ?_;refine aM ?_;simp -dsimp only[ai,ne_eq,Nat.reduceEqDiff,reduceCtorEq];refine ba 5 [(9,.mp 2 0),(0,.mp 0 0),(1,eM rows),(2,xn paths),(3,aI c),(19,eM rows),(20,aI rows.length),(21,aI k)] (by simp) (by omega) (r5 (lN t) q A) ?_ ?_ ?_ ?_ ?_
   ·rfl
   ·simp[r5,ay.upto,aq,ae.upto,fE,bc.an,aL]
   ·simp -dsimp only[simprocAttr,↓aa,aE,dy,exists_eq_left',Option.some.injEq,sub_self,and_true]
   ·simp[ae.upto,aq,a8.an,gM]
   refine fq ?_;simp -dsimp only[simprocAttr,↓aa,aE]
   repeat(refine⟨by omega,?_⟩)
   (refine I ?_;simp -dsimp only[ai,ne_eq,Nat.reduceEqDiff,reduceCtorEq])
   refine⟨⟨k+1,aN⟩,by simp;omega,?_⟩;refine zq rfl ?_ ?_;simp -dsimp only[simprocAttr,↓aa,aE,zc]
   ·exact Sub.int (by simp)
   rw[oL,he];rfl
  exact da.mp rfl (by rw[Pat.al];rfl)
 refine aM ?_;simp -dsimp only[ai,ne_eq,Nat.reduceEqDiff,reduceCtorEq];have gg:k=rows.length:=by simp at h;omega
 subst gg;rw[List.take_length]at hA;rw[hA];obtain⟨sb,On⟩:=cX.other hc ha;have hb:=vE ih cX hc ha eo FD;have hm:=l5 (paths:=paths) (c:=c) (dT hl fu) rq (jf (dT hl fu) rq (paths:=paths) (c:=c) rows (([],[]),s) s 0 (dr.start hs.full _));rw[hA]at hm;have rD:=hs.yZ hm vi (by omega);generalize hR:mq (bm (bw t) fu) rows paths c A.2=R at hb rD ⊢;have fk:=c6 t A.2;have gz:=c6 t R.2;simp only[BS.objs]at hb fk gz;refine aH ?_;simp -dsimp only[simprocAttr,↓aa,aE];refine .inr (.inl ⟨_,_,aY.frame hb rfl (by simp[aq,ae.upto,a8.an,gM]) fk [.cells [aI 3,aI 0,.aC 1 (q.map aI) .sh,.aC 1 [] .ex,.aC 1 (A.1.1.map aI) (.tok 3),.aC 1 (A.1.2.map aI) (.tok 4)],.spare A.1.1.length,.spare A.1.2.length],.inr ⟨_,_,gm (O:=[_,_]) (O':=[_,_]) (X:=[.cells [aI 3,aI 0,.aC 1 (q.map aI) .sh,.aC 1 [] .ex,.aC 1 (A.1.1.map aI) (.tok 3),.aC 1 (A.1.2.map aI) (.tok 4)],.spare A.1.1.length,.spare A.1.2.length]) rfl,ah ?_⟩⟩);simp -dsimp only[simprocAttr,↓aa,aE];refine⟨by omega,by omega,?_⟩;refine⟨ob (by kernel_rfl),?_⟩
 (refine I ?_;simp -dsimp only[ai,ne_eq,Nat.reduceEqDiff,reduceCtorEq])
 refine aR 9 2 (.ip none (bc.enc ⟨3,0,q,[],A.1.1,A.1.2++[R.1]⟩).cells) rfl (by simp[ay.aP]) trivial rfl ?_ ?_;rotate_left;simp -dsimp only[simprocAttr,↓aa,aE]
 ·have gl:=mM (lN t) (fE t 2) R.2 ⟨3,0,q,[],A.1.1,A.1.2++[R.1]⟩ rD.outs;have kr:=c6 t (R.2.add ⟨3,0,q,[],A.1.1,A.1.2++[R.1]⟩).2;generalize hZ:R.2.add ⟨3,0,q,[],A.1.1,A.1.2++[R.1]⟩=Z at gl kr;simp only[BS.objs]at gl kr;refine aH ?_;simp -dsimp only[simprocAttr,↓aa,aE];refine .inr (.inl ⟨_,_,aY.frame gl rfl (by simp[aq,ae.upto,bc.aF]) gz [.gone,.spare A.1.1.length,.spare (A.1.2.length+1)],.inr ⟨_,_,gm (O:=[_,_]) (O':=[_,_]) (X:=[.gone,.spare A.1.1.length,.spare (A.1.2.length+1)]) rfl,ah ?_⟩⟩);simp -dsimp only[simprocAttr,↓aa,aE]
  (refine I ?_;simp -dsimp only[ai,ne_eq,Nat.reduceEqDiff,reduceCtorEq])
  refine ak ?_;simp -dsimp only[simprocAttr,↓aa,aE,zr,Tryz.results38,hZ];exact kr
 exact da.mp rfl (by rw[List.drop_zero];simp only[bc.al,List.map_append];rfl)
theorem _root_.Go.Av.aY.vC{P:Program}{f:FuncId}{O:List ay}{args:List ae}{R:ae->List ay->Prop}(h:aY P f O (args.map ae.share) R):aY P f O args R:=⟨h.1,fun g vs hg ho ha=>h.2 g vs hg ho ha.share⟩
theorem uF{t:bF}{rows:List a8}{paths:List (List Int)}{s:BS}(hs:mb s)(hc:rows=[]∨s.count.full=true) :
  aY Tryz.prog 15 (s.objs (lN t)) [.mp 0 0,eM rows,xn paths] fun r O'=>r=aI (s.count.add gP).1∧O'=(s.count.add gP).2.objs (lN t):=by
 have rC:=hs.many;have vi:=hs.full;have gl:=aY.vC (args:=[.mp 0 0,.agg [aI 0,aI 0,.aC 1 [] .ex,.aC 1 [] .ex,.aC 1 [] .ex,.aC 1 [] .ex]]) (mM (lN t) (fE t 2) s.count gP (by have:=hs.outs;exact this));have RE:s.count.full=decide (4096<s.many+1):=BS.eE vi;have kr:=c6 t (s.count.add gP).2;generalize hZ:s.count.add gP=Z at gl kr;have Cz:((s.many+1:Nat):Int)=(s.many:Int)+1:=by omega
 have RJ:decide ((4096:Int)<(s.many:Int)+1)=decide (4096<s.many+1):=by
  rw[Bool.eq_iff_iff];simp only[decide_eq_true_eq];omega
 simp only[BS.objs,BS.dz,BS.cM,RE,Cz]at gl kr ⊢;have hb:(decide ((rows.length:Int)=0)=true)∨(decide ((rows.length:Int)=0)=false∧decide (4096<s.many+1)=true):=by
  rcases hc with e|e
  ·exact .inl (by simp[e])
  by_cases hn:rows=[]
  ·exact .inl (by simp[hn])
  exact .inr ⟨by simp[hn],by rw[<-RE];exact e⟩
 refine zf true 2 Tryz.func15 Tryz.ntmps15 ?_;dsimp only[Tmp,TypeId,ax];refine aH ?_;simp -dsimp only[simprocAttr,↓aa,aE]
 (refine I ?_;simp -dsimp only[ai,ne_eq,Nat.reduceEqDiff,reduceCtorEq])
 refine aH ?_;simp -dsimp only[simprocAttr,↓aa,aE];refine⟨by omega,by omega,?_⟩
 (refine I ?_;simp -dsimp only[ai,ne_eq,Nat.reduceEqDiff,reduceCtorEq])
 cases hf:s.full with
 | false =>
  refine aH ?_;simp -dsimp only[simprocAttr,↓aa,aE,hf,RJ]
  (refine I ?_;simp -dsimp only[ai,ne_eq,Nat.reduceEqDiff,reduceCtorEq])
  rcases hb with hb|⟨hb,hd⟩
  ·refine cg ?_;simp -dsimp only[simprocAttr,↓aa,aE,hb]
   (refine I ?_;simp -dsimp only[ai,ne_eq,Nat.reduceEqDiff,reduceCtorEq])
   refine de rfl ?_;refine aH ?_;simp -dsimp only[simprocAttr,↓aa,aE];refine .inr (.inl ⟨_,_,gl,.inl (ah ?_)⟩);simp -dsimp only[simprocAttr,↓aa,aE]
   (refine I ?_;simp -dsimp only[ai,ne_eq,Nat.reduceEqDiff,reduceCtorEq])
   refine ak ?_;simp -dsimp only[simprocAttr,↓aa,aE,zr,Tryz.results15];exact kr
  rw[hd]at gl;refine cg ?_;simp -dsimp only[simprocAttr,↓aa,aE,hb,hd]
  (refine I ?_;simp -dsimp only[ai,ne_eq,Nat.reduceEqDiff,reduceCtorEq])
  refine de rfl ?_;refine aH ?_;simp -dsimp only[simprocAttr,↓aa,aE];refine .inr (.inl ⟨_,_,gl,.inl (ah ?_)⟩);simp -dsimp only[simprocAttr,↓aa,aE]
  (refine I ?_;simp -dsimp only[ai,ne_eq,Nat.reduceEqDiff,reduceCtorEq])
  refine ak ?_;simp -dsimp only[simprocAttr,↓aa,aE,zr,Tryz.results15];exact kr
 | true =>
  have hd:decide (4096<s.many+1)=true:=by
   rw[hf]at vi;have:=of_decide_eq_true vi.symm;simp;omega
  rw[hd]at gl;refine aH ?_;simp -dsimp only[simprocAttr,↓aa,aE,hf,RJ]
  (refine I ?_;simp -dsimp only[ai,ne_eq,Nat.reduceEqDiff,reduceCtorEq])
  rcases hb with hb|⟨hb,_⟩
  ·refine cg ?_;simp -dsimp only[simprocAttr,↓aa,aE,hb]
   (refine I ?_;simp -dsimp only[ai,ne_eq,Nat.reduceEqDiff,reduceCtorEq])
   refine de rfl ?_;refine aH ?_;simp -dsimp only[simprocAttr,↓aa,aE];refine .inr (.inl ⟨_,_,gl,.inl (ah ?_)⟩);simp -dsimp only[simprocAttr,↓aa,aE]
   (refine I ?_;simp -dsimp only[ai,ne_eq,Nat.reduceEqDiff,reduceCtorEq])
   refine ak ?_;simp -dsimp only[simprocAttr,↓aa,aE,zr,Tryz.results15];exact kr
  refine cg ?_;simp -dsimp only[simprocAttr,↓aa,aE,hb]
  (refine I ?_;simp -dsimp only[ai,ne_eq,Nat.reduceEqDiff,reduceCtorEq])
  refine de rfl ?_;refine aH ?_;simp -dsimp only[simprocAttr,↓aa,aE];refine .inr (.inl ⟨_,_,gl,.inl (ah ?_)⟩);simp -dsimp only[simprocAttr,↓aa,aE]
  (refine I ?_;simp -dsimp only[ai,ne_eq,Nat.reduceEqDiff,reduceCtorEq])
  refine ak ?_;simp -dsimp only[simprocAttr,↓aa,aE,zr,Tryz.results15];exact kr
theorem yy{rows:List a8}{r0:a8}{s:BS}(pQ:rows[0]?=some r0)(hs:mb s)(hn:s.count.full=false):s.full=false∧decide (4096<s.many+1)=false∧decide ((4096:Int)<(s.many:Int)+1)=false∧decide ((rows.length:Int)=0)=false:=by
 have h1:=BS.g7 hs.full hn;have h2:=hs.full;have h3:=ag pQ;exact⟨by rw[h2];exact decide_eq_false (by omega),decide_eq_false (by omega),decide_eq_false (by omega),decide_eq_false (by omega)⟩
theorem Fa{t:bF}{rows:List a8}{r0:a8}{paths:List (List Int)}{s:BS}(hs:mb s)(pQ:rows[0]?=some r0)(hn:s.count.full=false)(hi:r0.bP.findIdx? (fun p=>!p.free)=none) :
  aY Tryz.prog 15 (s.objs (lN t)) [.mp 0 0,eM rows,xn paths] fun r O'=>r=aI (s.count.add ⟨1,r0.ix,[],[],[],[]⟩).1∧O'=(s.count.add ⟨1,r0.ix,[],[],[],[]⟩).2.objs (lN t):=by
 have rC:=hs.many;have gl:=aY.vC (args:=[.mp 0 0,.agg [aI 1,aI r0.ix,.aC 1 [] .ex,.aC 1 [] .ex,.aC 1 [] .ex,.aC 1 [] .ex]]) (mM (lN t) (fE t 2) s.count ⟨1,r0.ix,[],[],[],[]⟩ (by have:=hs.outs;exact this));have kr:=c6 t (s.count.add ⟨1,r0.ix,[],[],[],[]⟩).2;have Cz:((s.many+1:Nat):Int)=(s.many:Int)+1:=by omega
 obtain⟨g1,g2,g3,g4⟩:=yy pQ hs hn;have HO:idx (fun p:Pat=>!p.free) r0.bP=-1:=by
  unfold idx;rw[hi]
 generalize hZ:s.count.add ⟨1,r0.ix,[],[],[],[]⟩=Z at gl kr;simp only[BS.objs,BS.dz,BS.cM,hn,Cz,g1]at gl kr ⊢;refine zf true 2 Tryz.func15 Tryz.ntmps15 ?_;dsimp only[Tmp,TypeId,ax];refine aH ?_;simp -dsimp only[simprocAttr,↓aa,aE]
 (refine I ?_;simp -dsimp only[ai,ne_eq,Nat.reduceEqDiff,reduceCtorEq])
 refine aH ?_;simp -dsimp only[simprocAttr,↓aa,aE];refine⟨by omega,by omega,?_⟩
 (refine I ?_;simp -dsimp only[ai,ne_eq,Nat.reduceEqDiff,reduceCtorEq])
 refine aH ?_;simp -dsimp only[simprocAttr,↓aa,aE,g3]
 (refine I ?_;simp -dsimp only[ai,ne_eq,Nat.reduceEqDiff,reduceCtorEq])
 refine cg ?_;simp -dsimp only[simprocAttr,↓aa,aE,g4]
 (refine I ?_;simp -dsimp only[ai,ne_eq,Nat.reduceEqDiff,reduceCtorEq])
 refine cB rfl ?_
 (refine au ?_;simp -dsimp only[ai,ne_eq,Nat.reduceEqDiff,reduceCtorEq])
 refine aH ?_;simp -dsimp only[simprocAttr,↓aa,aE,pQ];refine .inl ⟨_,(jx (fun p=>!p.free) 36 [] [] [] (by simp) r0.bP (fun p _=>ox p)),by simp only[aq,ae.upto,zt,iF],ah ?_⟩;simp -dsimp only[simprocAttr,↓aa,aE,HO]
 (refine I ?_;simp -dsimp only[ai,ne_eq,Nat.reduceEqDiff,reduceCtorEq])
 refine cg ?_;simp -dsimp only[simprocAttr,↓aa,aE]
 (refine I ?_;simp -dsimp only[ai,ne_eq,Nat.reduceEqDiff,reduceCtorEq])
 refine de rfl ?_;refine aH ?_;simp -dsimp only[simprocAttr,↓aa,aE,pQ];refine .inr (.inl ⟨_,_,aY.frame gl rfl (by simp[aq,ae.upto]) (BS.upto (fE t 2) s.outs (s.many+1) false s.outs.length) [.cells [aI (-1)]],.inr ⟨_,_,gm (O:=[_,_]) (O':=[_,_]) (X:=[.cells [aI (-1)]]) rfl,ah ?_⟩⟩);simp -dsimp only[simprocAttr,↓aa,aE]
 (refine I ?_;simp -dsimp only[ai,ne_eq,Nat.reduceEqDiff,reduceCtorEq])
 refine ak ?_;simp -dsimp only[simprocAttr,↓aa,aE,zr,Tryz.results15];exact kr
theorem zY{t:bF}{fu:Nat}(ih:qK t fu){rows:List a8}{r0:a8}{p:Pat}{paths:List (List Int)}{tys:List Ty}{c:Nat}{s:BS}(cX:tU t rows paths tys)(hs:mb s)(FD:kU rows<=fu)(PF:fu<=1000)(hl:∀s d,bw t s=some d->d.cons.length<=256)(pQ:rows[0]?=some r0)(hn:s.count.full=false)(hi:r0.bP.findIdx? (fun p=>!p.free)=some c)(hp:r0.bP[c]?=some p)(hk:p.kind=2)(cx:p.free=false) :
  aY Tryz.prog 15 (s.objs (lN t)) [.mp 0 0,eM rows,xn paths] fun r O'=>r=aI (j1 (bm (bw t) fu) rows paths c s.count).1∧O'=(j1 (bm (bw t) fu) rows paths c s.count).2.objs (lN t):=by
 have rC:=hs.many;have Cz:((s.many+1:Nat):Int)=(s.many:Int)+1:=by omega
 obtain⟨g1,g2,g3,g4⟩:=yy pQ hs hn;have kP:=BS.g7 hs.full hn;have HO:idx (fun p:Pat=>!p.free) r0.bP=c:=by
  unfold idx;rw[hi]
 have eW:tys[c]?=some .int∧BD rows c:=by
  obtain⟨ty,h1,h2,h3⟩:=cX.column (List.mem_of_getElem? pQ) hp cx;rcases h3 with⟨_,e⟩|⟨k3,_⟩
  ·rw[e]at h1;exact⟨h1,h2⟩
  rw[hk]at k3;cases k3
 have hw:=Dp ih cX eW.1 eW.2 (hs.count hn) (by rw[BS.cM];omega) FD PF hl;have kr:=c6 t (j1 (bm (bw t) fu) rows paths c s.count).2;generalize hZ:j1 (bm (bw t) fu) rows paths c s.count=Z at hw kr;have h0:¬((c:Int)<0):=by omega
 simp only[BS.objs,BS.dz,BS.cM,hn,Cz,g1]at hw kr ⊢;refine zf true 2 Tryz.func15 Tryz.ntmps15 ?_;dsimp only[Tmp,TypeId,ax];refine aH ?_;simp -dsimp only[simprocAttr,↓aa,aE]
 (refine I ?_;simp -dsimp only[ai,ne_eq,Nat.reduceEqDiff,reduceCtorEq])
 refine aH ?_;simp -dsimp only[simprocAttr,↓aa,aE];refine⟨by omega,by omega,?_⟩
 (refine I ?_;simp -dsimp only[ai,ne_eq,Nat.reduceEqDiff,reduceCtorEq])
 refine aH ?_;simp -dsimp only[simprocAttr,↓aa,aE,g3]
 (refine I ?_;simp -dsimp only[ai,ne_eq,Nat.reduceEqDiff,reduceCtorEq])
 refine cg ?_;simp -dsimp only[simprocAttr,↓aa,aE,g4]
 (refine I ?_;simp -dsimp only[ai,ne_eq,Nat.reduceEqDiff,reduceCtorEq])
 apply aQ rfl<;>intro h
 ·cases h
 (refine au ?_;simp -dsimp only[ai,ne_eq,Nat.reduceEqDiff,reduceCtorEq])
 refine aH ?_;simp -dsimp only[simprocAttr,↓aa,aE,pQ];refine .inl ⟨_,(jx (fun p=>!p.free) 36 [] [] [] (by simp) r0.bP (fun p _=>ox p)),by simp only[aq,ae.upto,zt,iF],ah ?_⟩;simp -dsimp only[simprocAttr,↓aa,aE,HO]
 (refine I ?_;simp -dsimp only[ai,ne_eq,Nat.reduceEqDiff,reduceCtorEq])
 refine cg ?_;simp -dsimp only[simprocAttr,↓aa,aE]
 (refine I ?_;simp -dsimp only[ai,ne_eq,Nat.reduceEqDiff,reduceCtorEq])
 apply aQ rfl<;>intro h
 ·simp at h;omega
 (refine au ?_;simp -dsimp only[ai,ne_eq,Nat.reduceEqDiff,reduceCtorEq])
 refine cg ?_;simp -dsimp only[simprocAttr,↓aa,aE,pQ,hp,hk];refine⟨ob (by kernel_rfl),?_⟩
 (refine I ?_;simp -dsimp only[ai,ne_eq,Nat.reduceEqDiff,reduceCtorEq])
 refine de rfl ?_;refine aH ?_;simp -dsimp only[simprocAttr,↓aa,aE];refine .inr (.inl ⟨_,_,aY.frame hw rfl (by simp[aq,ae.upto,a8.an,gM]) (BS.upto (fE t 2) s.outs (s.many+1) false s.outs.length) [.cells [aI c]],.inr ⟨_,_,gm (O:=[_,_]) (O':=[_,_]) (X:=[.cells [aI c]]) rfl,ah ?_⟩⟩);simp -dsimp only[simprocAttr,↓aa,aE]
 (refine I ?_;simp -dsimp only[ai,ne_eq,Nat.reduceEqDiff,reduceCtorEq])
 refine ak ?_;simp -dsimp only[simprocAttr,↓aa,aE,zr,Tryz.results15];exact kr
end Go.Proofs.YtkkookchlddbkaaGreat.V
