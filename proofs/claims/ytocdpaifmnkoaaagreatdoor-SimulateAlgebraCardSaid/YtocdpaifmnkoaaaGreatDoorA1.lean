/-
  Texts bound together by a program of mine: YtocdpaifmnkoaaaGreatDoorAva, YtocdpaifmnkoaaaGreatDoorAvb, YtocdpaifmnkoaaaGreatDoorAvc, YtocdpaifmnkoaaaGreatDoorAvd, YtocdpaifmnkoaaaGreatDoorAve, YtocdpaifmnkoaaaGreatDoorAvf, YtocdpaifmnkoaaaGreatDoorAvg, YtocdpaifmnkoaaaGreatDoorAvh, YtocdpaifmnkoaaaGreatDoorAvi, YtocdpaifmnkoaaaGreatDoorAvj, YtocdpaifmnkoaaaGreatDoorAvk, YtocdpaifmnkoaaaGreatDoorAvx.
-/
import Derived.Calls
import Derived.Orders
import Derived.Laws.AppendOwn
import Derived.Laws.OwnMore
import Derived.Laws.CopyRow
import Derived.Lib.FrozenHead2
import Derived.Laws.Strings
import Derived.Lib.BufferMore
set_option linter.all false

namespace Go.Av
inductive oV where
 | sh
 | ex
 | nn
 | tok (id:Nat)
 | loc (a:Addr)
inductive KT where
 | str
 | int (k:IntKind)
 | pair
 | sb (bf m:Nat) (l:List UInt8)
 | iter (cur:Option (Value×Value))
def KT.plain:KT->Prop
 | .iter _=>False
 | .sb _ _ _=>False
 | _=>True
def KT.ok:KT->Value->Prop
 | .str,.string _=>True
 | .int k,.int k' _=>k'=k
 | .pair,v=>∃a b:Int,v=.agg #[.int .i64 a,.int .i64 b]
 | _,_=>False
inductive aa where
 | v (x:Value)
 | agg (cs:List aa)
 | aB (sz:Nat) (xs:List aa) (o:oV)
 | ip (oa:Option Addr) (cs:List aa)
 | mp (id off:Nat)
 | ms (id off len cap:Nat)
 | os (id len sz:Nat)
 | raw (sz n id:Nat)
 | mm (id:Nat)
 | im (kt:KT) (es:List (Value×aa))
 | fn (f:Fn) (first captured:List aa)
 | cN (vs:List aa)
instance:Inhabited aa:=⟨.v (.bool false)⟩
def aa.cells:aa->List aa
 | .agg cs=>cs
 | x=>[x]
def iV:Value->Prop
 | .int k n=>k.min<=n∧n<=k.max
 | .agg _=>False
 | .tuple _=>False
 | _=>True
def aa.scalar:aa->Prop
 | .agg _=>False
 | .cN _=>False
 | _=>True
inductive aq where
 | cells (cs:List aa)
 | spare (n:Nat)
 | map (kt:KT) (es:List (Value×aa))
 | gone
def aq.live:aq->Prop
 | .gone=>False
 | _=>True
def aq.aJ:aq->Prop
 | .spare _=>True
 | _=>False
structure Loc where
 block:Nat
 lo:Nat
 sz:Nat
structure G where
 w:World
 fr:Nat->Nat->Prop
 env:List (Option Loc)
 objs:List aq
def G.cell(g:G)(b off:Nat):Option Value:=g.w.cell? ⟨b,off,none⟩
def jS(g:G)(b off:Nat):Prop :=
 ∃(id:Nat) (l:Loc) (o:aq),g.env[id]?=some (some l)∧g.objs[id]?=some o∧o.live∧l.block=b∧l.lo<=off
def fY(g:G)(b:Nat):Prop :=
 ∃(id:Nat) (l:Loc) (o:aq),g.env[id]?=some (some l)∧g.objs[id]?=some o∧o.live∧l.block=b
def ja(g:G)(b off:Nat):Prop:=g.fr b off∨jS g b off
theorem jS.block{g:G}{b off:Nat}(h:jS g b off):fY g b:=by
 obtain⟨id,l,o,h1,h2,h3,h4,_⟩:=h;exact⟨id,l,o,h1,h2,h3,h4⟩
def aw(xs:List aa):List aa:=xs.flatMap aa.cells
def sd(g:G)(o:oV)(a:Addr)(sz len cap:Nat):Prop :=
 match o with
 | .sh=>True
 | .nn=>True
 | .ex=>cap=len
 | .loc a'=>a=a'
 | .tok id=>id<g.objs.length∧∀m:Nat,g.objs[id]?=some (.spare m)->len<=m∧(len=m->cap=len ∨
   ∃(l:Loc) (arr:Array Value) (t:TypeId),g.env[id]?=some (some l)∧a=⟨l.block,0,none⟩∧l.lo=len*sz∧g.w.heap[l.block]?=some (.cells arr t (0,0))∧cap*sz<=arr.size)
def iv(arr:Array MapEntry)(clk:Nat):Prop:=clk=arr.size∧∀(i:Nat) (e:MapEntry),arr[i]?=some e->e.born=i
theorem iv.Xf{arr:Array MapEntry}{clk:Nat}(h:iv arr clk)(i j:Nat)(e e':MapEntry)(Kj:i<j)(h1:arr[i]?=some e)(h2:arr[j]?=some e'):e.born<e'.born:=by
 rw[h.2 i e h1,h.2 j e' h2];exact Kj
def lF:Value->Prop
 | .agg vs=>∀x∈vs.toList,iV x
 | v=>iV v
inductive RV(g:G):aa->Value->Prop
 | v {x:Value} (h:iV x):RV g (.v x) x
 | agg {cs:List aa} {vs:Array Value} (hl:vs.size=cs.length) (dI:∀c∈cs,c.scalar)
   (h:∀(i:Nat) c u,cs[i]?=some c->vs[i]?=some u->RV g c u):RV g (.agg cs) (.agg vs)
 | nil {sz:Nat} {o:oV} (ho:∀id,o=.tok id->id<g.objs.length) (hn:o≠.nn):RV g (.aB sz [] o) (.slice none 0 0)
 | aB {sz:Nat} {xs:List aa} {o:oV} {a:Addr} {cap:Nat} (c7:∀x∈xs,x.cells.length=sz) (dI:∀x∈xs,∀c∈x.cells,c.scalar)
   (dv:xs.length<=cap) (cW:xs.length<=2 ^ 62) (hs:xs≠[]->a.spot=none) (f:Nat->Value)
   (hm:∀(j:Nat) (c:aa),(aw xs)[j]?=some c->g.cell a.block (a.off+j)=some (f j)∧¬ja g a.block (a.off+j))
   (hr:∀(j:Nat) (c:aa),(aw xs)[j]?=some c->RV g c (f j)) (ho:sd g o a sz xs.length cap):RV g (.aB sz xs o) (.slice (some a) xs.length cap)
 | ip {oa:Option Addr} {cs:List aa} {b off:Nat} (ha:oa=none∨oa=some ⟨b,off,none⟩) (dI:∀c∈cs,c.scalar) (f:Nat->Value)
   (hm:∀(j:Nat) (c:aa),cs[j]?=some c->g.cell b (off+j)=some (f j)∧¬ja g b (off+j))
   (hr:∀(j:Nat) (c:aa),cs[j]?=some c->RV g c (f j)):RV g (.ip oa cs) (.pointer (some ⟨b,off,none⟩))
 | mp {id off:Nat} {l:Loc} {o:aq} (he:g.env[id]?=some (some l)) (ho:g.objs[id]?=some o) (hn:¬o.aJ) :
   RV g (.mp id off) (.pointer (some ⟨l.block,off,none⟩))
 | ms {id off len cap:Nat} {l:Loc} {o:aq} (he:g.env[id]?=some (some l)) (ho:g.objs[id]?=some o) (hn:¬o.aJ) {iw:Nat} (hc:len<=cap) (qh:cap<=iw) (cW:len<=2 ^ 62) :
   RV g (.ms id off len cap) (.slice (some ⟨l.block,off,none⟩) len iw)
 | os {id len sz:Nat} {l:Loc} {o:aq} (he:g.env[id]?=some (some l)) (ho:g.objs[id]?=some o) (hn:¬o.aJ) {cap:Nat} (hc:len<=cap) (hb:cap*sz<=l.sz) (cW:len<=2 ^ 62) :
   RV g (.os id len sz) (.slice (some ⟨l.block,0,none⟩) len cap)
 | raw {sz n id:Nat} {a:Addr} {cap:Nat} (hn:n<=cap) (ho:sd g (.tok id) a sz 0 cap):RV g (.raw sz n id) (.slice (some a) n cap)
 | mm {id:Nat} {l:Loc} {o:aq} (he:g.env[id]?=some (some l)) (ho:g.objs[id]?=some o) (hn:¬o.aJ):RV g (.mm id) (.map (some l.block))
 | im {kt:KT} {es:List (Value×aa)} {r clk:Nat} {arr:Array MapEntry} (hh:g.w.heap[r]?=some (.map arr clk)) (hn:∀off,¬ja g r off) (hl:arr.size=es.length)
   (hk:∀(i:Nat) e (kx:Value×aa),arr[i]?=some e->es[i]?=some kx->e.key=kx.1) (wK:∀p∈es,kt.ok p.1) (hb:iv arr clk)
   (hr:∀(i:Nat) e (kx:Value×aa),arr[i]?=some e->es[i]?=some kx->RV g kx.2 e.val):RV g (.im kt es) (.map (some r))
 | fn {f:Fn} {fs cs:List aa} {us vs:Array Value} (hl:us.size=fs.length) (xw:vs.size=cs.length)
   (h:∀(i:Nat) c u,fs[i]?=some c->us[i]?=some u->RV g c u) (h':∀(i:Nat) c u,cs[i]?=some c->vs[i]?=some u->RV g c u):RV g (.fn f fs cs) (.func f us vs)
 | cN {cs:List aa} {vs:Array Value} (hl:vs.size=cs.length)
   (h:∀(i:Nat) c u,cs[i]?=some c->vs[i]?=some u->RV g c u):RV g (.cN cs) (.tuple vs)
structure Le(g g':G):Prop where
 os:g'.w.os=g.w.os
 tape:g'.w.tape=g.w.tape
 output:g'.w.output=g.w.output
 fr:g'.fr=g.fr
 size:g.w.heap.size<=g'.w.heap.size
 block:∀k,k<g.w.heap.size->¬fY g k->g'.w.heap[k]?=g.w.heap[k]?∧¬fY g' k
 cell:∀b off x,g.cell b off=some x->¬jS g b off->g'.cell b off=some x∧¬jS g' b off
 len:g.objs.length<=g'.objs.length
 spare:∀(id:Nat) (m:Nat),g.objs[id]?=some (.spare m)->(∃m':Nat,g'.objs[id]?=some (.spare m')∧m<=m')∨∃o':aq,g'.objs[id]?=some o'∧¬o'.aJ
 plain:∀(id:Nat) (o:aq),g.objs[id]?=some o->¬o.aJ->(∃o':aq,g'.objs[id]?=some o'∧¬o'.aJ)∧g'.env[id]?=g.env[id]?
 gone:∀id:Nat,g.objs[id]?=some .gone->g'.objs[id]?=some .gone
 tok:∀(id m:Nat),g.objs[id]?=some (.spare m)->g'.objs[id]?=some (.spare m)->g'.env[id]?=g.env[id]?∧∀l:Loc,g.env[id]?=some (some l)->g'.w.heap[l.block]?=g.w.heap[l.block]?
theorem Le.refl(g:G):Le g g where
 os:=rfl
 tape:=rfl
 output:=rfl
 fr:=rfl
 size:=Nat.le_refl _
 block:=fun _ _ h=>⟨rfl,h⟩
 cell:=fun _ _ _ h k=>⟨h,k⟩
 len:=Nat.le_refl _
 spare:=fun _ m h=>.inl ⟨m,h,Nat.le_refl _⟩
 plain:=fun _ o h k=>⟨⟨o,h,k⟩,rfl⟩
 gone:=fun _ h=>h
 tok:=fun _ _ _ _=>⟨rfl,fun _ _=>rfl⟩
theorem Le.trans{a b c:G}(h:Le a b)(k:Le b c):Le a c where
 os:=k.os.trans h.os
 tape:=k.tape.trans h.tape
 output:=k.output.trans h.output
 fr:=k.fr.trans h.fr
 size:=Nat.le_trans h.size k.size
 block:=fun i hi hn=>by
  obtain⟨h1,h2⟩:=h.block i hi hn;obtain⟨k1,k2⟩:=k.block i (Nat.lt_of_lt_of_le hi h.size) h2;exact⟨k1.trans h1,k2⟩
 cell:=fun b off x hx hn=>by
  obtain⟨h1,h2⟩:=h.cell b off x hx hn;exact k.cell b off x h1 h2
 len:=Nat.le_trans h.len k.len
 spare:=fun id m hm=>by
  rcases h.spare id m hm with⟨m',h1,h2⟩|⟨o',h1,h2⟩
  ·rcases k.spare id m' h1 with⟨R8,k1,k2⟩|k1
   ·exact .inl ⟨R8,k1,Nat.le_trans h2 k2⟩
   exact .inr k1
  exact .inr (k.plain id o' h1 h2).1
 plain:=fun id o ho hn=>by
  obtain⟨⟨o',h1,h2⟩,h3⟩:=h.plain id o ho hn;obtain⟨k1,k3⟩:=k.plain id o' h1 h2;exact⟨k1,k3.trans h3⟩
 gone:=fun id hg=>k.gone id (h.gone id hg)
 tok:=fun id m ha hc=>by
  rcases h.spare id m ha with⟨m',h1,h2⟩|⟨o',h1,h2⟩
  ·rcases k.spare id m' h1 with⟨R8,k1,k2⟩|⟨o',k1,k2⟩
   ·rw[k1]at hc;simp only[Option.some.injEq,aq.spare.injEq]at hc;have:m'=m:=by omega
    subst this;subst hc;obtain⟨e1,e2⟩:=h.tok id _ ha h1;obtain⟨e3,e4⟩:=k.tok id _ h1 k1;refine⟨e3.trans e1,fun l hl=>?_⟩;exact(e4 l (e1.trans hl)).trans (e2 l hl)
   rw[k1]at hc;simp only[Option.some.injEq]at hc;exact absurd (hc ▸ trivial) k2
  obtain⟨⟨TQ,k1,k2⟩,_⟩:=k.plain id o' h1 h2;rw[k1]at hc;simp only[Option.some.injEq]at hc;exact absurd (hc ▸ trivial) k2
theorem Le.TS{g g':G}(h:Le g g'){b off:Nat}{x:Value}(hx:g.cell b off=some x)(hn:¬ja g b off):g'.cell b off=some x∧¬ja g' b off:=by
 obtain⟨h1,h2⟩:=h.cell b off x hx fun hh=>hn (.inr hh);refine⟨h1,?_⟩;rintro(hf|hl)
 ·exact hn (.inl (h.fr ▸ hf))
 exact h2 hl
theorem ag{α:Type}{l:List α}{i:Nat}{x:α}(h:l[i]?=some x):i<l.length:=by
 rcases Nat.lt_or_ge i l.length with h1|h1
 ·exact h1
 rw[List.getElem?_eq_none h1]at h;cases h
theorem aO{α:Type}{l:Array α}{i:Nat}{x:α}(h:l[i]?=some x):i<l.size:=by
 rcases Nat.lt_or_ge i l.size with h1|h1
 ·exact h1
 rw[Array.getElem?_eq_none h1]at h;cases h
theorem sd.mono{g g':G}(h:Le g g'){o:oV}{a:Addr}{sz len cap:Nat}(k:sd g o a sz len cap):sd g' o a sz len cap:=by
 cases o with
 | sh=>trivial
 | nn=>trivial
 | ex=>exact k
 | loc a=>exact k
 | tok id =>
  obtain⟨bd,hk⟩:=k;refine⟨Nat.lt_of_lt_of_le bd h.len,fun m' eN=>?_⟩;have ho:g.objs[id]?=some g.objs[id]:=List.getElem?_eq_getElem bd;cases ia:g.objs[id]with
  | spare m =>
   rw[ia]at ho;obtain⟨h1,h2⟩:=hk m ho;rcases h.spare id m ho with⟨R8,k1,k2⟩|⟨o',k1,k2⟩
   ·rw[k1]at eN;simp only[Option.some.injEq,aq.spare.injEq]at eN;subst eN;refine⟨Nat.le_trans h1 k2,fun e=>?_⟩;have Vn:m=R8:=by omega
    subst Vn;obtain⟨e1,e2⟩:=h.tok id m ho k1;rcases h2 (by omega)with e3|⟨l,arr,t,q1,q2,q3,q4,q5⟩
    ·exact .inl e3
    exact .inr ⟨l,arr,t,e1.trans q1,q2,q3,(e2 l q1).trans q4,q5⟩
   rw[k1]at eN;simp only[Option.some.injEq]at eN;exact absurd (eN ▸ trivial) k2
  | gone =>
   rw[ia]at ho;rw[h.gone id ho]at eN;simp at eN
  | cells cs =>
   rw[ia]at ho;obtain⟨⟨o',q1,q2⟩,_⟩:=h.plain id _ ho (by simp[aq.aJ]);rw[q1]at eN;simp only[Option.some.injEq]at eN;subst eN;simp[aq.aJ]at q2
  | map kt es =>
   rw[ia]at ho;obtain⟨⟨o',q1,q2⟩,_⟩:=h.plain id _ ho (by simp[aq.aJ]);rw[q1]at eN;simp only[Option.some.injEq]at eN;subst eN;simp[aq.aJ]at q2
theorem Le.stay{g g':G}(h:Le g g'){r clk:Nat}{arr:Array MapEntry}(hh:g.w.heap[r]?=some (.map arr clk))(hn:∀off,¬ja g r off):g'.w.heap[r]?=some (.map arr clk)∧∀off,¬ja g' r off:=by
 have bd:=aO hh;have hb:¬fY g r:=by
  rintro⟨id,l,o,h1,h2,h3,h4⟩;exact hn l.lo (.inr ⟨id,l,o,h1,h2,h3,h4,Nat.le_refl _⟩)
 obtain⟨q1,q2⟩:=h.block _ bd hb;refine⟨q1.trans hh,?_⟩;rintro off (hf|hf)
 ·exact hn off (.inl (h.fr ▸ hf))
 exact q2 hf.block
theorem RV.mono{g g':G}(h:Le g g'){x:aa}{u:Value}(k:RV g x u):RV g' x u:=by
 induction k with
 | v hx=>exact .v hx
 | agg hl dI _ ih=>exact .agg hl dI ih
 | nil ho hn=>exact .nil (fun id e=>Nat.lt_of_lt_of_le (ho id e) h.len) hn
 | aB c7 dI dv cW hs f hm _ ho ih=>exact .aB c7 dI dv cW hs f (fun j c hj=>h.TS (hm j c hj).1 (hm j c hj).2) ih (ho.mono h)
 | ip ha dI f hm _ ih=>exact .ip ha dI f (fun j c hj=>h.TS (hm j c hj).1 (hm j c hj).2) ih
 | mp he ho hn =>
  obtain⟨⟨o',q1,q2⟩,q3⟩:=h.plain _ _ ho hn;exact .mp (q3.trans he) q1 q2
 | ms he ho hn hc qh cW =>
  obtain⟨⟨o',q1,q2⟩,q3⟩:=h.plain _ _ ho hn;exact .ms (q3.trans he) q1 q2 hc qh cW
 | os he ho hn hc hb cW =>
  obtain⟨⟨o',q1,q2⟩,q3⟩:=h.plain _ _ ho hn;exact .os (q3.trans he) q1 q2 hc hb cW
 | raw hn ho=>exact .raw hn (ho.mono h)
 | mm he ho hn =>
  obtain⟨⟨o',q1,q2⟩,q3⟩:=h.plain _ _ ho hn;exact .mm (q3.trans he) q1 q2
 | im hh hn hl hk wK hb _ ih =>
  obtain⟨q1,q2⟩:=h.stay hh hn;exact .im q1 q2 hl hk wK hb ih
 | fn hl xw _ _ ih Eg=>exact .fn hl xw ih Eg
 | cN hl _ ih=>exact .cN hl ih
def GA:TypeId:=212
def Uy:TypeId:=5
def LY:Nat:=1
def QC:List Value:=(List.range 20).map fun i=>Value.int .u64 ((10 ^ i:Nat):Int)
def xW(g:G):Prop:=(∃(t:TypeId) (fz:Nat×Nat),g.w.heap[LY]?=some (.cells QC.toArray t fz))∧∀off,¬ja g LY off
theorem xW.mono{g g':G}(h:Le g g')(k:xW g):xW g':=by
 obtain⟨⟨t,fz,hh⟩,hn⟩:=k;have bd:=aO hh;have hb:¬fY g LY:=by
  rintro⟨id,l,o,h1,h2,h3,h4⟩;exact hn l.lo (.inr ⟨id,l,o,h1,h2,h3,h4,Nat.le_refl _⟩)
 obtain⟨q1,q2⟩:=h.block _ bd hb;refine⟨⟨t,fz,q1.trans hh⟩,?_⟩;rintro off (hf|hf)
 ·exact hn off (.inl (h.fr ▸ hf))
 exact q2 hf.block
def kq(g:G)(kt:KT)(es:List (Value×aa))(ob:Obj):Prop :=
 ∃(arr:Array MapEntry) (clk:Nat),ob=.map arr clk∧arr.size=es.length∧(∀p∈es,kt.ok p.1) ∧
  (∀(i:Nat) (e:MapEntry) (kx:Value×aa),arr[i]?=some e->es[i]?=some kx->e.key=kx.1∧lF kx.1∧RV g kx.2 e.val)∧iv arr clk
def GC(g:G)(cur:Option (Value×Value))(es:List (Value×aa))(ob:Obj):Prop :=
 ∃(m clk last:Nat) (seen:Array Nat) (arr:Array MapEntry),ob=.mapIter (some m) clk seen last∧g.w.heap[m]?=some (.map arr clk)∧(∀off,¬ja g m off)∧iv arr clk∧(seen≠#[]->last=clk) ∧
  (∀(i:Nat) (e:MapEntry),arr[i]?=some e->iV e.key∧iV e.val)∧es=(arr.toList.filter fun e=>!seen.contains e.born).map (fun e=>(e.key,aa.v e.val)) ∧
  ∀k x,cur=some (k,x)->∃(i:Nat) (e:MapEntry),arr[i]?=some e∧seen.back?=some e.born∧e.key=k∧e.val=x
def w9(g:G)(bf:Nat)(l:List UInt8)(v:Value):Prop :=
 g.w.ownsRowF 0 Uy 1 v l.length (Lib.byteCells l)∧∀k,v.ownBlock=some k->∃lb:Loc,g.env[bf]?=some (some lb)∧lb.lo=0∧lb.block=k
theorem w9.u9{g g':G}{bf:Nat}{l:List UInt8}{v:Value}(h:w9 g bf l v)(he:∀lb,g.env[bf]?=some (some lb)->g'.env[bf]?=some (some lb)∧g'.w.heap[lb.block]?=g.w.heap[lb.block]?):w9 g' bf l v:=by
 obtain⟨⟨h1,h2⟩,h3⟩:=h;refine⟨⟨h1,?_⟩,fun k hk=>?_⟩
 ·rcases h2 with q|⟨b,cap,cur,fz,e1,e2,e3,e4⟩
  ·exact .inl q
  obtain⟨lb,q1,_,q3⟩:=h3 b (by rw[e1];rfl);refine .inr ⟨b,cap,cur,fz,e1,e2,?_,e4⟩;rw[<-e3,<-q3];exact(he lb q1).2
 obtain⟨lb,q1,q2,q3⟩:=h3 k hk;exact⟨lb,(he lb q1).1,q2,q3⟩
def Kz(g:G)(bf m:Nat)(l:List UInt8)(v:Value):Prop :=
 bf<g.objs.length∧∀m0:Nat,g.objs[bf]?=some (.spare m0)->m<=m0∧(m=m0->w9 g bf l v)
theorem Kz.mono{g g':G}(h:Le g g'){bf m:Nat}{l:List UInt8}{v:Value}(k:Kz g bf m l v):Kz g' bf m l v:=by
 obtain⟨bd,hk⟩:=k;refine⟨Nat.lt_of_lt_of_le bd h.len,fun m' eN=>?_⟩;have ho:g.objs[bf]?=some g.objs[bf]:=List.getElem?_eq_getElem bd;have CO:∀o,g.objs[bf]?=some o->¬o.aJ->False:=fun o h1 h2=>by
  obtain⟨⟨o',q1,q2⟩,_⟩:=h.plain bf o h1 h2;rw[q1]at eN;simp only[Option.some.injEq]at eN;exact q2 (eN ▸ trivial)
 cases ia:g.objs[bf]with
 | spare m0 =>
  rw[ia]at ho;obtain⟨h1,h2⟩:=hk m0 ho;rcases h.spare bf m0 ho with⟨R8,k1,k2⟩|⟨o',k1,k2⟩
  ·rw[k1]at eN;simp only[Option.some.injEq,aq.spare.injEq]at eN;subst eN;refine⟨Nat.le_trans h1 k2,fun e=>?_⟩;have Vn:m0=R8:=by omega
   subst Vn;obtain⟨e1,e2⟩:=h.tok bf m0 ho k1;exact(h2 e).u9 fun lb q1=>⟨e1.trans q1,e2 lb q1⟩
  rw[k1]at eN;simp only[Option.some.injEq]at eN;exact absurd (eN ▸ trivial) k2
 | gone=>exact(CO _ (ia ▸ ho) (by simp[aq.aJ])).elim
 | cells cs=>exact(CO _ (ia ▸ ho) (by simp[aq.aJ])).elim
 | map kt es=>exact(CO _ (ia ▸ ho) (by simp[aq.aJ])).elim
def UC(g:G)(bf m:Nat)(l:List UInt8)(es:List (Value×aa))(ob:Obj):Prop :=
 ∃p v:Value,ob=.cells #[p,v] GA (0,0)∧(p=.pointer none∨∃kx∈es,RV g kx.2 p)∧Kz g bf m l v
def ED(g:G)(kt:KT)(es:List (Value×aa))(ob:Obj):Prop :=
 match kt with
 | .iter cur=>GC g cur es ob
 | .sb bf m l=>UC g bf m l es ob
 | kt=>kq g kt es ob
theorem ED.imp{g g':G}{kt:KT}{es:List (Value×aa)}{ob:Obj}(h:ED g kt es ob)(tA:∀p∈es,∀u,RV g p.2 u->RV g' p.2 u)
  (XZ:∀(m clk:Nat) (arr:Array MapEntry),g.w.heap[m]?=some (.map arr clk)->(∀off,¬ja g m off)->g'.w.heap[m]?=some (.map arr clk)∧∀off,¬ja g' m off) 
  (Yh:∀bf m l v,kt=.sb bf m l->Kz g bf m l v->Kz g' bf m l v):ED g' kt es ob:=by
 have key:∀kt,kq g kt es ob->kq g' kt es ob:=fun kt h=>by
  obtain⟨arr,clk,e1,e2,e3,e4,e5⟩:=h;exact⟨arr,clk,e1,e2,e3,fun i e kx a b=>⟨(e4 i e kx a b).1,(e4 i e kx a b).2.1,tA kx (List.mem_of_getElem? b) _ (e4 i e kx a b).2.2⟩,e5⟩
 cases kt with
 | str=>exact key _ h
 | int k=>exact key _ h
 | pair=>exact key _ h
 | sb bf m l =>
  obtain⟨p,v,e1,e2,e3⟩:=h;exact⟨p,v,e1,e2.imp id fun⟨kx,q1,q2⟩=>⟨kx,q1,tA kx q1 _ q2⟩,Yh bf m l v rfl e3⟩
 | iter cur =>
  obtain⟨m,clk,last,seen,arr,e1,e2,e3,e4⟩:=h;obtain⟨q1,q2⟩:=XZ m clk arr e2 e3;exact⟨m,clk,last,seen,arr,e1,q1,q2,e4⟩
theorem ED.mono{g g':G}{kt:KT}{es:List (Value×aa)}{ob:Obj}(h:ED g kt es ob)(hle:Le g g'):ED g' kt es ob :=
 h.imp (fun _ _ _ q=>q.mono hle) (fun _ _ _ q1 q2=>hle.stay q1 q2) fun _ _ _ _ _ q=>q.mono hle
theorem ED.map{g:G}{kt:KT}{es:List (Value×aa)}{ob:Obj}(h:ED g kt es ob)(hp:kt.plain):kq g kt es ob:=by
 cases kt with
 | str=>exact h
 | int k=>exact h
 | pair=>exact h
 | sb bf m l=>exact hp.elim
 | iter cur=>exact hp.elim
theorem kq.Uv{g:G}{kt:KT}{es:List (Value×aa)}{ob:Obj}(h:kq g kt es ob)(hp:kt.plain):ED g kt es ob:=by
 cases kt with
 | str=>exact h
 | int k=>exact h
 | pair=>exact h
 | sb bf m l=>exact hp.elim
 | iter cur=>exact hp.elim
structure Good(g:G):Prop where
 frlt:∀b off,g.fr b off->b<g.w.heap.size
 fj:∀(id:Nat) (l:Loc) (o:aq),g.env[id]?=some (some l)->g.objs[id]?=some o->o.live->∀off,¬g.fr l.block off
 len:g.env.length=g.objs.length
 loc:∀(id:Nat) (l:Loc) (o:aq),g.env[id]?=some (some l)->g.objs[id]?=some o->o.live->l.block<g.w.heap.size
 apart:∀(id nT:Nat) (l l':Loc) (o o':aq),g.env[id]?=some (some l)->g.objs[id]?=some o->o.live->g.env[nT]?=some (some l')->g.objs[nT]?=some o'->o'.live->l.block=l'.block->id=nT
 cells:∀(id:Nat) (cs:List aa),g.objs[id]?=some (.cells cs)->∃(l:Loc) (arr:Array Value) (t:TypeId),g.env[id]?=some (some l)∧l.lo=0∧g.w.heap[l.block]?=some (.cells arr t (0,0))∧cs.length<=arr.size ∧
  (∀(j:Nat) (c:aa) (u:Value),cs[j]?=some c->arr[j]?=some u->RV g c u)∧(∀c∈cs,c.scalar)∧l.sz<=arr.size
 spare:∀(id m:Nat) (l:Loc),g.objs[id]?=some (.spare m)->g.env[id]?=some (some l)->∃(arr:Array Value) (t:TypeId×(Nat×Nat)),g.w.heap[l.block]?=some (.cells arr t.1 t.2)
 map:∀(id:Nat) (kt:KT) (es:List (Value×aa)),g.objs[id]?=some (.map kt es)->∃(l:Loc) (ob:Obj),g.env[id]?=some (some l)∧l.lo=0∧g.w.heap[l.block]?=some ob∧ED g kt es ob
 glob:xW g
structure St where
 n:Nat
 bt:List (Nat×aa)
 objs:List aq
def look:List (Nat×aa)->Nat->Option aa
 | [],_=>none
 | (k,x)::r,s=>if k=s then some x else look r s
def bG(d:Nat):List (Nat×aa)->List (Nat×aa)
 | []=>[]
 | (k,x)::r=>if k=d then bG d r else(k,x)::bG d r
def cd(d:Nat)(x:aa)(l:List (Nat×aa)):List (Nat×aa):=(d,x)::bG d l
theorem jN{d s:Nat}(h:d≠s):∀l:List (Nat×aa),look (bG d l) s=look l s
 | []=>rfl
 | (k,x)::r=>by
  have ih:=jN h r;unfold bG;split
  ·rename_i hk;subst hk;simp[look,h,ih]
  simp only[look,ih]
theorem lU{d:Nat}:∀l:List (Nat×aa),look (bG d l) d=none
 | []=>rfl
 | (k,x)::r=>by
  have ih:=lU (d:=d) r;unfold bG;split
  ·exact ih
  rename_i hk;simp[look,hk,ih]
theorem ig(d s:Nat)(x:aa)(l:List (Nat×aa)):look (cd d x l) s=if d=s then some x else look l s:=by
 unfold cd;simp only[look];split
 ·rfl
 rename_i h;exact jN h l
def St.get(σ:St)(s:Nat):Option aa:=look σ.bt s
structure Rel(base:G)(σ:St)(a:Act)(g:G):Prop where
 le:Le base g
 good:Good g
 objs:g.objs=σ.objs
 size:a.tmps.size=σ.n
 defers:a.defers=[]
 slot:∀(s:Nat) (x:aa),σ.get s=some x->∃u,a.tmps[s]?=some u∧RV g x u
theorem Rel.put{base:G}{σ:St}{a:Act}{g g':G}(h:Rel base σ a g)(hl:Le g g')(hg:Good g'){d:Nat}(hd:d<σ.n){r:aa}{u:Value}(hr:RV g' r u) :
  Rel base ⟨σ.n,cd d r σ.bt,g'.objs⟩ (a.put (some d) u) g' where
 le:=h.le.trans hl
 good:=hg
 objs:=rfl
 size:=by simp[Act.put,h.size]
 defers:=by simp[Act.put,h.defers]
 slot:=fun s x hx=>by
  simp only[St.get,ig]at hx;split at hx
  ·rename_i tw;subst tw;simp only[Option.some.injEq]at hx;subst hx;exact⟨u,by simp[Act.put,h.size,hd],hr⟩
  rename_i tw;obtain⟨y,hy,Ty⟩:=h.slot s x hx;exact⟨y,by simp[Act.put,Array.getElem?_setIfInBounds_ne tw,hy],Ty.mono hl⟩
theorem Rel.step{base:G}{σ:St}{a:Act}{g g':G}(h:Rel base σ a g)(hl:Le g g')(hg:Good g'):Rel base ⟨σ.n,σ.bt,g'.objs⟩ a g' where
 le:=h.le.trans hl
 good:=hg
 objs:=rfl
 size:=h.size
 defers:=h.defers
 slot:=fun s x hx=>by
  obtain⟨y,hy,Ty⟩:=h.slot s x hx;exact⟨y,hy,Ty.mono hl⟩
theorem Rel.forget{base:G}{σ:St}{a:Act}{g:G}(h:Rel base σ a g)(d:Nat)(u:Value):Rel base ⟨σ.n,bG d σ.bt,σ.objs⟩ (a.put (some d) u) g where
 le:=h.le
 good:=h.good
 objs:=h.objs
 size:=by simp[Act.put,h.size]
 defers:=by simp[Act.put,h.defers]
 slot:=fun s x hx=>by
  by_cases tw:d=s
  ·subst tw;simp[St.get,lU]at hx
  simp only[St.get,jN tw]at hx;obtain⟨y,hy,Ty⟩:=h.slot s x hx;exact⟨y,by simp[Act.put,Array.getElem?_setIfInBounds_ne tw,hy],Ty⟩
theorem Le.heap{g:G}{w':World}(h1:w'.heap=g.w.heap)(h2:w'.os=g.w.os)(h3:w'.tape=g.w.tape)(h4:w'.output=g.w.output):Le g ⟨w',g.fr,g.env,g.objs⟩ where
 os:=h2
 tape:=h3
 output:=h4
 fr:=rfl
 size:=by simp[h1]
 block:=fun k _ h=>⟨by simp[h1],h⟩
 cell:=fun b off x hx hn=>⟨by simpa[G.cell,World.cell?,h1]using hx,hn⟩
 len:=Nat.le_refl _
 spare:=fun _ m h=>.inl ⟨m,h,Nat.le_refl _⟩
 plain:=fun _ o h k=>⟨⟨o,h,k⟩,rfl⟩
 gone:=fun _ h=>h
 tok:=fun _ _ _ _=>⟨rfl,fun _ _=>by simp[h1]⟩
theorem Good.heap{g:G}{w':World}(hg:Good g)(h1:w'.heap=g.w.heap)(h2:w'.os=g.w.os)(h3:w'.tape=g.w.tape)(h4:w'.output=g.w.output):Good ⟨w',g.fr,g.env,g.objs⟩ where
 glob:=hg.glob.mono (Le.heap h1 h2 h3 h4)
 frlt:=fun b off h=>by simpa[h1]using hg.frlt b off h
 fj:=hg.fj
 len:=hg.len
 loc:=fun id l o a b c=>by simpa[h1]using hg.loc id l o a b c
 apart:=hg.apart
 cells:=fun id cs h=>by
  obtain⟨l,arr,t,e1,e0,e2,e3,e4,e5⟩:=hg.cells id cs h;exact⟨l,arr,t,e1,e0,by simpa[h1]using e2,e3,fun j c u a b=>(e4 j c u a b).mono (Le.heap h1 h2 h3 h4),e5⟩
 spare:=fun id m l a b=>by simpa[h1]using hg.spare id m l a b
 map:=fun id kt es h=>by
  obtain⟨l,ob,e1,e0,e2,e3⟩:=hg.map id kt es h;exact⟨l,ob,e1,e0,by simpa[h1]using e2,e3.mono (Le.heap h1 h2 h3 h4)⟩
theorem cI(w:World)(o:Obj){k:Nat}(h:k<w.heap.size):(w.alloc o).heap[k]?=w.heap[k]?:=by
 simp only[World.alloc];rw[Array.getElem?_push,if_neg (by omega)]
theorem cD(w:World)(o:Obj):(w.alloc o).heap[w.heap.size]?=some o:=by
 simp only[World.alloc];rw[Array.getElem?_push,if_pos rfl]
theorem lr{g:G}{b off:Nat}{x:Value}(h:g.cell b off=some x):b<g.w.heap.size:=by
 simp only[G.cell,World.cell?]at h;split at h
 ·rename_i hh;exact aO hh
 cases h
theorem gh{w w':World}{b:Nat}(h:w'.heap[b]?=w.heap[b]?)(off:Nat):w'.cell? ⟨b,off,none⟩=w.cell? ⟨b,off,none⟩:=by
 simp only[World.cell?,h]
def G.push(g:G)(o:Obj):G:=⟨g.w.alloc o,g.fr,g.env,g.objs⟩
theorem Le.push(g:G)(hg:Good g)(o:Obj):Le g (g.push o) where
 os:=rfl
 tape:=rfl
 output:=rfl
 fr:=rfl
 size:=by show g.w.heap.size<=(g.w.heap.push o).size;rw[Array.size_push];omega
 block:=fun k hk h=>⟨cI _ _ hk,h⟩
 cell:=fun b off x hx hn=>⟨by
  have:=lr hx;simpa[G.cell,G.push,gh (cI g.w o this)]using hx,hn⟩
 len:=Nat.le_refl _
 spare:=fun _ m h=>.inl ⟨m,h,Nat.le_refl _⟩
 plain:=fun _ o h k=>⟨⟨o,h,k⟩,rfl⟩
 gone:=fun _ h=>h
 tok:=fun id m h _=>⟨rfl,fun l hl=>cI _ _ (hg.loc id l _ hl h trivial)⟩
theorem Good.push{g:G}(hg:Good g)(o:Obj):Good (g.push o) where
 glob:=hg.glob.mono (Le.push g hg o)
 frlt:=fun b off h=>by
  have:=hg.frlt b off h;show b<(g.w.heap.push o).size;rw[Array.size_push];omega
 fj:=hg.fj
 len:=hg.len
 loc:=fun id l o' a b c=>by
  have:=hg.loc id l o' a b c;show l.block<(g.w.heap.push o).size;rw[Array.size_push];omega
 apart:=hg.apart
 cells:=fun id cs h=>by
  obtain⟨l,arr,t,e1,e0,e2,e3,e4,e5⟩:=hg.cells id cs h;exact⟨l,arr,t,e1,e0,(cI _ _ (aO e2)).trans e2,e3,fun j c u a b=>(e4 j c u a b).mono (Le.push g hg o),e5⟩
 spare:=fun id m l a b=>by
  obtain⟨arr,t,e⟩:=hg.spare id m l a b;exact⟨arr,t,(cI _ _ (aO e)).trans e⟩
 map:=fun id kt es h=>by
  obtain⟨l,ob,e1,e0,e2,e3⟩:=hg.map id kt es h;exact⟨l,ob,e1,e0,(cI _ _ (aO e2)).trans e2,e3.mono (Le.push g hg o)⟩
def G.add(g:G)(l:Option Loc)(o:aq):G:=⟨g.w,g.fr,g.env++[l],g.objs++[o]⟩
theorem aV{α:Type}{l:List α}{x:α}{i:Nat}{y:α}(h:(l++[x])[i]?=some y):l[i]?=some y∨(i=l.length∧y=x):=by
 rw[List.getElem?_append]at h;split at h
 ·exact .inl h
 rename_i hh;have:i-l.length<1:=by
  rcases Nat.lt_or_ge (i-l.length) 1 with q|q
  ·exact q
  rw[List.getElem?_eq_none (by simpa using q)]at h;cases h
 have e:i=l.length:=by omega
 subst e;simp at h;exact .inr ⟨rfl,h.symm⟩
theorem dk{α:Type}{l:List α}{x:α}{i:Nat}{y:α}(h:l[i]?=some y):(l++[x])[i]?=some y:=by
 rw[List.getElem?_append,if_pos (ag h)];exact h
theorem jS.add{g:G}(hg:Good g){l:Option Loc}{o:aq}{b off:Nat}(h:jS (g.add l o) b off):jS g b off∨∃l',l=some l'∧o.live∧l'.block=b∧l'.lo<=off:=by
 obtain⟨id,l',o',h1,h2,h3,h4,h5⟩:=h;rcases aV h1 with q1|⟨q1,O7⟩
 ·rcases aV h2 with q2|⟨q2,Dh⟩
  ·exact .inl ⟨id,l',o',q1,q2,h3,h4,h5⟩
  have:=ag q1;have:=hg.len;omega
 rcases aV h2 with q2|⟨q2,Dh⟩
 ·have:=ag q2;have:=hg.len;omega
 subst Dh;exact .inr ⟨l',O7.symm,h3,h4,h5⟩
theorem fY.add{g:G}(hg:Good g){l:Option Loc}{o:aq}{b:Nat}(h:fY (g.add l o) b):fY g b∨∃l',l=some l'∧o.live∧l'.block=b:=by
 obtain⟨id,l',o',h1,h2,h3,h4⟩:=h;rcases jS.add hg ⟨id,l',o',h1,h2,h3,h4,Nat.le_refl _⟩with q|⟨q,q1,q2,q3,_⟩
 ·exact .inl q.block
 exact .inr ⟨q,q1,q2,q3⟩
def jx:Obj->Nat
 | .cells arr _=>arr.size
 | _=>0
def G.alloc(g:G)(ob:Obj)(lo:Nat)(o:aq):G:=⟨g.w.alloc ob,g.fr,g.env++[some ⟨g.w.heap.size,lo,jx ob⟩],g.objs++[o]⟩
def G.mark(g:G)(o:aq):G:=⟨g.w,g.fr,g.env++[none],g.objs++[o]⟩
theorem Le.GG{g g':G}(hg:Good g)(l:Option Loc)(o:aq)(h:Le g g')(he:g'.env=g.env)(ho:g'.objs=g.objs)
  (hn:∀l',l=some l'->g.w.heap.size<=l'.block):Le g (g'.add l o) where
 os:=h.os
 tape:=h.tape
 output:=h.output
 fr:=h.fr
 size:=h.size
 block:=fun k hk hh=>⟨(h.block k hk hh).1,fun q=>by
  obtain⟨id,l',o',h1,h2,h3,h4⟩:=q;rw[show(g'.add l o).env=g.env++[l] by simp[G.add,he]]at h1;rw[show(g'.add l o).objs=g.objs++[o] by simp[G.add,ho]]at h2;rcases fY.add (l:=l) (o:=o) (b:=k) hg ⟨id,l',o',h1,h2,h3,h4⟩with q|⟨l',q1,_,q3⟩
  ·exact hh q
  have:=hn l' q1;omega⟩
 cell:=fun b off x hx hh=>⟨(h.cell b off x hx hh).1,fun q=>by
  obtain⟨id,l',o',h1,h2,h3,h4⟩:=q;rw[show(g'.add l o).env=g.env++[l] by simp[G.add,he]]at h1;rw[show(g'.add l o).objs=g.objs++[o] by simp[G.add,ho]]at h2;have hk:=lr hx;rcases jS.add (l:=l) (o:=o) (b:=b) (off:=off) hg ⟨id,l',o',h1,h2,h3,h4⟩with q|⟨l',q1,_,q3,_⟩
  ·exact hh q
  have:=hn l' q1;omega⟩
 len:=by simp[G.add,ho]
 spare:=fun id m hm=>.inl ⟨m,by simp only[G.add,ho];exact dk hm,Nat.le_refl _⟩
 plain:=fun id o' gW k=>⟨⟨o',by simp only[G.add,ho];exact dk gW,k⟩,by
  have bd:=ag gW;simp only[G.add,he];rw[List.getElem?_append,if_pos (by have:=hg.len;omega)]⟩
 gone:=fun id hm=>by simp only[G.add,ho];exact dk hm
 tok:=fun id m hm _=>⟨by
  have bd:=ag hm;simp only[G.add,he];rw[List.getElem?_append,if_pos (by have:=hg.len;omega)],fun l hl=>(h.tok id m hm (by rw[ho];exact hm)).2 l hl⟩
theorem Le.alloc{g:G}(hg:Good g)(ob:Obj)(lo:Nat)(o:aq):Le g (g.alloc ob lo o) :=
 Le.GG (g':=g.push ob) hg (some ⟨g.w.heap.size,lo,jx ob⟩) o (Le.push g hg ob) rfl rfl (fun l' h=>by simp at h;subst h;exact Nat.le_refl _)
theorem Le.mark{g:G}(hg:Good g)(o:aq):Le g (g.mark o) :=
 Le.GG (g':=g) hg none o (Le.refl g) rfl rfl (fun l' h=>by simp at h)
def Fits(g':G)(ob:Obj)(o:aq):Prop :=
 match o with
 | .cells cs=>∃(arr:Array Value) (t:TypeId),ob=.cells arr t (0,0)∧cs.length<=arr.size∧(∀(j:Nat) (c:aa) (u:Value),cs[j]?=some c->arr[j]?=some u->RV g' c u)∧∀c∈cs,c.scalar
 | .spare _=>∃(arr:Array Value) (t:TypeId),ob=.cells arr t (0,0)
 | .map kt es=>ED g' kt es ob
 | .gone=>True
theorem Good.alloc{g:G}(hg:Good g)(ob:Obj)(lo:Nat)(o:aq)(gy:o.aJ∨lo=0)(hf:Fits (g.alloc ob lo o) ob o):Good (g.alloc ob lo o) where
 glob:=hg.glob.mono (Le.alloc hg ob lo o)
 frlt:=fun b off h=>by
  have:=hg.frlt b off h;show b<(g.w.heap.push ob).size;rw[Array.size_push];omega
 fj:=fun id l o' a b c off hf=>by
  rcases aV a with a|⟨a,a'⟩
  ·rcases aV b with b|⟨b,b'⟩
   ·exact hg.fj id l o' a b c off hf
   have:=ag a;have:=hg.len;omega
  simp only[Option.some.injEq]at a';subst a';have ga:g.fr g.w.heap.size off:=hf;have:=hg.frlt _ _ ga;omega
 len:=by simp[G.alloc,hg.len]
 loc:=fun id l o' a b c=>by
  show l.block<(g.w.heap.push ob).size;rw[Array.size_push];rcases aV a with a|⟨a,a'⟩
  ·rcases aV b with b|⟨b,b'⟩
   ·have:=hg.loc id l o' a b c;omega
   have:=ag a;have:=hg.len;omega
  simp only[Option.some.injEq]at a';subst a';show g.w.heap.size<_;omega
 apart:=fun id nT l l' o' TQ a b c a' b' c' hb=>by
  rcases aV a with a|⟨a1,a2⟩
  ·rcases aV a' with a'|⟨T3,Si⟩
   ·rcases aV b with b|⟨b1,b2⟩
    ·rcases aV b' with b'|⟨Wa,Wb⟩
     ·exact hg.apart id nT l l' o' TQ a b c a' b' c' hb
     have:=ag a';have:=hg.len;omega
    have:=ag a;have:=hg.len;omega
   simp only[Option.some.injEq]at Si;subst Si;rcases aV b with b|⟨b1,b2⟩
   ·have:=hg.loc id l o' a b c;simp at hb;omega
   have:=ag a;have:=hg.len;omega
  rcases aV a' with a'|⟨T3,Si⟩
  ·simp only[Option.some.injEq]at a2;subst a2;rcases aV b' with b'|⟨Wa,Wb⟩
   ·have:=hg.loc nT l' TQ a' b' c';simp at hb;omega
   have:=ag a';have:=hg.len;omega
  omega
 cells:=fun id cs h=>by
  rcases aV h with h|⟨hq,h'⟩
  ·obtain⟨l,arr,t,e1,e0,e2,e3,e4,e5⟩:=hg.cells id cs h;exact⟨l,arr,t,dk e1,e0,(cI _ _ (aO e2)).trans e2,e3,fun j c u a b=>(e4 j c u a b).mono (Le.alloc hg ob lo o),e5⟩
  subst h';obtain⟨arr,t,e1,e2,e3,e4⟩:=hf;refine⟨⟨g.w.heap.size,lo,jx ob⟩,arr,t,?_,?_,?_,e2,e3,e4,by rw[e1];exact Nat.le_refl _⟩
  ·subst hq;simp only[G.alloc];rw[<-hg.len];simp
  ·rcases gy with q|q
   ·exact q.elim
   exact q
  rw[<-e1];exact cD _ _
 spare:=fun id m l a b=>by
  rcases aV a with a|⟨a,a'⟩
  ·rcases aV b with b|⟨b1,b2⟩
   ·obtain⟨arr,t,e⟩:=hg.spare id m l a b;exact⟨arr,t,(cI _ _ (aO e)).trans e⟩
   have:=ag a;have:=hg.len;omega
  rcases aV b with b|⟨b1,b2⟩
  ·have:=ag b;have:=hg.len;omega
  subst a';simp only[Option.some.injEq]at b2;subst b2;obtain⟨arr,t,e⟩:=hf;exact⟨arr,(t,(0,0)),by rw[<-e];exact cD _ _⟩
 map:=fun id kt es h=>by
  rcases aV h with h|⟨hq,h'⟩
  ·obtain⟨l,YD,e1,e0,e2,e3⟩:=hg.map id kt es h;exact⟨l,YD,dk e1,e0,(cI _ _ (aO e2)).trans e2,e3.mono (Le.alloc hg ob lo o)⟩
  subst h';refine⟨⟨g.w.heap.size,lo,jx ob⟩,ob,?_,?_,?_,hf⟩
  ·subst hq;simp only[G.alloc];rw[<-hg.len];simp
  ·rcases gy with q|q
   ·exact q.elim
   exact q
  exact cD _ _
theorem Good.mark{g:G}(hg:Good g)(m:Nat):Good (g.mark (.spare m)) where
 glob:=hg.glob.mono (Le.mark hg _)
 frlt:=hg.frlt
 fj:=fun id l o' a b c off hf=>by
  rcases aV a with a|⟨a,a'⟩
  ·rcases aV b with b|⟨b,b'⟩
   ·exact hg.fj id l o' a b c off hf
   have:=ag a;have:=hg.len;omega
  cases a'
 len:=by simp[G.mark,hg.len]
 loc:=fun id l o' a b c=>by
  rcases aV a with a|⟨a,a'⟩
  ·rcases aV b with b|⟨b,b'⟩
   ·exact hg.loc id l o' a b c
   have:=ag a;have:=hg.len;omega
  cases a'
 apart:=fun id nT l l' o' TQ a b c a' b' c' hb=>by
  rcases aV a with a|⟨a1,a2⟩
  ·rcases aV a' with a'|⟨T3,Si⟩
   ·rcases aV b with b|⟨b1,b2⟩
    ·rcases aV b' with b'|⟨Wa,Wb⟩
     ·exact hg.apart id nT l l' o' TQ a b c a' b' c' hb
     have:=ag a';have:=hg.len;omega
    have:=ag a;have:=hg.len;omega
   cases Si
  cases a2
 cells:=fun id cs h=>by
  rcases aV h with h|⟨h,h'⟩
  ·obtain⟨l,arr,t,e1,e0,e2,e3,e4,e5⟩:=hg.cells id cs h;exact⟨l,arr,t,dk e1,e0,e2,e3,fun j c u a b=>(e4 j c u a b).mono (Le.mark hg _),e5⟩
  cases h'
 spare:=fun id m' l a b=>by
  rcases aV b with b|⟨b1,b2⟩
  ·rcases aV a with a|⟨a,a'⟩
   ·exact hg.spare id m' l a b
   have:=ag b;have:=hg.len;omega
  cases b2
 map:=fun id kt es h=>by
  rcases aV h with h|⟨h,h'⟩
  ·obtain⟨l,ob,e1,e0,e2,e3⟩:=hg.map id kt es h;exact⟨l,ob,dk e1,e0,e2,e3.mono (Le.mark hg _)⟩
  cases h'
def G.bo(g:G)(id:Nat)(l':Option Loc)(o':aq)(w':World):G:=⟨w',g.fr,g.env.set id l',g.objs.set id o'⟩
structure jT(g:G)(id:Nat)(o:aq)(l':Option Loc)(o':aq)(w':World):Prop where
 obj:g.objs[id]?=some o
 os:w'.os=g.w.os
 tape:w'.tape=g.w.tape
 output:w'.output=g.w.output
 size:g.w.heap.size<=w'.heap.size
 block:∀k,k<g.w.heap.size->(∀l:Loc,g.env[id]?=some (some l)->o.live->l.block≠k)->w'.heap[k]?=g.w.heap[k]?
 cell:∀b off x,g.cell b off=some x->(∀l:Loc,g.env[id]?=some (some l)->o.live->l.block=b->off<l.lo)->w'.cell? ⟨b,off,none⟩=some x
 place:∀l1:Loc,l'=some l1->o'.live->g.w.heap.size<=l1.block∨∃l:Loc,g.env[id]?=some (some l)∧o.live∧l.block=l1.block∧l.lo<=l1.lo
 spare:∀m,o=.spare m->(∃m',o'=.spare m'∧m<m')∨¬o'.aJ
 plain:¬o.aJ->¬o'.aJ∧g.env[id]?=some l'
 gone:o≠.gone
theorem iU{g:G}(hg:Good g){id:Nat}{o:aq}(h:g.objs[id]?=some o):id<g.env.length:=by
 have:=ag h;have:=hg.len;omega
theorem jS.bo{g:G}{id:Nat}{o:aq}{l':Option Loc}{o':aq}{w':World}(hg:Good g)(ht:jT g id o l' o' w'){b off:Nat}(h:jS (g.bo id l' o' w') b off) :
  jS g b off∨g.w.heap.size<=b:=by
 obtain⟨i,l1,o1,h1,h2,h3,h4,h5⟩:=h;simp only[G.bo]at h1 h2;by_cases e:id=i
 ·subst e;rw[List.getElem?_set_self (iU hg ht.obj)]at h1;rw[List.getElem?_set_self (ag ht.obj)]at h2;simp only[Option.some.injEq]at h1 h2;subst h2;rcases ht.place l1 h1 h3 with q|⟨l,q1,q2,q3,q4⟩
  ·exact .inr (h4 ▸ q)
  exact .inl ⟨id,l,o,q1,ht.obj,q2,q3.trans h4,Nat.le_trans q4 h5⟩
 rw[List.getElem?_set_ne e]at h1 h2;exact .inl ⟨i,l1,o1,h1,h2,h3,h4,h5⟩
theorem fY.bo{g:G}{id:Nat}{o:aq}{l':Option Loc}{o':aq}{w':World}(hg:Good g)(ht:jT g id o l' o' w'){b:Nat}(h:fY (g.bo id l' o' w') b) :
  fY g b∨g.w.heap.size<=b:=by
 obtain⟨i,l1,o1,h1,h2,h3,h4⟩:=h;rcases jS.bo hg ht ⟨i,l1,o1,h1,h2,h3,h4,Nat.le_refl _⟩with q|q
 ·exact .inl q.block
 exact .inr q
theorem Le.bo{g:G}{id:Nat}{o:aq}{l':Option Loc}{o':aq}{w':World}(hg:Good g)(ht:jT g id o l' o' w'):Le g (g.bo id l' o' w') where
 os:=ht.os
 tape:=ht.tape
 output:=ht.output
 fr:=rfl
 size:=ht.size
 block:=fun k hk hn=>⟨ht.block k hk fun l hl lB e=>hn ⟨id,l,o,hl,ht.obj,lB,e⟩,fun hh=>by
  rcases fY.bo hg ht hh with q|q
  ·exact hn q
  omega⟩
 cell:=fun b off x hx hn=>⟨ht.cell b off x hx fun l hl lB e=>by
   rcases Nat.lt_or_ge off l.lo with q|q
   ·exact q
   exact absurd ⟨id,l,o,hl,ht.obj,lB,e,q⟩ hn,fun hh=>by
  rcases jS.bo hg ht hh with q|q
  ·exact hn q
  have:=lr hx;omega⟩
 len:=by simp[G.bo]
 spare:=fun i m hm=>by
  by_cases e:id=i
  ·subst e;have eN:=hm.symm.trans ht.obj;simp only[Option.some.injEq]at eN;rcases ht.spare m eN.symm with⟨m',q1,q2⟩|q1
   ·exact .inl ⟨m',by simp only[G.bo];rw[List.getElem?_set_self (ag ht.obj),q1],by omega⟩
   exact .inr ⟨o',by simp only[G.bo];rw[List.getElem?_set_self (ag ht.obj)],q1⟩
  exact .inl ⟨m,by simp only[G.bo];rw[List.getElem?_set_ne e];exact hm,Nat.le_refl _⟩
 plain:=fun i o1 ho hn=>by
  by_cases e:id=i
  ·subst e;have gW:=ho.symm.trans ht.obj;simp only[Option.some.injEq]at gW;subst gW;obtain⟨q1,q2⟩:=ht.plain hn;exact⟨⟨o',by simp only[G.bo];rw[List.getElem?_set_self (ag ht.obj)],q1⟩,by simp only[G.bo];rw[List.getElem?_set_self (iU hg ht.obj),q2]⟩
  exact⟨⟨o1,by simp only[G.bo];rw[List.getElem?_set_ne e];exact ho,hn⟩,by simp only[G.bo];rw[List.getElem?_set_ne e]⟩
 gone:=fun i hi=>by
  by_cases e:id=i
  ·subst e;have:=hi.symm.trans ht.obj;simp only[Option.some.injEq]at this;exact absurd this.symm ht.gone
  simp only[G.bo];rw[List.getElem?_set_ne e];exact hi
 tok:=fun i m hm eN=>by
  by_cases e:id=i
  ·subst e;have h1:=hm.symm.trans ht.obj;simp only[Option.some.injEq]at h1;simp only[G.bo]at eN;rw[List.getElem?_set_self (ag ht.obj)]at eN;simp only[Option.some.injEq]at eN;rcases ht.spare m h1.symm with⟨m',q1,q2⟩|q1
   ·rw[q1]at eN;simp only[aq.spare.injEq]at eN;omega
   exact absurd (eN ▸ trivial) q1
  refine⟨by simp only[G.bo];rw[List.getElem?_set_ne e],fun l hl=>ht.block _ (hg.loc i l _ hl hm trivial) fun l1 D7 lB eb=>?_⟩;exact e (hg.apart id i l1 l o _ D7 ht.obj lB hl hm trivial eb)
def Pd(g':G)(l':Option Loc)(o:aq):Prop :=
 match o with
 | .cells cs=>∃(l:Loc) (arr:Array Value) (t:TypeId),l'=some l∧l.lo=0∧g'.w.heap[l.block]?=some (.cells arr t (0,0))∧cs.length<=arr.size ∧
   (∀(j:Nat) (c:aa) (u:Value),cs[j]?=some c->arr[j]?=some u->RV g' c u)∧(∀c∈cs,c.scalar)∧l.sz<=arr.size
 | .spare _=>∀l,l'=some l->∃(arr:Array Value) (t:TypeId×(Nat×Nat)),g'.w.heap[l.block]?=some (.cells arr t.1 t.2)
 | .map kt es=>∃(l:Loc) (ob:Obj),l'=some l∧l.lo=0∧g'.w.heap[l.block]?=some ob∧ED g' kt es ob
 | .gone=>True
theorem Good.bo{g:G}{id:Nat}{o:aq}{l':Option Loc}{o':aq}{w':World}(hg:Good g)(ht:jT g id o l' o' w')(hf:Pd (g.bo id l' o' w') l' o')
  (c7:∀l1,l'=some l1->o'.live->l1.block<w'.heap.size):Good (g.bo id l' o' w'):=by
 have hle:=Le.bo hg ht;have AF:∀i l1,i≠id->(g.bo id l' o' w').env[i]?=some (some l1)->g.env[i]?=some (some l1):=fun i l1 da h=>by
  simp only[G.bo]at h
  rwa [List.getElem?_set_ne (Ne.symm da)]at h
 have ia:∀i o1,i≠id->(g.bo id l' o' w').objs[i]?=some o1->g.objs[i]?=some o1:=fun i l1 da h=>by
  simp only[G.bo]at h
  rwa [List.getElem?_set_ne (Ne.symm da)]at h
 have AG:∀l1,(g.bo id l' o' w').env[id]?=some l1->l'=l1:=fun l1 h=>by
  simp only[G.bo]at h;rw[List.getElem?_set_self (iU hg ht.obj)]at h;simpa using h
 have uS:∀o1,(g.bo id l' o' w').objs[id]?=some o1->o'=o1:=fun l1 h=>by
  simp only[G.bo]at h;rw[List.getElem?_set_self (ag ht.obj)]at h;simpa using h
 have s8:∀i l1 o1,i≠id->g.env[i]?=some (some l1)->g.objs[i]?=some o1->o1.live->w'.heap[l1.block]?=g.w.heap[l1.block]?:=fun i l1 o1 da h1 h2 h3 =>
  ht.block _ (hg.loc i l1 o1 h1 h2 h3) fun l2 CM lB eb=>da (hg.apart id i l2 l1 o o1 CM ht.obj lB h1 h2 h3 eb).symm
 refine⟨fun b off h=>Nat.lt_of_lt_of_le (hg.frlt b off h) ht.size,?_,?_,?_,?_,?_,?_,?_,hg.glob.mono hle⟩
 ·intro i l1 o1 h1 h2 h3 off SY;have nC:g.fr l1.block off:=SY;by_cases e:i=id
  ·subst e;have q1:=AG _ h1;have q2:=uS _ h2;subst q2;rcases ht.place l1 q1 h3 with q|⟨l,p1,p2,p3,_⟩
   ·have:=hg.frlt _ _ nC;omega
   exact hg.fj i l o p1 ht.obj p2 off (p3 ▸ nC)
  exact hg.fj i l1 o1 (AF i l1 e h1) (ia i o1 e h2) h3 off nC
 ·simp[G.bo,hg.len]
 ·intro i l1 o1 h1 h2 h3;by_cases e:i=id
  ·subst e;have:=AG _ h1;have:=uS _ h2;subst this;exact c7 l1 (by assumption) h3
  have:=hg.loc i l1 o1 (AF i l1 e h1) (ia i o1 e h2) h3;exact Nat.lt_of_lt_of_le this ht.size
 ·intro i j l1 l2 o1 o2 h1 h2 h3 k1 k2 k3 hb;by_cases e:i=id
  ·by_cases e':j=id
   ·omega
   subst e;have q1:=AG _ h1;have q2:=uS _ h2;subst q2;have r1:=AF j l2 e' k1;have r2:=ia j o2 e' k2;rcases ht.place l1 q1 h3 with q|⟨l,p1,p2,p3,_⟩
   ·have:=hg.loc j l2 o2 r1 r2 k3;omega
   exact hg.apart i j l l2 o o2 p1 ht.obj p2 r1 r2 k3 (p3.trans hb)
  by_cases e':j=id
  ·subst e';have q1:=AG _ k1;have q2:=uS _ k2;subst q2;have r1:=AF i l1 e h1;have r2:=ia i o1 e h2;rcases ht.place l2 q1 k3 with q|⟨l,p1,p2,p3,_⟩
   ·have:=hg.loc i l1 o1 r1 r2 h3;omega
   exact hg.apart i j l1 l o1 o r1 r2 h3 p1 ht.obj p2 (hb.trans p3.symm)
  exact hg.apart i j l1 l2 o1 o2 (AF i l1 e h1) (ia i o1 e h2) h3 (AF j l2 e' k1) (ia j o2 e' k2) k3 hb
 ·intro i cs h;by_cases e:i=id
  ·subst e;have q:=uS _ h;subst q;obtain⟨l,arr,t,p1,p2,p3,p4,p5,p6⟩:=hf;exact⟨l,arr,t,by simp only[G.bo];rw[List.getElem?_set_self (iU hg ht.obj),p1],p2,p3,p4,p5,p6⟩
  obtain⟨l,arr,t,p1,p2,p3,p4,p5,p6⟩:=hg.cells i cs (ia i _ e h);exact⟨l,arr,t,by simp only[G.bo];rw[List.getElem?_set_ne (Ne.symm e)];exact p1,p2,(s8 i l _ e p1 (ia i _ e h) trivial).trans p3,p4,fun j c u a b=>(p5 j c u a b).mono hle,p6⟩
 ·intro i m l1 h h1;by_cases e:i=id
  ·subst e;have q:=uS _ h;subst q;exact hf l1 (AG _ h1)
  obtain⟨arr,t,p⟩:=hg.spare i m l1 (ia i _ e h) (AF i l1 e h1);exact⟨arr,t,(s8 i l1 _ e (AF i l1 e h1) (ia i _ e h) trivial).trans p⟩
 intro i kt es h;by_cases e:i=id
 ·subst e;have q:=uS _ h;subst q;obtain⟨l,ob,p1,p2,p3,p4⟩:=hf;exact⟨l,ob,by simp only[G.bo];rw[List.getElem?_set_self (iU hg ht.obj),p1],p2,p3,p4⟩
 obtain⟨l,ob,p1,p2,p3,p4⟩:=hg.map i kt es (ia i _ e h);exact⟨l,ob,by simp only[G.bo];rw[List.getElem?_set_ne (Ne.symm e)];exact p1,p2,(s8 i l _ e p1 (ia i _ e h) trivial).trans p3,p4.mono hle⟩
end Go.Av
namespace Go.Av
inductive TD where
 | other
 | struct (fs:List (Nat×TypeId))
 | slice (e:TypeId)
 | array (n:Nat) (e:TypeId)
 | map (k e:TypeId)
structure cr where
 size:Nat
 bytes:Nat
 zero:List aa
 desc:TD
def TD.agg:TD->Bool
 | .struct _ | .array _ _=>true
 | _=>false
def rI(d:TypeDesc):TD->Prop
 | .struct fs=>∃fields:Array Field,d=.struct fields∧fields.toList.map (fun f=>(f.offset,f.type))=fs
 | .slice e=>d=.slice e
 | .array n e=>d=.array n e
 | .map k e=>d=.map k e
 | .other=>(match d with | .struct _=>False | .array _ _=>False | _=>True)
structure DP(P:Program)(t:TypeId)(ti:cr):Prop where
 info:∃(i:TypeInfo) (z:Value),P.info? t=some i∧i.size=ti.size∧i.bytes=ti.bytes∧i.zero=some z∧z.cells.size=ti.zero.length∧ti.zero.length=ti.size ∧
  ((ti.desc.agg=true->∃cs,z=.agg cs)∧(ti.desc.agg=false->z.cells = #[z]))∧(∀g:G,∀(j:Nat) (c:aa) (u:Value),ti.zero[j]?=some c->z.cells[j]?=some u->RV g c u)∧∀c∈ti.zero,c.scalar
 desc:∃d,P.underlying t=some d∧rI d ti.desc
abbrev ee:=TypeId->Option cr
def b8(P:Program)(aP:ee):Prop:=∀t ti,aP t=some ti->DP P t ti
def Ks:IntKind->Int
 | .i8=>-128
 | .i16=>-32768
 | .i32=>-2147483648
 | .i64=>-9223372036854775808
 | _=>0
def Fg:IntKind->Int
 | .i8=>127
 | .i16=>32767
 | .i32=>2147483647
 | .i64=>9223372036854775807
 | .u8=>255
 | .u16=>65535
 | .u32=>4294967295
 | .u64=>18446744073709551615
theorem yL(k:IntKind):Ks k=k.min:=by cases k<;>rfl
theorem yE(k:IntKind):Fg k=k.max:=by cases k<;>rfl
def rz:Value->Option aa
 | .int k n=>if Ks k<=n∧n<=Fg k then some (.v (.int k n))else none
 | .agg _=>none
 | .tuple _=>none
 | x=>some (.v x)
def St.ev(σ:St):Operand->Option aa
 | .tmp t=>σ.get t
 | .const x=>rz x
 | .func f=>some (.fn (.func f) [] [])
 | .global _=>none
theorem Rel.eval{base:G}{σ:St}{a:Act}{g:G}(h:Rel base σ a g){x:Operand}{y:aa}(hx:σ.ev x=some y):RV g y (a.eval x):=by
 cases x with
 | tmp t =>
  obtain⟨u,h1,h2⟩:=h.slot t y hx;have:a.eval (.tmp t)=u:=by simp[Act.eval,Array.getD_eq_getD_getElem?,h1]
  rw[this];exact h2
 | const v =>
  simp only[St.ev]at hx;unfold rz at hx;split at hx
  ·split at hx
   ·rename_i hh;simp only[Option.some.injEq]at hx;subst hx;rw[yL,yE]at hh;exact .v hh
   cases hx
  ·cases hx
  ·cases hx
  rename_i h1 h2 h3;simp only[Option.some.injEq]at hx;subst hx;refine .v ?_;unfold iV;split
  ·rename_i k n;exact absurd rfl (h1 k n)
  ·rename_i cs;exact absurd rfl (h2 cs)
  ·rename_i vs;exact absurd rfl (h3 vs)
  trivial
 | func f =>
  simp only[St.ev,Option.some.injEq]at hx;subst hx;exact .fn rfl rfl (by simp) (by simp)
 | global _=>cases hx
inductive Mode where
 | pure
 | read
 | rd (id:Nat)
 | write (O:List aq)
 | wr (n:Nat) (l:List Nat) (O:List aq)
 | new (id:Nat) (o:aq)
 | loc (n:Nat) (l:List Nat) (A:List aq)
def Mode.post(m:Mode)(O:List aq):List aq :=
 match m with
 | .write O'=>O'
 | .wr _ _ O'=>O'
 | .new id o=>O.set id o
 | .loc n _ A=>A++O.drop n
 | _=>O
def Mode.agree(m:Mode)(O O0:List aq):Prop :=
 match m with
 | .pure=>True
 | .rd id=>O[id]?=O0[id]?
 | .new id _=>O[id]?=O0[id]?
 | .loc n _ _=>O.take n=O0.take n
 | _=>O=O0
def Mode.ok(m:Mode)(O:List aq):Prop :=
 match m with
 | .wr n l O'=>∀i,i<n->i ∉ l->O'[i]?=O[i]?
 | .loc n l A=>A.length=n∧∀i,i<n->i ∉ l->A[i]?=O[i]?
 | _=>True
theorem Mode.tJ{m:Mode}{O O0:List aq}(h:m=.pure∨O=O0):m.agree O O0:=by
 rcases h with h|h
 ·subst h;trivial
 subst h;cases m<;>first|trivial|rfl
def qW(d:Option Nat)(r:aa)(l:List (Nat×aa)):List (Nat×aa) :=
 match d with
 | some d=>cd d r l
 | none=>l
def Cert(P:Program)(o:Oper)(rr:St)(r:aa)(m:Mode):Prop :=
 m.ok rr.objs∧∀(base:G) (σ:St) (a:Act) (g:G),Rel base σ a g->σ.n=rr.n->(∀x∈o.op.operands,∀y,rr.ev x=some y->σ.ev x=some y)->m.agree σ.objs rr.objs ->
  ∀(K:Act->World->Prop) (Q:Exit->Act->World->Prop),(∀u g',Rel base ⟨σ.n,qW o.dst r σ.bt,m.post σ.objs⟩ (a.put o.dst u) g'->K (a.put o.dst u) g'.w)->o.wp P a g.w K Q
theorem Cert.qS{P:Program}{o:Oper}{rr:St}{r:aa}{m:Mode}(iy:m.ok rr.objs)(hd:∀d,o.dst=some d->d<rr.n)
  (h:∀(base:G) (σ:St) (a:Act) (g:G),Rel base σ a g->(∀x∈o.op.operands,∀y,rr.ev x=some y->RV g y (a.eval x))->m.agree g.objs rr.objs ->
   ∃u g',((execOp a.eval o).run P g.w=.ok (.value u) g'.w∨(o.dst=none∧(execOp a.eval o).run P g.w=.ok .skip g'.w))∧Le g g'∧Good g'∧g'.objs=m.post g.objs∧RV g' r u):Cert P o rr r m:=by
 refine⟨iy,?_⟩;intro base σ a g bV hn nB hm K Q hK;obtain⟨u,g',bL,hle,dx,Tn,tA⟩:=h base σ a g bV (fun x hx y hy=>bV.eval (nB x hx y hy)) (by rw[bV.objs];exact hm);have key:Rel base ⟨σ.n,qW o.dst r σ.bt,m.post σ.objs⟩ (a.put o.dst u) g':=by
  have e:g'.objs=m.post σ.objs:=by rw[Tn,bV.objs]
  cases iJ:o.dst with
  | none =>
   have:=bV.step hle dx;rw[e]at this;exact this
  | some d =>
   have:=bV.put hle dx (d:=d) (by rw[hn];exact hd d iJ) tA;rw[e]at this;exact this
 unfold Oper.wp;rcases bL with bL|⟨K6,bL⟩
 ·rw[bL,Oper.upon_value];exact hK u g' key
 rw[bL,Oper.upon_skip];have:=hK u g' key;rw[K6]at this ⊢;exact this
def Mode.plain:Mode->Prop
 | .rd _=>False
 | .wr _ _ _=>False
 | .new _ _=>False
 | .loc _ _ _=>False
 | _=>True
theorem Mode.A9{m:Mode}(hp:m.plain){O O0:List aq}(h:m.agree O O0):m=.pure∨O=O0:=by
 cases m<;>first|exact .inl rfl|exact .inr h|exact hp.elim
theorem Cert.gG{P:Program}{o:Oper}{rr:St}{r:aa}{m:Mode}(hd:∀d,o.dst=some d->d<rr.n)
  (h:∀(base:G) (σ:St) (a:Act) (g:G),Rel base σ a g->(∀x∈o.op.operands,∀y,rr.ev x=some y->RV g y (a.eval x))->(m=.pure∨g.objs=rr.objs) ->
   ∃u g',((execOp a.eval o).run P g.w=.ok (.value u) g'.w∨(o.dst=none∧(execOp a.eval o).run P g.w=.ok .skip g'.w))∧Le g g'∧Good g'∧g'.objs=m.post g.objs∧RV g' r u) (hp:m.plain:=by trivial):Cert P o rr r m :=
 Cert.qS (by cases m<;>first|trivial|exact hp.elim) hd fun base σ a g bV nB hm=>h base σ a g bV nB (m.A9 hp hm)
theorem Cert.close{P:Program}{o:Oper}{rr:St}{r:aa}{O':List aq}(h:Cert P o rr r (.write O')){n:Nat}{l:List Nat}(hk:∀i,i<n->i ∉ l->O'[i]?=rr.objs[i]?):Cert P o rr r (.wr n l O'):=⟨hk,h.2⟩
theorem Cert.bW{P:Program}{o:Oper}{rr:St}{r:aa}(m:Mode)(hm:m=.pure∨m=.read)(hd:∀d,o.dst=some d->d<rr.n)
  (h:∀(a:Act) (g:G),Good g->(∀x∈o.op.operands,∀y,rr.ev x=some y->RV g y (a.eval x))->(m=.pure∨g.objs=rr.objs) ->
   ∃u,(execOp a.eval o).run P g.w=.ok (.value u) g.w∧RV g r u):Cert P o rr r m :=
 Cert.gG (hp:=by rcases hm with hm|hm<;>subst hm<;>trivial) hd fun base σ a g bV nB ho=>by
  obtain⟨u,h1,h2⟩:=h a g bV.good nB ho;refine⟨u,g,.inl h1,Le.refl g,bV.good,?_,h2⟩;rcases hm with hm|hm<;>subst hm<;>rfl
theorem Cert.Io{P:Program}{o:Oper}{rr:St}{r:aa}{id:Nat}(hd:∀d,o.dst=some d->d<rr.n)
  (h:∀(a:Act) (g:G),Good g->(∀x∈o.op.operands,∀y,rr.ev x=some y->RV g y (a.eval x))->g.objs[id]?=rr.objs[id]? ->
   ∃u,(execOp a.eval o).run P g.w=.ok (.value u) g.w∧RV g r u):Cert P o rr r (.rd id) :=
 Cert.qS trivial hd fun base σ a g bV nB ho=>by
  obtain⟨u,h1,h2⟩:=h a g bV.good nB ho;exact⟨u,g,.inl h1,Le.refl g,bV.good,rfl,h2⟩
theorem addr_add(b off j:Nat):(⟨b,off,none⟩:Addr).add j=⟨b,off+j,none⟩:=by
 unfold Addr.add;split
 ·rename_i h;subst h;rfl
 rfl
section
variable {P:Program} {t:TypeId} {ti:cr}
theorem DP.sizeOf(h:DP P t ti)(w:World):(Go.sizeOf t).run P w=.ok ti.size w:=by
 obtain⟨⟨i,z,h1,h2,_⟩,_⟩:=h;simp[Go.sizeOf,typeInfo,h1,h2]
theorem DP.isAgg(h:DP P t ti)(w:World):(Go.isAgg t).run P w=.ok ti.desc.agg w:=by
 obtain⟨_,d,h1,h2⟩:=h;simp only[Go.isAgg,Go.underlying,Sem.run_bind,run_program,Result.andThen_ok,h1];cases hd:ti.desc<;>rw[hd]at h2<;>simp only[rI]at h2
 ·cases d<;>simp_all [TD.agg]
 ·obtain⟨fs,h3,_⟩:=h2;subst h3;simp[TD.agg]
 ·subst h2;simp[TD.agg]
 ·subst h2;simp[TD.agg]
 subst h2;simp[TD.agg]
theorem DP.zeroValue(h:DP P t ti):∃z,(∀w,(Go.zeroValue t).run P w=.ok z w)∧z.cells.size=ti.zero.length∧ti.zero.length=ti.size∧(ti.desc.agg=true->∃cs,z=.agg cs) ∧
  (∀g:G,∀(j:Nat) (c:aa) (u:Value),ti.zero[j]?=some c->z.cells[j]?=some u->RV g c u)∧∀c∈ti.zero,c.scalar:=by
 obtain⟨⟨i,z,h1,h2,h3,h4,h5,h6,h7,h8,h9⟩,_⟩:=h;exact⟨z,fun w=>by simp[Go.zeroValue,typeInfo,h1,h4],h5,h6,h7.1,h8,h9⟩
theorem DP.nX(h:DP P t ti)(fO:ti.desc.agg=true)(w:World)(b off:Nat)(f:Nat->Value)(hc:∀j,j<ti.size->w.cell? ⟨b,off+j,none⟩=some (f j)) :
  (loadVar t ⟨b,off,none⟩).run P w=.ok (.agg ((List.range ti.size).map f).toArray) w:=by
 have hl:=run_loadCells (P:=P) w ⟨b,off,none⟩ ti.size f (fun j hj=>by rw[addr_add];exact hc j hj);simp[loadVar,h.isAgg,h.sizeOf,fO,hl]
theorem DP.mN(h:DP P t ti)(fO:ti.desc.agg=false)(w:World)(a:Addr)(u:Value)(hc:w.cell? a=some u):(loadVar t a).run P w=.ok u w:=by
 simp[loadVar,h.isAgg,fO,hc]
end
theorem nc(k:IntKind)(n:Int)(h1:k.min<=n)(h2:n<=k.max):k.wrap n=n:=by
 cases k<;>simp[IntKind.min,IntKind.max,IntKind.wrap,IntKind.bits,IntKind.signed]at *<;>omega
theorem RV.iZ{g:G}{x:aa}{u:Value}(h:RV g x u)(hs:x.scalar):u.oneCell'=true∧u.cells = #[u]:=by
 cases h with
 | v hx =>
  cases u<;>simp[iV]at hx<;>simp[Value.oneCell',Value.cells]
 | agg=>exact hs.elim
 | cN=>exact hs.elim
 | nil=>simp[Value.oneCell',Value.cells]
 | aB=>simp[Value.oneCell',Value.cells]
 | ip=>simp[Value.oneCell',Value.cells]
 | mp=>simp[Value.oneCell',Value.cells]
 | ms=>simp[Value.oneCell',Value.cells]
 | os=>simp[Value.oneCell',Value.cells]
 | raw=>simp[Value.oneCell',Value.cells]
 | mm=>simp[Value.oneCell',Value.cells]
 | im=>simp[Value.oneCell',Value.cells]
 | fn=>simp[Value.oneCell',Value.cells]
theorem RV.cells{g:G}{x:aa}{u:Value}(h:RV g x u)(hs:∀c∈x.cells,c.scalar):u.cells.size=x.cells.length∧∀(j:Nat) (c:aa) (e:Value),x.cells[j]?=some c->u.cells[j]?=some e->RV g c e:=by
 by_cases hx:x.scalar
 ·have:=(h.iZ hx).2;have hc:x.cells=[x]:=by
   cases x<;>simp[aa.scalar]at hx<;>rfl
  rw[this,hc];refine⟨rfl,fun j c e h1 h2=>?_⟩
  match j,h1,h2 with
  | 0,h1,h2 =>
   simp at h1 h2;subst h1;subst h2;exact h
 cases h with
 | agg hl dI hh=>exact⟨hl,hh⟩
 | cN=>exact absurd (hs _ (List.mem_singleton.2 rfl)) (by simp[aa.scalar])
 | _=>exact absurd trivial hx
theorem wS{α:Type}(l:List α)(n:Nat)(f:Nat->α)(hn:l.length=n)(h:∀j,j<n->l[j]?=some (f j)):(List.range n).map f=l:=by
 apply List.ext_getElem?;intro i;rcases Nat.lt_or_ge i n with hi|hi
 ·rw[h i hi];simp[hi]
 rw[List.getElem?_eq_none (by simpa using hi),List.getElem?_eq_none (by omega)]
theorem RV.ofRow{g:G}(cs:List aa)(f:Nat->Value)(dI:∀c∈cs,c.scalar)(hr:∀(j:Nat)(c:aa),cs[j]?=some c->RV g c (f j)):RV g (.agg cs) (.agg ((List.range cs.length).map f).toArray) :=
 .agg (by simp) dI fun i c u h1 h2=>by
  have hi:=ag h1;simp[hi]at h2;subst h2;exact hr i c h1
theorem RV.b6{g:G}{x u:Value}(h:RV g (.v x) u):u=x∧iV x:=by
 cases h with
 | v h=>exact⟨rfl,h⟩
theorem RV.nV{g:G}{oa:Option Addr}{cs:List aa}{u:Value}(h:RV g (.ip oa cs) u):∃(b off:Nat) (f:Nat->Value),u=.pointer (some ⟨b,off,none⟩)∧(oa=none∨oa=some ⟨b,off,none⟩)∧(∀c∈cs,c.scalar) ∧
  (∀(j:Nat) (c:aa),cs[j]?=some c->g.cell b (off+j)=some (f j)∧¬ja g b (off+j))∧∀(j:Nat) (c:aa),cs[j]?=some c->RV g c (f j):=by
 cases h with
 | ip ha dI f hm hr=>exact⟨_,_,f,rfl,ha,dI,hm,hr⟩
theorem RV.jG{g:G}{id off:Nat}{u:Value}(h:RV g (.mp id off) u):∃(l:Loc) (o:aq),g.env[id]?=some (some l)∧g.objs[id]?=some o∧¬o.aJ∧u=.pointer (some ⟨l.block,off,none⟩):=by
 cases h with
 | mp he ho hn=>exact⟨_,_,he,ho,hn,rfl⟩
theorem RV.pV{g:G}{id off len cap:Nat}{u:Value}(h:RV g (.ms id off len cap) u):∃(l:Loc) (o:aq),g.env[id]?=some (some l)∧g.objs[id]?=some o∧¬o.aJ∧len<=cap∧len<=2 ^ 62∧∃iw,cap<=iw∧u=.slice (some ⟨l.block,off,none⟩) len iw:=by
 cases h with
 | ms he ho hn hc qh cW=>exact⟨_,_,he,ho,hn,hc,cW,_,qh,rfl⟩
theorem RV.vg{g:G}{id len sz:Nat}{u:Value}(h:RV g (.os id len sz) u):∃(l:Loc) (o:aq) (cap:Nat),g.env[id]?=some (some l)∧g.objs[id]?=some o∧¬o.aJ∧len<=cap∧cap*sz<=l.sz∧len<=2 ^ 62∧u=.slice (some ⟨l.block,0,none⟩) len cap:=by
 cases h with
 | os he ho hn hc hb cW=>exact⟨_,_,_,he,ho,hn,hc,hb,cW,rfl⟩
theorem RV.LF{g:G}{sz n id:Nat}{u:Value}(h:RV g (.raw sz n id) u):∃(a:Addr) (cap:Nat),u=.slice (some a) n cap∧n<=cap∧sd g (.tok id) a sz 0 cap:=by
 cases h with
 | raw hn ho=>exact⟨_,_,rfl,hn,ho⟩
theorem RV.vd{g:G}{id:Nat}{u:Value}(h:RV g (.mm id) u):∃(l:Loc) (o:aq),g.env[id]?=some (some l)∧g.objs[id]?=some o∧¬o.aJ∧u=.map (some l.block):=by
 cases h with
 | mm he ho hn=>exact⟨_,_,he,ho,hn,rfl⟩
theorem RV.xZ{g:G}{cs:List aa}{u:Value}(h:RV g (.agg cs) u):∃vs:Array Value,u=.agg vs∧vs.size=cs.length∧(∀c∈cs,c.scalar)∧∀(i:Nat) (c:aa) (e:Value),cs[i]?=some c->vs[i]?=some e->RV g c e:=by
 cases h with
 | agg hl dI h=>exact⟨_,rfl,hl,dI,h⟩
theorem RV.N7{g:G}{cs:List aa}{u:Value}(h:RV g (.cN cs) u):∃vs:Array Value,u=.tuple vs∧vs.size=cs.length∧∀(i:Nat) (c:aa) (e:Value),cs[i]?=some c->vs[i]?=some e->RV g c e:=by
 cases h with
 | cN hl h=>exact⟨_,rfl,hl,h⟩
theorem RV.Pq{g:G}{f:Fn}{fs cs:List aa}{u:Value}(h:RV g (.fn f fs cs) u):∃us vs:Array Value,u=.func f us vs∧us.size=fs.length∧vs.size=cs.length ∧
  (∀(i:Nat) (c:aa) (e:Value),fs[i]?=some c->us[i]?=some e->RV g c e)∧∀(i:Nat) (c:aa) (e:Value),cs[i]?=some c->vs[i]?=some e->RV g c e:=by
 cases h with
 | fn hl xw h h'=>exact⟨_,_,rfl,hl,xw,h,h'⟩
theorem RV.Qu{g:G}{kt:KT}{es:List (Value×aa)}{u:Value}(h:RV g (.im kt es) u):∃(r clk:Nat) (arr:Array MapEntry),u=.map (some r)∧g.w.heap[r]?=some (.map arr clk)∧arr.size=es.length ∧
  (∀(i:Nat) (e:MapEntry) (kx:Value×aa),arr[i]?=some e->es[i]?=some kx->e.key=kx.1)∧(∀p∈es,kt.ok p.1)∧∀(i:Nat) (e:MapEntry) (kx:Value×aa),arr[i]?=some e->es[i]?=some kx->RV g kx.2 e.val:=by
 cases h with
 | im hh hn hl hk wK hb hr=>exact⟨_,_,_,rfl,hh,hl,hk,wK,hr⟩
theorem RV.fH{g:G}{sz:Nat}{xs:List aa}{o:oV}{u:Value}(h:RV g (.aB sz xs o) u) :
  (u=.slice none 0 0∧xs=[])∨∃(a:Addr) (cap:Nat) (f:Nat->Value),u=.slice (some a) xs.length cap∧(∀x∈xs,x.cells.length=sz)∧(∀x∈xs,∀c∈x.cells,c.scalar)∧xs.length<=cap∧xs.length<=2 ^ 62∧(xs≠[]->a.spot=none) ∧
   (∀(j:Nat) (c:aa),(aw xs)[j]?=some c->g.cell a.block (a.off+j)=some (f j)∧¬ja g a.block (a.off+j))∧(∀(j:Nat) (c:aa),(aw xs)[j]?=some c->RV g c (f j))∧sd g o a sz xs.length cap:=by
 cases h with
 | nil=>exact .inl ⟨rfl,rfl⟩
 | aB c7 dI dv cW hs f hm hr ho=>exact .inr ⟨_,_,f,rfl,c7,dI,dv,cW,hs,hm,hr,ho⟩
theorem RV.Em{g:G}{sz:Nat}{xs:List aa}{o:oV}{u:Value}(h:RV g (.aB sz xs o) u):xs.length<=2 ^ 62:=by
 rcases h.fH with⟨_,h⟩|⟨_,_,_,_,_,_,_,h,_⟩
 ·subst h;simp
 exact h
theorem RV.rS{g:G}{sz:Nat}{xs:List aa}{o:oV}{u:Value}(h:RV g (.aB sz xs o) u):RV g (.aB sz xs .sh) u:=by
 cases h with
 | nil=>exact .nil (fun id e=>by cases e) (by simp)
 | aB c7 dI dv cW hs f hm hr ho=>exact .aB c7 dI dv cW hs f hm hr trivial
theorem lu{sz:Nat}{xs:List aa}(c7:∀x∈xs,x.cells.length=sz){i j:Nat}{x c:aa}(hx:xs[i]?=some x)(hc:x.cells[j]?=some c):(aw xs)[i*sz+j]?=some c:=by
 induction xs generalizing i with
 | nil=>simp at hx
 | cons y ys ih =>
  have hy:=c7 y (by simp);cases i with
  | zero =>
   simp at hx;subst hx;simp only[aw,List.flatMap_cons,Nat.zero_mul,Nat.zero_add];rw[List.getElem?_append,if_pos (ag hc)];exact hc
  | succ i =>
   simp at hx;have:=ih (fun x hx=>c7 x (by simp[hx])) hx;simp only[aw,List.flatMap_cons]at this ⊢;rw[List.getElem?_append,if_neg (by rw[hy,Nat.succ_mul];omega),hy];rw[show(i+1)*sz+j-sz=i*sz+j by rw[Nat.succ_mul];omega];exact this
theorem cj{sz:Nat}{xs:List aa}(c7:∀x∈xs,x.cells.length=sz):(aw xs).length=xs.length*sz:=by
 induction xs with
 | nil=>simp[aw]
 | cons y ys ih =>
  have hy:=c7 y (by simp);have:=ih (fun x hx=>c7 x (by simp[hx]));simp only[aw,List.flatMap_cons,List.length_append,List.length_cons]at this ⊢;rw[this,hy,Nat.succ_mul];omega
theorem EO{P:Program}{o:Oper}{σ:St}{x:Operand}{y:aa}(ho:o.op=.move x∨o.op=.assign x)(hd:∀d,o.dst=some d->d<σ.n)(hx:σ.ev x=some y):Cert P o σ y .pure :=
 Cert.bW .pure (.inl rfl) hd fun a g _ h _=>⟨a.eval x,by rcases ho with ho|ho<;>simp[execOp,ho],h x (by rcases ho with ho|ho<;>simp[ho,Op.operands]) y hx⟩
theorem G1{P:Program}{o:Oper}{σ:St}(sz:Nat)(ho:o.op=.move (.const (.slice none 0 0))∨o.op=.assign (.const (.slice none 0 0)))(hd:∀d,o.dst=some d->d<σ.n):Cert P o σ (.aB sz [] .ex) .pure :=
 Cert.bW .pure (.inl rfl) hd fun a g _ _ _=>⟨.slice none 0 0,by rcases ho with ho|ho<;>simp[execOp,ho,Act.eval],.nil (fun id e=>by cases e) (by simp)⟩
theorem xd{P:Program}{o:Oper}{σ:St}{c x z:Operand}{b:Bool}{y:aa}(ho:o.op=.pick c x z)(hd:∀d,o.dst=some d->d<σ.n)(hc:σ.ev c=some (.v (.bool b)))
  (hx:b=true->σ.ev x=some y) (hz:b=false->σ.ev z=some y):Cert P o σ y .pure :=
 Cert.bW .pure (.inl rfl) hd fun a g _ h _=>by
  have e2:=(h c (by simp[ho,Op.operands]) _ hc).b6.1;cases b
  ·exact⟨a.eval z,by simp[execOp,ho,e2,asBool],h z (by simp[ho,Op.operands]) y (hz rfl)⟩
  exact⟨a.eval x,by simp[execOp,ho,e2,asBool],h x (by simp[ho,Op.operands]) y (hx rfl)⟩
theorem mu{α:Type}{l:List α}{n j:Nat}{c:α}(h:(l.take n)[j]?=some c):l[j]?=some c:=by
 rw[List.getElem?_take]at h;split at h
 ·exact h
 cases h
theorem yh{P:Program}{aP:ee}(hT:b8 P aP){o:Oper}{σ:St}{t:TypeId}{x:Operand}{ti:cr}{oa:Option Addr}{cs:List aa}(ho:o.op=.load t x)(hd:∀d,o.dst=some d->d<σ.n)
  (ht:aP t=some ti) (hx:σ.ev x=some (.ip oa cs)) (fO:ti.desc.agg=true) (hs:ti.size<=cs.length):Cert P o σ (.agg (cs.take ti.size)) .pure :=
 Cert.bW .pure (.inl rfl) hd fun a g _ h _=>by
  obtain⟨b,off,f,e,_,dI,hm,hr⟩:=(h x (by simp[ho,Op.operands]) _ hx).nV;have bL:=(hT t ti ht).nX fO g.w b off f (fun j hj=>(hm j _ (List.getElem?_eq_getElem (by omega))).1);have hlen:(cs.take ti.size).length=ti.size:=by simp;omega
  refine⟨.agg ((List.range ti.size).map f).toArray,by simp[execOp,ho,e,Instr.loadAt,Instr.sureAddr,bL],?_⟩;have:=RV.ofRow (g:=g) (cs.take ti.size) f (fun c hc=>dI c (List.mem_of_mem_take hc)) (fun j c hj=>hr j c (mu hj));rw[hlen]at this;exact this
theorem wx{P:Program}{aP:ee}(hT:b8 P aP){o:Oper}{σ:St}{t:TypeId}{x:Operand}{ti:cr}{oa:Option Addr}{cs:List aa}{c:aa}(ho:o.op=.load t x)(hd:∀d,o.dst=some d->d<σ.n)
  (ht:aP t=some ti) (hx:σ.ev x=some (.ip oa cs)) (fO:ti.desc.agg=false) (hs:cs[0]?=some c):Cert P o σ c .pure :=
 Cert.bW .pure (.inl rfl) hd fun a g _ h _=>by
  obtain⟨b,off,f,e,_,dI,hm,hr⟩:=(h x (by simp[ho,Op.operands]) _ hx).nV;have bL:=(hT t ti ht).mN fO g.w ⟨b,off,none⟩ (f 0) (hm 0 c hs).1;exact⟨f 0,by simp[execOp,ho,e,Instr.loadAt,Instr.sureAddr,bL],hr 0 c hs⟩
theorem Good.row{g:G}(hg:Good g){id:Nat}{cs:List aa}{l:Loc}(ho:g.objs[id]?=some (.cells cs))(he:g.env[id]?=some (some l)) :
  ∃(arr:Array Value) (t:TypeId),l.lo=0∧g.w.heap[l.block]?=some (.cells arr t (0,0))∧cs.length<=arr.size∧(∀(j:Nat) (c:aa) (u:Value),cs[j]?=some c->arr[j]?=some u->RV g c u)∧(∀c∈cs,c.scalar)∧l.sz<=arr.size:=by
 obtain⟨l',arr,t,h1,h2,h3,h4,h5,h6⟩:=hg.cells id cs ho;rw[he]at h1;simp only[Option.some.injEq]at h1;subst h1;exact⟨arr,t,h2,h3,h4,h5,h6⟩
theorem cell_of_row{w:World}{b:Nat}{arr:Array Value}{t:TypeId}{fz:Nat×Nat}(h:w.heap[b]?=some (.cells arr t fz))(off:Nat):w.cell? ⟨b,off,none⟩=arr[off]?:=by
 simp[World.cell?,h]
theorem yi{P:Program}{aP:ee}(hT:b8 P aP){o:Oper}{σ:St}{t:TypeId}{x:Operand}{ti:cr}{id off:Nat}{cs:List aa}(ho:o.op=.load t x)(hd:∀d,o.dst=some d->d<σ.n)
  (ht:aP t=some ti) (hx:σ.ev x=some (.mp id off)) (lC:σ.objs[id]?=some (.cells cs)) (fO:ti.desc.agg=true) (hs:off+ti.size<=cs.length):Cert P o σ (.agg ((cs.drop off).take ti.size)) (.rd id) :=
 Cert.Io hd fun a g hg h hO=>by
  obtain⟨l,o1,he,h1,_,e⟩:=(h x (by simp[ho,Op.operands]) _ hx).jG;obtain⟨arr,t',_,di,hlen,tA,dI,_⟩:=hg.row (by rw[hO];exact lC) he;obtain⟨f,hf⟩:∃f:Nat->Value,∀j,off+j<arr.size->arr[off+j]?=some (f j):=⟨fun j=>arr.getD (off+j) undef,fun j hj=>by simp[Array.getD_eq_getD_getElem?,hj]⟩
  have bL:=(hT t ti ht).nX fO g.w l.block off f (fun j hj=>by
   rw[cell_of_row di];exact hf j (by omega))
  have hl:((cs.drop off).take ti.size).length=ti.size:=by simp;omega
  refine⟨.agg ((List.range ti.size).map f).toArray,by simp[execOp,ho,e,Instr.loadAt,Instr.sureAddr,bL],?_⟩;have:=RV.ofRow (g:=g) ((cs.drop off).take ti.size) f (fun c hc=>dI c (List.mem_of_mem_drop (List.mem_of_mem_take hc))) (fun j c hj=>by
   have jo:=mu hj;rw[List.getElem?_drop]at jo;have bd:=ag jo;exact tA (off+j) c _ jo (hf j (by omega)))
  rw[hl]at this;exact this
theorem wy{P:Program}{aP:ee}(hT:b8 P aP){o:Oper}{σ:St}{t:TypeId}{x:Operand}{ti:cr}{id off:Nat}{cs:List aa}{c:aa}(ho:o.op=.load t x)(hd:∀d,o.dst=some d->d<σ.n)
  (ht:aP t=some ti) (hx:σ.ev x=some (.mp id off)) (lC:σ.objs[id]?=some (.cells cs)) (fO:ti.desc.agg=false) (hs:cs[off]?=some c):Cert P o σ c (.rd id) :=
 Cert.Io hd fun a g hg h hO=>by
  obtain⟨l,o1,he,h1,_,e⟩:=(h x (by simp[ho,Op.operands]) _ hx).jG;obtain⟨arr,t',_,di,hlen,tA,dI,_⟩:=hg.row (by rw[hO];exact lC) he;have bd:=ag hs;have AE:g.w.cell? ⟨l.block,off,none⟩=some arr[off]:=by
   rw[cell_of_row di];simp[show off<arr.size by omega]
  have bL:=(hT t ti ht).mN fO g.w ⟨l.block,off,none⟩ _ AE;exact⟨arr[off],by simp[execOp,ho,e,Instr.loadAt,Instr.sureAddr,bL],tA off c _ hs (by simp[show off<arr.size by omega])⟩
theorem oe{P:Program}{aP:ee}(hT:b8 P aP){f:Field}{tf:cr}(hf:aP f.type=some tf)(hs:tf.size≠0)(w:World)(b off:Nat) :
  (fieldPlace ⟨b,off,none⟩ f).run P w=.ok ⟨b,off+f.offset,none⟩ w:=by
 have:=(hT _ _ hf).sizeOf w;simp[fieldPlace,this,hs,addr_add]
theorem mW{P:Program}{aP:ee}(hT:b8 P aP){s:TypeId}{ti:cr}{fs:List (Nat×TypeId)}{k rU:Nat}{ft:TypeId}(ht:aP s=some ti)(aT:ti.desc=.struct fs)(hk:fs[k]?=some (rU,ft)) :
  ∃(fields:Array Field) (f:Field),P.underlying s=some (.struct fields)∧fields[k]?=some f∧f.offset=rU∧f.type=ft:=by
 obtain⟨_,d,h1,h2⟩:=hT s ti ht;rw[aT]at h2;obtain⟨fields,h3,h4⟩:=h2;subst h3;rw[<-h4]at hk;simp only[List.getElem?_map,Option.map_eq_some_iff,Prod.mk.injEq,Array.getElem?_toList]at hk;obtain⟨f,e1,e2,e3⟩:=hk;exact⟨fields,f,h1,e1,e2,e3⟩
theorem qw{P:Program}{aP:ee}(hT:b8 P aP){o:Oper}{σ:St}{s:TypeId}{x:Operand}{k rU:Nat}{ft:TypeId}{ti tf:cr}{fs:List (Nat×TypeId)}{oa:Option Addr}{cs:List aa}
  (ho:o.op=.fieldAddr s x k) (hd:∀d,o.dst=some d->d<σ.n) (ht:aP s=some ti) (aT:ti.desc=.struct fs) (hk:fs[k]?=some (rU,ft)) (hf:aP ft=some tf) (hz:tf.size≠0)
  (hx:σ.ev x=some (.ip oa cs)):Cert P o σ (.ip (oa.map (·.add rU)) (cs.drop rU)) .pure :=
 Cert.bW .pure (.inl rfl) hd fun a g _ h _=>by
  obtain⟨b,off,f,e,ha,dI,hm,hr⟩:=(h x (by simp[ho,Op.operands]) _ hx).nV;obtain⟨fields,fl,h1,h2,h3,h4⟩:=mW hT ht aT hk;subst h3;subst h4;refine⟨.pointer (some ⟨b,off+fl.offset,none⟩),by simp[execOp,ho,e,Instr.fieldAt,run_underlying h1,h2,Instr.sureAddr,oe hT hf hz],?_⟩;refine .ip ?_ (fun c hc=>dI c (List.mem_of_mem_drop hc)) (fun j=>f (fl.offset+j)) (fun j c hj=>?_) (fun j c hj=>?_)
  ·rcases ha with ha|ha<;>subst ha<;>simp[addr_add]
  ·rw[List.getElem?_drop]at hj;rw[Nat.add_assoc];exact hm _ c hj
  rw[List.getElem?_drop]at hj;exact hr _ c hj
theorem qx{P:Program}{aP:ee}(hT:b8 P aP){o:Oper}{σ:St}{s:TypeId}{x:Operand}{k rU:Nat}{ft:TypeId}{ti tf:cr}{fs:List (Nat×TypeId)}{id off:Nat}
  (ho:o.op=.fieldAddr s x k) (hd:∀d,o.dst=some d->d<σ.n) (ht:aP s=some ti) (aT:ti.desc=.struct fs) (hk:fs[k]?=some (rU,ft)) (hf:aP ft=some tf) (hz:tf.size≠0)
  (hx:σ.ev x=some (.mp id off)):Cert P o σ (.mp id (off+rU)) .pure :=
 Cert.bW .pure (.inl rfl) hd fun a g _ h _=>by
  obtain⟨l,o1,he,h1,hn,e⟩:=(h x (by simp[ho,Op.operands]) _ hx).jG;obtain⟨fields,fl,h2,h3,h4,h5⟩:=mW hT ht aT hk;subst h4;subst h5;exact⟨.pointer (some ⟨l.block,off+fl.offset,none⟩),by simp[execOp,ho,e,Instr.fieldAt,run_underlying h2,h3,Instr.sureAddr,oe hT hf hz],.mp he h1 hn⟩
theorem bY{P:Program}{aP:ee}(hT:b8 P aP){t e:TypeId}{ti:cr}(ht:aP t=some ti)(aT:ti.desc=.slice e):P.underlying t=some (.slice e):=by
 obtain⟨_,d,h1,h2⟩:=hT t ti ht;rw[aT]at h2;simp only[rI]at h2;rw[h1,h2]
def qT:oV->Nat->Option Addr
 | .sh,_=>none
 | .ex,_=>none
 | .nn,_=>none
 | .tok _,_=>none
 | .loc a,k=>some ⟨a.block,a.off+k,none⟩
theorem pE{P:Program}{aP:ee}(hT:b8 P aP){o:Oper}{σ:St}{t e:TypeId}{x i:Operand}{ti te:cr}{sz:Nat}{xs:List aa}{ow:oV}{k:IntKind}{n:Int}{y:aa}
  (ho:o.op=.indexAddr t x i) (hd:∀d,o.dst=some d->d<σ.n) (ht:aP t=some ti) (aT:ti.desc=.slice e) (he:aP e=some te) (c7:te.size=sz)
  (hx:σ.ev x=some (.aB sz xs ow)) (hi:σ.ev i=some (.v (.int k n))) (h0:0<=n) (hy:xs[n.toNat]?=some y):Cert P o σ (.ip (qT ow (n.toNat*te.size)) y.cells) .pure :=
 Cert.bW .pure (.inl rfl) hd fun a g _ h _=>by
  have ei:=(h i (by simp[ho,Op.operands]) _ hi).b6.1;have hu:=bY hT ht aT;have bd:=ag hy;rcases(h x (by simp[ho,Op.operands]) _ hx).fH with⟨_,e0⟩|⟨ad,cap,f,eu,qO,dI,_,cW,hs,hm,hr,kD⟩
  ·subst e0;simp at bd
  have OP:=hs (by intro e;subst e;simp at bd);obtain⟨b,off,sp⟩:=ad;simp only at OP;subst OP;subst c7;have kC:y∈xs:=List.mem_of_getElem? hy;refine⟨.pointer (some ⟨b,off+n.toNat*te.size,none⟩),?_,?_⟩
  ·have kg:n<(xs.length:Int):=by omega
   simp[execOp,ho,ei,eu,Instr.indexAt,asIntOf,run_underlying hu,h0,kg,(hT e te he).sizeOf,addr_add]
  have Sx:qT ow (n.toNat*te.size)=none∨qT ow (n.toNat*te.size)=some ⟨b,off+n.toNat*te.size,none⟩:=by
   cases ow with
   | loc a' =>
    have e:(⟨b,off,none⟩:Addr)=a':=kD;subst e;exact .inr rfl
   | _=>exact .inl rfl
  refine .ip Sx (dI y kC) (fun j=>f (n.toNat*te.size+j)) (fun j c hj=>?_) (fun j c hj=>?_)
  ·rw[Nat.add_assoc];exact hm _ c (lu qO hy hj)
  exact hr _ c (lu qO hy hj)
theorem qy{P:Program}{aP:ee}(hT:b8 P aP){o:Oper}{σ:St}{t e:TypeId}{x i:Operand}{ti te:cr}{id off len cap:Nat}{k:IntKind}{n:Int}
  (ho:o.op=.indexAddr t x i) (hd:∀d,o.dst=some d->d<σ.n) (ht:aP t=some ti) (aT:ti.desc=.slice e) (he:aP e=some te)
  (hx:σ.ev x=some (.ms id off len cap)) (hi:σ.ev i=some (.v (.int k n))) (h0:0<=n) (hn:n<len):Cert P o σ (.mp id (off+n.toNat*te.size)) .pure :=
 Cert.bW .pure (.inl rfl) hd fun a g _ h _=>by
  have ei:=(h i (by simp[ho,Op.operands]) _ hi).b6.1;have hu:=bY hT ht aT;obtain⟨l,o1,h1,h2,h3,_,_,_,_,eu⟩:=(h x (by simp[ho,Op.operands]) _ hx).pV;exact⟨.pointer (some ⟨l.block,off+n.toNat*te.size,none⟩),by simp[execOp,ho,ei,eu,Instr.indexAt,asIntOf,run_underlying hu,h0,hn,(hT e te he).sizeOf,addr_add],.mp h1 h2 h3⟩
end Go.Av
namespace Go.Av
theorem uu{P:Program}{aP:ee}(hT:b8 P aP){o:Oper}{σ:St}{s:TypeId}{x:Operand}{k rU:Nat}{ft:TypeId}{ti tf:cr}{fs:List (Nat×TypeId)}{cs:List aa}{r:aa}
  (ho:o.op=.field s x k) (hd:∀d,o.dst=some d->d<σ.n) (ht:aP s=some ti) (aT:ti.desc=.struct fs) (hk:fs[k]?=some (rU,ft)) (hf:aP ft=some tf)
  (hx:σ.ev x=some (.agg cs)) (hr:if tf.desc.agg then r=.agg ((cs.drop rU).take tf.size)else cs[rU]?=some r):Cert P o σ r .pure :=
 Cert.bW .pure (.inl rfl) hd fun a g _ h _=>by
  obtain⟨vs,e,hl,dI,hh⟩:=(h x (by simp[ho,Op.operands]) _ hx).xZ;obtain⟨fields,fl,h1,h2,h3,h4⟩:=mW hT ht aT hk;subst h3;subst h4;have nB:=(hT _ _ hf).isAgg g.w;have c7:=(hT _ _ hf).sizeOf g.w;split at hr
  ·rename_i fO;subst hr;refine⟨.agg (vs.extract fl.offset (fl.offset+tf.size)),by simp[execOp,ho,e,Instr.field,run_underlying h1,h2,asAgg,part,nB,fO,c7],?_⟩;refine .agg ?_ (fun c hc=>dI c (List.mem_of_mem_drop (List.mem_of_mem_take hc))) (fun i c u hi hu=>?_)
   ·simp[hl];omega
   have jt:=mu hi;rw[List.getElem?_drop]at jt;refine hh (fl.offset+i) c u jt ?_;have:i<tf.size:=by
    have:=ag hi;simp at this;omega
   rw[Array.getElem?_extract]at hu;split at hu
   ·exact hu
   cases hu
  rename_i fO;have bd:fl.offset<vs.size:=by
   rw[hl];exact ag hr
  exact⟨vs[fl.offset],by simp[execOp,ho,e,Instr.field,run_underlying h1,h2,asAgg,part,nB,fO,bd],hh _ _ _ hr (by simp[bd])⟩
theorem yg{P:Program}{o:Oper}{σ:St}{x:Operand}{k:Nat}{cs:List aa}{r:aa}
  (ho:o.op=.extract x k) (hd:∀d,o.dst=some d->d<σ.n) (hx:σ.ev x=some (.cN cs)) (hr:cs[k]?=some r):Cert P o σ r .pure :=
 Cert.bW .pure (.inl rfl) hd fun a g _ h _=>by
  obtain⟨vs,e,hl,hh⟩:=(h x (by simp[ho,Op.operands]) _ hx).N7;have bd:k<vs.size:=by
   rw[hl];exact ag hr
  exact⟨vs[k],by simp[execOp,ho,e,Instr.extract,bd],hh _ _ _ hr (by simp[bd])⟩
theorem cZ{P:Program}(op:BinOp)(t:TypeId)(x y:Operand)(a b:Value)(w:World)(h1:a≠.nilIface)(h2:∀cs,a≠.agg cs):(eqGuard op t x y a b).run P w=.ok () w:=by
 cases op<;>first|rfl|(cases a<;>first|rfl|exact absurd rfl h1|exact absurd rfl (h2 _))
def kR:BinOp->Int->Int->Option Bool
 | .eql,a,b=>some (decide (a=b))
 | .neq,a,b=>some (!decide (a=b))
 | .lss,a,b=>some (decide (a<b))
 | .leq,a,b=>some (decide (a<=b))
 | .gtr,a,b=>some (decide (b<a))
 | .geq,a,b=>some (decide (b<=a))
 | _,_,_=>none
theorem zX{P:Program}{o:Oper}{σ:St}{op:BinOp}{t t':TypeId}{x y:Operand}{k:IntKind}{m n:Int}{r:Bool}
  (ho:o.op=.binOp op t x y t') (hd:∀d,o.dst=some d->d<σ.n) (hx:σ.ev x=some (.v (.int k m))) (hy:σ.ev y=some (.v (.int k n))) (hr:kR op m n=some r):Cert P o σ (.v (.bool r)) .pure :=
 Cert.bW .pure (.inl rfl) hd fun a g _ h _=>by
  have ex:=(h x (by simp[ho,Op.operands]) _ hx).b6.1;have ey:=(h y (by simp[ho,Op.operands]) _ hy).b6.1;have hg:=cZ (P:=P) op t x y (.int k m) (.int k n) g.w (by simp) (by simp);refine⟨.bool r,?_,.v trivial⟩;have hb:(binOp op t (.int k m) (.int k n)).run P g.w=.ok (.bool r) g.w:=by
   cases op<;>first|(cases hr;done)|(obtain rfl:=Option.some.inj hr;simp[binOp,Op.intCmp];try (rw[Bool.eq_iff_iff];simp))
  simp[execOp,ho,ex,ey,hg,hb]
def bitsOf(k:IntKind)(f:BitVec k.bits->BitVec k.bits->BitVec k.bits)(a b:Int):Int:=k.wrap (f (BitVec.ofInt k.bits a) (BitVec.ofInt k.bits b)).toNat
def eO(k:IntKind):BinOp->Int->Int->Option Int
 | .add,a,b=>some (a+b)
 | .sub,a,b=>some (a-b)
 | .mul,a,b=>some (a*b)
 | .quo,a,b=>if b=0 then none else some (a.tdiv b)
 | .rem,a,b=>if b=0 then none else some (a.tmod b)
 | .and,a,b=>some (bitsOf k (fun x y=>x&&& y) a b)
 | .or,a,b=>some (bitsOf k (fun x y=>x ||| y) a b)
 | .xor,a,b=>some (bitsOf k (fun x y=>x ^^^ y) a b)
 | .andNot,a,b=>some (bitsOf k (fun x y=>x&&& ~~~y) a b)
 | _,_,_=>none
theorem wj{P:Program}{o:Oper}{σ:St}{op:BinOp}{t t':TypeId}{x y:Operand}{k:IntKind}{m n r:Int}
  (ho:o.op=.binOp op t x y t') (hd:∀d,o.dst=some d->d<σ.n) (hx:σ.ev x=some (.v (.int k m))) (hy:σ.ev y=some (.v (.int k n))) (hr:eO k op m n=some r) (h1:k.min<=r) (h2:r<=k.max) :
  Cert P o σ (.v (.int k r)) .pure :=
 Cert.bW .pure (.inl rfl) hd fun a g _ h _=>by
  have ex:=(h x (by simp[ho,Op.operands]) _ hx).b6.1;have ey:=(h y (by simp[ho,Op.operands]) _ hy).b6.1;have hg:=cZ (P:=P) op t x y (.int k m) (.int k n) g.w (by simp) (by simp);have hw:=nc k r h1 h2;refine⟨.int k r,?_,.v ⟨h1,h2⟩⟩;have hb:(binOp op t (.int k m) (.int k n)).run P g.w=.ok (.int k r) g.w:=by
   cases op with
   | add | sub | mul=>simp[eO]at hr;subst hr;simp[binOp,Op.intArith,hw]
   | quo | rem =>
    simp only[eO]at hr;split at hr
    ·cases hr
    rename_i vW;simp only[Option.some.injEq]at hr;subst hr;simp[binOp,Op.intDiv,vW,hw]
   | and | or | xor | andNot=>simp[eO]at hr;subst hr;simp[binOp,Op.intBits,bitsOf]
   | _=>simp[eO]at hr
  simp[execOp,ho,ex,ey,hg,hb]
def dM:BinOp->Bool
 | .add=>false
 | .sub=>false
 | .mul=>false
 | .quo=>false
 | .rem=>false
 | .and=>false
 | .or=>false
 | .xor=>false
 | .shl=>true
 | .shr=>true
 | .andNot=>false
 | .eql=>false
 | .neq=>false
 | .lss=>false
 | .leq=>false
 | .gtr=>false
 | .geq=>false
def fp(k:IntKind):BinOp->Int->Int->Int
 | .shl,a,n=>k.wrap (a*2 ^ (min n.toNat k.bits))
 | _,a,n=>a.fdiv (2 ^ (min n.toNat k.bits))
theorem wC{P:Program}{o:Oper}{σ:St}{op:BinOp}{t t':TypeId}{x y:Operand}{k k':IntKind}{m n:Int}
  (ho:o.op=.binOp op t x y t') (hd:∀d,o.dst=some d->d<σ.n) (hx:σ.ev x=some (.v (.int k m))) (hy:σ.ev y=some (.v (.int k' n))) (hs:dM op=true) (hn:0<=n) (h1:k.min<=fp k op m n) (h2:fp k op m n<=k.max) :
  Cert P o σ (.v (.int k (fp k op m n))) .pure :=
 Cert.bW .pure (.inl rfl) hd fun a g _ h _=>by
  have ex:=(h x (by simp[ho,Op.operands]) _ hx).b6.1;have ey:=(h y (by simp[ho,Op.operands]) _ hy).b6.1;have hg:=cZ (P:=P) op t x y (.int k m) (.int k' n) g.w (by simp) (by simp);have lS:¬n<0:=by omega
  refine⟨.int k (fp k op m n),?_,.v ⟨h1,h2⟩⟩;have hb:(binOp op t (.int k m) (.int k' n)).run P g.w=.ok (.int k (fp k op m n)) g.w:=by
   cases op with
   | shl | shr=>simp[binOp,Op.shift,lS,fp]
   | _=>simp[dM]at hs
  simp[execOp,ho,ex,ey,hg,hb]
theorem GL(a b:ByteArray):(a.toList == b.toList)=decide (a=b):=by
 rw[Bool.eq_iff_iff];simp only[beq_iff_eq,decide_eq_true_eq];refine⟨fun h=>?_,fun h=>by rw[h]⟩;rw[ByteArray.toList_eq,ByteArray.toList_eq]at h;exact ByteArray.ext (Array.toList_inj.1 h)
theorem wv{P:Program}{o:Oper}{σ:St}{op:BinOp}{t t':TypeId}{x y:Operand}{m n:ByteArray}{r:Bool}
  (ho:o.op=.binOp op t x y t') (hd:∀d,o.dst=some d->d<σ.n) (hx:σ.ev x=some (.v (.string m))) (hy:σ.ev y=some (.v (.string n)))
  (hr:(op=.eql∧r=decide (m=n))∨(op=.neq∧r=!decide (m=n))):Cert P o σ (.v (.bool r)) .pure :=
 Cert.bW .pure (.inl rfl) hd fun a g _ h _=>by
  have ex:=(h x (by simp[ho,Op.operands]) _ hx).b6.1;have ey:=(h y (by simp[ho,Op.operands]) _ hy).b6.1;have hg:=cZ (P:=P) op t x y (.string m) (.string n) g.w (by simp) (by simp);refine⟨.bool r,?_,.v trivial⟩;have hb:(binOp op t (.string m) (.string n)).run P g.w=.ok (.bool r) g.w:=by
   have Gq:=GL m n;rcases hr with⟨e1,e2⟩|⟨e1,e2⟩<;>subst e1<;>subst e2
   ·simp only[binOp,Op.stringOp,Sem.run_pure,Gq]
   simp only[binOp,Op.stringOp,Sem.run_pure,Gq]
  simp[execOp,ho,ex,ey,hg,hb]
theorem zZ{P:Program}{o:Oper}{σ:St}{op:BinOp}{t t':TypeId}{x y:Operand}{m n r:Bool}
  (ho:o.op=.binOp op t x y t') (hd:∀d,o.dst=some d->d<σ.n) (ht:P.underlying t=some .bool) (hx:σ.ev x=some (.v (.bool m))) (hy:σ.ev y=some (.v (.bool n)))
  (hr:(op=.eql∧r=(m == n))∨(op=.neq∧r=!(m == n))):Cert P o σ (.v (.bool r)) .pure :=
 Cert.bW .pure (.inl rfl) hd fun a g _ h _=>by
  have ex:=(h x (by simp[ho,Op.operands]) _ hx).b6.1;have ey:=(h y (by simp[ho,Op.operands]) _ hy).b6.1;have hg:=cZ (P:=P) op t x y (.bool m) (.bool n) g.w (by simp) (by simp);refine⟨.bool r,?_,.v trivial⟩;have he:(Op.equal t (.bool m) (.bool n)).run P g.w=.ok (m == n) g.w:=by
   have e:∃d,Op.equal t (.bool m) (.bool n)=Op.equalIn (d+1) t (.bool m) (.bool n):=⟨9999,rfl⟩
   obtain⟨d,e⟩:=e;rw[e];simp only[Op.equalIn,Sem.run_bind,run_underlying ht,Result.andThen_ok,Sem.run_pure]
  rcases hr with⟨e1,e2⟩|⟨e1,e2⟩<;>subst e1<;>subst e2<;>simp[execOp,ho,ex,ey,hg,binOp,he]
theorem G2{P:Program}{o:Oper}{σ:St}{t:TypeId}{x:Operand}{m:Bool}
  (ho:o.op=.unOp .not t x) (hd:∀d,o.dst=some d->d<σ.n) (hx:σ.ev x=some (.v (.bool m))):Cert P o σ (.v (.bool !m)) .pure :=
 Cert.bW .pure (.inl rfl) hd fun a g _ h _=>by
  have ex:=(h x (by simp[ho,Op.operands]) _ hx).b6.1;exact⟨.bool !m,by simp[execOp,ho,ex,Op.unary],.v trivial⟩
theorem G0{P:Program}{o:Oper}{σ:St}{t:TypeId}{x:Operand}{k:IntKind}{m:Int}
  (ho:o.op=.unOp .neg t x) (hd:∀d,o.dst=some d->d<σ.n) (hx:σ.ev x=some (.v (.int k m))) (h1:k.min<=-m) (h2:-m<=k.max):Cert P o σ (.v (.int k (-m))) .pure :=
 Cert.bW .pure (.inl rfl) hd fun a g _ h _=>by
  have ex:=(h x (by simp[ho,Op.operands]) _ hx).b6.1;have hw:=nc k (-m) h1 h2;exact⟨.int k (-m),by simp[execOp,ho,ex,Op.unary,Op.intArith,hw],.v ⟨h1,h2⟩⟩
theorem cY{P:Program}{o:Oper}{b:Builtin}{args:Array Operand}{pc:Array TypeId}(ho:o.op=.call ⟨.builtin b,args,pc⟩)(a:Act)(w:World) :
  (execOp a.eval o).run P w=(builtin b pc o.type (args.map fun | .const _=>true|_=>false) (args.map a.eval)).run P w:=by
 simp[execOp,ho,resolve,invoke];rfl
theorem GY{P:Program}{aP:ee}(hT:b8 P aP){o:Oper}{σ:St}{t e:TypeId}{x:Operand}{ti:cr}{n:Nat}{y:aa}
  (ho:o.op=.call ⟨.builtin .len,#[x],#[t]⟩) (hd:∀d,o.dst=some d->d<σ.n) (ht:aP t=some ti) (aT:ti.desc=.slice e) (hx:σ.ev x=some y)
  (hy:(∃sz xs ow,y=.aB sz xs ow∧n=xs.length)∨(∃id off cap,y=.ms id off n cap)∨∃id sz,y=.os id n sz):Cert P o σ (.v (.int .i64 n)) .pure :=
 Cert.bW .pure (.inl rfl) hd fun a g _ h _=>by
  have hu:=bY hT ht aT;have iA:=h x (by simp[ho,Op.operands,Call.operands]) _ hx;have key:∃ad cap,a.eval x=.slice ad n cap∧n<=2 ^ 62:=by
   rcases hy with⟨sz,xs,ow,e1,e2⟩|⟨id,off,cap,e1⟩|⟨id,sz,e1⟩
   ·subst e1;subst e2;rcases iA.fH with⟨q1,q2⟩|⟨ad,cap,_,q1,_,_,_,q2,_⟩
    ·subst q2;exact⟨_,_,q1,by simp⟩
    exact⟨_,_,q1,q2⟩
   ·subst e1;obtain⟨l,_,_,_,_,_,q2,_,_,q1⟩:=iA.pV;exact⟨_,_,q1,q2⟩
   subst e1;obtain⟨l,_,_,_,_,_,_,_,q2,q1⟩:=iA.vg;exact⟨_,_,q1,q2⟩
  obtain⟨ad,cap,q1,q2⟩:=key;refine⟨.int .i64 n,?_,.v ?_⟩
  ·rw[cY ho];simp[builtin,Builtin.len_,q1,run_underlying hu,goInt]
  simp[iV,IntKind.min,IntKind.max,IntKind.bits,IntKind.signed];omega
theorem run_sliceBound{P:Program}(k:IntKind)(n:Int)(y:Nat)(c:BoundsCode)(w:World)(h0:0<=n)(h1:n<=y):(Instr.sliceBound (.int k n) y c).run P w=.ok n.toNat w:=by
 simp[Instr.sliceBound,asIntOf,h0,h1]
theorem DS{sz:Nat}{xs:List aa}(c7:∀x∈xs,x.cells.length=sz)(lo hi j:Nat)(c:aa)(h:(aw ((xs.take hi).drop lo))[j]?=some c):(aw xs)[lo*sz+j]?=some c:=by
 induction xs generalizing lo hi j with
 | nil=>simp[aw]at h
 | cons y ys ih =>
  have hy:=c7 y (by simp);have Eg:=ih (fun x hx=>c7 x (by simp[hx]));cases hi with
  | zero=>simp[aw]at h
  | succ hi =>
   cases lo with
   | zero =>
    simp only[List.take_succ_cons,List.drop_zero,aw,List.flatMap_cons,Nat.zero_mul,Nat.zero_add]at h ⊢;rw[List.getElem?_append]at h ⊢;split at h
    ·rename_i hj;rw[if_pos hj];exact h
    rename_i hj;rw[if_neg hj];have:=Eg 0 hi (j-y.cells.length) (by simpa[aw]using h);simpa[aw]using this
   | succ lo =>
    simp only[List.take_succ_cons,List.drop_succ_cons]at h;have:=Eg lo hi j h;simp only[aw,List.flatMap_cons]at this ⊢;rw[List.getElem?_append,if_neg (by rw[hy,Nat.succ_mul];omega),hy,show(lo+1)*sz+j-sz=lo*sz+j by rw[Nat.succ_mul];omega];exact this
def nK(σ:St)(p:Option Operand)(Cq n:Nat):Prop:=(p=none∧n=Cq)∨∃q k,p=some q∧σ.ev q=some (.v (.int k (n:Int)))
theorem Ch{P:Program}{aP:ee}(hT:b8 P aP){o:Oper}{σ:St}{t e:TypeId}{x:Operand}{ti te:cr}{sz:Nat}{xs:List aa}{ow:oV}{lo hi:Option Operand}{l h:Nat}
  (ho:o.op=.slice t x lo hi none) (hd:∀d,o.dst=some d->d<σ.n) (ht:aP t=some ti) (aT:ti.desc=.slice e) (he:aP e=some te) (c7:te.size=sz) (hx:σ.ev x=some (.aB sz xs ow))
  (gy:nK σ lo 0 l) (o7:nK σ hi xs.length h) (h1:l<=h) (h2:h<=xs.length):Cert P o σ (.aB sz ((xs.take h).drop l) .sh) .pure :=
 Cert.bW .pure (.inl rfl) hd fun a g _ hh _=>by
  have hu:=bY hT ht aT;have iA:=hh x (by cases lo<;>cases hi<;>simp[ho,Op.operands]) _ hx;have hl:(lo=none∧l=0)∨∃q k,lo=some q∧a.eval q=.int k (l:Int):=by
   rcases gy with q|⟨q,k,e1,e2⟩
   ·exact .inl q
   exact .inr ⟨q,k,e1,(hh q (by subst e1;cases hi<;>simp[ho,Op.operands]) _ e2).b6.1⟩
  have jt:(hi=none∧h=xs.length)∨∃q k,hi=some q∧a.eval q=.int k (h:Int):=by
   rcases o7 with q|⟨q,k,e1,e2⟩
   ·exact .inl q
   exact .inr ⟨q,k,e1,(hh q (by subst e1;cases lo<;>simp[ho,Op.operands]) _ e2).b6.1⟩
  have dh:execOp a.eval o=(do pure (.value (<-Instr.sliceAt t (a.eval x) (lo.map a.eval) (hi.map a.eval) none))):=by
   simp[execOp,ho]
  clear gy o7 ho;have bounds:∀cap:Nat,xs.length<=cap->(Instr.sliceBounds true xs.length cap (lo.map a.eval) (hi.map a.eval) none).run P g.w=.ok (l,h,cap) g.w:=by
   intro cap dv;rcases hl with⟨e1,e2⟩|⟨p,k,e1,hk⟩
   ·rcases jt with⟨e3,e4⟩|⟨q,k',e3,nD⟩
    ·subst e1 e2 e3 e4;simp[Instr.sliceBounds]
    subst e1 e2 e3;have:=run_sliceBound (P:=P) k' h cap .sliceAcap g.w (by omega) (by omega);simp[Instr.sliceBounds,nD,this]
   rcases jt with⟨e3,e4⟩|⟨q,k',e3,nD⟩
   ·subst e1 e3 e4;have:=run_sliceBound (P:=P) k l xs.length .sliceB g.w (by omega) (by omega);simp[Instr.sliceBounds,hk,this]
   subst e1 e3;have e1:=run_sliceBound (P:=P) k' h cap .sliceAcap g.w (by omega) (by omega);have e2:=run_sliceBound (P:=P) k l h .sliceB g.w (by omega) (by omega);simp[Instr.sliceBounds,hk,nD,e1,e2]
  have eG:=(hT e te he).sizeOf g.w;rcases iA.fH with⟨q1,q2⟩|⟨ad,cap,f,q1,qO,dI,dv,cW,hs,hm,hr,_⟩
  ·subst q2;have b:=bounds 0 (by simp);simp at h2;subst h2;have:l=0:=by omega
   subst this;refine⟨.slice none 0 0,?_,.nil (fun id e=>by cases e) (by simp)⟩;rw[dh];simp only[List.length_nil]at b;simp[Instr.sliceAt,run_underlying hu,Instr.slice,q1,eG,b]
  obtain⟨b0,TR,sp⟩:=ad;have hlen:((xs.take h).drop l).length=h-l:=by simp;omega
  subst c7;by_cases kB:cap=l
  ·-- YH cut is empty and keeps YH address
   have e1:l=xs.length:=by omega
   have e2:h=xs.length:=by omega
   subst kB;subst e2;have b:=bounds cap dv;refine⟨.slice (some ⟨b0,TR,sp⟩) (xs.length-cap) (cap-cap),?_,?_⟩
   ·rw[dh];simp[Instr.sliceAt,run_underlying hu,Instr.slice,q1,b,eG]
   have P4:(xs.take xs.length).drop cap=[]:=by simp;omega
   rw[P4];have h0:xs.length-cap=0:=by omega
   rw[h0];exact .aB (by simp) (by simp) (by simp) (by simp) (by simp) f (by simp[aw]) (by simp[aw]) trivial
  have b:=bounds cap dv;refine⟨.slice (some ((⟨b0,TR,sp⟩:Addr).add (l*te.size))) (h-l) (cap-l),?_,?_⟩
  ·rw[dh];simp[Instr.sliceAt,run_underlying hu,Instr.slice,q1,b,eG,kB]
  rw[<-hlen];have kC:∀y,y∈(xs.take h).drop l->y∈xs:=fun y hy=>List.mem_of_mem_take (List.mem_of_mem_drop hy);by_cases da:xs=[]
  ·subst da;simp only[List.take_nil,List.drop_nil];exact .aB (by simp) (by simp) (by simp) (by simp) (by simp) f (by simp[aw]) (by simp[aw]) trivial
  have sB:=hs da;simp only at sB;subst sB;rw[addr_add];refine .aB (fun y hy=>qO y (kC y hy)) (fun y hy=>dI y (kC y hy)) (by rw[hlen];omega) (by rw[hlen];omega) (fun _=>rfl) (fun j=>f (l*te.size+j)) (fun j c hj=>?_) (fun j c hj=>?_) trivial
  ·have:=hm _ c (DS qO l h j c hj);simpa[Nat.add_assoc]using this
  exact hr _ c (DS qO l h j c hj)
def aa.br:aa->aa
 | .aB sz xs _=>.aB sz xs .sh
 | x=>x
def aa.share:aa->aa
 | .aB sz xs _=>.aB sz xs .sh
 | .agg cs=>.agg (cs.map aa.br)
 | x=>x
theorem RV.br{g:G}{x:aa}{u:Value}(h:RV g x u):RV g x.br u:=by
 unfold aa.br;split
 ·exact h.rS
 exact h
theorem aa.eL{x:aa}(h:x.scalar):x.br.scalar:=by
 cases x<;>first|exact h|trivial
theorem RV.share{g:G}{x:aa}{u:Value}(h:RV g x u):RV g x.share u:=by
 unfold aa.share;split
 ·exact h.rS
 ·obtain⟨vs,e,hl,dI,hh⟩:=h.xZ;subst e;refine .agg (by simpa using hl) (fun c hc=>?_) (fun i c w h1 h2=>?_)
  ·rw[List.mem_map]at hc;obtain⟨c',h1,h2⟩:=hc;subst h2;exact aa.eL (dI c' h1)
  rw[List.getElem?_map,Option.map_eq_some_iff]at h1;obtain⟨c',h3,h4⟩:=h1;subst h4;exact(hh i c' w h3 h2).br
 exact h
def jq(g:G)(cs:List aa)(arr:Array Value):Prop:=arr.size=cs.length∧∀(j:Nat) (c:aa) (u:Value),cs[j]?=some c->arr[j]?=some u->RV g c u
theorem jq.mono{g g':G}(h:Le g g'){cs:List aa}{arr:Array Value}(k:jq g cs arr):jq g' cs arr:=⟨k.1,fun j c u a b=>(k.2 j c u a b).mono h⟩
theorem jq.agg{g:G}{cs:List aa}{arr:Array Value}(k:jq g cs arr)(dI:∀c∈cs,c.scalar):RV g (.agg cs) (.agg arr):=.agg k.1 dI k.2
theorem RV.Ca{g:G}{x:aa}{u:Value}(h:RV g x u)(hs:∀c∈x.cells,c.scalar):jq g x.cells u.cells:=h.cells hs
def aa.flat:aa->Prop
 | .cN _=>False
 | _=>True
theorem RV.jd{g:G}{x:aa}{u:Value}(h:RV g x u)(hx:x.flat):∀c∈x.cells,c.scalar:=by
 cases h with
 | agg hl dI hh=>exact dI
 | cN=>exact hx.elim
 | _=>intro c hc;simp only[aa.cells,List.mem_singleton]at hc;subst hc;trivial
def bz(cs:List aa)(off:Nat)(xs:List aa):List aa:=cs.take off++(xs++cs.drop (off+xs.length))
theorem iO{cs:List aa}{off:Nat}{xs:List aa}(h:off+xs.length<=cs.length):(bz cs off xs).length=cs.length:=by
 simp[bz];omega
theorem qc{cs:List aa}{off:Nat}{xs:List aa}(h:off+xs.length<=cs.length)(k:Nat) :
  (bz cs off xs)[k]?=if off<=k∧k<off+xs.length then xs[k-off]? else cs[k]?:=by
 simp only[bz];rw[List.getElem?_append,List.getElem?_append,List.getElem?_take,List.getElem?_drop];have hl:(cs.take off).length=off:=by simp;omega
 rw[hl];by_cases h1:k<off
 ·rw[if_pos h1,if_pos h1,if_neg (by omega)]
 rw[if_neg h1];by_cases h2:k-off<xs.length
 ·rw[if_pos h2,if_pos (by omega)]
 rw[if_neg h2,if_neg (by omega)];congr 1;omega
theorem xl(off:Nat):∀(vs:List Value) (n:Nat) (arr:Array Value),off+n+vs.length<=arr.size->∀k,((vs.zipIdx n).foldl (fun cs p=>cs.setIfInBounds (off+p.2) p.1) arr).size=arr.size ∧
  ((vs.zipIdx n).foldl (fun cs p=>cs.setIfInBounds (off+p.2) p.1) arr)[k]?=if off+n<=k∧k<off+n+vs.length then vs[k-(off+n)]? else arr[k]?
 | [],n,arr,_,k=>by
  refine⟨rfl,?_⟩;rw[if_neg (by simp only[List.length_nil];omega)];rfl
 | v::vs,n,arr,h,k=>by
  simp only[List.length_cons]at h;obtain⟨h1,h2⟩:=xl off vs (n+1) (arr.setIfInBounds (off+n) v) (by rw[Array.size_setIfInBounds];omega) k;simp only[List.zipIdx_cons,List.foldl_cons];refine⟨h1.trans (by simp),?_⟩;rw[h2];simp only[List.length_cons];by_cases e1:off+(n+1)<=k∧k<off+(n+1)+vs.length
  ·rw[if_pos e1,if_pos (by omega),show k-(off+n)=(k-(off+(n+1)))+1 by omega];simp
  rw[if_neg e1];by_cases e2:k=off+n
  ·subst e2;rw[if_pos (by omega),Nat.sub_self];rw[Array.getElem?_setIfInBounds_self_of_lt (by omega)];rfl
  rw[if_neg (by omega),Array.getElem?_setIfInBounds_ne (by omega)]
def jg(place:Nat->Option (Nat×Nat)):List aa->List (Nat×aa)->Option (List aa)
 | cs,[]=>some cs
 | cs,(i,x)::r =>
  match place i with
  | none=>none
  | some (off,size)=>if x.cells.length=size∧off+size<=cs.length then jg place (bz cs off x.cells) r else none
inductive BR(g:G):List (Nat×aa)->List (Nat×Value)->Prop
 | nil:BR g [] []
 | cons {i:Nat} {x:aa} {u:Value} {ps:List (Nat×aa)} {vs:List (Nat×Value)} (h:RV g x u) (hf:x.flat) (r:BR g ps vs):BR g ((i,x)::ps) ((i,u)::vs)
theorem oE{g:G}(place:Nat->Option (Nat×Nat)){ps:List (Nat×aa)}{vs:List (Nat×Value)}(hp:BR g ps vs):∀{cs cs':List aa} {arr:Array Value},jq g cs arr->jg place cs ps=some cs' ->
  ∃b7,Instr.fill place arr vs=some b7∧jq g cs' b7∧((∀c∈cs,c.scalar)->∀c∈cs',c.scalar):=by
 induction hp with
 | nil =>
  intro cs cs' arr h e;simp only[jg,Option.some.injEq]at e;subst e;exact⟨arr,rfl,h,fun h=>h⟩
 | cons hx hf r ih =>
  rename_i i x u ps vs;intro cs cs' arr h e;simp only[jg]at e;cases uW:place i with
  | none=>simp[uW]at e
  | some p =>
   obtain⟨off,size⟩:=p;simp only[uW]at e;split at e
   ·rename_i hc;obtain⟨qL,XH⟩:=hc;have iq:=hx.jd hf;obtain⟨q1,q2⟩:=hx.Ca iq;have c7:off+0+u.cells.toList.length<=arr.size:=by
     simp only[Array.length_toList,q1,qL,h.1];omega
    have fQ:=xl off u.cells.toList 0 arr c7;have yF:jq g (bz cs off x.cells) (u.cells.zipIdx.foldl (fun cs p=>cs.setIfInBounds (off+p.2) p.1) arr):=by
     have xr:u.cells.zipIdx.foldl (fun cs p=>cs.setIfInBounds (off+p.2) p.1) arr=(u.cells.toList.zipIdx 0).foldl (fun cs p=>cs.setIfInBounds (off+p.2) p.1) arr:=by
      rw[<-Array.foldl_toList];congr 1;simp[Array.toList_zipIdx]
     rw[xr];refine⟨?_,fun j c w hj hw=>?_⟩
     ·rw[(fQ 0).1,iO (by omega),h.1]
     rw[(fQ j).2]at hw;rw[qc (by omega)]at hj;simp only[Nat.add_zero,Array.length_toList,q1]at hw;by_cases Ov:off<=j∧j<off+x.cells.length
     ·rw[if_pos Ov]at hj hw;exact q2 _ c w hj (by simpa using hw)
     rw[if_neg Ov]at hj hw;exact h.2 j c w hj hw
    obtain⟨b7,e1,e2,e3⟩:=ih yF e;refine⟨b7,?_,e2,fun dt=>e3 fun c hc=>?_⟩
    ·simp only[Instr.fill,uW];rw[if_neg (by simp[q1,qL,h.1];omega)];exact e1
    simp only[bz,List.mem_append]at hc;rcases hc with hc|hc|hc
    ·exact dt c (List.mem_of_mem_take hc)
    ·exact iq c hc
    exact dt c (List.mem_of_mem_drop hc)
   cases e
def St.fh(σ:St):List (Nat×Operand)->Option (List (Nat×aa))
 | []=>some []
 | (i,x)::r =>
  match σ.ev x,σ.fh r with
  | some y,some ys=>some ((i,y)::ys)
  | _,_=>none
theorem jX{σ:St}{a:Act}{g:G}:∀{parts:List (Nat×Operand)} {ps:List (Nat×aa)},(∀x∈parts.map (·.2),∀y,σ.ev x=some y->RV g y (a.eval x))->σ.fh parts=some ps->(∀p∈ps,p.2.flat) ->
  BR g ps (parts.map fun p=>(p.1,a.eval p.2))
 | [],ps,_,h,_=>by
  simp only[St.fh,Option.some.injEq]at h;subst h;exact .nil
 | (i,x)::r,ps,nB,h,hf=>by
  simp only[St.fh]at h;cases hx:σ.ev x with
  | none=>simp[hx]at h
  | some y =>
   cases hr:σ.fh r with
   | none=>simp[hx,hr]at h
   | some ys =>
    simp only[hx,hr,Option.some.injEq]at h;subst h;exact .cons (nB x (by simp) y hx) (hf (i,y) (List.mem_cons_self)) (jX (fun z hz=>nB z (by simp only[List.map_cons,List.mem_cons];exact .inr hz)) hr fun p hp=>hf p (List.mem_cons_of_mem _ hp))
def jm(aP:ee):List (Nat×TypeId)->Option (List (Nat×Nat))
 | []=>some []
 | (off,t)::r =>
  match aP t,jm aP r with
  | some ti,some ps=>some ((off,ti.size)::ps)
  | _,_=>none
theorem sJ{P:Program}{aP:ee}(hT:b8 P aP):∀{fields:List Field} {ps:List (Nat×Nat)},jm aP (fields.map fun f=>(f.offset,f.type))=some ps ->
  fields.mapM (fun f=>(P.info? f.type).map fun i=>(f.offset,i.size))=some ps
 | [],ps,h=>by
  simp only[List.map_nil,jm,Option.some.injEq]at h;subst h;rfl
 | f::r,ps,h=>by
  simp only[List.map_cons,jm]at h;cases ht:aP f.type with
  | none=>simp[ht]at h
  | some ti =>
   cases hr:jm aP (r.map fun f=>(f.offset,f.type))with
   | none=>simp[ht,hr]at h
   | some qs =>
    simp only[ht,hr,Option.some.injEq]at h;subst h;obtain⟨⟨i,z,h1,h2,_⟩,_⟩:=hT _ _ ht;have ih:=sJ hT hr;simp only[List.mapM_cons,h1,Option.map_some,ih];simp[h2]
theorem Cc{P:Program}{aP:ee}(hT:b8 P aP){o:Oper}{σ:St}{t:TypeId}{parts:Array (Nat×Operand)}{ti:cr}{fs:List (Nat×TypeId)}{yT:List (Nat×Nat)}{ps:List (Nat×aa)}{cs:List aa}
  (ho:o.op=.build t parts) (hd:∀d,o.dst=some d->d<σ.n) (ht:aP t=some ti) (aT:ti.desc=.struct fs) (uW:jm aP fs=some yT) (vV:σ.fh parts.toList=some ps) (ix:∀p∈ps,p.2.flat)
  (iq:jg (fun i=>yT[i]?) ti.zero ps=some cs):Cert P o σ (.agg cs) .pure :=
 Cert.bW .pure (.inl rfl) hd fun a g _ h _=>by
  have bV:=jX (a:=a) (g:=g) (fun x hx y hy=>h x (by simpa[ho,Op.operands]using hx) y hy) vV ix;obtain⟨⟨i,z,h1,h2,h3,h4,h5,h6,h7,h8,h9⟩,d,KW,UJ⟩:=hT t ti ht;rw[aT]at UJ;obtain⟨fields,e1,e2⟩:=UJ;subst e1;obtain⟨b7,q1,q2,q3⟩:=oE (fun i=>yT[i]?) bV (cs:=ti.zero) (arr:=z.cells) ⟨h5,h8 g⟩ iq;have hp:=sJ hT (fields:=fields.toList) (ps:=yT) (by rw[e2];exact uW);have hb:P.built t (parts.map fun(i,x)=>(i,a.eval x)).toList=some b7:=by
   unfold Program.built;simp only[h1,KW,h4,hp];rw[Array.toList_map];simpa using q1
  have bL:=run_build g.w t _ b7 hb;exact⟨.agg b7,by simp[execOp,ho,bL],q2.agg (q3 h9)⟩
theorem RV.newRow{g:G}(hg:Good g){xs:List aa}{sz:Nat}{arr:Array Value}{t:TypeId}(c7:∀x∈xs,x.cells.length=sz)(dI:∀x∈xs,∀c∈x.cells,c.scalar)(cW:xs.length<=2 ^ 62)
  (hr:jq g (aw xs) arr):RV (g.push (.cells arr t)) (.aB sz xs .ex) (.slice (some ⟨g.w.heap.size,0,none⟩) xs.length xs.length):=by
 have hle:=Le.push g hg (.cells arr t);have Uj:=hg.push (.cells arr t);refine .aB c7 dI (Nat.le_refl _) cW (fun _=>rfl) (fun j=>arr.getD j undef) (fun j c hj=>?_) (fun j c hj=>?_) rfl
 ·have bd:=ag hj;rw[<-hr.1]at bd;refine⟨?_,?_⟩
  ·simp only[G.cell,G.push,Nat.zero_add];rw[cell_of_row (cD _ _)];simp[Array.getD_eq_getD_getElem?,bd]
  rintro(hf|⟨id,l,o,h1,h2,h3,h4,_⟩)
  ·have ga:g.fr g.w.heap.size (0+j):=hf;have:=hg.frlt _ _ ga;omega
  have:=hg.loc id l o h1 h2 h3;have YS:l.block=g.w.heap.size:=h4;omega
 have bd:=ag hj;rw[<-hr.1]at bd;exact(hr.2 j c _ hj (by simp[Array.getD_eq_getD_getElem?,bd])).mono hle
theorem rL{sz:Nat}:∀(ys:List aa) (k:Nat) (cs cs':List aa),jg (fun i=>some (i*sz,sz)) cs ((ys.zipIdx k).map fun p=>(p.2,p.1))=some cs'->(k+ys.length)*sz<=cs.length ->
  cs'=cs.take (k*sz)++(aw ys++cs.drop ((k+ys.length)*sz))∧∀y∈ys,y.cells.length=sz
 | [],k,cs,cs',h,hl=>by
  simp only[List.zipIdx_nil,List.map_nil,jg,Option.some.injEq]at h;subst h;simp[aw]
 | y::ys,k,cs,cs',h,hl=>by
  simp only[List.zipIdx_cons,List.map_cons,jg]at h;split at h
  ·rename_i hc;obtain⟨qL,XH⟩:=hc;have xw:(k+1+ys.length)*sz<=(bz cs (k*sz) y.cells).length:=by
    rw[iO (by omega)];simp only[List.length_cons]at hl;rw[show k+1+ys.length=k+(ys.length+1) by omega];exact hl
   obtain⟨e1,e2⟩:=rL ys (k+1) _ cs' h xw;refine⟨?_,fun z hz=>?_⟩
   ·rw[e1];apply List.ext_getElem?;intro j;simp only[List.length_cons]at hl ⊢;have Kl:(k+1)*sz=k*sz+sz:=Nat.succ_mul k sz;have sB:(bz cs (k*sz) y.cells).take ((k+1)*sz)=cs.take (k*sz)++y.cells:=by
     simp only[bz];rw[Kl,List.take_append];have hlen:(cs.take (k*sz)).length=k*sz:=by simp;omega
     have tB:(cs.take (k*sz)).take (k*sz+sz)=cs.take (k*sz):=List.take_of_length_le (by omega);rw[hlen,tB,show k*sz+sz-k*sz=sz by omega,List.take_append,List.take_of_length_le (Nat.le_of_eq qL),qL,Nat.sub_self];simp
    have XM:(bz cs (k*sz) y.cells).drop ((k+1+ys.length)*sz)=cs.drop ((k+(ys.length+1))*sz):=by
     simp only[bz];have hlen:(cs.take (k*sz)).length=k*sz:=by simp;omega
     have hmul:(k+1+ys.length)*sz=k*sz+sz+ys.length*sz:=by rw[Nat.add_mul,Kl]
     have Ti:(k+(ys.length+1))*sz=k*sz+sz+ys.length*sz:=by rw[Nat.add_mul,Nat.succ_mul];omega
     have pN:(cs.take (k*sz)).drop (k*sz+sz+ys.length*sz)=[]:=List.drop_of_length_le (by rw[hlen];omega);have lA:y.cells.drop (k*sz+sz+ys.length*sz-k*sz)=[]:=List.drop_of_length_le (by omega);rw[hmul,Ti,List.drop_append,pN,hlen,List.nil_append,List.drop_append,lA,List.nil_append,List.drop_drop,qL];congr 1;omega
    rw[sB,XM];simp[aw,List.append_assoc]
   rcases List.mem_cons.1 hz with hz|hz
   ·subst hz;exact qL
   exact e2 z hz
  cases h
def gQ:Nat->List (Nat×aa)->Option (List aa)
 | _,[]=>some []
 | k,(i,x)::r =>
  if i=k then
   match gQ (k+1) r with
   | some xs=>some (x::xs)
   | none=>none
  else none
theorem og:∀{ps:List (Nat×aa)} {k:Nat} {xs:List aa},gQ k ps=some xs->ps=(xs.zipIdx k).map fun p=>(p.2,p.1)
 | [],k,xs,h=>by
  simp only[gQ,Option.some.injEq]at h;subst h;rfl
 | (i,x)::r,k,xs,h=>by
  simp only[gQ]at h;split at h
  ·rename_i hi;subst hi;cases hr:gQ (i+1) r with
   | none=>simp[hr]at h
   | some ys =>
    simp only[hr,Option.some.injEq]at h;subst h;simp[og hr]
  cases h
theorem aa.lv(x:aa):x.share.cells=x.cells.map aa.br:=by
 cases x<;>rfl
theorem jq.dB{g:G}{cs:List aa}{arr:Array Value}(h:jq g cs arr):jq g (cs.map aa.br) arr :=
 ⟨by simpa using h.1,fun j c u h1 h2=>by
  rw[List.getElem?_map,Option.map_eq_some_iff]at h1;obtain⟨c',h3,h4⟩:=h1;subst h4;exact(h.2 j c' u h3 h2).br⟩
theorem fM(xs:List aa):aw (xs.map aa.share)=(aw xs).map aa.br:=by
 induction xs with
 | nil=>rfl
 | cons y ys ih =>
  simp only[aw,List.map_cons,List.flatMap_cons,List.map_append,aa.lv]at ih ⊢;rw[ih]
theorem sV{P:Program}{aP:ee}(hT:b8 P aP){o:Oper}{σ:St}{t e:TypeId}{len:Nat}{parts:Array (Nat×Operand)}{ti te:cr}{ps:List (Nat×aa)}{xs:List aa}
  (ho:o.op=.buildSlice t len parts) (hd:∀d,o.dst=some d->d<σ.n) (ht:aP t=some ti) (aT:ti.desc=.slice e) (he:aP e=some te) (pQ:0<te.size) (vV:σ.fh parts.toList=some ps) (ix:∀p∈ps,p.2.flat)
  (HV:gQ 0 ps=some xs) (hlen:xs.length=len) (c7:∀x∈xs,x.cells.length=te.size) (VH:len*te.size<=2 ^ 24):Cert P o σ (.aB te.size (xs.map aa.share) .ex) .pure :=
 Cert.gG hd fun base fL a g bV h _=>by
  have hg:=bV.good;have Lm:=jX (a:=a) (g:=g) (fun x hx y hy=>h x (by simpa[ho,Op.operands]using hx) y hy) vV ix;have hu:=bY hT ht aT;obtain⟨⟨i,z,h1,h2,h3,h4,h5,h6,h7,h8,h9⟩,_⟩:=hT e te he;have nE:=og HV;have dI:∀x∈xs,∀c∈x.cells,c.scalar:=by
   have aux:∀{ps:List (Nat×aa)} {vs:List (Nat×Value)},BR g ps vs->∀p∈ps,∀c∈p.2.cells,c.scalar:=by
    intro ps vs hr;induction hr with
    | nil=>intro p hp;cases hp
    | cons hx hf r ih =>
     intro p hp;rcases List.mem_cons.1 hp with hp|hp
     ·subst hp;exact hx.jd hf
     exact ih p hp
   intro x hx c hc;have kC:∃k,(k,x)∈ps:=by
    obtain⟨k,hk⟩:=List.getElem?_of_mem hx;refine⟨0+k,?_⟩;rw[nE,List.mem_map];refine⟨(x,0+k),?_,rfl⟩;rw[List.mem_iff_getElem?];exact⟨k,by simp[hk]⟩
   obtain⟨k,hk⟩:=kC;exact aux Lm _ hk c hc
  by_cases hz:len=0
  ·subst hz;have Gx:xs=[]:=List.length_eq_zero_iff.1 hlen;subst Gx;have Vz:ps=[]:=by rw[nE];rfl
   subst Vz;have Tq:parts.toList=[]:=by
    cases hp:parts.toList with
    | nil=>rfl
    | cons p r =>
     obtain⟨i,x⟩:=p;rw[hp]at vV;simp only[St.fh]at vV;cases hx:σ.ev x with
     | none=>simp[hx]at vV
     | some y =>
      cases hr:σ.fh r with
      | none=>simp[hx,hr]at vV
      | some ys=>simp[hx,hr]at vV
   have Qb:parts = #[]:=Array.toList_eq_nil_iff.1 Tq;subst Qb;refine⟨.slice (some ⟨g.w.heap.size,0,none⟩) 0 0,g.push (.cells #[] e),.inl ?_,Le.push g hg _,hg.push _,rfl,?_⟩
   ·have er:Array.range 0 = #[]:=rfl;simp[execOp,ho,Instr.buildSlice,run_underlying hu,Go.sizeOf,typeInfo,h1,Instr.fill,Go.newRow,G.push,er]
   exact RV.newRow (xs:=[]) hg (by simp) (by simp) (by simp) ⟨by simp[aw],by simp[aw]⟩
  have da:¬len*i.size=0:=by
   rw[h2];intro e0;rcases Nat.mul_eq_zero.1 e0 with q|q<;>omega
  obtain⟨zs,yH⟩:∃zs:Array Value,zs=(Array.range (len*i.size)).map (z.cells[· % z.cells.size]!):=⟨_,rfl⟩
  have CR:zs.size=len*te.size:=by rw[yH];simp[h2]
  obtain⟨zc,VU,vZ,H4⟩:∃zc:List aa,(∀c∈zc,c.scalar)∧jq g zc zs∧zc.length=len*te.size:=by
   refine⟨(List.range (len*te.size)).map fun j=>te.zero.getD (j % te.size) (.v (.bool false)),fun c hc=>?_,⟨by simp[CR],fun j c u hj Ld=>?_⟩,by simp⟩
   ·rw[List.mem_map]at hc;obtain⟨j,_,e⟩:=hc;subst e;have bd:j % te.size<te.zero.length:=by rw[h6];exact Nat.mod_lt _ pQ
    rw[List.getD_eq_getElem?_getD,List.getElem?_eq_getElem bd];exact h9 _ (List.getElem_mem bd)
   have jo:=ag hj;simp only[List.length_map,List.length_range]at jo;rw[List.getElem?_map,List.getElem?_range jo]at hj;simp only[Option.map_some,Option.some.injEq]at hj;subst hj;have bd:j % te.size<te.zero.length:=by rw[h6];exact Nat.mod_lt _ pQ
   have kg:j % te.size<z.cells.size:=by rw[h5];exact bd
   rw[yH]at Ld;simp only[Array.getElem?_map,h2,Array.getElem?_range,if_pos jo,Option.map_some,Option.some.injEq]at Ld;subst Ld;rw[List.getD_eq_getElem?_getD,List.getElem?_eq_getElem bd];refine h8 g (j % te.size) _ _ (List.getElem?_eq_getElem bd) ?_;rw[h5,h6];simp[kg]
  have HH:∃cs',jg (fun i=>some (i*te.size,te.size)) zc ps=some cs':=by
   have aux:∀(ys:List aa) (k:Nat) (cs:List aa),(∀y∈ys,y.cells.length=te.size)->(k+ys.length)*te.size<=cs.length->∃cs',jg (fun i=>some (i*te.size,te.size)) cs ((ys.zipIdx k).map fun p=>(p.2,p.1))=some cs':=by
    intro ys;induction ys with
    | nil=>intro k cs _ _;exact⟨cs,rfl⟩
    | cons y ys ih =>
     intro k cs hy hl;simp only[List.zipIdx_cons,List.map_cons,jg];simp only[List.length_cons]at hl;have Kl:(k+1)*te.size=k*te.size+te.size:=Nat.succ_mul k te.size;have D9:(k+1)*te.size<=(k+(ys.length+1))*te.size:=Nat.mul_le_mul_right _ (by omega);have hc:y.cells.length=te.size∧k*te.size+te.size<=cs.length:=⟨hy y (by simp),by omega⟩
     rw[if_pos hc];refine ih (k+1) _ (fun z hz=>hy z (List.mem_cons_of_mem _ hz)) ?_;rw[iO (by omega),show k+1+ys.length=k+(ys.length+1) by omega];exact hl
   rw[nE];exact aux xs 0 zc c7 (by rw[H4,hlen,Nat.zero_add];exact Nat.le_refl _)
  obtain⟨cs',CI⟩:=HH;obtain⟨b7,q1,q2,_⟩:=oE (fun i=>some (i*te.size,te.size)) Lm vZ CI;obtain⟨e1,_⟩:=rL xs 0 zc cs' (by rw[<-nE];exact CI) (by rw[H4,hlen,Nat.zero_add];exact Nat.le_refl _);have e2:cs'=aw xs:=by
   rw[e1];simp only[Nat.zero_mul,List.take_zero,List.nil_append,Nat.zero_add];rw[List.drop_of_length_le (by rw[H4,hlen];omega),List.append_nil]
  subst e2;have bL:(Instr.buildSlice t len (parts.map fun(i,x)=>(i,a.eval x))).run P g.w=.ok (.slice (some ⟨g.w.heap.size,0,none⟩) len len) (g.w.alloc (.cells b7 e)):=by
   have Fc:¬len*i.size > 2 ^ 24:=by rw[h2];omega
   rw[yH,<-h2]at q1;have O7:Instr.fill (fun VV=>some (VV*i.size,i.size)) ((Array.range (len*i.size)).map (z.cells[· % z.cells.size]!)) (parts.map fun(i,x)=>(i,a.eval x)).toList=some b7:=by
    rw[Array.toList_map];exact q1
   simp only[Instr.buildSlice,run_underlying hu,Go.sizeOf,typeInfo,Go.zeroValue,Sem.run_bind,run_program,Result.andThen_ok,h1,Sem.run_pure,Go.newRow];rw[if_neg Fc,if_neg da];simp only[Sem.run_bind,Sem.run_pure,Result.andThen_ok,run_program,h1,h4,O7,run_newObj];rfl
  refine⟨.slice (some ⟨g.w.heap.size,0,none⟩) len len,g.push (.cells b7 e),.inl (by simp[execOp,ho,bL,G.push]),Le.push g hg _,hg.push _,rfl,?_⟩;have:=RV.newRow (xs:=xs.map aa.share) (sz:=te.size) (arr:=b7) (t:=e) hg (fun x hx=>by
   rw[List.mem_map]at hx;obtain⟨y,h1,h2⟩:=hx;subst h2;rw[aa.lv,List.length_map];exact c7 y h1) (fun x hx c hc=>by
   rw[List.mem_map]at hx;obtain⟨y,h1,h2⟩:=hx;subst h2;rw[aa.lv,List.mem_map]at hc;obtain⟨c',h3,h4⟩:=hc;subst h4;exact aa.eL (dI y h1 c' h3)) (by
    simp only[List.length_map,hlen];have:len<=len*te.size:=Nat.le_mul_of_pos_right _ pQ;omega) (by rw[fM];exact q2.dB)
  rw[List.length_map,hlen]at this;exact this
end Go.Av
namespace Go.Av
theorem eS{g:G}{o:aq}:(g.objs++[o])[g.objs.length]?=some o:=by simp
theorem gZ{g:G}(hg:Good g){l:Option Loc}:(g.env++[l])[g.objs.length]?=some l:=by
 rw[<-hg.len];simp
theorem GX{P:Program}{o:Oper}{σ:St}{t:TypeId}{x:Operand}{y:aa}(ho:o.op=.box t x)(hd:∀d,o.dst=some d->d<σ.n)(hx:σ.ev x=some y)(hf:y.flat) :
  Cert P o σ (.mp σ.objs.length 0) (.write (σ.objs++[.cells y.cells])) :=
 Cert.gG hd fun base fL a g bV h gW=>by
  have hO:g.objs=σ.objs:=gW.resolve_left (by simp);have hg:=bV.good;have iA:=h x (by simp[ho,Op.operands]) _ hx;have dI:=iA.jd hf;have tA:=iA.Ca dI;have hle:=Le.alloc hg (.cells (a.eval x).cells t) 0 (.cells y.cells);refine⟨.pointer (some ⟨g.w.heap.size,0,none⟩),g.alloc (.cells (a.eval x).cells t) 0 (.cells y.cells),.inl ?_,hle,Good.alloc hg _ 0 _ (.inr rfl) ⟨_,t,rfl,by rw[tA.1];exact Nat.le_refl _,(tA.mono hle).2,dI⟩,?_,?_⟩
  ·simp[execOp,ho,Instr.box,Go.newVar,Go.newRow,G.alloc]
  ·simp[G.alloc,hO,Mode.post]
  rw[<-hO];exact .mp (l:=⟨g.w.heap.size,0,_⟩) (gZ hg) eS (by simp[aq.aJ])
theorem Cb{P:Program}{aP:ee}(hT:b8 P aP){o:Oper}{σ:St}{t:TypeId}{ti:cr}(ho:o.op=.alloc t)(hd:∀d,o.dst=some d->d<σ.n)(ht:aP t=some ti) :
  Cert P o σ (.mp σ.objs.length 0) (.write (σ.objs++[.cells ti.zero])) :=
 Cert.gG hd fun base fL a g bV h gW=>by
  have hO:g.objs=σ.objs:=gW.resolve_left (by simp);have hg:=bV.good;obtain⟨z,hz,h5,_,_,h8,h9⟩:=(hT t ti ht).zeroValue;have hle:=Le.alloc hg (.cells z.cells t) 0 (.cells ti.zero);refine⟨.pointer (some ⟨g.w.heap.size,0,none⟩),g.alloc (.cells z.cells t) 0 (.cells ti.zero),.inl ?_,hle,Good.alloc hg _ 0 _ (.inr rfl) ⟨_,t,rfl,by rw[h5];exact Nat.le_refl _,fun j c u a b=>h8 _ j c u a b,h9⟩,?_,?_⟩
  ·simp[execOp,ho,Instr.alloc,hz,Go.newVar,Go.newRow,G.alloc]
  ·simp[G.alloc,hO,Mode.post]
  rw[<-hO];exact .mp (l:=⟨g.w.heap.size,0,_⟩) (gZ hg) eS (by simp[aq.aJ])
theorem yl{P:Program}{o:Oper}{σ:St}{t:TypeId}(kt:KT)(hp:kt.plain)(ho:o.op=.makeMap t none)(hd:∀d,o.dst=some d->d<σ.n) :
  Cert P o σ (.mm σ.objs.length) (.write (σ.objs++[.map kt []])) :=
 Cert.gG hd fun base fL a g bV h gW=>by
  have hO:g.objs=σ.objs:=gW.resolve_left (by simp);have hg:=bV.good;have hle:=Le.alloc hg (.map #[] 0) 0 (.map kt []);refine⟨.map (some g.w.heap.size),g.alloc (.map #[] 0) 0 (.map kt []),.inl ?_,hle,Good.alloc hg _ 0 _ (.inr rfl) (kq.Uv ⟨#[],0,rfl,rfl,by simp,by simp,⟨by simp,by simp⟩⟩ hp),?_,?_⟩
  ·simp[execOp,ho,Instr.makeMap,G.alloc]
  ·simp[G.alloc,hO,Mode.post]
  rw[<-hO];exact .mm (l:=⟨g.w.heap.size,0,_⟩) (gZ hg) eS (by simp[aq.aJ])
theorem oN(z:List aa)(hz:0<z.length):∀(m j:Nat) (c:aa),(List.replicate m z).flatten[j]?=some c->z[j % z.length]?=some c
 | 0,j,c=>by simp
 | m+1,j,c=>by
  intro hj;rw[List.replicate_succ,List.flatten_cons,List.getElem?_append]at hj;split at hj
  ·rename_i bd;rw[Nat.mod_eq_of_lt bd];exact hj
  rename_i qj;have:=oN z hz m _ c hj;rw[Nat.mod_eq_sub_mod (by omega)];exact this
theorem ux{P:Program}{aP:ee}(hT:b8 P aP){o:Oper}{σ:St}{t e:TypeId}{x y:Operand}{ti te:cr}{k k':IntKind}{n:Int}
  (ho:o.op=.makeSlice t x y) (hd:∀d,o.dst=some d->d<σ.n) (ht:aP t=some ti) (aT:ti.desc=.slice e) (he:aP e=some te) (hx:σ.ev x=some (.v (.int k n))) (hy:σ.ev y=some (.v (.int k' n)))
  (h0:0<=n) (hb:te.bytes*n.toNat<=2 ^ 48) (Ok:n.toNat<=2 ^ 62) (hs:0<te.size) :
  Cert P o σ (.ms σ.objs.length 0 n.toNat n.toNat) (.write (σ.objs++[.cells (List.replicate n.toNat te.zero).flatten])) :=
 Cert.gG hd fun base fL a g bV h gW=>by
  have hO:g.objs=σ.objs:=gW.resolve_left (by simp);have hg:=bV.good;have ex:=(h x (by simp[ho,Op.operands]) _ hx).b6.1;have ey:=(h y (by simp[ho,Op.operands]) _ hy).b6.1;have hu:=bY hT ht aT;obtain⟨⟨i,z,h1,h2,h3,h4,h5,h6,h7,h8,h9⟩,_⟩:=hT e te he;obtain⟨m,rfl⟩:=Int.eq_ofNat_of_zero_le h0;simp only[Int.toNat_natCast]at *;have wJ:(i.bytes:Int)*(m:Int)<=281474976710656:=by
   rw[h3,<-Int.natCast_mul];omega
  have bL:=run_make (P:=P) g.w t e i z hu h1 h4 k k' m m (by omega) (Int.le_refl _) wJ (by omega);simp only[Int.toNat_natCast]at bL;have hlen:(List.replicate m te.zero).flatten.length=m*te.size:=by simp[h6]
  have eo:∀(j:Nat) (c:aa),(List.replicate m te.zero).flatten[j]?=some c->te.zero[j % te.size]?=some c:=fun j c=>h6 ▸ oN te.zero (by omega) m j c;have hle:=Le.alloc hg (.cells (madeCells z.cells (m*i.size)) e) 0 (.cells (List.replicate m te.zero).flatten);refine⟨.slice (some ⟨g.w.heap.size,0,none⟩) m m,g.alloc (.cells (madeCells z.cells (m*i.size)) e) 0 (.cells (List.replicate m te.zero).flatten),.inl ?_,hle,Good.alloc hg _ 0 _ (.inr rfl) ⟨_,e,rfl,?_,?_,?_⟩,?_,?_⟩
  ·simp[execOp,ho,ex,ey,bL,G.alloc]
  ·rw[hlen,size_madeCells,h2];exact Nat.le_refl _
  ·intro j c u hj oI;have jo:=eo j c hj;have bd:=ag hj;rw[hlen]at bd;have kg:j % te.size<z.cells.size:=by rw[h5];exact ag jo
   refine h8 _ _ _ _ jo ?_;simp only[madeCells,Array.getElem?_map,h2,Array.getElem?_range,if_pos bd,Option.map_some,Option.some.injEq]at oI;subst oI;rw[h5,h6];simp[kg]
  ·intro c hc;rw[List.mem_flatten]at hc;obtain⟨l,hl,hc⟩:=hc;rw[List.mem_replicate]at hl;exact h9 c (hl.2 ▸ hc)
  ·simp[G.alloc,hO,Mode.post]
  rw[<-hO];exact .ms (l:=⟨g.w.heap.size,0,_⟩) (gZ hg) eS (by simp[aq.aJ]) (Nat.le_refl _) (Nat.le_refl _) Ok
theorem jq.bz{g:G}{cs xs:List aa}{arr vs:Array Value}(h:cs.length<=arr.size∧∀(j:Nat)(c:aa)(u:Value),cs[j]?=some c->arr[j]?=some u->RV g c u)(k:jq g xs vs){off:Nat}(ho:off+xs.length<=cs.length) :
  (bz cs off xs).length<=(arr.toList.take off++vs.toList++arr.toList.drop (off+vs.toList.length)).toArray.size ∧
  ∀(j:Nat) (c:aa) (u:Value),(bz cs off xs)[j]?=some c->(arr.toList.take off++vs.toList++arr.toList.drop (off+vs.toList.length)).toArray[j]?=some u->RV g c u:=by
 obtain⟨h1,h2⟩:=h;obtain⟨k1,k2⟩:=k;have hl:(arr.toList.take off).length=off:=by simp;omega
 refine⟨?_,fun j c u hj hu=>?_⟩
 ·rw[iO ho];simp[k1];omega
 rw[qc ho]at hj;have oI:(arr.toList.take off++vs.toList++arr.toList.drop (off+vs.toList.length))[j]?=some u:=by simpa using hu
 rw[List.append_assoc,List.getElem?_append,hl,List.getElem?_append,Array.length_toList,k1]at oI;by_cases e1:j<off
 ·rw[if_pos e1]at oI;rw[if_neg (by omega)]at hj;rw[List.getElem?_take,if_pos e1]at oI;exact h2 j c u hj (by simpa using oI)
 rw[if_neg e1]at oI;by_cases e2:j-off<xs.length
 ·rw[if_pos e2]at oI;rw[if_pos (by omega)]at hj;exact k2 _ c u hj (by simpa using oI)
 rw[if_neg e2]at oI;rw[if_neg (by omega)]at hj;rw[List.getElem?_drop]at oI;refine h2 j c u hj ?_;rw[show off+xs.length+(j-off-xs.length)=j by omega]at oI;simpa using oI
theorem setRow_other(w:World)(b k:Nat)(cs:Array Value)(h:k≠b):(w.setRow b cs).heap[k]?=w.heap[k]?:=by
 simp only[World.setRow,Array.getElem?_modify];rw[if_neg (by omega)]
theorem setRow_size(w:World)(b:Nat)(cs:Array Value):(w.setRow b cs).heap.size=w.heap.size:=by
 simp[World.setRow]
theorem lH{g:G}{id:Nat}{cs cs':List aa}{l:Loc}(ho:g.objs[id]?=some (.cells cs))(he:g.env[id]?=some (some l))(gy:l.lo=0)(b7:Array Value):jT g id (.cells cs) (some l) (.cells cs') (g.w.setRow l.block b7) where
 obj:=ho
 os:=rfl
 tape:=rfl
 output:=rfl
 size:=by rw[setRow_size];exact Nat.le_refl _
 block:=fun k _ hk=>setRow_other _ _ _ _ (fun e=>hk l he trivial e.symm)
 cell:=fun b off x hx hb=>by
  by_cases e:b=l.block
  ·have:=hb l he trivial e.symm;omega
  rw[gh (setRow_other g.w l.block b b7 e)];exact hx
 place:=fun l1 h1 _=>by
  simp only[Option.some.injEq]at h1;subst h1;exact .inr ⟨l,he,trivial,rfl,Nat.le_refl _⟩
 spare:=fun m h=>by cases h
 plain:=fun _=>⟨by simp[aq.aJ],he⟩
 gone:=by simp
theorem Ci{P:Program}{aP:ee}(hT:b8 P aP){o:Oper}{σ:St}{t:TypeId}{x y:Operand}{ti:cr}{id off:Nat}{cs:List aa}{v:aa}(ho:o.op=.store t x y)(iJ:o.dst=none)
  (ht:aP t=some ti) (hx:σ.ev x=some (.mp id off)) (lC:σ.objs[id]?=some (.cells cs)) (hy:σ.ev y=some v) (hf:v.flat) (c7:v.cells.length=ti.size) (hs:off+ti.size<=cs.length) :
  Cert P o σ (.v (.bool false)) (.write (σ.objs.set id (.cells (bz cs off v.cells)))) :=
 Cert.gG (by simp[iJ]) fun base fL a g bV h gW=>by
  have hO:g.objs=σ.objs:=gW.resolve_left (by simp);have hg:=bV.good;obtain⟨l,o1,he,h1,_,ex⟩:=(h x (by simp[ho,Op.operands]) _ hx).jG;have BN:=h y (by simp[ho,Op.operands]) _ hy;have dI:=BN.jd hf;have tA:=BN.Ca dI;have jh:g.objs[id]?=some (.cells cs):=by rw[hO];exact lC
  obtain⟨arr,t',gy,di,hlen,iq,o4,Li⟩:=hg.row jh he;obtain⟨b7,iX⟩:∃b7,b7=(arr.toList.take off++(a.eval y).cells.toList++arr.toList.drop (off+(a.eval y).cells.toList.length)).toArray:=⟨_,rfl⟩
  have dD:=run_storeCells_at P l.block off t' (a.eval y).cells.toList 0 arr g.w di (by simp[tA.1];omega) (fun u hu=>by
   obtain⟨j,hj⟩:=List.getElem?_of_mem hu;have jo:(a.eval y).cells[j]?=some u:=by simpa using hj
   have bd:=aO jo;rw[tA.1]at bd;have hc:=List.getElem?_eq_getElem bd;exact((tA.2 j _ u hc jo).iZ (dI _ (List.mem_of_getElem? hc))).1)
  simp only[Nat.add_zero]at dD;rw[<-iX]at dD;have eH:=lH (cs':=bz cs off v.cells) jh he gy b7;have hle:=Le.bo hg eH;have sB:=jq.bz ⟨hlen,iq⟩ tA (off:=off) (by omega);rw[<-iX]at sB;refine⟨.bool false,g.bo id (some l) (.cells (bz cs off v.cells)) (g.w.setRow l.block b7),.inr ⟨iJ,?_⟩,hle,Good.bo hg eH ?_ ?_,?_,.v trivial⟩
  ·have R2:((a.eval y).cells.size≠ti.size)=False:=by simp[tA.1,c7]
   simp[execOp,ho,ex,Instr.storeAt,Instr.sureAddr,Go.storeVar,(hT t ti ht).sizeOf,tA.1,c7,dD,G.bo]
  ·refine⟨l,b7,t',rfl,gy,?_,sB.1,fun j c u a b=>(sB.2 j c u a b).mono hle,fun c hc=>?_,?_⟩
   ·exact setRow_heap g.w l.block arr b7 t' (0,0) di
   ·simp only[bz,List.mem_append]at hc;rcases hc with hc|hc|hc
    ·exact o4 c (List.mem_of_mem_take hc)
    ·exact dI c hc
    exact o4 c (List.mem_of_mem_drop hc)
   have q:=tA.1;rw[iX];simp only[List.size_toArray,List.length_append,List.length_take,List.length_drop,Array.length_toList];omega
  ·intro l1 h1 _;simp only[Option.some.injEq]at h1;subst h1;rw[setRow_size];exact aO di
  simp only[G.bo,Mode.post,hO]
section
variable {P:Program}
theorem iN(w w':World)(t ty e:TypeId)(i:TypeInfo)(ht:P.underlying t=some (.slice e))(hi:P.info? e=some i)(a:Addr)(nz vz n:Nat)(x:Value)(news:List Value)
  (H0:∀w,(Builtin.lenOf x).run P w=.ok n w) (Ec:(Builtin.firstCells i.size n x).run P w=.ok news.toArray w) (kr:nz+n<=vz) (dD:(storeCells (a.add (nz*i.size)) news).run P w=.ok () w') :
  (Builtin.append_ #[t,t] ty #[.slice (some a) nz vz,x]).run P w=.ok (.slice (some a) (nz+n) vz) w':=by
 simp[Builtin.append_,run_underlying ht,Go.sizeOf,typeInfo,hi,H0,kr,Ec,dD]
theorem gP(w:World)(t ty e:TypeId)(i:TypeInfo)(z:Value)(ht:P.underlying t=some (.slice e))(hi:P.info? e=some i)(hz:i.zero=some z)(s:Option Addr)(nz vz n:Nat)(x:Value)(iB news:List Value)
  (H0:∀w,(Builtin.lenOf x).run P w=.ok n w) (Ec:(Builtin.firstCells i.size n x).run P w.drew=.ok news.toArray w.drew) (hs:(Builtin.firstCells i.size nz (.slice s nz vz)).run P w.drew=.ok iB.toArray w.drew)
  (kr:vz<nz+n) (E9:nz+n<=2 ^ 62) (fU:(nz+n)*i.bytes<=2 ^ 47) :
  (Builtin.append_ #[t,t] ty #[.slice s nz vz,x]).run P w =
   .ok (.slice (some ⟨w.heap.size,0,none⟩) (nz+n) (grownCap w (nz+n) vz e)) (w.drew.alloc (.cells (iB.toArray++news.toArray++Builtin.zeroCells z.cells (grownCap w (nz+n) vz e-(nz+n))) e)):=by
 have hn:¬(nz+n<=vz):=by omega
 have UL:¬(9223372036854775807<((nz:Int)+(n:Int))):=by omega
 have Wh:¬(281474976710656<Builtin.nextslicecap (nz+n) vz*i.bytes):=by
  have h1:=nextslicecap_le kr;have h2:=Nat.mul_le_mul_right i.bytes h1;rw[Nat.mul_assoc]at h2;omega
 simp[Builtin.append_,run_underlying ht,Go.sizeOf,typeInfo,Go.zeroValue,hi,hz,H0,hn,UL,Wh,Question.forced,Ec,hs,Go.newRow,grownCap];congr 2;apply Array.ext';simp[List.append_assoc]
end
theorem RV.gv{P:Program}{g:G}{sz:Nat}{xs:List aa}{o:oV}{u:Value}(h:RV g (.aB sz xs o) u):∃(ad:Option Addr) (cap:Nat) (vs:List Value),u=.slice ad xs.length cap∧(∀w,(Builtin.lenOf u).run P w=.ok xs.length w) ∧
  (∀w:World,w.heap=g.w.heap->(Builtin.firstCells sz xs.length u).run P w=.ok vs.toArray w)∧jq g (aw xs) vs.toArray∧(∀x∈xs,x.cells.length=sz)∧(∀c∈aw xs,c.scalar)∧vs.length=xs.length*sz:=by
 rcases h.fH with⟨e1,e2⟩|⟨a,cap,f,e1,c7,dI,_,_,hs,hm,hr,_⟩
 ·subst e1 e2;exact⟨none,0,[],rfl,fun w=>rfl,fun w _=>by simp[Builtin.firstCells],⟨by simp[aw],by simp[aw]⟩,by simp,by simp[aw],by simp⟩
 subst e1;have hl:=cj c7;refine⟨some a,cap,(List.range (xs.length*sz)).map f,rfl,fun w=>rfl,fun w hw=>?_,⟨by simp[hl],fun j c u hj hu=>?_⟩,c7,fun c hc=>?_,by simp⟩
 ·simp only[Builtin.firstCells];refine run_loadCells w a (xs.length*sz) f fun j hj=>?_;have jo:j<(aw xs).length:=by omega
  have da:xs≠[]:=by
   intro e;subst e;simp[aw]at jo
  have:=(hm j _ (List.getElem?_eq_getElem jo)).1;obtain⟨b,off,sp⟩:=a;have sB:=hs da;simp only at sB;subst sB;rw[addr_add];simp only[World.cell?,hw];exact this
 ·have bd:=ag hj;rw[hl]at bd;have oI:((List.range (xs.length*sz)).map f)[j]?=some u:=by simpa using hu
  rw[List.getElem?_map,List.getElem?_range bd]at oI;simp only[Option.map_some,Option.some.injEq]at oI;subst oI;exact hr j c hj
 simp only[aw,List.mem_flatMap]at hc;obtain⟨x,hx,hc⟩:=hc;exact dI x hx c hc
theorem dd(xs ys:List aa):aw (xs++ys)=aw xs++aw ys:=by simp[aw]
theorem jq.append{g:G}{cs ds:List aa}{us vs:List Value}(h:jq g cs us.toArray)(k:jq g ds vs.toArray):jq g (cs++ds) (us++vs).toArray:=by
 obtain⟨h1,h2⟩:=h;obtain⟨k1,k2⟩:=k;simp only[List.size_toArray]at h1 k1;refine⟨by simp[h1,k1],fun j c u hj hu=>?_⟩;have oI:(us++vs)[j]?=some u:=by simpa using hu
 rw[List.getElem?_append]at hj oI;by_cases e:j<cs.length
 ·rw[if_pos e]at hj;rw[if_pos (by omega)]at oI;exact h2 j c u hj (by simpa using oI)
 rw[if_neg e]at hj;rw[if_neg (by omega),h1]at oI;exact k2 _ c u hj (by simpa using oI)
theorem RV.y0{g:G}{zs:List aa}{sz cap:Nat}{l:Loc}{arr:Array Value}{t:TypeId}{id:Nat}(hg:Good g)(c7:∀x∈zs,x.cells.length=sz)(dI:∀c∈aw zs,c.scalar)(cW:zs.length<=2 ^ 62)(dv:zs.length<=cap)
  (he:g.env[id]?=some (some l)) (hid:g.objs[id]?=some (.spare zs.length)) (gy:l.lo=zs.length*sz) (di:g.w.heap[l.block]?=some (.cells arr t (0,0))) (hc:cap*sz<=arr.size) (ez:∀off,¬g.fr l.block off)
  (hr:∀(j:Nat) (c:aa) (u:Value),(aw zs)[j]?=some c->arr[j]?=some u->RV g c u):RV g (.aB sz zs (.tok id)) (.slice (some ⟨l.block,0,none⟩) zs.length cap):=by
 have hl:=cj c7;have hle:zs.length*sz<=cap*sz:=Nat.mul_le_mul_right _ dv;refine .aB c7 (fun x hx c hc=>dI c (by simp only[aw,List.mem_flatMap];exact⟨x,hx,hc⟩)) dv cW (fun _=>rfl) (fun j=>arr.getD j undef) (fun j c hj=>?_) (fun j c hj=>?_) ⟨ag hid,fun m hm=>?_⟩
 ·have bd:=ag hj;rw[hl]at bd;refine⟨?_,?_⟩
  ·simp only[G.cell,Nat.zero_add];rw[cell_of_row di];simp[Array.getD_eq_getD_getElem?,show j<arr.size by omega]
  rintro(hf|⟨nT,l',o',h1,h2,h3,h4,h5⟩)
  ·exact ez _ hf
  have hb:l'.block=l.block:=h4;have:=hg.apart nT id l' l o' _ h1 h2 h3 he hid trivial hb;subst this;rw[he]at h1;simp only[Option.some.injEq]at h1;subst h1;simp only[Nat.zero_add]at h5;omega
 ·have bd:=ag hj;rw[hl]at bd;exact hr j c _ hj (by simp[Array.getD_eq_getD_getElem?,show j<arr.size by omega])
 rw[hid]at hm;simp only[Option.some.injEq,aq.spare.injEq]at hm;subst hm;exact⟨Nat.le_refl _,fun _=>.inr ⟨l,arr,t,he,rfl,gy,di,hc⟩⟩
theorem jq.jI{g:G}{ys:List aa}{vs:List Value}(h:jq g (aw ys) vs.toArray):jq g (aw (ys.map aa.share)) vs.toArray:=by
 rw[fM];exact h.dB
theorem dV{ys:List aa}{sz:Nat}(h:∀x∈ys,x.cells.length=sz):∀x∈ys.map aa.share,x.cells.length=sz:=fun x hx=>by
 rw[List.mem_map]at hx;obtain⟨y,h1,h2⟩:=hx;subst h2;rw[aa.lv,List.length_map];exact h y h1
theorem dG{ys:List aa}(h:∀c∈aw ys,c.scalar):∀c∈aw (ys.map aa.share),c.scalar:=fun c hc=>by
 rw[fM,List.mem_map]at hc;obtain⟨c',h1,h2⟩:=hc;subst h2;exact aa.eL (h c' h1)
theorem eJ{iB news rest:Array Value}{j:Nat}{u:Value}(h:(iB++news++rest)[j]?=some u)(hj:j<iB.size+news.size):(iB++news)[j]?=some u:=by
 rw[Array.getElem?_append]at h;rw[if_pos (by simpa using hj)]at h;exact h
theorem uk{P:Program}{aP:ee}(hT:b8 P aP){o:Oper}{σ:St}{t e:TypeId}{x y:Operand}{ti te:cr}{sz:Nat}{xs ys:List aa}{ow:oV}
  (ho:o.op=.call ⟨.builtin .append,#[x,y],#[t,t]⟩) (hd:∀d,o.dst=some d->d<σ.n) (ht:aP t=some ti) (aT:ti.desc=.slice e) (he:aP e=some te) (c7:te.size=sz) (hx:σ.ev x=some (.aB sz xs .ex)) (hy:σ.ev y=some (.aB sz ys ow))
  (hlen:xs.length+ys.length<=2 ^ 62) (hb:(xs.length+ys.length)*te.bytes<=2 ^ 47) :
  Cert P o σ (.aB sz (xs++ys.map aa.share) (.tok σ.objs.length)) (.write (σ.objs++[.spare (xs.length+ys.length)])) :=
 Cert.gG hd fun base fL a g bV h gW=>by
  have hO:g.objs=σ.objs:=gW.resolve_left (by simp);have hg:=bV.good;have hu:=bY hT ht aT;subst c7;have iA:=h x (by simp[ho,Op.operands,Call.operands]) _ hx;have BN:=h y (by simp[ho,Op.operands,Call.operands]) _ hy;obtain⟨BL,lM,iB,ex,H0,Ec,Lq,H3,Lr,Ed⟩:=iA.gv (P:=P);obtain⟨Sj,GP,news,ey,AR,AS,AT,Gy,Ef,tC⟩:=BN.gv (P:=P);obtain⟨⟨i,z,h1,h2,h3,h4,h5,h6,h7,h8,h9⟩,_⟩:=hT e te he;have qM:lM=xs.length:=by
   rcases iA.fH with⟨q1,q2⟩|⟨ad,cap,f,q1,_,_,_,_,_,_,_,q2⟩
   ·rw[ex]at q1;cases q2;simp at q1;simp[q1]
   rw[ex]at q1;simp only[Value.slice.injEq]at q1;rw[q1.2.2];exact q2
  subst qM;have dh:=cY (P:=P) ho a g.w;simp only[builtin,List.map_toArray,List.map_cons,List.map_nil]at dh;by_cases hn:ys.length=0
  ·have VP:ys=[]:=List.length_eq_zero_iff.1 hn;subst VP;have mc:news=[]:=by
    have:news.length=0:=by simpa using tC
    exact List.length_eq_zero_iff.1 this
   subst mc;have bL:(Builtin.append_ #[t,t] o.type #[a.eval x,a.eval y]).run P g.w=.ok (a.eval x) g.w:=by
    rw[ex];cases BL with
    | none =>
     have Qo:xs=[]:=by
      rcases iA.fH with⟨_,q2⟩|⟨ad,cap,f,q1,_⟩
      ·exact q2
      rw[ex]at q1;simp at q1
     subst Qo;have q:=AS g.w rfl;simp only[List.length_nil]at q;simp[Builtin.append_,run_underlying hu,Go.sizeOf,typeInfo,h1,AR,h2,q]
    | some ad =>
     have:=iN (P:=P) g.w g.w t o.type e i hu h1 ad xs.length xs.length 0 (a.eval y) [] (fun w=>by simpa using AR w) (by rw[h2];simpa using AS g.w rfl) (by omega) (by simp[storeCells]);simpa using this
   refine⟨a.eval x,g.mark (.spare (xs.length+0)),.inl (by rw[dh];simp[bL,G.mark]),Le.mark hg _,Good.mark hg _,by simp[G.mark,hO,Mode.post],?_⟩;simp only[List.map_nil,List.append_nil];have R6:=iA.mono (Le.mark hg (.spare (xs.length+0)));cases oI:a.eval x with
   | slice ad len cap =>
    rw[oI]at R6;cases R6 with
    | nil=>exact .nil (fun id e=>by simp only[oV.tok.injEq]at e;subst e;simp[G.mark,hO]) (by simp)
    | aB c7 dI dv cW hs f hm hr P9 =>
     refine .aB c7 dI dv cW hs f hm hr ⟨by simp[G.mark,hO],fun m eN=>?_⟩;have:(g.mark (.spare (xs.length+0))).objs[σ.objs.length]?=some (.spare (xs.length+0)):=by
      rw[<-hO];exact eS
     rw[this]at eN;simp only[Option.some.injEq,aq.spare.injEq]at eN;exact⟨by omega,fun _=>.inl P9⟩
   | _=>rw[ex]at oI;cases oI
  have bL:=gP (P:=P) g.w t o.type e i z hu h1 h4 BL xs.length xs.length ys.length (a.eval y) iB news AR (by rw[h2];exact AS g.w.drew rfl) (by rw[h2,<-ex];exact Ec g.w.drew rfl) (by omega) hlen (by rw[h3];exact hb);rw[<-ex]at bL;obtain⟨cap,dv⟩:∃cap,cap=grownCap g.w (xs.length+ys.length) xs.length e:=⟨_,rfl⟩
  obtain⟨rest,gq⟩:∃rest,rest=Builtin.zeroCells z.cells (cap-(xs.length+ys.length)):=⟨_,rfl⟩
  have qj:=grownCap_ge g.w (xs.length+ys.length) xs.length e;rw[<-dv]at bL qj;rw[<-gq]at bL;have xy:rest.size=(cap-(xs.length+ys.length))*te.size:=by rw[gq,size_zeroCells,h5,h6]
  obtain⟨arr,fP⟩:∃arr,arr=iB.toArray++news.toArray++rest:=⟨_,rfl⟩
  rw[<-fP]at bL;have mB:=hg.heap (w':=g.w.drew) rfl rfl rfl rfl;have nR:=Le.heap (g:=g) (w':=g.w.drew) rfl rfl rfl rfl;obtain⟨g1,k8⟩:∃g1:G,g1=⟨g.w.drew,g.fr,g.env,g.objs⟩:=⟨_,rfl⟩
  rw[<-k8]at mB nR;have lD:g1.w=g.w.drew:=by rw[k8]
  have qk:g1.objs=σ.objs:=by rw[k8];exact hO
  have ia:Fits (g1.alloc (.cells arr e) ((xs.length+ys.length)*te.size) (.spare (xs.length+ys.length))) (.cells arr e) (.spare (xs.length+ys.length)):=⟨arr,e,rfl⟩
  have dx:=Good.alloc mB (.cells arr e) ((xs.length+ys.length)*te.size) (.spare (xs.length+ys.length)) (.inl trivial) ia;have hle:=nR.trans (Le.alloc mB (.cells arr e) ((xs.length+ys.length)*te.size) (.spare (xs.length+ys.length)));refine⟨.slice (some ⟨g.w.heap.size,0,none⟩) (xs.length+ys.length) cap,_,.inl ?_,hle,dx,?_,?_⟩
  ·rw[dh];simp[bL,G.alloc,lD]
  ·simp[G.alloc,qk,Mode.post]
  have iK:(xs++ys.map aa.share).length=xs.length+ys.length:=by simp
  have kd:=Lq.append AT.jI;rw[<-dd]at kd;have kB:(aw (xs++ys.map aa.share)).length=(xs.length+ys.length)*te.size:=by
   rw[cj (sz:=te.size) (fun x hx=>by
    rcases List.mem_append.1 hx with q|q
    ·exact H3 x q
    exact dV Gy x q),iK]
  have:=RV.y0 (g:=g1.alloc (.cells arr e) ((xs.length+ys.length)*te.size) (.spare (xs.length+ys.length))) (zs:=xs++ys.map aa.share) (sz:=te.size) (cap:=cap) (l:=⟨g.w.heap.size,(xs.length+ys.length)*te.size,arr.size⟩) (arr:=arr) (t:=e) (id:=σ.objs.length) dx
   (fun x hx=>by
    rcases List.mem_append.1 hx with q|q
    ·exact H3 x q
    exact dV Gy x q)
   (fun c hc=>by
    rw[dd]at hc;rcases List.mem_append.1 hc with q|q
    ·exact Lr c q
    exact dG Ef c q)
   (by rw[iK];exact hlen) (by rw[iK];exact qj) (by
    have:=gZ mB (l:=some ⟨g1.w.heap.size,(xs.length+ys.length)*te.size,jx (.cells arr e)⟩);rw[qk]at this;simp only[G.alloc];rw[this,lD];rfl) (by rw[iK,<-qk];exact eS) (by rw[iK]) (by
    have:=cD g1.w (.cells arr e);rw[lD]at this;simp only[G.alloc,lD];exact this) (by
    rw[fP];simp only[Array.size_append,List.size_toArray,Ed,tC,xy,<-Nat.add_mul];rw[show xs.length+ys.length+(cap-(xs.length+ys.length))=cap by omega];exact Nat.le_refl _) (fun off hf=>by
    have ga:g.fr g.w.heap.size off:=by rw[k8]at hf;exact hf
    have:=hg.frlt _ _ ga;omega) (fun j c u hj hu=>by
    have bd:=ag hj;rw[kB]at bd;rw[fP]at hu;have wQ:=eJ hu (by simp only[List.size_toArray,Ed,tC,<-Nat.add_mul];exact bd);exact(kd.2 j c u hj (by simpa using wQ)).mono hle)
  rw[iK]at this;exact this
theorem sU{P:Program}{aP:ee}(hT:b8 P aP){o:Oper}{σ:St}{t e:TypeId}{x y:Operand}{ti te:cr}{sz:Nat}{xs ys:List aa}{ow:oV}{id:Nat}
  (ho:o.op=.call ⟨.builtin .append,#[x,y],#[t,t]⟩) (hd:∀d,o.dst=some d->d<σ.n) (ht:aP t=some ti) (aT:ti.desc=.slice e) (he:aP e=some te) (c7:te.size=sz) (hx:σ.ev x=some (.aB sz xs (.tok id))) (hy:σ.ev y=some (.aB sz ys ow))
  (hid:σ.objs[id]?=some (.spare xs.length)) (hlen:xs.length+ys.length<=2 ^ 62) (hb:(xs.length+ys.length)*te.bytes<=2 ^ 47) :
  Cert P o σ (.aB sz (xs++ys.map aa.share) (.tok id)) (.write (σ.objs.set id (.spare (xs.length+ys.length)))) :=
 Cert.gG hd fun base fL a g bV h gW=>by
  have hO:g.objs=σ.objs:=gW.resolve_left (by simp);have hg:=bV.good;have hu:=bY hT ht aT;subst c7;have iA:=h x (by simp[ho,Op.operands,Call.operands]) _ hx;have BN:=h y (by simp[ho,Op.operands,Call.operands]) _ hy;obtain⟨BL,lM,iB,ex,H0,Ec,Lq,H3,Lr,Ed⟩:=iA.gv (P:=P);obtain⟨Sj,GP,news,ey,AR,AS,AT,Gy,Ef,tC⟩:=BN.gv (P:=P);obtain⟨⟨i,z,h1,h2,h3,h4,h5,h6,h7,h8,h9⟩,_⟩:=hT e te he;have fV:g.objs[id]?=some (.spare xs.length):=by rw[hO];exact hid
  have dh:=cY (P:=P) ho a g.w;simp only[builtin,List.map_toArray,List.map_cons,List.map_nil]at dh;have fQ:∀m,m=xs.length->g.objs.set id (.spare m)=g.objs:=fun m hm=>by
   subst hm;apply List.ext_getElem?;intro k;by_cases e:id=k
   ·subst e;rw[List.getElem?_set_self (ag fV),fV]
   rw[List.getElem?_set_ne e]
  have iK:(xs++ys.map aa.share).length=xs.length+ys.length:=by simp
  have CR:∀x∈xs++ys.map aa.share,x.cells.length=te.size:=fun x hx=>by
   rcases List.mem_append.1 hx with q|q
   ·exact H3 x q
   exact dV Gy x q
  have H5:∀c∈aw (xs++ys.map aa.share),c.scalar:=fun c hc=>by
   rw[dd]at hc;rcases List.mem_append.1 hc with q|q
   ·exact Lr c q
   exact dG Ef c q
  have kB:(aw (xs++ys.map aa.share)).length=(xs.length+ys.length)*te.size:=by
   rw[cj CR,iK]
  have kd:=Lq.append AT.jI;rw[<-dd]at kd;by_cases hn:ys.length=0
  ·have VP:ys=[]:=List.length_eq_zero_iff.1 hn;subst VP;have mc:news=[]:=by
    have:news.length=0:=by simpa using tC
    exact List.length_eq_zero_iff.1 this
   subst mc;have dv:xs.length<=lM:=by
    rcases iA.fH with⟨_,q2⟩|⟨ad,cap,f,q1,_,_,q2,_⟩
    ·simp[q2]
    rw[ex]at q1;simp only[Value.slice.injEq]at q1;rw[q1.2.2];exact q2
   have bL:(Builtin.append_ #[t,t] o.type #[a.eval x,a.eval y]).run P g.w=.ok (a.eval x) g.w:=by
    rw[ex];cases BL with
    | none =>
     have Qo:xs=[]∧lM=0:=by
      rcases iA.fH with⟨q1,q2⟩|⟨ad,cap,f,q1,_⟩
      ·rw[ex]at q1;simp only[Value.slice.injEq]at q1;exact⟨q2,q1.2.2⟩
      rw[ex]at q1;simp at q1
     obtain⟨e1,e2⟩:=Qo;subst e1;subst e2;have q:=AS g.w rfl;simp only[List.length_nil]at q;simp[Builtin.append_,run_underlying hu,Go.sizeOf,typeInfo,h1,AR,h2,q]
    | some ad =>
     have:=iN (P:=P) g.w g.w t o.type e i hu h1 ad xs.length lM 0 (a.eval y) [] (fun w=>by simpa using AR w) (by rw[h2];simpa using AS g.w rfl) (by omega) (by simp[storeCells]);simpa using this
   refine⟨a.eval x,g,.inl (by rw[dh];simp[bL]),Le.refl g,hg,?_,?_⟩
   ·simp only[Mode.post,<-hO];exact(fQ _ (by simp)).symm
   simpa using iA
  have hm:xs.length<xs.length+ys.length:=by omega
  by_cases kr:xs.length+ys.length<=lM
  ·-- in place
   obtain⟨l,arr,t',q1,q2,q3,q4,q5⟩:∃(l:Loc) (arr:Array Value) (t':TypeId),g.env[id]?=some (some l)∧BL=some ⟨l.block,0,none⟩∧l.lo=xs.length*te.size∧g.w.heap[l.block]?=some (.cells arr t' (0,0))∧lM*te.size<=arr.size:=by
    rcases iA.fH with⟨q1,q2⟩|⟨ad,cap,f,q1,_,_,_,_,_,_,_,q2⟩
    ·rw[ex]at q1;simp only[Value.slice.injEq]at q1;omega
    rw[ex]at q1;simp only[Value.slice.injEq]at q1;obtain⟨e1,_,e3⟩:=q1;subst e1;subst e3;rcases(q2.2 _ fV).2 rfl with q|⟨l,arr,t',q1,q2,q3,q4,q5⟩
    ·omega
    exact⟨l,arr,t',q1,by rw[q2],q3,q4,q5⟩
   subst q2;have fU:xs.length*te.size+0+news.length<=arr.size:=by
    rw[tC,Nat.add_zero,<-Nat.add_mul];exact Nat.le_trans (Nat.mul_le_mul_right _ kr) q5
   have P6:∀v∈news,v.oneCell'=true:=fun v hv=>by
    obtain⟨j,hj⟩:=List.getElem?_of_mem hv;have bd:=ag hj;have hs:=AT.1;simp only[List.size_toArray]at hs;rw[hs]at bd;have hc:=List.getElem?_eq_getElem bd;exact((AT.2 j _ v hc (by simpa using hj)).iZ (Ef _ (List.mem_of_getElem? hc))).1
   have dD:=run_storeCells_at P l.block (xs.length*te.size) t' news 0 arr g.w q4 fU P6;simp only[Nat.add_zero]at dD;obtain⟨b7,iX⟩:∃b7,b7=(arr.toList.take (xs.length*te.size)++news++arr.toList.drop (xs.length*te.size+news.length)).toArray:=⟨_,rfl⟩
   rw[<-iX]at dD;have qO:b7.size=arr.size:=by
    rw[iX];simp;omega
   have Lh:∀j,j<xs.length*te.size->b7[j]?=arr[j]?:=fun j hj=>by
    rw[iX];simp only[List.append_assoc,List.getElem?_toArray];rw[List.getElem?_append,if_pos (by simp;omega),List.getElem?_take,if_pos hj];simp
   have yF:∀j u,b7[j]?=some u->xs.length*te.size<=j->j<(xs.length+ys.length)*te.size->news[j-xs.length*te.size]?=some u:=fun j u hj h1 h2=>by
    rw[iX]at hj;simp only[List.append_assoc,List.getElem?_toArray]at hj;have Lg:(arr.toList.take (xs.length*te.size)).length=xs.length*te.size:=by simp;omega
    rw[List.getElem?_append,Lg,if_neg (by omega),List.getElem?_append,if_pos (by rw[tC];rw[Nat.add_mul]at h2;omega)]at hj;exact hj
   have bL:=iN (P:=P) g.w (g.w.setRow l.block b7) t o.type e i hu h1 ⟨l.block,0,none⟩ xs.length lM ys.length (a.eval y) news AR (by rw[h2];exact AS g.w rfl) kr (by rw[h2,addr_add,Nat.zero_add];exact dD);rw[<-ex]at bL;have eH:jT g id (.spare xs.length) (some ⟨l.block,(xs.length+ys.length)*te.size,0⟩) (.spare (xs.length+ys.length)) (g.w.setRow l.block b7):={
    obj:=fV
    os:=rfl
    tape:=rfl
    output:=rfl
    size:=by rw[setRow_size];exact Nat.le_refl _
    block:=fun k _ hk=>setRow_other _ _ _ _ (fun e=>hk l q1 trivial e.symm)
    cell:=fun b off x hx hb=>by
     by_cases e:b=l.block
     ·subst e;have bd:=hb l q1 trivial rfl;rw[q3]at bd;rw[cell_of_row (setRow_heap g.w l.block arr b7 t' (0,0) q4),Lh off bd];simp only[G.cell]at hx;rw[cell_of_row q4]at hx;exact hx
     rw[gh (setRow_other g.w l.block b b7 e)];exact hx
    place:=fun l1 h1 _=>by
     simp only[Option.some.injEq]at h1;subst h1;exact .inr ⟨l,q1,trivial,rfl,by rw[q3];exact Nat.mul_le_mul_right _ (by omega)⟩
    spare:=fun m h=>by
     simp only[aq.spare.injEq]at h;subst h;exact .inl ⟨_,rfl,hm⟩
    plain:=fun h=>absurd trivial h
    gone:=by simp }
   have hle:=Le.bo hg eH;have dx:=Good.bo hg eH (fun l1 h1=>by
    simp only[Option.some.injEq]at h1;subst h1;exact⟨b7,(t',(0,0)),setRow_heap g.w l.block arr b7 t' (0,0) q4⟩) (fun l1 h1 _=>by
    simp only[Option.some.injEq]at h1;subst h1;rw[setRow_size];exact aO q4)
   refine⟨.slice (some ⟨l.block,0,none⟩) (xs.length+ys.length) lM,_,.inl ?_,hle,dx,by simp only[G.bo,Mode.post,hO],?_⟩
   ·rw[dh];simp[bL,G.bo]
   have:=RV.y0 (g:=g.bo id (some ⟨l.block,(xs.length+ys.length)*te.size,0⟩) (.spare (xs.length+ys.length)) (g.w.setRow l.block b7)) (zs:=xs++ys.map aa.share) (sz:=te.size) (cap:=lM)
    (l:=⟨l.block,(xs.length+ys.length)*te.size,0⟩) (arr:=b7) (t:=t') (id:=id) dx CR H5 (by rw[iK];exact hlen) (by rw[iK];exact kr)
    (by simp only[G.bo];rw[List.getElem?_set_self (iU hg fV)]) (by rw[iK];simp only[G.bo];rw[List.getElem?_set_self (ag fV)]) (by rw[iK])
    (setRow_heap g.w l.block arr b7 t' (0,0) q4) (by rw[qO];exact q5) (fun off hf=>?_) (fun j c u hj hu=>?_)
   ·rw[iK]at this;exact this
   ·have ga:g.fr l.block off:=hf;exact absurd ga (hg.fj id l _ q1 fV trivial off)
   have bd:=ag hj;rw[kB]at bd;refine(kd.2 j c u hj ?_).mono hle;have OH:iB.length=xs.length*te.size:=Ed;simp only[List.getElem?_toArray];rw[List.getElem?_append];by_cases e:j<iB.length
   ·rw[if_pos e];have jo:(aw xs)[j]?=some c:=by
     rw[dd,List.getElem?_append,if_pos (by rw[cj H3];omega)]at hj;exact hj
    rw[Lh j (by omega)]at hu;have HG:=Ec g.w rfl;rw[ex]at HG;simp only[Builtin.firstCells]at HG;have Tc:=run_loadCells (P:=P) g.w ⟨l.block,0,none⟩ (xs.length*te.size) (fun k=>arr.getD k undef) (fun k hk=>by
     rw[addr_add,cell_of_row q4,Nat.zero_add];simp[Array.getD_eq_getD_getElem?,show k<arr.size by omega])
    rw[Tc]at HG;simp only[Result.ok.injEq,and_true]at HG;have holds:iB=(List.range (xs.length*te.size)).map (fun k=>arr.getD k undef):=by
     have:=congrArg Array.toList HG;simpa using this.symm
    rw[holds,List.getElem?_map,List.getElem?_range (by omega)];simp only[Option.map_some,Option.some.injEq];have WI:j<arr.size:=by omega
    simp only[Array.getElem?_eq_getElem WI,Option.some.injEq]at hu;simp[Array.getD_eq_getD_getElem?,WI,hu]
   rw[if_neg e,OH];exact yF j u hu (by omega) bd
  -- a new row
  have bL:=gP (P:=P) g.w t o.type e i z hu h1 h4 BL xs.length lM ys.length (a.eval y) iB news AR (by rw[h2];exact AS g.w.drew rfl) (by rw[h2,<-ex];exact Ec g.w.drew rfl) (by omega) hlen (by rw[h3];exact hb);rw[<-ex]at bL;obtain⟨cap,dv⟩:∃cap,cap=grownCap g.w (xs.length+ys.length) lM e:=⟨_,rfl⟩
  obtain⟨rest,gq⟩:∃rest,rest=Builtin.zeroCells z.cells (cap-(xs.length+ys.length)):=⟨_,rfl⟩
  have qj:=grownCap_ge g.w (xs.length+ys.length) lM e;rw[<-dv]at bL qj;rw[<-gq]at bL;have xy:rest.size=(cap-(xs.length+ys.length))*te.size:=by rw[gq,size_zeroCells,h5,h6]
  obtain⟨arr,fP⟩:∃arr,arr=iB.toArray++news.toArray++rest:=⟨_,rfl⟩
  rw[<-fP]at bL;have eH:jT g id (.spare xs.length) (some ⟨g.w.heap.size,(xs.length+ys.length)*te.size,0⟩) (.spare (xs.length+ys.length)) (g.w.drew.alloc (.cells arr e)):={
   obj:=fV
   os:=rfl
   tape:=rfl
   output:=rfl
   size:=by show g.w.heap.size<=(g.w.heap.push _).size;rw[Array.size_push];omega
   block:=fun k hk _=>cI g.w.drew _ hk
   cell:=fun b off x hx _=>by
    have:=lr hx;rw[gh (cI g.w.drew (.cells arr e) this)];exact hx
   place:=fun l1 h1 _=>by
    simp only[Option.some.injEq]at h1;subst h1;exact .inl (Nat.le_refl _)
   spare:=fun m h=>by
    simp only[aq.spare.injEq]at h;subst h;exact .inl ⟨_,rfl,hm⟩
   plain:=fun h=>absurd trivial h
   gone:=by simp }
  have hle:=Le.bo hg eH;have dx:=Good.bo hg eH (fun l1 h1=>by
   simp only[Option.some.injEq]at h1;subst h1;exact⟨arr,(e,(0,0)),cD g.w.drew _⟩) (fun l1 h1 _=>by
   simp only[Option.some.injEq]at h1;subst h1;exact aO (cD g.w.drew (.cells arr e)))
  refine⟨.slice (some ⟨g.w.heap.size,0,none⟩) (xs.length+ys.length) cap,_,.inl ?_,hle,dx,by simp only[G.bo,Mode.post,hO],?_⟩
  ·rw[dh];simp[bL,G.bo]
  have:=RV.y0 (g:=g.bo id (some ⟨g.w.heap.size,(xs.length+ys.length)*te.size,0⟩) (.spare (xs.length+ys.length)) (g.w.drew.alloc (.cells arr e))) (zs:=xs++ys.map aa.share) (sz:=te.size) (cap:=cap)
   (l:=⟨g.w.heap.size,(xs.length+ys.length)*te.size,0⟩) (arr:=arr) (t:=e) (id:=id) dx CR H5 (by rw[iK];exact hlen) (by rw[iK];exact qj)
   (by simp only[G.bo];rw[List.getElem?_set_self (iU hg fV)]) (by rw[iK];simp only[G.bo];rw[List.getElem?_set_self (ag fV)]) (by rw[iK])
   (cD g.w.drew _) (by
    rw[fP];simp only[Array.size_append,List.size_toArray,Ed,tC,xy,<-Nat.add_mul];rw[show xs.length+ys.length+(cap-(xs.length+ys.length))=cap by omega];exact Nat.le_refl _) (fun off hf=>by
    have ga:g.fr g.w.heap.size off:=hf;have:=hg.frlt _ _ ga;omega) (fun j c u hj hu=>by
    have bd:=ag hj;rw[kB]at bd;rw[fP]at hu;have wQ:=eJ hu (by simp only[List.size_toArray,Ed,tC,<-Nat.add_mul];exact bd);exact(kd.2 j c u hj (by simpa using wQ)).mono hle)
  rw[iK]at this;exact this
end Go.Av
namespace Go.Av
def Lv:Value->Int
 | .int _ n=>n
 | _=>0
def fZ:Value->Value->Bool
 | .string a,.string b=>decide (a=b)
 | .int _ a,.int _ b=>decide (a=b)
 | .agg a,.agg b=>decide (a.toList.map Lv=b.toList.map Lv)
 | _,_=>false
def bC:List (Value×aa)->Value->Option aa
 | [],_=>none
 | (k,x)::r,key=>if fZ k key then some x else bC r key
def cB:List (Value×aa)->Value->aa->List (Value×aa)
 | [],key,y=>[(key,y)]
 | (k,x)::r,key,y=>if fZ k key then(key,y)::r else(k,x)::cB r key y
def kT:List (Value×aa)->Value->Nat
 | [],_=>0
 | (k,_)::r,key=>if fZ k key then 0 else kT r key+1
def KT.desc:KT->TypeDesc->Prop
 | .str,d=>d=.string
 | .int k,d=>d=.int k
 | .iter _,_=>False
 | .pair,_=>False
 | .sb _ _ _,_=>False
theorem KT.mJ{kt:KT}{d:TypeDesc}(h:kt.desc d):kt.plain:=by
 cases kt with
 | str=>trivial
 | int k=>trivial
 | pair=>exact h.elim
 | sb a b c=>exact h.elim
 | iter c=>exact h.elim
theorem bytes_beq(s t:ByteArray):(s == t)=decide (s=t):=by
 obtain⟨a⟩:=s;obtain⟨b⟩:=t;have e:((⟨a⟩:ByteArray) == ⟨b⟩)=(a == b):=rfl;rw[e,Bool.eq_iff_iff];simp
theorem Dq{kt:KT}{d:TypeDesc}(hd:kt.desc d){a b:Value}(ha:kt.ok a)(hb:kt.ok b):Instr.sameNow d a b=some (fZ b a):=by
 cases kt with
 | pair=>exact hd.elim
 | sb a b c=>exact hd.elim
 | iter c=>exact hd.elim
 | str =>
  simp only[KT.desc]at hd;subst hd;cases a<;>simp only[KT.ok]at ha;cases b<;>simp only[KT.ok]at hb;rename_i s t;simp only[Instr.sameNow,fZ,Option.some.injEq,bytes_beq];rw[Bool.eq_iff_iff];simp only[decide_eq_true_eq];exact⟨Eq.symm,Eq.symm⟩
 | int k =>
  simp only[KT.desc]at hd;subst hd;cases a<;>simp only[KT.ok]at ha;cases b<;>simp only[KT.ok]at hb;rename_i s t;subst ha;subst hb;simp only[Instr.sameNow,fZ,if_true,Option.some.injEq];rw[Bool.eq_iff_iff];simp only[beq_iff_eq,decide_eq_true_eq];exact⟨Eq.symm,Eq.symm⟩
theorem findNow_spec{kt:KT}{d:TypeDesc}(hd:kt.desc d){key:Value}(hk:kt.ok key):∀(arr:List MapEntry) (es:List (Value×aa)) (i:Nat),arr.length=es.length ->
  (∀(j:Nat) (e:MapEntry) (kx:Value×aa),arr[j]?=some e->es[j]?=some kx->e.key=kx.1)->(∀p∈es,kt.ok p.1) ->
  ∃r,Instr.findNow d key arr i=some r ∧
   ((r=none∧bC es key=none∧∀y,cB es key y=es++[(key,y)]) ∨
    ∃(j:Nat) (e:MapEntry) (x:aa) (k0:Value),r=some (i+j,e.val)∧arr[j]?=some e∧es[j]?=some (k0,x)∧(fZ k0 key=true∧j=kT es key)∧bC es key=some x∧∀y,cB es key y=es.set j (key,y))
 | [],[],i,_,_,_=>⟨none,rfl,.inl ⟨rfl,rfl,fun _=>rfl⟩⟩
 | [],_::_,i,hl,_,_=>by simp at hl
 | _::_,[],i,hl,_,_=>by simp at hl
 | e::arr,(k0,x)::es,i,hl,lR,iy=>by
  have he:e.key=k0:=lR 0 e (k0,x) rfl rfl;have Kk:kt.ok k0:=iy (k0,x) (by simp);have hs:=Dq hd hk (he ▸ Kk:kt.ok e.key);simp only[Instr.findNow,hs];cases hq:fZ e.key key with
  | true =>
   refine⟨some (i,e.val),by rfl,.inr ⟨0,e,x,k0,by simp,rfl,rfl,⟨he ▸ hq,by rw[he]at hq;simp[kT,hq]⟩,?_,fun y=>?_⟩⟩
   ·rw[he]at hq;simp[bC,hq]
   rw[he]at hq;simp[cB,hq]
  | false =>
   rw[he]at hq;obtain⟨r,h1,h2⟩:=findNow_spec hd hk arr es (i+1) (by simpa using hl) (fun j e' kx a b=>lR (j+1) e' kx (by simpa using a) (by simpa using b)) (fun p hp=>iy p (by simp[hp]));refine⟨r,h1,?_⟩;rcases h2 with⟨q1,q2,q3⟩|⟨j,e',x',k',q1,q2,q3,q4,q5,q6⟩
   ·exact .inl ⟨q1,by simp[bC,hq,q2],fun y=>by simp[cB,hq,q3]⟩
   refine .inr ⟨j+1,e',x',k',?_,by simpa using q2,by simpa using q3,⟨q4.1,by simp[kT,hq,<-q4.2]⟩,by simp[bC,hq,q5],fun y=>by simp[cB,hq,q6]⟩;rw[q1];simp only[Option.some.injEq,Prod.mk.injEq,and_true];omega
theorem gw{P:Program}{aP:ee}(hT:b8 P aP){t k e:TypeId}{ti:cr}(ht:aP t=some ti)(aT:ti.desc=.map k e):P.underlying t=some (.map k e):=by
 obtain⟨_,d,h1,h2⟩:=hT t ti ht;rw[aT]at h2;simp only[rI]at h2;rw[h1,h2]
theorem run_checkKey{P:Program}{kt:KT}{k:TypeId}{d:TypeDesc}(hu:P.underlying k=some d)(hd:kt.desc d){key:Value}(w:World)(b:Bool)(n:Nat):(Instr.checkKey b (n+1) k key).run P w=.ok () w:=by
 cases kt<;>simp only[KT.desc]at hd<;>subst hd<;>simp[Instr.checkKey,run_underlying hu]
def zeroOf(ti:cr):aa:=if ti.desc.agg then .agg ti.zero else ti.zero.getD 0 (.v (.bool false))
theorem kc{P:Program}{t:TypeId}{ti:cr}(h:DP P t ti)(hs:ti.desc.agg=true∨ti.size=1):∃z,(∀w,(Go.zeroValue t).run P w=.ok z w)∧∀g,RV g (zeroOf ti) z:=by
 obtain⟨⟨i,z,h1,h2,h3,h4,h5,h6,h7,h8,h9⟩,_⟩:=h;refine⟨z,fun w=>by simp[Go.zeroValue,typeInfo,h1,h4],fun g=>?_⟩;unfold zeroOf;split
 ·rename_i fO;obtain⟨cs,e⟩:=h7.1 fO;subst e;exact .agg h5 h9 (h8 g)
 rename_i fO;have c7:ti.zero.length=1:=by
  rcases hs with q|q
  ·exact absurd q fO
  omega
 match hz:ti.zero,c7 with
 | [c],_ =>
  have qL:z.cells.size=1:=by rw[h5,hz];rfl
  have dI:c.scalar:=h9 c (by rw[hz];simp);have hr:=h8 g 0 c (z.cells[0]) (by rw[hz];rfl) (by simp[qL]);have Qs:=h7.2 (by simpa using fO);have VU:z.cells[0]=z:=by simp[Qs]
  rw[VU]at hr;exact hr
theorem zB{P:Program}{t:TypeId}{ti:cr}(h:DP P t ti)(hs:ti.desc.agg=true∨ti.size=1):(zeroOf ti).cells=ti.zero∧ti.zero.length=ti.size∧∀c∈ti.zero,c.scalar:=by
 obtain⟨⟨i,z,h1,h2,h3,h4,h5,h6,h7,h8,h9⟩,_⟩:=h;refine⟨?_,h6,h9⟩;unfold zeroOf;split
 ·rfl
 rename_i fO;have c7:ti.zero.length=1:=by
  rcases hs with q|q
  ·exact absurd q fO
  omega
 match hz:ti.zero,c7 with
 | [c],_ =>
  have dI:c.scalar:=h9 c (by rw[hz];simp);simp only[List.getD_cons_zero];cases c<;>first|rfl|exact dI.elim
theorem RV.yM{g:G}{sz:Nat}{xs:List aa}{o:oV}{u:Value}(h:RV g (.aB sz xs o) u):RV g (.aB sz (xs.map aa.share) o) u:=by
 cases h with
 | nil ho hn=>exact .nil ho hn
 | aB c7 dI dv cW hs f hm hr ho =>
  have key:∀(j:Nat) (c:aa),(aw (xs.map aa.share))[j]?=some c->∃c',(aw xs)[j]?=some c'∧c'.br=c:=fun j c hj=>by
   rw[fM,List.getElem?_map,Option.map_eq_some_iff]at hj;exact hj
  have hl:(xs.map aa.share).length=xs.length:=List.length_map _;rw[<-hl]at dv cW ho ⊢;refine .aB (dV c7) (fun x hx c hc=>?_) dv cW (fun da=>hs fun e=>da (by rw[e];rfl)) f (fun j c hj=>?_) (fun j c hj=>?_) ho
  ·exact dG (fun c hc=>by
    simp only[aw,List.mem_flatMap]at hc;obtain⟨x,hx,hc⟩:=hc;exact dI x hx c hc) c (by
    simp only[aw,List.mem_flatMap];exact⟨x,hx,hc⟩)
  ·obtain⟨c',qh,_⟩:=key j c hj;exact hm j c' qh
  obtain⟨c',qh,rfl⟩:=key j c hj;exact(hr j c' qh).br
theorem sY{P:Program}{aP:ee}(hT:b8 P aP){o:Oper}{σ:St}{t e:TypeId}{x y:Operand}{ti te:cr}{k k':IntKind}{n:Int}
  (ho:o.op=.makeSlice t x y) (hd:∀d,o.dst=some d->d<σ.n) (ht:aP t=some ti) (aT:ti.desc=.slice e) (he:aP e=some te) (hx:σ.ev x=some (.v (.int k n))) (hy:σ.ev y=some (.v (.int k' n)))
  (h0:0<=n) (hb:te.bytes*n.toNat<=2 ^ 48) (Ok:n.toNat<=2 ^ 62) (hs:0<te.size) (P6:te.desc.agg=true∨te.size=1) :
  Cert P o σ (.aB te.size (List.replicate n.toNat (zeroOf te).share) .ex) .pure :=
 Cert.gG hd fun base fL a g bV h _=>by
  have hg:=bV.good;have ex:=(h x (by simp[ho,Op.operands]) _ hx).b6.1;have ey:=(h y (by simp[ho,Op.operands]) _ hy).b6.1;have hu:=bY hT ht aT;obtain⟨c1,c2,c3⟩:=zB (hT e te he) P6;obtain⟨⟨i,z,h1,h2,h3,h4,h5,h6,h7,h8,h9⟩,_⟩:=hT e te he;obtain⟨m,rfl⟩:=Int.eq_ofNat_of_zero_le h0;simp only[Int.toNat_natCast]at *;have wJ:(i.bytes:Int)*(m:Int)<=281474976710656:=by
   rw[h3,<-Int.natCast_mul];omega
  have bL:=run_make (P:=P) g.w t e i z hu h1 h4 k k' m m (by omega) (Int.le_refl _) wJ (by omega);simp only[Int.toNat_natCast]at bL;have Ww:aw (List.replicate m (zeroOf te))=(List.replicate m te.zero).flatten:=by
   rw[aw,List.flatMap_replicate,c1]
  have hlen:(List.replicate m te.zero).flatten.length=m*te.size:=by simp[h6]
  have eo:∀(j:Nat) (c:aa),(List.replicate m te.zero).flatten[j]?=some c->te.zero[j % te.size]?=some c:=fun j c=>h6 ▸ oN te.zero (by omega) m j c;have hle:=Le.push g hg (.cells (madeCells z.cells (m*i.size)) e);have yF:=cD g.w (.cells (madeCells z.cells (m*i.size)) e (0,0));have CQ:RV (g.push (.cells (madeCells z.cells (m*i.size)) e)) (.aB te.size (List.replicate m (zeroOf te)) .ex) (.slice (some ⟨g.w.heap.size,0,none⟩) m m):=by
   have key:=@RV.aB (g.push (.cells (madeCells z.cells (m*i.size)) e)) te.size (List.replicate m (zeroOf te)) .ex ⟨g.w.heap.size,0,none⟩ m (fun x hx=>by
    rw[(List.mem_replicate.1 hx).2,c1,c2]) (fun x hx c hc=>by
    rw[(List.mem_replicate.1 hx).2,c1]at hc;exact c3 c hc) (by simp) (by simpa using Ok) (fun _=>rfl) (fun j=>(madeCells z.cells (m*i.size)).getD j undef) (fun j c hj=>by
     rw[Ww]at hj;have bd:=ag hj;rw[hlen]at bd;refine⟨?_,?_⟩
     ·show(g.w.alloc _).cell? _=_;rw[cell_of_row yF,Nat.zero_add];have c7:j<(madeCells z.cells (m*i.size)).size:=by rw[size_madeCells,h2];exact bd
      simp[Array.getD_eq_getD_getElem?,c7]
     ·rintro(hf|⟨id,l,o',q1,q2,q3,q4,_⟩)
      ·have:=hg.frlt _ _ hf;simp at this
      have:=hg.loc id l o' q1 q2 q3;simp only at q4;omega) (fun j c hj=>by
     rw[Ww]at hj;have jo:=eo j c hj;have bd:=ag hj;rw[hlen]at bd;have kg:j % te.size<z.cells.size:=by rw[h5];exact ag jo
     refine h8 _ _ _ _ jo ?_;have c7:j<(madeCells z.cells (m*i.size)).size:=by rw[size_madeCells,h2];exact bd
     have:(madeCells z.cells (m*i.size))[j]?=some (z.cells[j % te.size]'kg):=by
      simp only[madeCells,Array.getElem?_map,h2,Array.getElem?_range,if_pos bd,Option.map_some,Option.some.injEq];rw[h5,h6];simp[Array.getD_eq_getD_getElem?,kg]
     rw[Array.getD_eq_getD_getElem?,this,Option.getD_some];exact Array.getElem?_eq_getElem kg) (by simp[sd])
   simpa using key
  refine⟨.slice (some ⟨g.w.heap.size,0,none⟩) m m,g.push (.cells (madeCells z.cells (m*i.size)) e),.inl ?_,hle,Good.push hg _,rfl,by simpa using CQ.yM⟩;simp[execOp,ho,ex,ey,bL,G.push]
theorem vy{P:Program}{kt:KT}{t k e:TypeId}{d:TypeDesc}(hu:P.underlying t=some (.map k e))(hk:P.underlying k=some d)(hd:kt.desc d){g:G}{r clk:Nat}{arr:Array MapEntry}{es:List (Value×aa)}{z:Value}{zx:aa}
  (hh:g.w.heap[r]?=some (.map arr clk)) (hl:arr.size=es.length) (lR:∀(i:Nat) (e:MapEntry) (kx:Value×aa),arr[i]?=some e->es[i]?=some kx->e.key=kx.1) (iy:∀p∈es,kt.ok p.1)
  (hr:∀(i:Nat) (e:MapEntry) (kx:Value×aa),arr[i]?=some e->es[i]?=some kx->RV g kx.2 e.val) {key:Value} (fk:kt.ok key) (hz:(Go.zeroValue e).run P g.w=.ok z g.w) (Yt:RV g zx z) (ok:Bool) :
  ∃u,(Instr.lookup t (.map (some r)) key ok).run P g.w=.ok (if ok then .tuple #[u,.bool (bC es key).isSome]else u) g.w∧RV g ((bC es key).getD zx) u:=by
 obtain⟨fr,h1,h2⟩:=findNow_spec hd fk arr.toList es 0 (by simpa using hl) (fun j e kx a b=>lR j e kx (by simpa using a) b) iy;have CG:∀b,(Instr.checkKey b 10000 k key).run P g.w=.ok () g.w:=fun b=>run_checkKey hk hd g.w b 9999;have eo:(getObj r).run P g.w=.ok (.map arr clk) g.w:=by
  simp[Go.getObj,Sem.run,hh]
 have uP:(Instr.findKey k key arr.toList).run P g.w=.ok fr g.w:=by
  simp[Instr.findKey,run_underlying hk,h1]
 rcases h2 with⟨q1,q2,_⟩|⟨j,e',x,k0,q1,q2,q3,_,q5,_⟩
 ·subst q1;refine⟨z,?_,by rw[q2];exact Yt⟩;simp only[Instr.lookup,Sem.run_bind,run_underlying hu,Result.andThen_ok,eo,Sem.run_pure,CG,uP,hz,q2];cases ok<;>rfl
 subst q1;refine⟨e'.val,?_,by rw[q5];exact hr j e' (k0,x) (by simpa using q2) q3⟩;simp only[Instr.lookup,Sem.run_bind,run_underlying hu,Result.andThen_ok,eo,Sem.run_pure,CG,uP,q5];cases ok<;>rfl
def jM(ok:Bool)(x:Option aa)(z:aa):aa:=if ok then .cN [x.getD z,.v (.bool x.isSome)]else x.getD z
theorem kG{g:G}{ok:Bool}{x:Option aa}{z:aa}{u:Value}(h:RV g (x.getD z) u):RV g (jM ok x z) (if ok then .tuple #[u,.bool x.isSome]else u):=by
 cases ok
 ·exact h
 refine .cN rfl (fun i c v h1 h2=>?_)
 match i,h1,h2 with
 | 0,h1,h2 =>
  simp at h1 h2;subst h1;subst h2;exact h
 | 1,h1,h2 =>
  simp at h1 h2;subst h1;subst h2;exact .v trivial
theorem uv{P:Program}{aP:ee}(hT:b8 P aP){o:Oper}{σ:St}{t k e:TypeId}{x y:Operand}{ok:Bool}{ti te:cr}{kt:KT}{es:List (Value×aa)}{key:Value}{d:TypeDesc}
  (ho:o.op=.lookup t x y ok) (hd:∀d,o.dst=some d->d<σ.n) (ht:aP t=some ti) (aT:ti.desc=.map k e) (hk:P.underlying k=some d) (xv:kt.desc d) (he:aP e=some te) (c7:te.desc.agg=true∨te.size=1)
  (hx:σ.ev x=some (.im kt es)) (hy:σ.ev y=some (.v key)) (fk:kt.ok key):Cert P o σ (jM ok (bC es key) (zeroOf te)) .pure :=
 Cert.bW .pure (.inl rfl) hd fun a g _ h _=>by
  obtain⟨r,clk,arr,ex,hh,hl,lR,iy,hr⟩:=(h x (by simp[ho,Op.operands]) _ hx).Qu;have ey:=(h y (by simp[ho,Op.operands]) _ hy).b6.1;obtain⟨z,hz,vZ⟩:=kc (hT e te he) c7;obtain⟨u,h1,h2⟩:=vy (gw hT ht aT) hk xv hh hl lR iy hr fk (hz g.w) (vZ g) ok;exact⟨_,by simp only[execOp,ho,ex,ey,Sem.run_bind,h1,Result.andThen_ok,Sem.run_pure],kG h2⟩
theorem uw{P:Program}{aP:ee}(hT:b8 P aP){o:Oper}{σ:St}{t k e:TypeId}{x y:Operand}{ok:Bool}{ti te:cr}{kt:KT}{es:List (Value×aa)}{id:Nat}{key:Value}{d:TypeDesc}
  (ho:o.op=.lookup t x y ok) (hd:∀d,o.dst=some d->d<σ.n) (ht:aP t=some ti) (aT:ti.desc=.map k e) (hk:P.underlying k=some d) (xv:kt.desc d) (he:aP e=some te) (c7:te.desc.agg=true∨te.size=1)
  (hx:σ.ev x=some (.mm id)) (lC:σ.objs[id]?=some (.map kt es)) (hy:σ.ev y=some (.v key)) (fk:kt.ok key):Cert P o σ (jM ok (bC es key) (zeroOf te)) (.rd id) :=
 Cert.Io hd fun a g hg h hO=>by
  obtain⟨l,o1,o6,h1,_,ex⟩:=(h x (by simp[ho,Op.operands]) _ hx).vd;have ey:=(h y (by simp[ho,Op.operands]) _ hy).b6.1;obtain⟨l',ob,e1,_,XU,sA⟩:=hg.map id kt es (by rw[hO];exact lC);obtain⟨arr,clk,e2,hl,iy,hr,_⟩:=sA.map (KT.mJ xv);subst e2;have hh:=XU;rw[o6]at e1;simp only[Option.some.injEq]at e1;subst e1;obtain⟨z,hz,vZ⟩:=kc (hT e te he) c7;obtain⟨u,h1,h2⟩:=vy (gw hT ht aT) hk xv hh hl (fun i e kx a b=>(hr i e kx a b).1) iy (fun i e kx a b=>(hr i e kx a b).2.2) fk (hz g.w) (vZ g) ok;exact⟨_,by simp only[execOp,ho,ex,ey,Sem.run_bind,h1,Result.andThen_ok,Sem.run_pure],kG h2⟩
theorem sX{P:Program}{aP:ee}(hT:b8 P aP){o:Oper}{σ:St}{t k e:TypeId}{x y:Operand}{ok:Bool}{ti te:cr}{kt:KT}{key:Value}{d:TypeDesc}
  (ho:o.op=.lookup t x y ok) (hd:∀d,o.dst=some d->d<σ.n) (ht:aP t=some ti) (aT:ti.desc=.map k e) (hk:P.underlying k=some d) (xv:kt.desc d) (he:aP e=some te) (c7:te.desc.agg=true∨te.size=1)
  (hx:σ.ev x=some (.v (.map none))) (hy:σ.ev y=some (.v key)):Cert P o σ (jM ok none (zeroOf te)) .pure :=
 Cert.bW .pure (.inl rfl) hd fun a g _ h _=>by
  have ex:=(h x (by simp[ho,Op.operands]) _ hx).b6.1;have ey:=(h y (by simp[ho,Op.operands]) _ hy).b6.1;obtain⟨z,hz,vZ⟩:=kc (hT e te he) c7;have CG:∀b,(Instr.checkKey b 10000 k key).run P g.w=.ok () g.w:=fun b=>run_checkKey hk xv g.w b 9999;have h1:(Instr.lookup t (.map none) key ok).run P g.w=.ok (if ok then .tuple #[z,.bool (none:Option aa).isSome]else z) g.w:=by
   simp only[Instr.lookup,Sem.run_bind,run_underlying (gw hT ht aT),Result.andThen_ok,Sem.run_pure,CG,Instr.findKey,run_underlying hk,Instr.findNow,hz g.w];cases ok<;>rfl
  exact⟨_,by simp only[execOp,ho,ex,ey,Sem.run_bind,h1,Result.andThen_ok,Sem.run_pure],kG (vZ g)⟩
theorem Ap{kt:KT}{a b:Value}(ha:kt.ok a)(hb:kt.ok b)(h:fZ a b=true):a=b:=by
 cases kt with
 | pair =>
  obtain⟨a0,a1,rfl⟩:=ha;obtain⟨b0,b1,rfl⟩:=hb;simp only[fZ,List.map_cons,List.map_nil,Lv,List.cons.injEq,and_true,decide_eq_true_eq]at h;rw[h.1,h.2]
 | sb a b c=>exact ha.elim
 | iter c=>exact ha.elim
 | str =>
  cases a<;>simp only[KT.ok]at ha;cases b<;>simp only[KT.ok]at hb;simp only[fZ,decide_eq_true_eq]at h;rw[h]
 | int k =>
  cases a<;>simp only[KT.ok]at ha;cases b<;>simp only[KT.ok]at hb;simp only[fZ,decide_eq_true_eq]at h;rw[h,ha,hb]
theorem sameBits_self{kt:KT}{a:Value}(ha:kt.ok a)(n:Nat):Instr.sameBits (n+1) a a=true:=by
 cases kt with
 | iter c=>exact ha.elim
 | sb a b c=>exact ha.elim
 | pair =>
  obtain⟨a0,a1,rfl⟩:=ha;cases n<;>simp[Instr.sameBits]
 | str =>
  cases a<;>simp only[KT.ok]at ha;simp[Instr.sameBits,bytes_beq]
 | int k =>
  cases a<;>simp only[KT.ok]at ha;simp[Instr.sameBits]
theorem yX{kt:KT}{es:List (Value×aa)}{key:Value}{y:aa}(h:∀p∈es,kt.ok p.1)(hk:kt.ok key):∀p∈cB es key y,kt.ok p.1:=by
 induction es with
 | nil=>simp[cB,hk]
 | cons q r ih =>
  obtain⟨k,x⟩:=q;simp only[cB];split
  ·intro p hp;rcases List.mem_cons.1 hp with e|e
   ·subst e;exact hk
   exact h p (by simp[e])
  intro p hp;rcases List.mem_cons.1 hp with e|e
  ·subst e;exact h _ (by simp)
  exact ih (fun p hp=>h p (by simp[hp])) p e
theorem iv.push{arr:Array MapEntry}{clk:Nat}(h:iv arr clk){x:MapEntry}(hx:x.born=clk):iv (arr.push x) (clk+1):=by
 refine⟨by rw[Array.size_push,h.1],fun i e hi=>?_⟩;rw[Array.getElem?_push]at hi;split at hi
 ·rename_i q;simp only[Option.some.injEq]at hi;rw[<-hi,hx,h.1,q]
 exact h.2 i e hi
theorem iv.modify{arr:Array MapEntry}{clk:Nat}(h:iv arr clk)(j:Nat){f:MapEntry->MapEntry}(hf:∀e,(f e).born=e.born):iv (arr.modify j f) clk:=by
 refine⟨by rw[Array.size_modify];exact h.1,fun i e hi=>?_⟩;rw[Array.getElem?_modify]at hi;split at hi
 ·cases h0:arr[i]? with
  | none=>rw[h0]at hi;cases hi
  | some e0 =>
   rw[h0,Option.map_some,Option.some.injEq]at hi;rw[<-hi,hf];exact h.2 i e0 h0
 exact h.2 i e hi
theorem CV{kt:KT}{d:TypeDesc}(hd:kt.desc d){key:Value}(hk:kt.ok key)(hf:iV key):lF key:=by
 cases kt with
 | iter c=>exact hd.elim
 | pair=>exact hd.elim
 | sb a b c=>exact hd.elim
 | str =>
  cases key<;>simp only[KT.ok]at hk;trivial
 | int k =>
  cases key<;>simp only[KT.ok]at hk;exact hf
theorem nL{P:Program}{aP:ee}(hT:b8 P aP){o:Oper}{σ:St}{t k e:TypeId}{x y v:Operand}{ti:cr}{kt:KT}{es:List (Value×aa)}{id:Nat}{key:Value}{d:TypeDesc}{val:aa}
  (ho:o.op=.mapUpdate t x y v∨o.op=.insert t x y v) (iJ:o.dst=none) (ht:aP t=some ti) (aT:ti.desc=.map k e) (hk:P.underlying k=some d) (xv:kt.desc d)
  (hx:σ.ev x=some (.mm id)) (lC:σ.objs[id]?=some (.map kt es)) (hy:σ.ev y=some (.v key)) (fk:kt.ok key) (hv:σ.ev v=some val) :
  Cert P o σ (.v (.bool false)) (.write (σ.objs.set id (.map kt (cB es key val)))) :=
 Cert.gG (by simp[iJ]) fun base fL a g bV h gW=>by
  have zD:g.objs=σ.objs:=gW.resolve_left (by simp);have hg:=bV.good;obtain⟨l,o1,o6,h1,_,ex⟩:=(h x (by rcases ho with ho|ho<;>simp[ho,Op.operands]) _ hx).vd;have SX:=(h y (by rcases ho with ho|ho<;>simp[ho,Op.operands]) _ hy).b6;have PR:a.eval y=key∧lF key:=⟨SX.1,CV xv fk SX.2⟩
  have ey:=PR.1;have xA:=h v (by rcases ho with ho|ho<;>simp[ho,Op.operands]) _ hv;have jh:g.objs[id]?=some (.map kt es):=by rw[zD];exact lC
  obtain⟨l',ob,e1,gy,hh,sA⟩:=hg.map id kt es jh;obtain⟨arr,clk,e2,hl,iy,hr,js⟩:=sA.map (KT.mJ xv);subst e2;rw[o6]at e1;simp only[Option.some.injEq]at e1;subst e1;obtain⟨fr,f1,f2⟩:=findNow_spec xv fk arr.toList es 0 (by simpa using hl) (fun j e kx a b=>(hr j e kx (by simpa using a) b).1) iy;have CG:∀b,(Instr.checkKey b 10000 k key).run P g.w=.ok () g.w:=fun b=>run_checkKey hk xv g.w b 9999;have eo:(getObj l.block).run P g.w=.ok (.map arr clk) g.w:=by
   simp[Go.getObj,Sem.run,hh]
  have uP:(Instr.findKey k key arr.toList).run P g.w=.ok fr g.w:=by
   simp[Instr.findKey,run_underlying hk,f1]
  have fQ:∀o',(setObj l.block o').run P g.w=.ok () { g.w with heap:=g.w.heap.setIfInBounds l.block o' }:=fun o'=>by
   simp[Go.setObj,Sem.run,hh]
  have bd:=aO hh;have CU:∃b7 ld,(Instr.mapUpdate t (.map (some l.block)) key (a.eval v)).run P g.w=.ok () { g.w with heap:=g.w.heap.setIfInBounds l.block (.map b7 ld) }∧b7.size=(cB es key val).length ∧
    (∀(i:Nat) (e:MapEntry) (kx:Value×aa),b7[i]?=some e->(cB es key val)[i]?=some kx->e.key=kx.1∧lF kx.1∧RV g kx.2 e.val)∧iv b7 ld:=by
   rcases f2 with⟨q1,q2,q3⟩|⟨j,e',x',k0,q1,q2,q3,q4,q5,q6⟩
   ·subst q1;refine⟨arr.push { key,val:=a.eval v,born:=clk },clk+1,?_,by rw[q3];simp[hl],fun i e kx a1 a2=>?_,js.push rfl⟩
    ·simp only[Instr.mapUpdate,Sem.run_bind,run_underlying (gw hT ht aT),Result.andThen_ok,eo,CG,uP,fQ]
    rw[q3]at a2;rcases aV a2 with b|⟨b1,b2⟩
    ·have hi:=ag b;rw[Array.getElem?_push,if_neg (by omega)]at a1;exact hr i e kx a1 b
    subst b2;rw[Array.getElem?_push,if_pos (by omega)]at a1;simp only[Option.some.injEq]at a1;subst a1;exact⟨rfl,PR.2,xA⟩
   subst q1;have Kk:k0=key:=Ap (iy (k0,x') (List.mem_of_getElem? q3)) fk q4.1;have Dh:arr[j]?=some e':=by simpa using q2
   have PL:e'.key=key:=(hr j e' (k0,x') Dh q3).1.trans Kk;refine⟨arr.modify j fun e=>{ e with key,val:=a.eval v },clk,?_,by rw[q6];simp[hl],fun i e kx a1 a2=>?_,js.modify j fun _=>rfl⟩
   ·have AO:∀w,(Instr.keyThatStays key key).run P w=.ok key w:=fun w=>by simp[Instr.keyThatStays,sameBits_self fk]
    simp only[Instr.mapUpdate,Sem.run_bind,run_underlying (gw hT ht aT),Result.andThen_ok,eo,CG,uP,Nat.zero_add,Dh,Option.map_some,Option.getD_some,PL,AO,fQ]
   rw[q6]at a2;rw[Array.getElem?_modify]at a1;by_cases e:j=i
   ·subst e;rw[if_pos rfl,Dh]at a1;rw[List.getElem?_set_self (by rw[<-hl];exact aO Dh)]at a2;simp only[Option.map_some,Option.some.injEq]at a1 a2;subst a1;subst a2;exact⟨rfl,PR.2,xA⟩
   rw[if_neg e]at a1;rw[List.getElem?_set_ne e]at a2;exact hr i _ kx a1 a2
  obtain⟨b7,ld,bL,qO,PN,PE⟩:=CU;have uT:∀k,k≠l.block->(g.w.heap.setIfInBounds l.block (.map b7 ld))[k]?=g.w.heap[k]?:=fun k hk=>Array.getElem?_setIfInBounds_ne (fun e=>hk e.symm);have eH:jT g id (.map kt es) (some l) (.map kt (cB es key val)) { g.w with heap:=g.w.heap.setIfInBounds l.block (.map b7 ld) }:={
   obj:=jh
   os:=rfl
   tape:=rfl
   output:=rfl
   size:=by simp
   block:=fun k _ hk=>uT k (fun e=>hk l o6 trivial e.symm)
   cell:=fun b off x hx _=>by
    by_cases e:b=l.block
    ·subst e;simp only[G.cell,World.cell?,hh]at hx;cases hx
    simp only[World.cell?,uT b e];exact hx
   place:=fun l1 h1 _=>by
    simp only[Option.some.injEq]at h1;subst h1;exact .inr ⟨l,o6,trivial,rfl,Nat.le_refl _⟩
   spare:=fun m h=>by cases h
   plain:=fun _=>⟨by simp[aq.aJ],o6⟩
   gone:=by simp }
  have hle:=Le.bo hg eH;refine⟨.bool false,g.bo id (some l) (.map kt (cB es key val)) { g.w with heap:=g.w.heap.setIfInBounds l.block (.map b7 ld) },.inr ⟨iJ,?_⟩,hle,Good.bo hg eH ?_ ?_,by simp only[G.bo,Mode.post,zD],.v trivial⟩
  ·rcases ho with ho|ho<;>simp only[execOp,ho,ex,ey,Sem.run_bind,bL,Result.andThen_ok,Sem.run_pure,G.bo]
  ·refine⟨l,.map b7 ld,rfl,gy,?_,kq.Uv ⟨b7,ld,rfl,qO,yX iy fk,fun i e kx a b=>⟨(PN i e kx a b).1,(PN i e kx a b).2.1,(PN i e kx a b).2.2.mono hle⟩,PE⟩ (KT.mJ xv)⟩;simp only[G.bo];rw[Array.getElem?_setIfInBounds_self_of_lt bd]
  intro l1 h1 _;simp only[Option.some.injEq]at h1;subst h1;simpa using bd
def St.yw(σ:St):List Operand->Option (List aa)
 | []=>some []
 | x::r =>
  match σ.ev x,σ.yw r with
  | some y,some ys=>some (y::ys)
  | _,_=>none
theorem tq{σ:St}{a:Act}{g:G}:∀{xs:List Operand} {ys:List aa},(∀x∈xs,∀y,σ.ev x=some y->RV g y (a.eval x))->σ.yw xs=some ys->jq g ys (xs.map a.eval).toArray
 | [],ys,_,h=>by
  simp only[St.yw,Option.some.injEq]at h;subst h;exact⟨rfl,by simp⟩
 | x::r,ys,nB,h=>by
  simp only[St.yw]at h;cases hx:σ.ev x with
  | none=>simp[hx]at h
  | some y =>
   cases hr:σ.yw r with
   | none=>simp[hx,hr]at h
   | some zs =>
    simp only[hx,hr,Option.some.injEq]at h;subst h;obtain⟨h1,h2⟩:=tq (g:=g) (a:=a) (fun z hz=>nB z (List.mem_cons_of_mem _ hz)) hr;refine⟨by simpa using h1,fun j c u a1 a2=>?_⟩;cases j with
    | zero =>
     simp at a1 a2;subst a1;subst a2;exact nB x (List.mem_cons_self) y hx
    | succ j=>exact h2 j c u (by simpa using a1) (by simpa using a2)
theorem wz{P:Program}{o:Oper}{σ:St}{f:Fn}{first captured:Array Operand}{fs cs:List aa}(ho:o.op=.makeFunc f first captured)(hd:∀d,o.dst=some d->d<σ.n)
  (hf:σ.yw first.toList=some fs) (hc:σ.yw captured.toList=some cs):Cert P o σ (.fn f fs cs) .pure :=
 Cert.bW .pure (.inl rfl) hd fun a g _ h _=>by
  have m1:∀x∈first.toList,x∈o.op.operands:=fun x hx=>by
   rw[ho];simp only[Op.operands,Array.mem_append];exact .inl (Array.mem_toList_iff.1 hx)
  have m2:∀x∈captured.toList,x∈o.op.operands:=fun x hx=>by
   rw[ho];simp only[Op.operands,Array.mem_append];exact .inr (Array.mem_toList_iff.1 hx)
  have h1:=tq (g:=g) (a:=a) (fun x hx y hy=>h x (m1 x hx) y hy) hf;have h2:=tq (g:=g) (a:=a) (fun x hx y hy=>h x (m2 x hx) y hy) hc;refine⟨.func f (first.map a.eval) (captured.map a.eval),by simp[execOp,ho,Instr.makeFunc],?_⟩;have e1:first.map a.eval=(first.toList.map a.eval).toArray:=Array.ext' (by rw[Array.toList_map])
  have e2:captured.map a.eval=(captured.toList.map a.eval).toArray:=Array.ext' (by rw[Array.toList_map]);rw[e1,e2];exact .fn h1.1 h2.1 h1.2 h2.2
mutual
def aa.upto(n:Nat):aa->Prop
 | .v _=>True
 | .agg cs=>av n cs
 | .aB _ xs o=>av n xs∧(match o with | .tok id=>id<n | _=>True)
 | .ip _ cs=>av n cs
 | .mp id _=>id<n
 | .ms id _ _ _=>id<n
 | .os id _ _=>id<n
 | .raw _ _ id=>id<n
 | .mm id=>id<n
 | .im _ es=>ba n es
 | .fn _ fs cs=>av n fs∧av n cs
 | .cN cs=>av n cs
def av(n:Nat):List aa->Prop
 | []=>True
 | x::r=>x.upto n∧av n r
def ba(n:Nat):List (Value×aa)->Prop
 | []=>True
 | x::r=>Pa n x∧ba n r
def Pa(n:Nat):Value×aa->Prop
 | (_,x)=>x.upto n
end
theorem a6{n:Nat}{l:List aa}:av n l↔∀x∈l,x.upto n:=by
 induction l with
 | nil=>simp[av]
 | cons x r ih=>simp[av,ih]
theorem my{n:Nat}{l:List (Value×aa)}:ba n l↔∀x∈l,x.2.upto n:=by
 induction l with
 | nil=>simp[ba]
 | cons x r ih =>
  obtain⟨k,x⟩:=x;simp[ba,Pa,ih]
def G.cy(g:G)(n:Nat):G:=⟨g.w,g.fr,g.env.take n,g.objs.take n⟩
theorem db{α:Type}{l:List α}{n i:Nat}{x:α}(h:(l.take n)[i]?=some x):l[i]?=some x∧i<n:=by
 rw[List.getElem?_take]at h;split at h
 ·rename_i hh;exact⟨h,hh⟩
 cases h
theorem jS.cy{g:G}{n b off:Nat}(h:jS (g.cy n) b off):jS g b off:=by
 obtain⟨id,l,o,h1,h2,h3,h4,h5⟩:=h;exact⟨id,l,o,(db h1).1,(db h2).1,h3,h4,h5⟩
theorem ja.cy{g:G}{n b off:Nat}(h:ja (g.cy n) b off):ja g b off:=h.imp id jS.cy
theorem fY.cy{g:G}{n b:Nat}(h:fY (g.cy n) b):fY g b:=by
 obtain⟨id,l,o,h1,h2,h3,h4⟩:=h;exact⟨id,l,o,(db h1).1,(db h2).1,h3,h4⟩
theorem RV.cy{g:G}{n:Nat}{x:aa}{u:Value}(h:RV g x u)(hn:n<=g.objs.length)(hb:x.upto n):RV (g.cy n) x u:=by
 have eo:∀(id:Nat),id<n->(g.cy n).objs[id]?=g.objs[id]?:=fun id hid=>by
  simp only[G.cy];rw[List.getElem?_take,if_pos hid]
 have xt:∀(id:Nat),id<n->(g.cy n).env[id]?=g.env[id]?:=fun id hid=>by
  simp only[G.cy];rw[List.getElem?_take,if_pos hid]
 induction h with
 | v hx=>exact .v hx
 | agg hl dI _ ih =>
  simp only[aa.upto,a6]at hb;exact .agg hl dI fun i c u a b=>ih i c u a b (hb c (List.mem_of_getElem? a))
 | nil ho nv =>
  simp only[aa.upto]at hb;refine .nil (fun id e=>?_) nv;subst e;have:=hb.2;simp only[G.cy,List.length_take];omega
 | aB c7 dI dv cW hs f hm hr ho ih =>
  rename_i sz xs o a cap;simp only[aa.upto,a6]at hb;refine .aB c7 dI dv cW hs f (fun j c hj=>⟨(hm j c hj).1,fun q=>(hm j c hj).2 q.cy⟩) (fun j c hj=>ih j c hj ?_) ?_
  ·have hc:=List.mem_of_getElem? hj;simp only[aw,List.mem_flatMap]at hc;obtain⟨x,hx,hc⟩:=hc;have:=hb.1 x hx;cases x with
   | agg cs =>
    simp only[aa.upto,a6]at this;exact this c hc
   | _=>simp only[aa.cells,List.mem_singleton]at hc;subst hc;exact this
  cases o with
  | sh=>trivial
  | nn=>trivial
  | ex=>exact ho
  | loc a=>exact ho
  | tok id =>
   have hid:=hb.2;simp only at hid;obtain⟨q1,q2⟩:=ho;refine⟨by simp only[G.cy,List.length_take];omega,fun m eN=>?_⟩;rw[eo id hid]at eN;obtain⟨r1,r2⟩:=q2 m eN;refine⟨r1,fun e=>(r2 e).imp (fun h=>h) ?_⟩;rintro⟨l,arr,t,p1,p2,p3,p4,p5⟩;exact⟨l,arr,t,(xt id hid).trans p1,p2,p3,p4,p5⟩
 | ip ha dI f hm hr ih =>
  simp only[aa.upto,a6]at hb;exact .ip ha dI f (fun j c hj=>⟨(hm j c hj).1,fun q=>(hm j c hj).2 q.cy⟩) fun j c hj=>ih j c hj (hb c (List.mem_of_getElem? hj))
 | mp he ho lS=>exact .mp ((xt _ hb).trans he) ((eo _ hb).trans ho) lS
 | ms he ho lS hc qh cW=>exact .ms ((xt _ hb).trans he) ((eo _ hb).trans ho) lS hc qh cW
 | os he ho lS hc qh cW=>exact .os ((xt _ hb).trans he) ((eo _ hb).trans ho) lS hc qh cW
 | raw nv ho =>
  rename_i sz n0 id a cap;have hid:id<n:=hb;obtain⟨q1,q2⟩:=ho;refine .raw nv ⟨by simp only[G.cy,List.length_take];omega,fun m eN=>?_⟩;rw[eo id hid]at eN;obtain⟨r1,r2⟩:=q2 m eN;refine⟨r1,fun e=>(r2 e).imp (fun h=>h) ?_⟩;rintro⟨l,arr,t,p1,p2,p3,p4,p5⟩;exact⟨l,arr,t,(xt id hid).trans p1,p2,p3,p4,p5⟩
 | mm he ho lS=>exact .mm ((xt _ hb).trans he) ((eo _ hb).trans ho) lS
 | im hh lS hl hk wK Hz _ ih =>
  simp only[aa.upto,my]at hb;exact .im hh (fun off q=>lS off q.cy) hl hk wK Hz fun i e kx a b=>ih i e kx a b (hb kx (List.mem_of_getElem? b))
 | fn hl xw _ _ ih Eg =>
  simp only[aa.upto,a6]at hb;exact .fn hl xw (fun i c u a b=>ih i c u a b (hb.1 c (List.mem_of_getElem? a))) fun i c u a b=>Eg i c u a b (hb.2 c (List.mem_of_getElem? a))
 | cN hl _ ih =>
  simp only[aa.upto,a6]at hb;exact .cN hl fun i c u a b=>ih i c u a b (hb c (List.mem_of_getElem? a))
def KT.TP:KT->Prop
 | .sb _ _ _=>False
 | _=>True
theorem KT.En{kt:KT}(h:kt.TP){bf m:Nat}{l:List UInt8}(e:kt=.sb bf m l):False:=by
 subst e;exact h
def aq.upto(n:Nat):aq->Prop
 | .cells cs=>av n cs
 | .map (.sb _ _ _) _=>False
 | .map _ es=>ba n es
 | _=>True
theorem aq.BE{n:Nat}{kt:KT}{es:List (Value×aa)}(h:aq.upto n (.map kt es)):kt.TP∧ba n es:=by
 cases kt with
 | sb a b c=>exact h.elim
 | str=>exact⟨trivial,h⟩
 | int k=>exact⟨trivial,h⟩
 | pair=>exact⟨trivial,h⟩
 | iter c=>exact⟨trivial,h⟩
theorem Good.cy{g:G}(hg:Good g){n:Nat}(hn:n<=g.objs.length)(hb:∀o∈g.objs.take n,o.upto n):Good (g.cy n) where
 glob:=⟨hg.glob.1,fun off q=>hg.glob.2 off q.cy⟩
 frlt:=hg.frlt
 fj:=fun id l o h1 h2 h3=>hg.fj id l o (db h1).1 (db h2).1 h3
 len:=by simp only[G.cy,List.length_take,hg.len]
 loc:=fun id l o h1 h2 h3=>hg.loc id l o (db h1).1 (db h2).1 h3
 apart:=fun id nT l l' o o' h1 h2 h3 h4 h5 h6 h7=>hg.apart id nT l l' o o' (db h1).1 (db h2).1 h3 (db h4).1 (db h5).1 h6 h7
 cells:=fun id cs h=>by
  obtain⟨l,arr,t,e1,e0,e2,e3,e4,e5⟩:=hg.cells id cs (db h).1;have PA:=hb _ (List.mem_of_getElem? h);simp only[aq.upto,a6]at PA;exact⟨l,arr,t,by simp only[G.cy];rw[List.getElem?_take,if_pos (db h).2,e1],e0,e2,e3,fun j c u a b=>(e4 j c u a b).cy hn (PA c (List.mem_of_getElem? a)),e5⟩
 spare:=fun id m l h1 h2=>hg.spare id m l (db h1).1 (db h2).1
 map:=fun id kt es h=>by
  obtain⟨l,ob,e1,e0,e2,e3⟩:=hg.map id kt es (db h).1;have PA:=hb _ (List.mem_of_getElem? h);obtain⟨Uq,PA⟩:=aq.BE PA;rw[my]at PA;exact⟨l,ob,by simp only[G.cy];rw[List.getElem?_take,if_pos (db h).2,e1],e0,e2,e3.imp (fun p hp u q=>q.cy hn (PA p hp)) (fun m clk arr q1 q2=>⟨q1,fun off q=>q2 off q.cy⟩) fun _ _ _ _ e _=>(KT.En Uq e).elim⟩
theorem Le.cy{g0 g:G}(h:Le g0 g){n:Nat}(hn:g0.objs.length<=n):Le g0 (g.cy n) where
 os:=h.os
 tape:=h.tape
 output:=h.output
 fr:=h.fr
 size:=h.size
 block:=fun k hk hh=>⟨(h.block k hk hh).1,fun q=>(h.block k hk hh).2 q.cy⟩
 cell:=fun b off x hx hh=>⟨(h.cell b off x hx hh).1,fun q=>(h.cell b off x hx hh).2 q.cy⟩
 len:=by
  have:=h.len;simp only[G.cy,List.length_take];omega
 spare:=fun id m hm=>by
  have bd:=ag hm;have e:(g.cy n).objs[id]?=g.objs[id]?:=by
   simp only[G.cy];rw[List.getElem?_take,if_pos (by omega)]
  rw[e];exact h.spare id m hm
 plain:=fun id o ho hs=>by
  have bd:=ag ho;have e:(g.cy n).objs[id]?=g.objs[id]?:=by
   simp only[G.cy];rw[List.getElem?_take,if_pos (by omega)]
  have e':(g.cy n).env[id]?=g.env[id]?:=by
   simp only[G.cy];rw[List.getElem?_take,if_pos (by omega)]
  rw[e,e'];exact h.plain id o ho hs
 gone:=fun id ho=>by
  have bd:=ag ho;have e:(g.cy n).objs[id]?=g.objs[id]?:=by
   simp only[G.cy];rw[List.getElem?_take,if_pos (by omega)]
  rw[e];exact h.gone id ho
 tok:=fun id m hm eN=>by
  have bd:=ag hm;have e:(g.cy n).objs[id]?=g.objs[id]?:=by
   simp only[G.cy];rw[List.getElem?_take,if_pos (by omega)]
  have e':(g.cy n).env[id]?=g.env[id]?:=by
   simp only[G.cy];rw[List.getElem?_take,if_pos (by omega)]
  rw[e]at eN;rw[e'];exact h.tok id m hm eN
def Enters (P : Program) (f : FuncId) : Prop := ∃ fn, P.funcs[f]? = some fn ∧ (fn.name == "runtime.NumGoroutine") = false ∧ fn.body.isNone = false
def aK(P:Program)(f:FuncId)(O:List aq)(args:List aa)(R:aa->List aq->Prop):Prop :=
 Enters P f∧∀(g:G) (vs:Array Value),Good g->g.objs=O->jq g args vs->Calls P f vs g.w fun e w'=>∃g' v r,e=.returned v∧g'.w=w'∧Le g g'∧Good g'∧RV g' r v∧R r g'.objs
def bw(P:Program)(f:FuncId)(args:List aa)(r:aa):Prop:=aK P f [] args fun r' O'=>r'=r∧O'=[]
def G.bare(g:G):G:=⟨g.w,ja g,[],[]⟩
theorem qp{g:G}{b off:Nat}:ja g.bare b off↔ja g b off:=by
 constructor
 ·rintro(h|⟨id,l,o,h1,_⟩)
  ·exact h
  simp[G.bare]at h1
 exact .inl
theorem RV.bare{g:G}{x:aa}{u:Value}(h:RV g x u)(hb:x.upto 0):RV g.bare x u:=by
 induction h with
 | v hx=>exact .v hx
 | agg hl dI _ ih =>
  simp only[aa.upto,a6]at hb;exact .agg hl dI fun i c u a b=>ih i c u a b (hb c (List.mem_of_getElem? a))
 | nil ho nv =>
  simp only[aa.upto]at hb;refine .nil (fun id e=>?_) nv;subst e;have:=hb.2;simp only at this;omega
 | aB c7 dI dv cW hs f hm hr ho ih =>
  rename_i sz xs o a cap;simp only[aa.upto,a6]at hb;refine .aB c7 dI dv cW hs f (fun j c hj=>⟨(hm j c hj).1,fun q=>(hm j c hj).2 (qp.1 q)⟩) (fun j c hj=>ih j c hj ?_) ?_
  ·have hc:=List.mem_of_getElem? hj;simp only[aw,List.mem_flatMap]at hc;obtain⟨x,hx,hc⟩:=hc;have:=hb.1 x hx;cases x with
   | agg cs =>
    simp only[aa.upto,a6]at this;exact this c hc
   | _=>simp only[aa.cells,List.mem_singleton]at hc;subst hc;exact this
  cases o with
  | sh=>trivial
  | nn=>trivial
  | ex=>exact ho
  | loc a=>exact ho
  | tok id =>
   have hid:=hb.2;simp only at hid;omega
 | ip ha dI f hm hr ih =>
  simp only[aa.upto,a6]at hb;exact .ip ha dI f (fun j c hj=>⟨(hm j c hj).1,fun q=>(hm j c hj).2 (qp.1 q)⟩) fun j c hj=>ih j c hj (hb c (List.mem_of_getElem? hj))
 | mp he ho lS=>simp only[aa.upto]at hb;omega
 | ms he ho lS hc qh cW=>simp only[aa.upto]at hb;omega
 | os he ho lS hc qh cW=>simp only[aa.upto]at hb;omega
 | raw nv ho=>simp only[aa.upto]at hb;omega
 | mm he ho lS=>simp only[aa.upto]at hb;omega
 | im hh lS hl hk wK Hz _ ih =>
  simp only[aa.upto,my]at hb;exact .im hh (fun off q=>lS off (qp.1 q)) hl hk wK Hz fun i e kx a b=>ih i e kx a b (hb kx (List.mem_of_getElem? b))
 | fn hl xw _ _ ih Eg =>
  simp only[aa.upto,a6]at hb;exact .fn hl xw (fun i c u a b=>ih i c u a b (hb.1 c (List.mem_of_getElem? a))) fun i c u a b=>Eg i c u a b (hb.2 c (List.mem_of_getElem? a))
 | cN hl _ ih =>
  simp only[aa.upto,a6]at hb;exact .cN hl fun i c u a b=>ih i c u a b (hb c (List.mem_of_getElem? a))
theorem Good.bare{g:G}(hg:Good g):Good g.bare where
 glob:=⟨hg.glob.1,fun off q=>hg.glob.2 off (qp.1 q)⟩
 frlt:=fun b off h=>by
  rcases h with h|⟨id,l,o,h1,h2,h3,h4,_⟩
  ·exact hg.frlt b off h
  exact h4 ▸ hg.loc id l o h1 h2 h3
 fj:=fun id l o h1=>by simp[G.bare]at h1
 len:=rfl
 loc:=fun id l o h1=>by simp[G.bare]at h1
 apart:=fun id nT l l' o o' h1=>by simp[G.bare]at h1
 cells:=fun id cs h1=>by simp[G.bare]at h1
 spare:=fun id m l h1=>by simp[G.bare]at h1
 map:=fun id kt es h1=>by simp[G.bare]at h1
def G.back(g g':G):G:=⟨g'.w,g.fr,g.env,g.objs⟩
theorem yQ{g:G}(he:g.env=[]){b:Nat}:¬fY g b:=by
 rintro⟨id,l,o,h1,_⟩;simp[he]at h1
theorem Le.back{g g':G}(hg:Good g)(h:Le g.bare g'):Le g (g.back g') where
 os:=h.os
 tape:=h.tape
 output:=h.output
 fr:=rfl
 size:=h.size
 block:=fun k hk hh=>⟨(h.block k hk (yQ rfl)).1,hh⟩
 cell:=fun b off x hx hh=>⟨(h.cell b off x hx (fun q=>yQ rfl q.block)).1,hh⟩
 len:=Nat.le_refl _
 spare:=fun id m hm=>.inl ⟨m,hm,Nat.le_refl _⟩
 plain:=fun id o ho hs=>⟨⟨o,ho,hs⟩,rfl⟩
 gone:=fun id ho=>ho
 tok:=fun id m hm eN=>⟨rfl,fun l hl=>(h.block _ (hg.loc id l _ hl hm trivial) (yQ rfl)).1⟩
theorem Good.back{g g':G}(hg:Good g)(h:Le g.bare g'):Good (g.back g'):=by
 have hle:=Le.back hg h;have s8:∀k,k<g.w.heap.size->g'.w.heap[k]?=g.w.heap[k]?:=fun k hk=>(h.block k hk (yQ rfl)).1;exact {
  glob:=hg.glob.mono hle
  frlt:=fun b off hf=>Nat.lt_of_lt_of_le (hg.frlt b off hf) h.size
  fj:=hg.fj
  len:=hg.len
  loc:=fun id l o h1 h2 h3=>Nat.lt_of_lt_of_le (hg.loc id l o h1 h2 h3) h.size
  apart:=hg.apart
  cells:=fun id cs h1=>by
   obtain⟨l,arr,t,e1,e0,e2,e3,e4,e5⟩:=hg.cells id cs h1;exact⟨l,arr,t,e1,e0,(s8 _ (aO e2)).trans e2,e3,fun j c u a b=>(e4 j c u a b).mono hle,e5⟩
  spare:=fun id m l h1 h2=>by
   obtain⟨arr,t,e⟩:=hg.spare id m l h1 h2;exact⟨arr,t,(s8 _ (aO e)).trans e⟩
  map:=fun id kt es h1=>by
   obtain⟨l,ob,e1,e0,e2,e3⟩:=hg.map id kt es h1;exact⟨l,ob,e1,e0,(s8 _ (aO e2)).trans e2,e3.mono hle⟩ }
theorem RV.back{g g':G}{x:aa}{u:Value}(ez:g'.fr=ja g)(Fe:g'.env=[])(lC:g'.objs=[])(h:RV g' x u):RV (g.back g') x u:=by
 have kD:∀b off,ja (g.back g') b off->ja g' b off:=fun b off q=>by
  refine .inl ?_;rw[ez];exact q
 induction h with
 | v hx=>exact .v hx
 | agg hl dI _ ih=>exact .agg hl dI ih
 | nil ho nv =>
  refine .nil (fun id e=>?_) nv;have:=ho id e;simp[lC]at this
 | aB c7 dI dv cW hs f hm hr ho ih =>
  rename_i sz xs o a cap;refine .aB c7 dI dv cW hs f (fun j c hj=>⟨(hm j c hj).1,fun q=>(hm j c hj).2 (kD _ _ q)⟩) ih ?_;cases o with
  | sh=>trivial
  | nn=>trivial
  | ex=>exact ho
  | loc a=>exact ho
  | tok id =>
   have:=ho.1;simp[lC]at this
 | ip ha dI f hm hr ih=>exact .ip ha dI f (fun j c hj=>⟨(hm j c hj).1,fun q=>(hm j c hj).2 (kD _ _ q)⟩) ih
 | mp he ho lS=>simp[Fe]at he
 | ms he ho lS hc qh cW=>simp[Fe]at he
 | os he ho lS hc qh cW=>simp[Fe]at he
 | raw nv ho =>
  have:=ho.1;simp[lC]at this
 | mm he ho lS=>simp[Fe]at he
 | im hh lS hl hk wK Hz _ ih=>exact .im hh (fun off q=>lS off (kD _ _ q)) hl hk wK Hz ih
 | fn hl xw _ _ ih Eg=>exact .fn hl xw ih Eg
 | cN hl _ ih=>exact .cN hl ih
theorem bw.use{P:Program}{f:FuncId}{args:List aa}{r:aa}(h:bw P f args r)(hb:av 0 args)(O:List aq):aK P f O args fun r' O'=>r'=r∧O'=O:=by
 refine⟨h.1,?_⟩;intro g vs hg ho ha;have Gp:jq g.bare args vs:=⟨ha.1,fun j c u a b=>(ha.2 j c u a b).bare (a6.1 hb c (List.mem_of_getElem? a))⟩
 refine(h.2 g.bare vs hg.bare rfl Gp).mono ?_;rintro e w' ⟨g',v,r',h1,h2,h3,h4,h5,h6,h7⟩;subst h6;have Fe:g'.env=[]:=by
  have:=h4.len;rw[h7]at this;exact List.length_eq_zero_iff.1 this
 exact⟨g.back g',v,r',h1,h2,Le.back hg h3,Good.back hg h3,h5.back h3.fr Fe h7,rfl,ho⟩
inductive Kind where
 | pure
 | read
 | rd (id:Nat)
 | write
 | wr (n:Nat) (l:List Nat)
 | new (id:Nat)
 | loc (n:Nat) (l:List Nat)
 deriving DecidableEq
def Sa(k:Kind)(F:List aq->List aq):Prop :=
 match k with
 | .write=>∀O O',F O=F O'
 | .wr _ _=>∀O O',F O=F O'
 | .new id=>∃o,∀O,F O=O.set id o
 | .loc n _=>∃A:List aq,A.length=n∧∀O,F O=A++O.drop n
 | _=>∀O,F O=O
def Mode.kind:Mode->Kind
 | .pure=>.pure
 | .read=>.read
 | .rd id=>.rd id
 | .write _=>.write
 | .wr n l _=>.wr n l
 | .new id _=>.new id
 | .loc n l _=>.loc n l
def qD(n:Nat)(d:Option Nat)(l:List (Nat×aa)):List (Nat×aa) :=
 match d with
 | some d=>if d<n then cd d (.cN []) l else bG d l
 | none=>l
structure iS(σ τ:St):Prop where
 n:σ.n=τ.n
 objs:σ.objs=τ.objs
 get:∀s,σ.get s=τ.get s
theorem iS.refl(σ:St):iS σ σ:=⟨rfl,rfl,fun _=>rfl⟩
theorem iS.symm{σ τ:St}(h:iS σ τ):iS τ σ:=⟨h.n.symm,h.objs.symm,fun s=>(h.get s).symm⟩
theorem iS.trans{σ τ ρ:St}(h:iS σ τ)(k:iS τ ρ):iS σ ρ:=⟨h.n.trans k.n,h.objs.trans k.objs,fun s=>(h.get s).trans (k.get s)⟩
theorem iS.ev{σ τ:St}(h:iS σ τ)(x:Operand):σ.ev x=τ.ev x:=by
 cases x with
 | tmp t=>exact h.get t
 | _=>rfl
theorem iS.rel{σ τ:St}(h:iS σ τ){base:G}{a:Act}{g:G}(k:Rel base σ a g):Rel base τ a g where
 le:=k.le
 good:=k.good
 objs:=k.objs.trans h.objs
 size:=k.size.trans h.n
 defers:=k.defers
 slot:=fun s x hx=>k.slot s x ((h.get s).trans hx)
def St.put(σ:St)(d:Option Nat)(r:aa)(O:List aq):St:=⟨σ.n,qW d r σ.bt,O⟩
def St.skip(σ:St)(d:Option Nat):St:=⟨σ.n,qD σ.n d σ.bt,σ.objs⟩
theorem oH(σ:St)(d:Option Nat)(r:aa)(O:List aq)(s:Nat):(σ.put d r O).get s=if d=some s then some r else σ.get s:=by
 cases d with
 | none=>simp[St.put,St.get,qW]
 | some d =>
  simp only[St.put,St.get,qW,ig];by_cases e:d=s
  ·simp[e]
  simp[e]
theorem mb(σ:St)(d:Option Nat)(s:Nat):(σ.skip d).get s=if d=some s then(if s<σ.n then some (.cN [])else none)else σ.get s:=by
 cases d with
 | none=>simp[St.skip,St.get,qD]
 | some d =>
  simp only[St.skip,St.get,qD];by_cases e:d=s
  ·subst e;by_cases h:d<σ.n
   ·simp[h,ig]
   simp[h,lU]
  by_cases h:d<σ.n
  ·simp[e,h,ig]
  simp[e,h,jN e]
theorem Rel.skip{base:G}{σ:St}{a:Act}{g:G}(h:Rel base σ a g)(d:Nat):Rel base (σ.skip (some d)) (a.put (some d) undef) g:=by
 by_cases hd:d<σ.n
 ·have:=h.put (Le.refl g) h.good hd (r:=.cN []) (u:=undef) (.cN rfl (by simp));rw[show σ.skip (some d)=⟨σ.n,cd d (.cN []) σ.bt,g.objs⟩ by simp[St.skip,qD,hd,h.objs]];exact this
 have:=h.forget d undef;rw[show σ.skip (some d)=⟨σ.n,bG d σ.bt,σ.objs⟩ by simp[St.skip,qD,hd]];exact this
theorem iS.put{σ τ:St}(h:iS σ τ)(d:Option Nat)(r:aa)(O:List aq):iS (σ.put d r O) (τ.put d r O) :=
 ⟨h.n,rfl,fun s=>by rw[oH,oH,h.get]⟩
theorem iS.skip{σ τ:St}(h:iS σ τ)(d:Option Nat):iS (σ.skip d) (τ.skip d) :=
 ⟨h.n,h.objs,fun s=>by rw[mb,mb,h.get,h.n]⟩
def dy(ops:Array Oper)(o:Oper)(σ:St):Option Bool :=
 match o.guard with
 | none=>some true
 | some (j,want) =>
  match (ops[j]?).bind (·.dst)with
  | some t =>
   match σ.get t with
   | some (.v (.bool b))=>some (b == want)
   | some (.cN [])=>some false
   | _=>none
  | none=>none
theorem kJ{ops:Array Oper}{o:Oper}{σ:St}{base:G}{a:Act}{g:G}{b:Bool}(h:Rel base σ a g)(hw:dy ops o σ=some b):Region.wanted o (yielded ops a.tmps)=b:=by
 unfold dy at hw;unfold Region.wanted;cases hg:o.guard with
 | none =>
  simp only[hg,Option.some.injEq]at hw;exact hw
 | some p =>
  obtain⟨j,want⟩:=p;simp only[hg]at hw;cases ht:(ops[j]?).bind (·.dst)with
  | none=>simp[ht]at hw
  | some t =>
   simp only[ht]at hw;split at hw
   ·rename_i c hc;simp only[Option.some.injEq]at hw;obtain⟨u,h1,h2⟩:=h.slot t _ hc;have:=h2.b6.1;subst this;have hy:yielded ops a.tmps j=some c:=by
     unfold yielded;simp[ht,h1]
    simp only[hy];rw[<-hw];cases c<;>cases want<;>rfl
   ·rename_i hc;simp only[Option.some.injEq]at hw;obtain⟨u,h1,h2⟩:=h.slot t _ hc;cases h2 with
    | cN hl _ =>
     rename_i vs;have hy:yielded ops a.tmps j=none:=by
      unfold yielded;simp[ht,h1]
     simp only[hy];rw[<-hw];rfl
   cases hw
theorem lW{ops:Array Oper}{o:Oper}{σ τ:St}(h:∀j want t,o.guard=some (j,want)->(ops[j]?).bind (·.dst)=some t->σ.get t=τ.get t):dy ops o σ=dy ops o τ:=by
 unfold dy;cases hg:o.guard with
 | none=>rfl
 | some p =>
  obtain⟨j,want⟩:=p;simp only;cases ht:(ops[j]?).bind (·.dst)with
  | none=>rfl
  | some t =>
   simp only;rw[h j want t hg ht]
theorem Cert.congr{P:Program}{o:Oper}{σ τ:St}{r:aa}{m:Mode}(h:Cert P o σ r m)(hn:σ.n=τ.n)(vV:∀x∈o.op.operands,σ.ev x=τ.ev x)(ho:m.agree τ.objs σ.objs):Cert P o τ r m:=by
 refine⟨?_,?_⟩
 ·have:=h.1;cases m with
  | wr n l O' =>
   intro i hi hl;rw[this i hi hl,show τ.objs=σ.objs from ho]
  | loc n l A =>
   refine⟨this.1,fun i hi hl=>?_⟩;have e:τ.objs.take n=σ.objs.take n:=ho;have e2:=congrArg (·[i]?) e;simp only[List.getElem?_take,if_pos hi]at e2;rw[this.2 i hi hl,e2]
  | _=>trivial
 intro base ρ a g bV h1 h2 h3;refine h.2 base ρ a g bV (h1.trans hn.symm) (fun x hx y hy=>h2 x hx y ((vV x hx).symm.trans hy)) ?_;cases m with
 | pure=>trivial
 | rd id=>exact Eq.trans h3 ho
 | new id _=>exact Eq.trans h3 ho
 | _=>exact Eq.trans h3 ho
def lK(P:Program)(ops:Array Oper)(i:Nat)(k:Kind)(σ fL:St):Prop :=
 ∃o,ops[i]?=some o ∧
  ((dy ops o σ=some true∧∃r m,Cert P o σ r m∧m.kind=k∧fL=σ.put o.dst r (m.post σ.objs)) ∨
   (dy ops o σ=some false∧k=.pure∧fL=σ.skip o.dst))
def fB(P:Program)(ops:Array Oper):List (Nat×Kind)->St->St->Prop
 | [],σ,τ=>iS σ τ
 | (i,k)::r,σ,τ=>∃fL,lK P ops i k σ fL∧fB P ops r fL τ
theorem lK.same{P:Program}{ops:Array Oper}{i:Nat}{k:Kind}{σ fL τ:St}(h:lK P ops i k σ fL)(hs:iS σ τ):∃J8,lK P ops i k τ J8∧iS fL J8:=by
 obtain⟨o,ho,h⟩:=h;rcases h with⟨h1,r,m,h2,h3,h4⟩|⟨h1,h2,h3⟩
 ·refine⟨τ.put o.dst r (m.post τ.objs),⟨o,ho,.inl ⟨?_,r,m,h2.congr hs.n (fun x _=>hs.ev x) (Mode.tJ (.inr hs.objs.symm)),h3,rfl⟩⟩,?_⟩
  ·rw[<-h1];exact lW fun _ _ t _ _=>(hs.get t).symm
  subst h4;rw[hs.objs];exact hs.put _ _ _
 refine⟨τ.skip o.dst,⟨o,ho,.inr ⟨?_,h2,rfl⟩⟩,?_⟩
 ·rw[<-h1];exact lW fun _ _ t _ _=>(hs.get t).symm
 subst h3;exact hs.skip _
theorem fB.same{P:Program}{ops:Array Oper}:∀{l:List (Nat×Kind)} {σ τ ρ:St},fB P ops l σ ρ->iS σ τ->fB P ops l τ ρ
 | [],_,_,_,h,hs=>hs.symm.trans h
 | (i,k)::r,σ,τ,ρ,h,hs=>by
  obtain⟨fL,h1,h2⟩:=h;obtain⟨J8,h3,h4⟩:=h1.same hs;exact⟨J8,h3,h2.same h4⟩
def bB(k k':Kind):Bool :=
 match k,k' with
 | .pure,_=>true
 | _,.pure=>true
 | .read,.read=>true
 | .rd _,.read=>true
 | .read,.rd _=>true
 | .rd _,.rd _=>true
 | .rd id,.wr n l=>decide (id<n)&&!l.contains id
 | .wr n l,.rd id=>decide (id<n)&&!l.contains id
 | .new i,.new j=>!decide (i=j)
 | .new i,.rd j=>!decide (i=j)
 | .rd i,.new j=>!decide (i=j)
 | .rd id,.loc n l=>decide (n<=id) || !l.contains id
 | .loc n l,.rd id=>decide (n<=id) || !l.contains id
 | .loc n _,.new j=>decide (n<=j)
 | .new j,.loc n _=>decide (n<=j)
 | _,_=>false
def Kind.agree(k:Kind)(O O0:List aq):Prop :=
 match k with
 | .pure=>True
 | .rd id=>O[id]?=O0[id]?
 | .new id=>O[id]?=O0[id]?
 | .loc n _=>O.take n=O0.take n
 | _=>O=O0
def Kind.keeps(k:Kind)(O' O:List aq):Prop :=
 match k with
 | .wr n l=>∀i,i<n->i ∉ l->O'[i]?=O[i]?
 | .loc n l=>∀i,i<n->i ∉ l->O'[i]?=O[i]?
 | _=>True
theorem Mode.BV{m:Mode}{O O0:List aq}(h:m.kind.agree O O0):m.agree O O0:=by
 cases m<;>exact h
theorem wT{ops:Array Oper}{o:Oper}{t:Nat}(h:(.tmp t:Operand)∈o.op.operands):t∈o.looksAt ops :=
 List.mem_append_left _ (List.mem_filterMap.2 ⟨.tmp t,Array.mem_toList_iff.2 h,rfl⟩)
theorem A1{ops:Array Oper}{o:Oper}{j:Nat}{want:Bool}{t:Nat}(h:o.guard=some (j,want))(ht:(ops[j]?).bind (·.dst)=some t):t∈o.looksAt ops:=by
 refine List.mem_append_right _ ?_;simp[h,ht]
structure Sf(P:Program)(ops:Array Oper)(o:Oper)(k:Kind)(F:List aq->List aq)(σ fL:St):Prop where
 n:fL.n=σ.n
 get:∀s,o.dst≠some s->fL.get s=σ.get s
 Sn:Sa k F
 objs:fL.objs=F σ.objs
 u9:k.keeps (F σ.objs) σ.objs
 move:∀τ:St,τ.n=σ.n->(∀t∈o.looksAt ops,τ.get t=σ.get t)->k.agree τ.objs σ.objs ->
  ∃J8,(dy ops o τ=some true∧(∃r m,Cert P o τ r m∧m.kind=k∧J8=τ.put o.dst r (m.post τ.objs))∨dy ops o τ=some false∧k=.pure∧J8=τ.skip o.dst) ∧
   (∀s,o.dst=some s->J8.get s=fL.get s)∧(∀s,o.dst≠some s->J8.get s=τ.get s)∧J8.n=τ.n∧J8.objs=F τ.objs
theorem step1{P:Program}{ops:Array Oper}{o:Oper}{k:Kind}{σ fL:St}
  (h:(dy ops o σ=some true∧∃r m,Cert P o σ r m∧m.kind=k∧fL=σ.put o.dst r (m.post σ.objs))∨(dy ops o σ=some false∧k=.pure∧fL=σ.skip o.dst)):∃F,Sf P ops o k F σ fL:=by
 have vV:∀τ:St,(∀t∈o.looksAt ops,τ.get t=σ.get t)->∀x∈o.op.operands,σ.ev x=τ.ev x:=fun τ ht x hx=>by
  cases x with
  | tmp t=>exact(ht t (wT hx)).symm
  | _=>rfl
 have OT:∀τ:St,(∀t∈o.looksAt ops,τ.get t=σ.get t)->dy ops o τ=dy ops o σ:=fun τ ht=>lW fun j w t hg hd=>ht t (A1 hg hd);rcases h with⟨h1,r,m,h2,h3,h4⟩|⟨h1,h2,h3⟩
 ·subst h4;subst h3;have K9:Sa m.kind m.post:=by
   cases m with
   | new id o=>exact⟨o,fun _=>rfl⟩
   | write O=>exact fun _ _=>rfl
   | wr n l O=>exact fun _ _=>rfl
   | loc n l A=>exact⟨A,h2.1.1,fun _=>rfl⟩
   | _=>exact fun _=>rfl
  refine⟨m.post,rfl,fun s hs=>by rw[oH,if_neg hs],K9,rfl,?_,fun τ hn ht ho=>⟨τ.put o.dst r (m.post τ.objs),.inl ⟨(OT τ ht).trans h1,r,m,?_,rfl,rfl⟩,?_,?_,rfl,rfl⟩⟩
  ·cases m with
   | wr n' l' O'=>exact fun i hi hl=>h2.1 i hi hl
   | loc n' l' A =>
    intro i hi hl;rw[<-h2.1.2 i hi hl];show(A++σ.objs.drop n')[i]?=A[i]?;rw[List.getElem?_append_left (by rw[h2.1.1];exact hi)]
   | _=>trivial
  ·exact h2.congr hn.symm (vV τ ht) (Mode.BV ho)
  ·intro s hs;rw[oH,oH,if_pos hs,if_pos hs]
  intro s hs;rw[oH,if_neg hs]
 subst h3;subst h2;refine⟨id,rfl,fun s hs=>by rw[mb,if_neg hs],fun _=>rfl,rfl,trivial,fun τ hn ht ho=>⟨τ.skip o.dst,.inr ⟨(OT τ ht).trans h1,rfl,rfl⟩,?_,?_,rfl,rfl⟩⟩
 ·intro s hs;rw[mb,mb,if_pos hs,if_pos hs,hn]
 intro s hs;rw[mb,if_neg hs]
theorem BW{k:Kind}{O O':List aq}(h:k.agree O O'):k.agree O' O:=by
 cases k<;>first|trivial|exact Eq.symm h
theorem El{A O:List aq}{id:Nat}(h:A.length<=id):(A++O.drop A.length)[id]?=O[id]?:=by
 rw[List.getElem?_append_right h,List.getElem?_drop];congr 1;omega
theorem xa{kj ki:Kind}{F:List aq->List aq}{O:List aq}(hk:bB kj ki=true)(hF:Sa kj F)(D6:(∃id,ki=.rd id)->kj.keeps (F O) O):ki.agree O (F O):=by
 cases ki with
 | pure=>trivial
 | rd id =>
  have D6:=D6 ⟨id,rfl⟩;show O[id]?=(F O)[id]?;cases kj with
  | write=>simp[bB]at hk
  | wr n l =>
   simp only[bB,Bool.and_eq_true,decide_eq_true_eq,Bool.not_eq_true',List.contains_eq_mem,decide_eq_false_iff_not]at hk;exact(D6 id hk.1 hk.2).symm
  | new j =>
   obtain⟨o,hF⟩:=hF;simp only[bB,Bool.not_eq_true',decide_eq_false_iff_not]at hk;rw[hF,List.getElem?_set_ne hk]
  | loc n l =>
   obtain⟨A,rfl,hF⟩:=hF;simp only[bB,Bool.or_eq_true,decide_eq_true_eq,Bool.not_eq_true',List.contains_eq_mem,decide_eq_false_iff_not]at hk;rcases Nat.lt_or_ge id A.length with q|q
   ·exact(D6 id q (hk.resolve_left (by omega))).symm
   rw[hF,El q]
  | _=>rw[hF O]
 | new id =>
  show O[id]?=(F O)[id]?;cases kj with
  | new j =>
   obtain⟨o,hF⟩:=hF;simp only[bB,Bool.not_eq_true',decide_eq_false_iff_not]at hk;rw[hF,List.getElem?_set_ne hk]
  | loc n l =>
   obtain⟨A,rfl,hF⟩:=hF;simp only[bB,decide_eq_true_eq]at hk;rw[hF,El hk]
  | pure=>rw[hF O]
  | rd j=>rw[hF O]
  | _=>simp[bB]at hk
 | loc n l =>
  show O.take n=(F O).take n;cases kj with
  | new j =>
   obtain⟨o,hF⟩:=hF;simp only[bB,decide_eq_true_eq]at hk;rw[hF,List.take_set_of_le hk]
  | pure=>rw[hF O]
  | rd j=>rw[hF O]
  | _=>simp[bB]at hk
 | read=>cases kj<;>first | exact(hF O).symm | simp[bB]at hk
 | write=>cases kj<;>first | exact(hF O).symm | simp[bB]at hk
 | wr n l=>cases kj<;>first | exact(hF O).symm | simp[bB]at hk
theorem BX{k k':Kind}(h:bB k k'=true):bB k' k=true:=by
 cases k<;>cases k'<;>first|exact h|(simp only[bB,Bool.not_eq_true',decide_eq_false_iff_not]at h ⊢;exact fun e=>h e.symm)
theorem Hg{kj ki:Kind}{Fj Fi:List aq->List aq}(hk:bB kj ki=true)(hj:Sa kj Fj)(hi:Sa ki Fi)(O:List aq):Fi (Fj O)=Fj (Fi O):=by
 cases kj with
 | new j =>
  obtain⟨oj,hj⟩:=hj;cases ki with
  | new i =>
   obtain⟨oi,hi⟩:=hi;simp only[bB,Bool.not_eq_true',decide_eq_false_iff_not]at hk;rw[hj,hi,hj,hi,List.set_comm _ _ hk]
  | loc n l =>
   obtain⟨A,rfl,hi⟩:=hi;simp only[bB,decide_eq_true_eq]at hk;rw[hj,hi,hj,hi,List.drop_set,if_neg (by omega),List.set_append_right _ _ hk]
  | pure=>rw[hi,hi]
  | rd _=>rw[hi,hi]
  | _=>simp[bB]at hk
 | loc n l =>
  obtain⟨A,rfl,hj⟩:=hj;cases ki with
  | new i =>
   obtain⟨oi,hi⟩:=hi;simp only[bB,decide_eq_true_eq]at hk;rw[hj,hi,hj,hi,List.drop_set,if_neg (by omega),List.set_append_right _ _ hk]
  | pure=>rw[hi,hi]
  | rd _=>rw[hi,hi]
  | _=>simp[bB]at hk
 | pure=>rw[hj,hj]
 | read=>rw[hj,hj]
 | rd _=>rw[hj,hj]
 | write=>cases ki<;>first | (rw[hi,hi];done) | simp[bB]at hk
 | wr _ _=>cases ki<;>first | (rw[hi,hi];done) | simp[bB]at hk
theorem swap{P:Program}{ops:Array Oper}{i j:Nat}{oi oj:Oper}{ki kj:Kind}{σ V8 V9:St}(hi:ops[i]?=some oi)(hj:ops[j]?=some oj)(Kc:oj.apart ops oi=true)(hk:bB kj ki=true)
  (h1:lK P ops j kj σ V8) (h2:lK P ops i ki V8 V9):∃RH R',lK P ops i ki σ RH∧lK P ops j kj RH R'∧iS V9 R':=by
 obtain⟨a1,a2,a3⟩:=Oper.apart_spec Kc;obtain⟨Zm,jo,h1⟩:=h1;rw[hj]at jo;simp only[Option.some.injEq]at jo;subst jo;obtain⟨Zl,jt,h2⟩:=h2;rw[hi]at jt;simp only[Option.some.injEq]at jt;subst jt;obtain⟨Fj,s1⟩:=step1 h1;obtain⟨Fi,s2⟩:=step1 h2;have SJ:∀s,oj.dst=some s->oi.dst≠some s:=fun s hs e=>a2 s hs e;have nB:=xa hk s1.Sn (fun _=>s1.u9);rw[<-s1.objs]at nB;obtain⟨RH,t1,t2,t3,t4,t5⟩:=s2.move σ s1.n.symm (fun t ht=>(s1.get t (fun e=>a1 t e ht)).symm) nB;obtain⟨R',u1,u2,u3,u4,u5⟩:=s1.move RH t4 (fun t ht=>t3 t (fun e=>a3 t e ht)) (by
  rw[t5];refine BW (xa (BX hk) s2.Sn fun hr=>?_);obtain⟨id,e⟩:=hr;have h4:=s2.u9;rw[s1.objs]at h4;have Xx:∀O,Fj O=O:=by
   have he:=s1.Sn;rw[e]at he;exact he
  rw[Xx]at h4;exact h4)
 refine⟨RH,R',⟨oi,hi,t1⟩,⟨oj,hj,u1⟩,⟨?_,?_,fun s=>?_⟩⟩
 ·rw[s2.n,s1.n,u4,t4]
 ·rw[s2.objs,s1.objs,u5,t5];exact Hg hk s1.Sn s2.Sn _
 by_cases ei:oi.dst=some s
 ·have ej:oj.dst≠some s:=fun e=>SJ s e ei;rw[u3 s ej,t2 s ei]
 rw[s2.get s ei];by_cases ej:oj.dst=some s
 ·rw[u2 s ej]
 rw[u3 s ej,t3 s ei,s1.get s ej]
def indep(ops:Array Oper)(j i:Nat)(kj ki:Kind):Bool :=
 match ops[j]?,ops[i]? with
 | some oj,some oi=>oj.apart ops oi&&bB kj ki
 | _,_=>false
theorem fB.front{P:Program}{ops:Array Oper}{i:Nat}{ki:Kind}{l2:List (Nat×Kind)}:∀{l1:List (Nat×Kind)} {σ ρ:St},fB P ops (l1++(i,ki)::l2) σ ρ->(∀p∈l1,indep ops p.1 i p.2 ki=true)->fB P ops ((i,ki)::(l1++l2)) σ ρ
 | [],_,_,h,_=>h
 | (j,kj)::l1,σ,ρ,h,Lb=>by
  obtain⟨V8,h1,h2⟩:=h;obtain⟨V9,h3,h4⟩:=fB.front h2 (fun p hp=>Lb p (by simp[hp]));have Kj:=Lb (j,kj) (by simp);simp only[indep]at Kj;have R1:∃oi,ops[i]?=some oi:=by
   obtain⟨oi,R1,_⟩:=h3;exact⟨oi,R1⟩
  have HR:∃oj,ops[j]?=some oj:=by
   obtain⟨oj,HR,_⟩:=h1;exact⟨oj,HR⟩
  obtain⟨oi,R1⟩:=R1;obtain⟨oj,HR⟩:=HR;simp only[R1,HR,Bool.and_eq_true]at Kj;obtain⟨RH,R',q1,q2,q3⟩:=swap R1 HR Kj.1 Kj.2 h1 h3;exact⟨RH,q1,R',q2,h4.same q3⟩
def p9(ops:Array Oper):Nat->Nat->Nat->Bool
 | 0,_,_=>false
 | n+1,j,i =>
  match ops[i]? with
  | some o=>o.after.toList.any fun e=>Region.binds .any e&&(e.on == j || p9 ops n j e.on)
  | none=>false
def Od(ops:Array Oper):Bool :=
 (List.range ops.size).all fun i =>
  match ops[i]? with
  | some o=>o.after.toList.all fun e=>!Region.binds .any e || decide (e.on<i)
  | none=>true
def n6(ops:Array Oper)(ks:List Kind):Bool :=
 Od ops&&(ks.length == ops.size) &&
 (List.range ops.size).all fun i=>(List.range i).all fun j=>p9 ops ops.size j i ||indep ops j i (ks.getD j .write) (ks.getD i .write)
def ym(ops:Array Oper)(bK:Array Bool):Prop :=
 ∀i o,ops[i]?=some o->bK.getD i false=true->∀e∈o.after.toList,Region.binds .any e=true->bK.getD e.on false=true
theorem qZ{ops:Array Oper}{bK:Array Bool}(hc:ym ops bK):∀(n j i:Nat) (o:Oper),ops[i]?=some o->(∀e∈o.after.toList,Region.binds .any e=true->bK.getD e.on false=true)->p9 ops n j i=true->bK.getD j false=true
 | 0,j,i,o,_,_,h=>by simp[p9]at h
 | n+1,j,i,o,ho,dt,h=>by
  simp only[p9,ho,List.any_eq_true,Bool.and_eq_true,Bool.or_eq_true,beq_iff_eq]at h;obtain⟨e,he,hb,h⟩:=h;have OI:=dt e he hb;rcases h with h|h
  ·rw[<-h];exact OI
  cases OG:ops[e.on]? with
  | none =>
   cases n with
   | zero=>simp[p9]at h
   | succ n=>simp[p9,OG]at h
  | some o'=>exact qZ hc n j e.on o' OG (fun e' SN wJ=>hc e.on o' OG OI e' SN wJ) h
theorem pU{ops:Array Oper}{bK:Array Bool}{i:Nat}:i∈Region.ready .any ops bK↔i<ops.size∧bK.getD i true=false∧∃o,ops[i]?=some o∧∀e∈o.after.toList,Region.binds .any e=true->bK.getD e.on false=true:=by
 unfold Region.ready;rw[List.mem_filter,List.mem_range];constructor
 ·rintro⟨h1,h2⟩;rw[Bool.and_eq_true]at h2;obtain⟨h2,h3⟩:=h2;refine⟨h1,by simpa using h2,?_⟩;cases ho:ops[i]? with
  | none=>simp[ho]at h3
  | some o =>
   refine⟨o,rfl,fun e he hb=>?_⟩;simp only[ho,Option.map_some,Option.getD_some]at h3;have:=Array.all_eq_true_iff_forall_mem.1 h3 e (Array.mem_toList_iff.1 he);simpa[hb]using this
 rintro⟨h1,h2,o,ho,h3⟩;refine⟨h1,?_⟩;rw[Bool.and_eq_true];refine⟨by simpa using h2,?_⟩;simp only[ho,Option.map_some,Option.getD_some];refine Array.all_eq_true_iff_forall_mem.2 fun e he=>?_;by_cases hb:Region.binds .any e=true
 ·simp only[hb,Bool.not_true,Bool.false_or];exact h3 e (Array.mem_toList_iff.2 he) hb
 simp[hb]
theorem range_split{n i:Nat}(h:i<n):List.range n=List.range i++i::(List.range n).drop (i+1):=by
 apply List.ext_getElem?;intro j;rw[List.getElem?_append];simp only[List.length_range];by_cases h1:j<i
 ·rw[if_pos h1,List.getElem?_range h1,List.getElem?_range (by omega)]
 rw[if_neg h1];by_cases h2:j=i
 ·subst h2;simp[h]
 obtain⟨m,hm⟩:∃m,j-i=m+1:=⟨j-i-1,by omega⟩
 rw[hm,List.getElem?_cons_succ,List.getElem?_drop];congr 1;omega
theorem uG{n i j:Nat}(h:j∈(List.range n).drop (i+1)):i<j∧j<n:=by
 obtain⟨k,hk⟩:=List.getElem?_of_mem h;rw[List.getElem?_drop]at hk;have:=ag hk;simp only[List.length_range]at this;rw[List.getElem?_range this]at hk;simp only[Option.some.injEq]at hk;omega
def iD(ks:List Kind)(n:Nat)(bK:Array Bool):List (Nat×Kind) :=
 ((List.range n).filter fun i=>!bK.getD i true).map fun i=>(i,ks.getD i .write)
theorem DB(ks:List Kind){n:Nat}{bK:Array Bool}(c7:bK.size=n){i:Nat}(hi:i<n)(hl:bK.getD i true=false) :
  ∃l1 l2,iD ks n bK=l1++(i,ks.getD i .write)::l2∧iD ks n (bK.setIfInBounds i true)=l1++l2∧∀p∈l1,p.1<i∧bK.getD p.1 true=false∧p.2=ks.getD p.1 .write:=by
 refine⟨((List.range i).filter fun j=>!bK.getD j true).map fun j=>(j,ks.getD j .write),(((List.range n).drop (i+1)).filter fun j=>!bK.getD j true).map fun j=>(j,ks.getD j .write),?_,?_,?_⟩
 ·unfold iD;rw[range_split hi];rw[List.filter_append,List.map_append,List.filter_cons];simp only[hl,Bool.not_false,if_true,List.map_cons];rw[<-range_split hi]
 ·unfold iD;rw[range_split hi];rw[List.filter_append,List.map_append,List.filter_cons];have XY:(bK.setIfInBounds i true).getD i true=true:=by
   simp[Array.getD_eq_getD_getElem?,Array.getElem?_setIfInBounds_self_of_lt (by omega:i<bK.size)]
  simp only[XY,Bool.not_true,Bool.false_eq_true,if_false];rw[<-range_split hi];have da:∀j,j≠i->(bK.setIfInBounds i true).getD j true=bK.getD j true:=fun j hj=>by
   simp[Array.getD_eq_getD_getElem?,Array.getElem?_setIfInBounds_ne (fun e=>hj e.symm)]
  congr 2
  ·apply List.filter_congr;intro j hj;rw[List.mem_range]at hj;rw[da j (by omega)]
  apply List.filter_congr;intro j hj;have:=uG hj;rw[da j (by omega)]
 intro p hp;rw[List.mem_map]at hp;obtain⟨j,hj,e⟩:=hp;subst e;rw[List.mem_filter,List.mem_range]at hj;exact⟨hj.1,by simpa using hj.2,rfl⟩
theorem xo{bK:Array Bool}{i:Nat}(h:i<bK.size):bK.getD i true=bK.getD i false:=by
 simp[Array.getD_eq_getD_getElem?,h]
theorem BJ{P:Program}{ops:Array Oper}{ks:List Kind}(hB:n6 ops ks=true){base:G}{ρ:St}{Q:Exit->Act->World->Prop}(hQ:∀a g,Rel base ρ a g->Q .normal a g.w) :
  ∀(fuel:Nat) (bK:Array Bool) (σ:St) (a:Act) (g:G),bK.size=ops.size->ym ops bK->(iD ks ops.size bK).length<=fuel->fB P ops (iD ks ops.size bK) σ ρ->Rel base σ a g ->
   wpAny P .any ops Q fuel bK a g.w:=by
 simp only[n6,Bool.and_eq_true,List.all_eq_true,Bool.or_eq_true]at hB;obtain⟨⟨xq,_⟩,Lb⟩:=hB;have Pz:∀i o,ops[i]?=some o->∀e∈o.after.toList,Region.binds .any e=true->e.on<i:=by
  intro i o ho e he hb;simp only[Od,List.all_eq_true]at xq;have bd:i<ops.size:=aO ho;have:=xq i (List.mem_range.2 bd);simp only[ho,List.all_eq_true,Bool.or_eq_true,decide_eq_true_eq]at this;have:=this e he;simpa[hb]using this
 have PM:∀bK:Array Bool,bK.size=ops.size->Region.ready .any ops bK=[]->iD ks ops.size bK=[]:=by
  intro bK c7 hr;refine Classical.byContradiction fun da=>?_;have hex:∃i,i<ops.size∧bK.getD i true=false:=by
   cases ht:iD ks ops.size bK with
   | nil=>exact absurd ht da
   | cons p r =>
    have hm:p∈iD ks ops.size bK:=by rw[ht];simp
    simp only[iD,List.mem_map,List.mem_filter,List.mem_range]at hm;obtain⟨i,⟨h1,h2⟩,_⟩:=hm;exact⟨i,h1,by simpa using h2⟩
  have Vm:∃i,i<ops.size∧bK.getD i true=false∧∀j,j<i->bK.getD j true=true:=by
   obtain⟨i,h1,h2⟩:=hex;induction i using Nat.strongRecOn with
   | _ i ih =>
    by_cases h:∃j,j<i∧bK.getD j true=false
    ·obtain⟨j,h3,h4⟩:=h;exact ih j h3 (by omega) h4
    refine⟨i,h1,h2,fun j hj=>?_⟩;cases hc:bK.getD j true with
    | true=>rfl
    | false=>exact absurd ⟨j,hj,hc⟩ h
  obtain⟨i,h1,h2,h3⟩:=Vm;have hi:i∈Region.ready .any ops bK:=by
   refine pU.2 ⟨h1,h2,ops[i],Array.getElem?_eq_getElem h1,fun e he hb=>?_⟩;have bd:=Pz i _ (Array.getElem?_eq_getElem h1) e he hb;rw[<-xo (by omega)];exact h3 _ bd
  rw[hr]at hi;cases hi
 intro fuel;induction fuel with
 | zero =>
  intro bK σ a g c7 hc hlen sw bV;have ht:iD ks ops.size bK=[]:=List.length_eq_zero_iff.1 (by omega);rw[ht]at sw;refine⟨?_,hQ a g (iS.rel sw bV)⟩;cases hr:Region.ready .any ops bK with
  | nil=>rfl
  | cons i r =>
   have hi:i∈Region.ready .any ops bK:=by rw[hr];simp
   obtain⟨h1,h2,_⟩:=pU.1 hi;have:(i,ks.getD i .write)∈iD ks ops.size bK:=by
    simp only[iD,List.mem_map,List.mem_filter,List.mem_range];exact⟨i,⟨h1,by rw[h2];rfl⟩,rfl⟩
   rw[ht]at this;cases this
 | succ fuel ih =>
  intro bK σ a g c7 hc hlen sw bV;refine⟨fun hr=>?_,fun i hi=>?_⟩
  ·have ht:=PM bK c7 hr;rw[ht]at sw;exact hQ a g (iS.rel sw bV)
  obtain⟨h1,h2,o,ho,h3⟩:=pU.1 hi;obtain⟨l1,l2,e1,e2,e3⟩:=DB ks c7 h1 h2;rw[e1]at sw;have U1:=fB.front sw (fun p hp=>by
   obtain⟨q1,q2,q3⟩:=e3 p hp;have:=Lb i (List.mem_range.2 h1) p.1 (List.mem_range.2 q1);rcases this with this|this
   ·have:=qZ hc _ _ _ o ho h3 this;rw[<-xo (by omega),q2]at this;cases this
   rw[q3];exact this)
  obtain⟨fL,⟨o',gW,cE⟩,gq⟩:=U1;rw[ho]at gW;simp only[Option.some.injEq]at gW;subst gW;rw[<-e2]at gq;have qO:(bK.setIfInBounds i true).size=ops.size:=by simpa using c7
  have qh:ym ops (bK.setIfInBounds i true):=by
   intro j oj HR OB e he hb;have D9:∀k,bK.getD k false=true->(bK.setIfInBounds i true).getD k false=true:=fun k hk=>getD_set_true hk;by_cases Ul:j=i
   ·subst Ul;rw[ho]at HR;simp only[Option.some.injEq]at HR;subst HR;exact D9 _ (h3 e he hb)
   rw[getD_set_ne false (fun e=>Ul e.symm)]at OB;exact D9 _ (hc j oj HR OB e he hb)
  have iK:(iD ks ops.size (bK.setIfInBounds i true)).length<=fuel:=by
   rw[e1]at hlen;rw[e2];simp only[List.length_append,List.length_cons]at hlen ⊢;omega
  unfold wpOp;simp only[ho];rcases cE with⟨hw,r,m,HB,hk,Qt⟩|⟨hw,_,Qt⟩
  ·rw[if_pos (kJ bV hw)];refine .inl (HB.2 base σ a g bV rfl (fun x _ y hy=>hy) (Mode.tJ (.inr rfl)) _ _ fun u g' xx=>?_);subst Qt;exact ih _ _ _ _ qO qh iK gq xx
  rw[if_neg (by rw[kJ bV hw];simp)];subst Qt;refine ih _ _ _ g qO qh iK gq ?_;cases iJ:o.dst with
  | none=>exact bV
  | some d=>exact bV.skip d
theorem nq{P:Program}(hm:P.follows .mixedOrders=true){ops:Array Oper}{ks:List Kind}(hB:n6 ops ks=true){id:Nat}{base:G}{σ ρ:St}{a:Act}{g:G}{Q:Exit->Act->World->Prop}
  (sw:fB P ops ((List.range ops.size).map fun i=>(i,ks.getD i .write)) σ ρ) (bV:Rel base σ a g) (hQ:∀a g,Rel base ρ a g->Q .normal a g.w):(Code.region id ops true).wp P Q a g.w:=by
 refine wp_region_any hm ?_;have OQ:iD ks ops.size (Array.replicate ops.size false)=(List.range ops.size).map fun i=>(i,ks.getD i .write):=by
  unfold iD;congr 1;rw[List.filter_eq_self];intro i hi;rw[List.mem_range]at hi;simp[Array.getD_eq_getD_getElem?,hi]
 have Uj:=bV.good.heap (w':={ g.w with drawn:=g.w.drawn+1 }) rfl rfl rfl rfl;have Vl:=Le.heap (g:=g) (w':={ g.w with drawn:=g.w.drawn+1 }) rfl rfl rfl rfl;have xx:=bV.step Vl Uj;have ia:(⟨σ.n,σ.bt,g.objs⟩:St)=σ:=by rw[bV.objs]
 rw[ia]at xx;refine BJ hB hQ ops.size (Array.replicate ops.size false) σ a _ (by simp) ?_ ?_ (by rw[OQ];exact sw) xx
 ·intro i o ho hl;have bd:i<ops.size:=aO ho;simp[Array.getD_eq_getD_getElem?,bd]at hl
 rw[OQ];simp
theorem ox{P:Program}{ops:Array Oper}{base:G}{ρ:St}{Q:Exit->Act->World->Prop}(hQ:∀a g,Rel base ρ a g->Q .normal a g.w) :
  ∀(l:List (Nat×Kind)) (σ:St) (a:Act) (g:G),fB P ops l σ ρ->Rel base σ a g->wpOps P ops Q (l.map (·.1)) a g.w
 | [],σ,a,g,sw,bV=>hQ a g (iS.rel sw bV)
 | (i,k)::r,σ,a,g,sw,bV=>by
  obtain⟨fL,⟨o,ho,cE⟩,gq⟩:=sw;simp only[List.map_cons,wpOps,ho];rcases cE with⟨hw,r',m,HB,hk,Qt⟩|⟨hw,_,Qt⟩
  ·rw[if_pos (kJ bV hw)];refine .inl (HB.2 base σ a g bV rfl (fun x _ y hy=>hy) (Mode.tJ (.inr rfl)) _ _ fun u g' xx=>?_);subst Qt;exact ox hQ r _ _ _ gq xx
  rw[if_neg (by rw[kJ bV hw];simp)];subst Qt;refine ox hQ r _ _ g gq ?_;cases iJ:o.dst with
  | none=>exact bV
  | some d=>exact bV.skip d
theorem lX{P:Program}{ops:Array Oper}{ks:List Kind}{id:Nat}{base:G}{σ ρ:St}{a:Act}{g:G}{Q:Exit->Act->World->Prop}
  (sw:fB P ops ((List.range ops.size).map fun i=>(i,ks.getD i .write)) σ ρ) (bV:Rel base σ a g) (hQ:∀a g,Rel base ρ a g->Q .normal a g.w):(Code.region id ops false).wp P Q a g.w:=by
 refine wp_region ?_;have:=ox (Q:=Q) hQ _ σ a g sw bV;rw[List.map_map]at this;rw[show((List.range ops.size).map ((fun x:Nat×Kind=>x.1) ∘ fun i=>(i,ks.getD i .write)))=List.range ops.size by
  conv=>rhs;rw[<-List.map_id (List.range ops.size)]
  rfl]at this
 exact this
inductive dT where
 | norm
 | ret
 | exit (id:Nat)
def Pe(base:G)(Q:dT->St->Prop):Exit->Act->World->Prop
 | .normal,a,w=>∃g σ,g.w=w∧Rel base σ a g∧Q .norm σ
 | .ret,a,w=>∃g σ,g.w=w∧Rel base σ a g∧Q .ret σ
 | .exit id,a,w=>∃g σ,g.w=w∧Rel base σ a g∧Q (.exit id) σ
 | _,_,_=>False
def cG(P:Program)(kb:Nat)(c:Code)(Q:dT->St->Prop)(σ:St):Prop :=
 ∀(base:G) (a:Act) (g:G),base.objs.length<=kb->Rel base σ a g->c.wp P (Pe base Q) a g.w
theorem cG.mono{P:Program}{kb:Nat}{c:Code}{Q Q':dT->St->Prop}{σ:St}(h:cG P kb c Q σ)(hq:∀e σ,Q e σ->Q' e σ):cG P kb c Q' σ:=fun base a g hb hr =>
 wp_mono (h base a g hb hr) fun e a w hp=>by
  cases e with
  | normal=>obtain⟨g,σ,h1,h2,h3⟩:=hp;exact⟨g,σ,h1,h2,hq _ _ h3⟩
  | ret=>obtain⟨g,σ,h1,h2,h3⟩:=hp;exact⟨g,σ,h1,h2,hq _ _ h3⟩
  | exit id=>obtain⟨g,σ,h1,h2,h3⟩:=hp;exact⟨g,σ,h1,h2,hq _ _ h3⟩
  | goto l=>exact hp
  | panic c=>exact hp
  | outgrown=>exact hp
theorem cG.weaken{P:Program}{kb:Nat}{c:Code}{Q:dT->St->Prop}{σ τ:St}(h:cG P kb c Q τ)(hw:∀base a g,base.objs.length<=kb->Rel base σ a g->∃g',g'.w=g.w∧Rel base τ a g'):cG P kb c Q σ:=fun base a g hb hr=>by
 obtain⟨g',h1,h2⟩:=hw base a g hb hr;rw[<-h1];exact h base a g' hb h2
def bP(P:Program)(kb:Nat)(b:Code)(Q:dT->St->Prop):dT->St->Prop
 | .norm,σ=>cG P kb b Q σ
 | e,σ=>Q e σ
theorem aL{P:Program}{kb:Nat}{x y:Code}{Q:dT->St->Prop}{σ:St}(h:cG P kb x (bP P kb y Q) σ):cG P kb (.seq x y) Q σ:=fun base a g hb hr =>
 wp_seq (wp_mono (h base a g hb hr) fun e a w hp=>by
  cases e with
  | normal =>
   obtain⟨g,σ,h1,h2,h3⟩:=hp;subst h1;exact h3 base a g hb h2
  | ret=>exact hp
  | exit id=>exact hp
  | goto l=>exact hp
  | panic c=>exact hp
  | outgrown=>exact hp)
theorem bc{P:Program}{kb:Nat}{Q:dT->St->Prop}{σ:St}(h:Q .norm σ):cG P kb .skip Q σ:=fun base _ g _ hr=>wp_skip ⟨g,σ,rfl,hr,h⟩
theorem ak{P:Program}{kb:Nat}{Q:dT->St->Prop}{σ:St}(h:Q .ret σ):cG P kb .ret Q σ:=fun base _ g _ hr=>wp_ret ⟨g,σ,rfl,hr,h⟩
theorem aN{P:Program}{kb:Nat}{Q:dT->St->Prop}{σ:St}{id:Nat}(h:Q (.exit id) σ):cG P kb (.exit id) Q σ:=fun base _ g _ hr=>wp_exit ⟨g,σ,rfl,hr,h⟩
def bO(id:Nat)(Q:dT->St->Prop):dT->St->Prop
 | .exit nT,σ=>if nT=id then Q .norm σ else Q (.exit nT) σ
 | e,σ=>Q e σ
theorem ah{P:Program}{kb:Nat}{id:Nat}{c:Code}{Q:dT->St->Prop}{σ:St}(h:cG P kb c (bO id Q) σ):cG P kb (.block id c) Q σ:=fun base a g hb hr =>
 wp_block (wp_mono (h base a g hb hr) fun e a w hp=>by
  cases e with
  | normal=>exact hp
  | ret=>exact hp
  | exit nT =>
   obtain⟨g,σ,h1,h2,h3⟩:=hp;simp only[bO]at h3;simp only[Exit.inBlock];split
   ·rename_i e;rw[if_pos e]at h3;exact⟨g,σ,h1,h2,h3⟩
   rename_i e;rw[if_neg e]at h3;exact⟨g,σ,h1,h2,h3⟩
  | goto l=>exact hp
  | panic c=>exact hp
  | outgrown=>exact hp)
theorem nG{P:Program}{kb:Nat}{c:Operand}{x y:Code}{Q:dT->St->Prop}{σ:St}{b:Bool}(hc:σ.ev c=some (.v (.bool b)))(ht:b=true->cG P kb x Q σ)(hf:b=false->cG P kb y Q σ):cG P kb (.cond c x y) Q σ:=fun base a g hb hr=>by
 have qh:=(hr.eval hc).b6.1;cases b
 ·exact wp_cond_false qh (hf rfl base a g hb hr)
 exact wp_cond_true qh (ht rfl base a g hb hr)
def Sub(O:List aq)(x y:aa):Prop:=∀(g:G) (u:Value),g.objs=O->RV g x u->RV g y u
theorem Sub.refl{O:List aq}(x:aa):Sub O x x:=fun _ _ _ h=>h
theorem Sub.of_eq{O:List aq}{x y:aa}(h:x=y):Sub O x y:=h ▸ Sub.refl x
theorem Sub.sh{O:List aq}{sz:Nat}{xs ys:List aa}{o:oV}(h:xs=ys):Sub O (.aB sz xs o) (.aB sz ys .sh):=fun _ _ _ k=>h ▸ k.rS
theorem Sub.share{O:List aq}{x y:aa}(h:x.share=y):Sub O x y:=fun _ _ _ k=>h ▸ k.share
theorem Sub.nil{O:List aq}{sz:Nat}{xs:List aa}{o:oV}(h:xs=[])(ho:∀id,o≠.tok id)(hn:o≠.nn):Sub O (.v (.slice none 0 0)) (.aB sz xs o):=fun g u _ k=>by
 have:=k.b6.1;subst this;subst h;exact .nil (fun id e=>absurd e (ho id)) hn
def jw(σ:St):List (Nat×aa)->Prop
 | []=>True
 | (s,y)::r=>(∃x,σ.get s=some x∧Sub σ.objs x y)∧jw σ r
theorem r5{σ:St}{base:G}{a:Act}{g:G}(hr:Rel base σ a g):∀{l:List (Nat×aa)},jw σ l->∀s y,look l s=some y->∃u,a.tmps[s]?=some u∧RV g y u
 | [],_,s,y,h=>by cases h
 | (k,z)::l,h,s,y,hl=>by
  obtain⟨⟨x,h1,h2⟩,h3⟩:=h;simp only[look]at hl;split at hl
  ·rename_i e;subst e;simp only[Option.some.injEq]at hl;subst hl;obtain⟨u,h4,h5⟩:=hr.slot k x h1;exact⟨u,h4,h2 g u hr.objs h5⟩
  exact r5 hr h3 s y hl
structure bn(σ τ:St):Prop where
 n:σ.n=τ.n
 objs:σ.objs=τ.objs
 V3:jw σ τ.bt
theorem bn.rel{σ τ:St}(h:bn σ τ){base:G}{a:Act}{g:G}(hr:Rel base σ a g):Rel base τ a g where
 le:=hr.le
 good:=hr.good
 objs:=hr.objs.trans h.objs
 size:=hr.size.trans h.n
 defers:=hr.defers
 slot:=fun s y hy=>r5 hr h.V3 s y hy
theorem cG.cover{P:Program}{kb:Nat}{c:Code}{Q:dT->St->Prop}{σ τ:St}(h:cG P kb c Q τ)(hc:bn σ τ):cG P kb c Q σ:=fun base a g hb hr=>h base a g hb (hc.rel hr)
def gu{ι:Type}(L:ι->St)(μ:ι->Nat)(i:ι)(Q:dT->St->Prop):dT->St->Prop
 | .norm,σ=>∃j,μ j<μ i∧bn σ (L j)
 | e,σ=>Q e σ
theorem a8{P:Program}{kb:Nat}{c:Code}{Q:dT->St->Prop}{σ:St}{ι:Type}(L:ι->St)(μ:ι->Nat)(i0:ι)(h0:bn σ (L i0))(round:∀i,cG P kb c (gu L μ i Q) (L i)):cG P kb (.loop c) Q σ:=by
 intro base a g hb hr b k cs;have key:∀n i a g,μ i=n->Rel base (L i) a g->∃e a' w',Pe base Q e a' w'∧Arrives P (lone (b.at a (.code c::.inLoop c::k)) cs g.w) b k cs e a' w':=by
  intro n;induction n using Nat.strongRecOn with
  | _ n ih =>
   intro i a g hn hr;obtain⟨e,B6,J7,hq,fP⟩:=round i base a g hb hr b (.inLoop c::k) cs;cases e with
   | normal =>
    obtain⟨uM,pr,h1,h2,j,h3,h4⟩:=hq;subst h1;obtain⟨Po,Ph,RE,HU,yC⟩:=ih (μ j) (hn ▸ h3) j B6 uM rfl (h4.rel h2);exact⟨Po,Ph,RE,HU,.of_steps (Steps.trans fP (.one step_inLoop)) yC⟩
   | exit id =>
    obtain⟨uM,pr,h1,h2,h3⟩:=hq;exact⟨.exit id,B6,J7,⟨uM,pr,h1,h2,h3⟩,.pass (x:=.inLoop c) rfl (fun _ _=>.inl (by simp)) fP⟩
   | goto l=>exact hq.elim
   | ret =>
    obtain⟨uM,pr,h1,h2,h3⟩:=hq;exact⟨.ret,B6,J7,⟨uM,pr,h1,h2,h3⟩,.pass (x:=.inLoop c) rfl (fun _ _=>.inl (by simp)) fP⟩
   | panic ch=>exact hq.elim
   | outgrown=>exact hq.elim
 obtain⟨e,a',w',hq,fP⟩:=key _ i0 a g rfl (h0.rel hr);exact⟨e,a',w',hq,.of_steps (.one step_loop) fP⟩
theorem rA{P:Program}{kb:Nat}{c:Code}{Q:dT->St->Prop}{n:Nat}{bt:List (Nat×aa)}{O:List aq}(k:Nat)(hk:k<=O.length)(Lf:kb<=k)(cF:List (Nat×aa))(hb:∀o∈O.take k,o.upto k)(hs:jw ⟨n,bt,O⟩ cF)
  (xz:∀s x,look cF s=some x->x.upto k) (h:cG P kb c Q ⟨n,cF,O.take k⟩):cG P kb c Q ⟨n,bt,O⟩:=by
 intro base a g SA hr;have hO:g.objs=O:=hr.objs;have AM:Rel base ⟨n,cF,O.take k⟩ a (g.cy k):={
  le:=hr.le.cy (by omega)
  good:=hr.good.cy (by rw[hO];exact hk) (by rw[hO];exact hb)
  objs:=by simp only[G.cy,hO]
  size:=hr.size
  defers:=hr.defers
  slot:=fun s x hx=>by
   obtain⟨u,h1,h2⟩:=r5 hr hs s x hx;exact⟨u,h1,h2.cy (by rw[hO];exact hk) (xz s x hx)⟩ }
 exact h base a (g.cy k) SA AM
theorem F1{P:Program}{o:Oper}{x:Operand}{args:Array Operand}{pc:Array TypeId}(ho:o.op=.call ⟨.value x,args,pc⟩){a:Act}{w:World}{f:FuncId}{us vs:Array Value}(hx:a.eval x=.func (.func f) us vs)(hf:Enters P f) :
  (execOp a.eval o).run P w=.ok (.enter f (us++args.map a.eval++vs)) w:=by
 obtain⟨fn,h1,h2,h3⟩:=hf;simp only[execOp,ho,resolve,hx,Deferred.ofValue,Sem.run_bind,Sem.run_pure,Result.andThen_ok,invoke,callFunc,run_program,h1,h2,h3];rfl
theorem jq.tM{g:G}{cs ds:List aa}{us vs:Array Value}(h:jq g cs us)(k:jq g ds vs):jq g (cs++ds) (us++vs):=by
 have:=jq.append (us:=us.toList) (vs:=vs.toList) (by simpa using h) (by simpa using k);have e:(us.toList++vs.toList).toArray=us++vs:=Array.ext' (by simp);rw[<-e];exact this
theorem sq{P:Program}{o:Oper}{σ:St}{x:Operand}{args:Array Operand}{pc:Array TypeId}{f:FuncId}{fs cs gg:List aa}{r:aa}(m:Mode)(iy:m.ok σ.objs)
  (ho:o.op=.call ⟨.value x,args,pc⟩) (hd:∀d,o.dst=some d->d<σ.n) (hx:σ.ev x=some (.fn (.func f) fs cs)) (ha:σ.yw args.toList=some gg) {args':List aa} (eZ:∀g u,jq g (fs++gg++cs) u->jq g args' u)
  (dY:∀O,m.agree O σ.objs->aK P f O args' fun r' O'=>r'=r∧O'=m.post O) (Fe:Enters P f):Cert P o σ r m:=by
 refine⟨iy,?_⟩;intro base τ a g bV hn nB hm K Q hK;have Gw:σ.ev x=some (.fn (.func f) fs cs):=hx;have h1:=bV.eval (nB x (by simp[ho,Op.operands,Call.operands]) _ hx);obtain⟨us,vs,e1,l1,l2,r1,r2⟩:=h1.Pq;have h2:=tq (σ:=σ) (a:=a) (g:=g) (xs:=args.toList) (fun z hz y hy=>bV.eval (nB z (by
  rw[ho];simp only[Op.operands,Call.operands,Array.mem_append];exact .inr (Array.mem_toList_iff.1 hz)) y hy)) ha
 have Pt:jq g gg (args.map a.eval):=by
  have e:args.map a.eval=(args.toList.map a.eval).toArray:=Array.ext' (by rw[Array.toList_map]);rw[e];exact h2
 have dt:=eZ g _ ((jq.tM (jq.tM ⟨l1,r1⟩ Pt) ⟨l2,r2⟩));have bL:=F1 (P:=P) (w:=g.w) ho e1 Fe;unfold Oper.wp;rw[bL,Oper.upon_enter];refine((dY g.objs (by rw[bV.objs];exact hm)).2 g _ bV.good rfl dt).mono ?_;rintro e w' ⟨g',v,r',q1,q2,q3,q4,q5,q6,q7⟩;subst q1;subst q2;subst q6;refine hK v g' ?_;have e:g'.objs=m.post τ.objs:=by rw[q7,bV.objs]
 cases iJ:o.dst with
 | none =>
  have:=bV.step q3 q4;rw[e]at this;exact this
 | some d =>
  have:=bV.put q3 q4 (d:=d) (by rw[hn];exact hd d iJ) q5;rw[e]at this;exact this
theorem rE{P:Program}{o:Oper}{σ:St}{x:Operand}{args:Array Operand}{pc:Array TypeId}{f:FuncId}{fs cs gg:List aa}{r:aa}(m:Mode)
  (ho:o.op=.call ⟨.value x,args,pc⟩) (hd:∀d,o.dst=some d->d<σ.n) (hx:σ.ev x=some (.fn (.func f) fs cs)) (ha:σ.yw args.toList=some gg) {args':List aa} (eZ:∀g u,jq g (fs++gg++cs) u->jq g args' u)
  (dY:∀O,(m=.pure∨O=σ.objs)->aK P f O args' fun r' O'=>r'=r∧O'=m.post O) (Fe:Enters P f) (hp:m.plain:=by trivial):Cert P o σ r m :=
 sq m (by cases m<;>first|trivial|exact hp.elim) ho hd hx ha eZ (fun O h=>dY O (m.A9 hp h)) Fe
theorem jq.share{g:G}{cs:List aa}{u:Array Value}(h:jq g cs u):jq g (cs.map aa.share) u :=
 ⟨by simpa using h.1,fun j c v a b=>by
  rw[List.getElem?_map,Option.map_eq_some_iff]at a;obtain⟨c',h1,h2⟩:=a;subst h2;exact(h.2 j c' v h1 b).share⟩
theorem Cf{P:Program}{o:Oper}{σ:St}{x:Operand}{args:Array Operand}{pc:Array TypeId}{f:FuncId}{fs cs gg:List aa}{r:aa}
  (ho:o.op=.call ⟨.value x,args,pc⟩) (hd:∀d,o.dst=some d->d<σ.n) (hx:σ.ev x=some (.fn (.func f) fs cs)) (ha:σ.yw args.toList=some gg)
  (dY:bw P f ((fs++gg++cs).map aa.share) r) (aW:av 0 ((fs++gg++cs).map aa.share)):Cert P o σ r .pure :=
 rE .pure ho hd hx ha (args':=(fs++gg++cs).map aa.share) (fun _ _ h=>h.share) (fun O _=>dY.use aW O) dY.1
theorem ur{P:Program}{o:Oper}{σ:St}{x:Operand}{args:Array Operand}{pc:Array TypeId}{f:FuncId}{fs cs gg:List aa}{r:aa}{O':List aq}
  (ho:o.op=.call ⟨.value x,args,pc⟩) (hd:∀d,o.dst=some d->d<σ.n) (hx:σ.ev x=some (.fn (.func f) fs cs)) (ha:σ.yw args.toList=some gg)
  (dY:aK P f σ.objs (fs++gg++cs) fun r' O1=>r'=r∧O1=O'):Cert P o σ r (.write O') :=
 rE (.write O') ho hd hx ha (args':=fs++gg++cs) (fun _ _ h=>h) (fun O hO=>by
  have:O=σ.objs:=hO.resolve_left (by simp);subst this;exact dY) dY.1
theorem wm{P:Program}{o:Oper}{σ:St}{x:Operand}{args:Array Operand}{pc:Array TypeId}{f:FuncId}{fs cs gg:List aa}{r:aa}{A A':List aq}(l:List Nat)
  (ho:o.op=.call ⟨.value x,args,pc⟩) (hd:∀d,o.dst=some d->d<σ.n) (hx:σ.ev x=some (.fn (.func f) fs cs)) (ha:σ.yw args.toList=some gg)
  (hA:σ.objs.take A.length=A) (hl:A'.length=A.length) (hk:∀i,i<A.length->i ∉ l->A'[i]?=A[i]?) (dY:∀X,aK P f (A++X) (fs++gg++cs) fun r' O1=>r'=r∧O1=A'++X):Cert P o σ r (.loc A.length l A') :=
 sq (.loc A.length l A') ⟨hl,fun i hi hn=>by
  have e:=congrArg (·[i]?) hA;simp only[List.getElem?_take,if_pos hi]at e;rw[hk i hi hn,e]⟩ ho hd hx ha (args':=fs++gg++cs) (fun _ _ h=>h) (fun O hO=>by
  have e:O.take A.length=A:=Eq.trans hO hA;have:=dY (O.drop A.length);rw[show A++O.drop A.length=O from(congrArg (·++O.drop A.length) e).symm.trans (List.take_append_drop _ _)]at this;exact this) (dY []).1
theorem Cg{P:Program}{o:Oper}{σ:St}{x:Operand}{args:Array Operand}{pc:Array TypeId}{f:FuncId}{fs cs gg:List aa}{r:aa}
  (ho:o.op=.call ⟨.value x,args,pc⟩) (hd:∀d,o.dst=some d->d<σ.n) (hx:σ.ev x=some (.fn (.func f) fs cs)) (ha:σ.yw args.toList=some gg)
  (dY:aK P f σ.objs (fs++gg++cs) fun r' O1=>r'=r∧O1=σ.objs):Cert P o σ r .read :=
 rE .read ho hd hx ha (args':=fs++gg++cs) (fun _ _ h=>h) (fun O hO=>by
  have:O=σ.objs:=hO.resolve_left (by simp);subst this;exact dY) dY.1
theorem qd{g:G}{id:Nat}{o:aq}{l':Option Loc}(ho:g.objs[id]?=some o)(he:g.env[id]?=some l')(hp:¬o.aJ)(hl:o.live):jT g id o l' .gone g.w where
 obj:=ho
 os:=rfl
 tape:=rfl
 output:=rfl
 size:=Nat.le_refl _
 block:=fun _ _ _=>rfl
 cell:=fun b off x hx _=>hx
 place:=fun _ _ h=>h.elim
 spare:=fun m h=>by subst h;exact absurd trivial hp
 plain:=fun _=>⟨by simp[aq.aJ],he⟩
 gone:=fun h=>by subst h;exact hl
def G.freeze(g:G)(id:Nat)(l':Option Loc):G:=g.bo id l' .gone g.w
def cw(O:List aq)(id:Nat)(x y:aa):Prop :=
 ∀(g:G) (u:Value) (l':Option Loc),Good g->g.objs=O->g.env[id]?=some l'->Le g (g.freeze id l')->RV g x u->RV (g.freeze id l') y u
theorem cw.refl{O:List aq}{id:Nat}(x:aa):cw O id x x:=fun _ _ _ _ _ _ hle h=>h.mono hle
theorem mK{g:G}(hg:Good g){id:Nat}{l:Loc}{o:aq}(he:g.env[id]?=some (some l))(ho:g.objs[id]?=some o)(hl:o.live)(off:Nat):¬ja (g.freeze id (some l)) l.block off:=by
 have bd:=ag ho;rintro(hf|⟨nT,l',o',h1,h2,h3,h4,_⟩)
 ·exact hg.fj id l o he ho hl off hf
 simp only[G.freeze,G.bo]at h1 h2;by_cases e:nT=id
 ·subst e;rw[List.getElem?_set_self (by omega)]at h2;simp only[Option.some.injEq]at h2;subst h2;exact h3
 rw[List.getElem?_set_ne (Ne.symm e)]at h1 h2;exact e (hg.apart nT id l' l o' o h1 h2 h3 he ho hl h4)
theorem cw.mp{O:List aq}{id off:Nat}{cs ds:List aa}(hid:O[id]?=some (.cells cs))(hd:(cs.drop off).map aa.br=ds):cw O id (.mp id off) (.ip none ds):=fun g u l' hg hO he hle h=>by
 obtain⟨l,o1,h1,h2,_,eu⟩:=h.jG;subst eu;rw[he]at h1;simp only[Option.some.injEq]at h1;subst h1;have fV:g.objs[id]?=some (.cells cs):=by rw[hO];exact hid
 obtain⟨arr,t',gy,di,hlen,iq,o4,_⟩:=hg.row fV he;subst hd;refine .ip (.inl rfl) (fun c hc=>by
  obtain⟨c',h1,h2⟩:=List.mem_map.1 hc;subst h2;exact aa.eL (o4 c' (List.mem_of_mem_drop h1))) (fun j=>arr.getD (off+j) undef) (fun j c hj=>?_) (fun j c hj=>?_)
 ·rw[List.getElem?_map,Option.map_eq_some_iff]at hj;obtain⟨c',hj,_⟩:=hj;rw[List.getElem?_drop]at hj;have bd:=ag hj;refine⟨?_,mK hg he fV trivial _⟩;show g.w.cell? _=_;rw[cell_of_row di];simp[Array.getD_eq_getD_getElem?,show off+j<arr.size by omega]
 rw[List.getElem?_map,Option.map_eq_some_iff]at hj;obtain⟨c',hj,e⟩:=hj;subst e;rw[List.getElem?_drop]at hj;have bd:=ag hj;exact((iq _ c' _ hj (by simp[Array.getD_eq_getD_getElem?,show off+j<arr.size by omega])).mono hle).br
theorem cw.ms{O:List aq}{id off len cap sz:Nat}{cs xs:List aa}(hid:O[id]?=some (.cells cs))(c7:∀x∈xs,x.cells.length=sz)(hlen:xs.length=len)(hd:((cs.drop off).take (len*sz)).map aa.br=aw xs):cw O id (.ms id off len cap) (.aB sz xs .sh):=fun g u l' hg hO he hle h=>by
 obtain⟨l,o1,h1,h2,_,Oy,cW,iw,dv,eu⟩:=h.pV;subst eu;rw[he]at h1;simp only[Option.some.injEq]at h1;subst h1;have fV:g.objs[id]?=some (.cells cs):=by rw[hO];exact hid
 obtain⟨arr,t',gy,di,mA,iq,o4,_⟩:=hg.row fV he;subst hlen;have key:∀(j:Nat) (c:aa),(aw xs)[j]?=some c->∃c',cs[off+j]?=some c'∧c'.br=c:=fun j c hj=>by
  rw[<-hd,List.getElem?_map,Option.map_eq_some_iff]at hj;obtain⟨c',hj,e⟩:=hj;have:=mu hj;rw[List.getElem?_drop]at this;exact⟨c',this,e⟩
 refine .aB c7 (fun x hx c hc=>?_) (Nat.le_trans Oy dv) cW (fun _=>rfl) (fun j=>arr.getD (off+j) undef) (fun j c hj=>?_) (fun j c hj=>?_) trivial
 ·have kC:c∈aw xs:=by
   simp only[aw,List.mem_flatMap];exact⟨x,hx,hc⟩
  obtain⟨j,hj⟩:=List.getElem?_of_mem kC;obtain⟨c',jo,e⟩:=key j c hj;subst e;exact aa.eL (o4 c' (List.mem_of_getElem? jo))
 ·obtain⟨c',jo,e⟩:=key j c hj;have bd:=ag jo;refine⟨?_,mK hg he fV trivial _⟩;show g.w.cell? _=_;simp only;rw[cell_of_row di];simp[Array.getD_eq_getD_getElem?,show off+j<arr.size by omega]
 obtain⟨c',jo,e⟩:=key j c hj;have bd:=ag jo;subst e;exact((iq _ c' _ jo (by simp[Array.getD_eq_getD_getElem?,show off+j<arr.size by omega])).mono hle).br
theorem cw.mm{O:List aq}{id:Nat}{kt:KT}{es:List (Value×aa)}(hid:O[id]?=some (.map kt es))(hp:kt.plain:=by trivial):cw O id (.mm id) (.im kt es):=fun g u l' hg hO he hle h=>by
 obtain⟨l,o1,h1,h2,_,eu⟩:=h.vd;subst eu;rw[he]at h1;simp only[Option.some.injEq]at h1;subst h1;have fV:g.objs[id]?=some (.map kt es):=by rw[hO];exact hid
 obtain⟨l2,ob,e1,e2,e3,sA⟩:=hg.map id kt es fV;obtain⟨arr,clk,e9,e4,e5,e6,Hz⟩:=sA.map hp;subst e9;rw[he]at e1;simp only[Option.some.injEq]at e1;subst e1;exact .im (r:=l.block) (clk:=clk) (arr:=arr) e3 (fun off=>mK hg he fV trivial off) e4 (fun i e kx a b=>(e6 i e kx a b).1) e5 Hz (fun i e kx a b=>(e6 i e kx a b).2.2.mono hle)
theorem tY{P:Program}{kb:Nat}{c:Code}{Q:dT->St->Prop}{n:Nat}{bt:List (Nat×aa)}{O:List aq}(id:Nat){o:aq}(hid:O[id]?=some o)(hp:¬o.aJ)(lB:o.live)(cF:List (Nat×aa))
  (hs:∀s y,look cF s=some y->∃x,look bt s=some x∧cw O id x y) (h:cG P kb c Q ⟨n,cF,O.set id .gone⟩):cG P kb c Q ⟨n,bt,O⟩ :=
 h.weaken fun base a g hb hr=>by
  have hO:g.objs=O:=hr.objs;have fV:g.objs[id]?=some o:=by rw[hO];exact hid
  have bd:=iU hr.good fV;have he:g.env[id]?=some g.env[id]:=List.getElem?_eq_getElem bd;have ht:=qd fV he hp lB;have hle:=Le.bo hr.good ht;refine⟨g.freeze id g.env[id],rfl,{ le:=hr.le.trans hle,good:=Good.bo hr.good ht trivial (fun _ _ h=>h.elim),objs:=by simp[G.freeze,G.bo,hO],size:=hr.size,defers:=hr.defers,slot:=fun s y hy=>?_ }⟩;obtain⟨x,h1,h2⟩:=hs s y hy;obtain⟨u,h3,h4⟩:=hr.slot s x h1;exact⟨u,h3,h2 g u _ hr.good hO he hle h4⟩
theorem aR{P:Program}{kb:Nat}{c:Code}{Q:dT->St->Prop}{n:Nat}{bt:List (Nat×aa)}{O:List aq}(s id:Nat){o:aq}{x:aa}(y:aa)(hid:O[id]?=some o)(hp:¬o.aJ)(lB:o.live)(hx:look bt s=some x)(hf:cw O id x y)
  (h:cG P kb c Q ⟨n,cd s y bt,O.set id .gone⟩):cG P kb c Q ⟨n,bt,O⟩ :=
 tY id hid hp lB (cd s y bt) (fun k z hz=>by
  rw[ig]at hz;split at hz
  ·rename_i e;subst e;simp only[Option.some.injEq]at hz;subst hz;exact⟨x,hx,hf⟩
  exact⟨z,hz,.refl z⟩) h
theorem iG{P:Program}{kb:Nat}{c:Code}{Q:dT->St->Prop}{n:Nat}{bt:List (Nat×aa)}{O:List aq}(id:Nat){o:aq}(hid:O[id]?=some o)(hp:¬o.aJ)(lB:o.live)(cF:List (Nat×aa))
  (hs:∀s y,look cF s=some y->∃x,look bt s=some x∧cw O id x y) (k:Nat) (hk:k≠id) (cs ds:List aa) (iy:O[k]?=some (.cells cs)) (hl:cs.length=ds.length) (dI:∀d∈ds,d.scalar)
  (iq:∀(j:Nat) (c d:aa),cs[j]?=some c->ds[j]?=some d->cw O id c d) (h:cG P kb c Q ⟨n,cF,(O.set id .gone).set k (.cells ds)⟩):cG P kb c Q ⟨n,bt,O⟩ :=
 h.weaken fun base a g hb hr=>by
  have hO:g.objs=O:=hr.objs;have fV:g.objs[id]?=some o:=by rw[hO];exact hid
  have bd:=iU hr.good fV;have he:g.env[id]?=some g.env[id]:=List.getElem?_eq_getElem bd;have ht:=qd fV he hp lB;have hle:=Le.bo hr.good ht;have dx:=Good.bo hr.good ht trivial (fun _ _ h=>h.elim);obtain⟨l,arr,t,e1,e2,e3,e4,e5,e6⟩:=hr.good.cells k cs (by rw[hO];exact iy);have Ll:(g.freeze id g.env[id]).objs[k]?=some (.cells cs):=by
   simp only[G.freeze,G.bo];rw[List.getElem?_set_ne (Ne.symm hk),hO];exact iy
  have SS:(g.freeze id g.env[id]).env[k]?=some (some l):=by
   simp only[G.freeze,G.bo];rw[List.getElem?_set_ne (Ne.symm hk)];exact e1
  have Qj:jT (g.freeze id g.env[id]) k (.cells cs) (some l) (.cells ds) g.w:={
   obj:=Ll
   os:=rfl
   tape:=rfl
   output:=rfl
   size:=Nat.le_refl _
   block:=fun _ _ _=>rfl
   cell:=fun b off x hx _=>hx
   place:=fun l1 h1 _=>by
    simp only[Option.some.injEq]at h1;subst h1;exact .inr ⟨l,SS,trivial,rfl,Nat.le_refl _⟩
   spare:=fun m h=>by cases h
   plain:=fun _=>⟨by simp[aq.aJ],SS⟩
   gone:=by simp }
  have AH:=Le.bo dx Qj;have CK:=Good.bo dx Qj ⟨l,arr,t,rfl,e2,e3,by omega,fun j d u hd hu=>by
   have bd:=ag hd;have hc:cs[j]?=some cs[j]:=List.getElem?_eq_getElem (by omega);exact(iq j _ d hc hd g u _ hr.good hO he hle (e5 j _ u hc hu)).mono AH,dI,e6.2⟩ (fun l1 h1 _=>by
    simp only[Option.some.injEq]at h1;subst h1;exact aO e3)
  refine⟨(g.freeze id g.env[id]).bo k (some l) (.cells ds) g.w,rfl,{ le:=(hr.le.trans hle).trans AH,good:=CK,objs:=by simp[G.freeze,G.bo,hO],size:=hr.size,defers:=hr.defers,slot:=fun s y hy=>?_ }⟩;obtain⟨x,h1,h2⟩:=hs s y hy;obtain⟨u,h3,h4⟩:=hr.slot s x h1;exact⟨u,h3,(h2 g u _ hr.good hO he hle h4).mono AH⟩
theorem yc{P:Program}{kb:Nat}{c:Code}{Q:dT->St->Prop}{n:Nat}{bt:List (Nat×aa)}{O:List aq}(s:Nat){sz:Nat}{xs:List aa}{o:oV}(hs:look bt s=some (.aB sz xs o))
  (h1:xs=[]->cG P kb c Q ⟨n,cd s (.v (.slice none 0 0)) bt,O⟩) (h2:cG P kb c Q ⟨n,cd s (.aB sz xs .nn) bt,O⟩):cG P kb c Q ⟨n,bt,O⟩:=by
 intro base a g hb hr;obtain⟨u,e1,e2⟩:=hr.slot s _ hs;have key:∀y,RV g y u->Rel base ⟨n,cd s y bt,O⟩ a g:=fun y hy =>
  {le:=hr.le,good:=hr.good,objs:=hr.objs,size:=hr.size,defers:=hr.defers,slot:=fun k x hx=>by
    simp only[St.get,ig]at hx;split at hx
    ·rename_i e;subst e;simp only[Option.some.injEq]at hx;subst hx;exact⟨u,e1,hy⟩
    exact hr.slot k x hx }
 cases e2 with
 | nil ho hn=>exact h1 rfl base a g hb (key _ (.v trivial))
 | aB c7 dI dv cW hs f hm hr ho=>exact h2 base a g hb (key _ (.aB c7 dI dv cW hs f hm hr trivial))
theorem mU{P:Program}(w:World){t e:TypeId}(a:Addr)(n c:Nat)(ht:P.underlying t=some (.slice e)) :
  (binOp .neq t (.slice (some a) n c) (.slice none 0 0)).run P w=.ok (.bool true) w:=by
 have h:∀d:Nat,(Op.equalIn (d+1) t (.slice (some a) n c) (.slice none 0 0)).run P w=.ok false w:=fun d=>by
  simp[Op.equalIn,run_underlying ht]
 simp only[binOp];simp[Op.equal,Op.maxDepth,h 9999]
theorem ny{P:Program}(w:World){t e:TypeId}(n c:Nat)(ht:P.underlying t=some (.slice e)) :
  (binOp .neq t (.slice none n c) (.slice none 0 0)).run P w=.ok (.bool false) w:=by
 have h:∀d:Nat,(Op.equalIn (d+1) t (.slice none n c) (.slice none 0 0)).run P w=.ok true w:=fun d=>by
  simp[Op.equalIn,run_underlying ht]
 simp only[binOp];simp[Op.equal,Op.maxDepth,h 9999]
theorem y1{P:Program}(w:World){op:BinOp}{t e:TypeId}{u:Value}{b r:Bool}(ht:P.underlying t=some (.slice e))(hu:(∃n c,u=.slice none n c∧b=true)∨(∃a n c,u=.slice (some a) n c∧b=false))
  (hr:(op=.eql∧r=b)∨(op=.neq∧r=!b)):(binOp op t u (.slice none 0 0)).run P w=.ok (.bool r) w:=by
 rcases hu with⟨n,c,e1,e2⟩|⟨a,n,c,e1,e2⟩<;>rcases hr with⟨e3,e4⟩|⟨e3,e4⟩<;>subst e1<;>subst e2<;>subst e3<;>subst e4
 ·exact Go.Lib.run_eql_slice_nil_nil w n c ht
 ·exact ny w n c ht
 ·exact Go.Lib.run_eql_slice_some_nil w a n c ht
 exact mU w a n c ht
theorem z7{P:Program}{aP:ee}(hT:b8 P aP){o:Oper}{σ:St}{t t' e:TypeId}{x:Operand}{ti:cr}{y:aa}{b r:Bool}{op:BinOp}
  (ho:o.op=.binOp op t x (.const (.slice none 0 0)) t') (hd:∀d,o.dst=some d->d<σ.n) (ht:aP t=some ti) (aT:ti.desc=.slice e) (hx:σ.ev x=some y)
  (hy:(y=.v (.slice none 0 0)∧b=true)∨(∃sz xs,y=.aB sz xs .nn∧b=false)∨(∃id off len cap,y=.ms id off len cap∧b=false)) (hr:(op=.eql∧r=b)∨(op=.neq∧r=!b)):Cert P o σ (.v (.bool r)) .pure :=
 Cert.bW .pure (.inl rfl) hd fun a g _ h _=>by
  have hu:=bY hT ht aT;have iA:=h x (by simp[ho,Op.operands]) _ hx;refine⟨.bool r,?_,.v trivial⟩;have xz:(∃n c,a.eval x=.slice none n c∧b=true)∨(∃ad n c,a.eval x=.slice (some ad) n c∧b=false):=by
   rcases hy with⟨e1,e2⟩|⟨sz,xs,e1,e2⟩|⟨id,off,len,cap,e1,e2⟩
   ·subst e1;exact .inl ⟨_,_,iA.b6.1,e2⟩
   ·subst e1;cases hv:a.eval x with
    | slice ad len cap =>
     rw[hv]at iA;cases iA with
     | nil ho hn=>exact absurd rfl hn
     | aB c7 dI dv cW hs f hm hr ho=>exact .inr ⟨_,_,_,rfl,e2⟩
    | _=>rw[hv]at iA;cases iA
   subst e1;obtain⟨l,o1,_,_,_,_,_,iw,_,eu⟩:=iA.pV;exact .inr ⟨_,_,_,eu,e2⟩
  have bL:=y1 (P:=P) g.w hu xz hr;have Lo:∃ad n c,a.eval x=.slice ad n c:=by
   rcases xz with⟨_,_,e,_⟩|⟨_,_,_,e,_⟩
   ·exact⟨_,_,_,e⟩
   exact⟨_,_,_,e⟩
  obtain⟨ad,n,c,Lo⟩:=Lo;have hg:=cZ (P:=P) op t x (.const (.slice none 0 0)) (.slice ad n c) (.slice none 0 0) g.w (by simp) (by simp);rw[Lo]at bL;have hc:a.eval (.const (.slice none 0 0))=.slice none 0 0:=rfl;simp[execOp,ho,Lo,hc,hg,bL]
theorem Cd{P:Program}{aP:ee}(hT:b8 P aP){o:Oper}{σ:St}{t e:TypeId}{x:Operand}{ti:cr}{sz:Nat}{xs:List aa}
  (ho:o.op=.call ⟨.builtin .cap,#[x],#[t]⟩) (hd:∀d,o.dst=some d->d<σ.n) (ht:aP t=some ti) (aT:ti.desc=.slice e) (hx:σ.ev x=some (.aB sz xs .ex)):Cert P o σ (.v (.int .i64 xs.length)) .pure :=
 Cert.bW .pure (.inl rfl) hd fun a g _ h _=>by
  have hu:=bY hT ht aT;have iA:=h x (by simp[ho,Op.operands,Call.operands]) _ hx;have cW:=iA.Em;have key:∃ad,a.eval x=.slice ad xs.length xs.length:=by
   rcases iA.fH with⟨q1,q2⟩|⟨ad,cap,_,q1,_,_,_,_,_,_,_,q2⟩
   ·subst q2;exact⟨_,q1⟩
   have q3:cap=xs.length:=q2;subst q3;exact⟨_,q1⟩
  obtain⟨ad,q1⟩:=key;refine⟨.int .i64 xs.length,?_,.v ?_⟩
  ·rw[cY ho];simp[builtin,Builtin.cap_,q1,run_underlying hu,goInt]
  simp[iV,IntKind.min,IntKind.max,IntKind.bits,IntKind.signed];omega
theorem pe{P:Program}{o:Oper}{σ:St}{x:Operand}{y:aa}(ho:o.op=.nilCheck x)(hd:∀d,o.dst=some d->d<σ.n)(hx:σ.ev x=some y)
  (hy:(∃id off,y=.mp id off)∨∃oa cs,y=.ip oa cs):Cert P o σ y .pure :=
 Cert.bW .pure (.inl rfl) hd fun a g _ h _=>by
  have iA:=h x (by simp[ho,Op.operands]) _ hx;have key:∃ad,a.eval x=.pointer (some ad):=by
   rcases hy with⟨id,off,e⟩|⟨oa,cs,e⟩
   ·subst e;obtain⟨l,o1,_,_,_,eu⟩:=iA.jG;exact⟨_,eu⟩
   subst e;obtain⟨b,off,f,eu,_⟩:=iA.nV;exact⟨_,eu⟩
  obtain⟨ad,e⟩:=key;exact⟨a.eval x,by simp[execOp,ho,e],iA⟩
theorem s6{P:Program}{aP:ee}(hT:b8 P aP){o:Oper}{σ:St}{t e:TypeId}{x:Operand}{ti te:cr}{sz:Nat}{xs:List aa}{ow:oV}{lo hi:Option Operand}
  (ho:o.op=.slice t x lo hi none) (hd:∀d,o.dst=some d->d<σ.n) (ht:aP t=some ti) (aT:ti.desc=.slice e) (he:aP e=some te) (hx:σ.ev x=some (.aB sz xs ow))
  (gy:nK σ lo 0 0) (o7:nK σ hi xs.length xs.length):Cert P o σ (.aB sz xs ow) .pure :=
 Cert.bW .pure (.inl rfl) hd fun a g _ hh _=>by
  have hu:=bY hT ht aT;have iA:=hh x (by cases lo<;>cases hi<;>simp[ho,Op.operands]) _ hx;have hl:(lo=none)∨∃q k,lo=some q∧a.eval q=.int k (0:Int):=by
   rcases gy with q|⟨q,k,e1,e2⟩
   ·exact .inl q.1
   exact .inr ⟨q,k,e1,(hh q (by subst e1;cases hi<;>simp[ho,Op.operands]) _ e2).b6.1⟩
  have jt:(hi=none)∨∃q k,hi=some q∧a.eval q=.int k (xs.length:Int):=by
   rcases o7 with q|⟨q,k,e1,e2⟩
   ·exact .inl q.1
   exact .inr ⟨q,k,e1,(hh q (by subst e1;cases lo<;>simp[ho,Op.operands]) _ e2).b6.1⟩
  have dh:execOp a.eval o=(do pure (.value (<-Instr.sliceAt t (a.eval x) (lo.map a.eval) (hi.map a.eval) none))):=by
   simp[execOp,ho]
  clear gy o7 ho;have bounds:∀cap:Nat,xs.length<=cap->(Instr.sliceBounds true xs.length cap (lo.map a.eval) (hi.map a.eval) none).run P g.w=.ok (0,xs.length,cap) g.w:=by
   intro cap dv;rcases hl with e1|⟨p,k,e1,hk⟩
   ·rcases jt with e3|⟨q,k',e3,nD⟩
    ·subst e1 e3;simp[Instr.sliceBounds]
    subst e1 e3;have:=run_sliceBound (P:=P) k' xs.length cap .sliceAcap g.w (by omega) (by omega);simp[Instr.sliceBounds,nD,this]
   rcases jt with e3|⟨q,k',e3,nD⟩
   ·subst e1 e3;have:=run_sliceBound (P:=P) k 0 xs.length .sliceB g.w (by omega) (by omega);simp[Instr.sliceBounds,hk,this]
   subst e1 e3;have e1:=run_sliceBound (P:=P) k' xs.length cap .sliceAcap g.w (by omega) (by omega);have e2:=run_sliceBound (P:=P) k 0 xs.length .sliceB g.w (by omega) (by omega);simp[Instr.sliceBounds,hk,nD,e1,e2]
  have eG:=(hT e te he).sizeOf g.w;refine⟨a.eval x,?_,iA⟩;rw[dh];rcases iA.fH with⟨q1,q2⟩|⟨ad,cap,f,q1,qO,dI,dv,cW,hs,hm,hr,_⟩
  ·subst q2;have b:=bounds 0 (by simp);simp only[List.length_nil]at b;simp[Instr.sliceAt,run_underlying hu,Instr.slice,q1,eG,b]
  have b:=bounds cap dv;by_cases Wu:cap=0
  ·subst Wu;simp[Instr.sliceAt,run_underlying hu,Instr.slice,q1,eG,b,Addr.add]
  simp[Instr.sliceAt,run_underlying hu,Instr.slice,q1,eG,b,Wu,Addr.add]
theorem wD{P:Program}{aP:ee}(hT:b8 P aP){o:Oper}{σ:St}{t e:TypeId}{x:Operand}{ti te:cr}{id off len cap:Nat}{lo hi:Option Operand}{l h:Nat}
  (ho:o.op=.slice t x lo hi none) (hd:∀d,o.dst=some d->d<σ.n) (ht:aP t=some ti) (aT:ti.desc=.slice e) (he:aP e=some te) (hx:σ.ev x=some (.ms id off len cap))
  (gy:nK σ lo 0 l) (o7:nK σ hi len h) (h1:l<=h) (h2:h<=cap) (h3:l<cap) (Ok:h<=2 ^ 62):Cert P o σ (.ms id (off+l*te.size) (h-l) (cap-l)) .pure :=
 Cert.bW .pure (.inl rfl) hd fun a g _ hh _=>by
  have hu:=bY hT ht aT;have iA:=hh x (by cases lo<;>cases hi<;>simp[ho,Op.operands]) _ hx;have hl:(lo=none∧l=0)∨∃q k,lo=some q∧a.eval q=.int k (l:Int):=by
   rcases gy with q|⟨q,k,e1,e2⟩
   ·exact .inl q
   exact .inr ⟨q,k,e1,(hh q (by subst e1;cases hi<;>simp[ho,Op.operands]) _ e2).b6.1⟩
  have jt:(hi=none∧h=len)∨∃q k,hi=some q∧a.eval q=.int k (h:Int):=by
   rcases o7 with q|⟨q,k,e1,e2⟩
   ·exact .inl q
   exact .inr ⟨q,k,e1,(hh q (by subst e1;cases lo<;>simp[ho,Op.operands]) _ e2).b6.1⟩
  have dh:execOp a.eval o=(do pure (.value (<-Instr.sliceAt t (a.eval x) (lo.map a.eval) (hi.map a.eval) none))):=by
   simp[execOp,ho]
  clear gy o7 ho;obtain⟨lc,o1,q1,q2,q3,Oy,cW,iw,dv,eu⟩:=iA.pV;have bounds:(Instr.sliceBounds true len iw (lo.map a.eval) (hi.map a.eval) none).run P g.w=.ok (l,h,iw) g.w:=by
   rcases hl with⟨e1,e2⟩|⟨p,k,e1,hk⟩
   ·rcases jt with⟨e3,e4⟩|⟨q,k',e3,nD⟩
    ·subst e1 e2 e3 e4;simp[Instr.sliceBounds]
    subst e1 e2 e3;have:=run_sliceBound (P:=P) k' h iw .sliceAcap g.w (by omega) (by omega);simp[Instr.sliceBounds,nD,this]
   rcases jt with⟨e3,e4⟩|⟨q,k',e3,nD⟩
   ·subst e1 e3 e4;have:=run_sliceBound (P:=P) k l h .sliceB g.w (by omega) (by omega);simp[Instr.sliceBounds,hk,this]
   subst e1 e3;have e1:=run_sliceBound (P:=P) k' h iw .sliceAcap g.w (by omega) (by omega);have e2:=run_sliceBound (P:=P) k l h .sliceB g.w (by omega) (by omega);simp[Instr.sliceBounds,hk,nD,e1,e2]
  have eG:=(hT e te he).sizeOf g.w;refine⟨.slice (some ((⟨lc.block,off,none⟩:Addr).add (l*te.size))) (h-l) (iw-l),?_,?_⟩
  ·rw[dh];simp[Instr.sliceAt,run_underlying hu,Instr.slice,eu,bounds,eG,show iw≠l by omega]
  rw[addr_add];exact .ms q1 q2 q3 (by omega) (by omega) (by omega)
theorem uy{P:Program}{aP:ee}(hT:b8 P aP){o:Oper}{σ:St}{t e:TypeId}{x:Operand}{ti te:cr}{id sz len:Nat}{lo hi:Option Operand} 
  (ho:o.op=.slice t x lo hi none) (hd:∀d,o.dst=some d->d<σ.n) (ht:aP t=some ti) (aT:ti.desc=.slice e) (he:aP e=some te) (hx:σ.ev x=some (.raw sz len id))
  (gy:nK σ lo 0 0) (o7:nK σ hi len 0) (h3:0<len):Cert P o σ (.aB sz [] (.tok id)) .pure :=
 Cert.bW .pure (.inl rfl) hd fun a g _ hh _=>by
  have hu:=bY hT ht aT;have iA:=hh x (by cases lo<;>cases hi<;>simp[ho,Op.operands]) _ hx;have hl:(lo=none∧(0:Nat)=0)∨∃q k,lo=some q∧a.eval q=.int k ((0:Nat):Int):=by
   rcases gy with q|⟨q,k,e1,e2⟩
   ·exact .inl q
   exact .inr ⟨q,k,e1,(hh q (by subst e1;cases hi<;>simp[ho,Op.operands]) _ e2).b6.1⟩
  have jt:(hi=none∧(0:Nat)=len)∨∃q k,hi=some q∧a.eval q=.int k ((0:Nat):Int):=by
   rcases o7 with q|⟨q,k,e1,e2⟩
   ·exact .inl q
   exact .inr ⟨q,k,e1,(hh q (by subst e1;cases lo<;>simp[ho,Op.operands]) _ e2).b6.1⟩
  have dh:execOp a.eval o=(do pure (.value (<-Instr.sliceAt t (a.eval x) (lo.map a.eval) (hi.map a.eval) none))):=by
   simp[execOp,ho]
  clear gy o7 ho;obtain⟨ad,iw,eu,dv,P9⟩:=iA.LF;have bounds:(Instr.sliceBounds true len iw (lo.map a.eval) (hi.map a.eval) none).run P g.w=.ok (0,0,iw) g.w:=by
   rcases hl with⟨e1,e2⟩|⟨p,k,e1,hk⟩
   ·rcases jt with⟨e3,e4⟩|⟨q,k',e3,nD⟩
    ·omega
    subst e1 e3;have:=run_sliceBound (P:=P) k' 0 iw .sliceAcap g.w (by omega) (by omega);simp[Instr.sliceBounds,nD,this]
   rcases jt with⟨e3,e4⟩|⟨q,k',e3,nD⟩
   ·omega
   subst e1 e3;have e1:=run_sliceBound (P:=P) k' 0 iw .sliceAcap g.w (by omega) (by omega);have e2:=run_sliceBound (P:=P) k 0 0 .sliceB g.w (by omega) (by omega);simp[Instr.sliceBounds,hk,nD,e1,e2]
  have eG:=(hT e te he).sizeOf g.w;refine⟨.slice (some (ad.add (0*te.size))) (0-0) (iw-0),?_,?_⟩
  ·rw[dh];simp[Instr.sliceAt,run_underlying hu,Instr.slice,eu,bounds,eG,show iw≠0 by omega]
  rw[Nat.zero_mul,show ad.add 0=ad by cases ad;rfl];exact .aB (xs:=[]) (by simp) (by simp) (Nat.zero_le _) (Nat.zero_le _) (by simp) (fun _=>undef) (by simp[aw]) (by simp[aw]) P9
theorem sS{P:Program}{aP:ee}(hT:b8 P aP){o:Oper}{σ:St}{t e:TypeId}{x y:Operand}{ti te:cr}{sz:Nat}{xs ys:List aa}{ow:oV}
  (ho:o.op=.call ⟨.builtin .append,#[x,y],#[t,t]⟩) (hd:∀d,o.dst=some d->d<σ.n) (ht:aP t=some ti) (aT:ti.desc=.slice e) (he:aP e=some te) (c7:te.size=sz) (hx:σ.ev x=some (.aB sz xs .ex)) (hy:σ.ev y=some (.aB sz ys ow))
  (hn:ys.length≠0) (hlen:xs.length+ys.length<=2 ^ 62) (hb:(xs.length+ys.length)*te.bytes<=2 ^ 47) :
  Cert P o σ (.ms σ.objs.length 0 (xs.length+ys.length) (xs.length+ys.length)) (.write (σ.objs++[.cells (aw (xs++ys.map aa.share))])) :=
 Cert.gG hd fun base fL a g bV h gW=>by
  have hO:g.objs=σ.objs:=gW.resolve_left (by simp);have hg:=bV.good;have hu:=bY hT ht aT;subst c7;have iA:=h x (by simp[ho,Op.operands,Call.operands]) _ hx;have BN:=h y (by simp[ho,Op.operands,Call.operands]) _ hy;obtain⟨BL,lM,iB,ex,H0,Ec,Lq,H3,Lr,Ed⟩:=iA.gv (P:=P);obtain⟨Sj,GP,news,ey,AR,AS,AT,Gy,Ef,tC⟩:=BN.gv (P:=P);obtain⟨⟨i,z,h1,h2,h3,h4,h5,h6,h7,h8,h9⟩,_⟩:=hT e te he;have qM:lM=xs.length:=by
   rcases iA.fH with⟨q1,q2⟩|⟨ad,cap,f,q1,_,_,_,_,_,_,_,q2⟩
   ·rw[ex]at q1;cases q2;simp at q1;simp[q1]
   rw[ex]at q1;simp only[Value.slice.injEq]at q1;rw[q1.2.2];exact q2
  subst qM;have dh:=cY (P:=P) ho a g.w;simp only[builtin,List.map_toArray,List.map_cons,List.map_nil]at dh;have bL:=gP (P:=P) g.w t o.type e i z hu h1 h4 BL xs.length xs.length ys.length (a.eval y) iB news AR (by rw[h2];exact AS g.w.drew rfl) (by rw[h2,<-ex];exact Ec g.w.drew rfl) (by omega) hlen (by rw[h3];exact hb);rw[<-ex]at bL;obtain⟨cap,dv⟩:∃cap,cap=grownCap g.w (xs.length+ys.length) xs.length e:=⟨_,rfl⟩
  obtain⟨rest,gq⟩:∃rest,rest=Builtin.zeroCells z.cells (cap-(xs.length+ys.length)):=⟨_,rfl⟩
  have qj:=grownCap_ge g.w (xs.length+ys.length) xs.length e;rw[<-dv]at bL qj;rw[<-gq]at bL;obtain⟨arr,fP⟩:∃arr,arr=iB.toArray++news.toArray++rest:=⟨_,rfl⟩
  rw[<-fP]at bL;have mB:=hg.heap (w':=g.w.drew) rfl rfl rfl rfl;have nR:=Le.heap (g:=g) (w':=g.w.drew) rfl rfl rfl rfl;obtain⟨g1,k8⟩:∃g1:G,g1=⟨g.w.drew,g.fr,g.env,g.objs⟩:=⟨_,rfl⟩
  rw[<-k8]at mB nR;have lD:g1.w=g.w.drew:=by rw[k8]
  have qk:g1.objs=σ.objs:=by rw[k8];exact hO
  have kd:=Lq.append AT.jI;rw[<-dd]at kd;have kB:(aw (xs++ys.map aa.share)).length=(xs.length+ys.length)*te.size:=by
   rw[cj (sz:=te.size) (fun x hx=>by
    rcases List.mem_append.1 hx with q|q
    ·exact H3 x q
    exact dV Gy x q)]
   simp
  have wI:(aw (xs++ys.map aa.share)).length<=arr.size:=by
   rw[kB,fP];simp only[Array.size_append,List.size_toArray,Ed,tC,<-Nat.add_mul];omega
  have hle:=nR.trans (Le.alloc mB (.cells arr e) 0 (.cells (aw (xs++ys.map aa.share))));have ia:Fits (g1.alloc (.cells arr e) 0 (.cells (aw (xs++ys.map aa.share)))) (.cells arr e) (.cells (aw (xs++ys.map aa.share))):=by
   refine⟨arr,e,rfl,wI,fun j c u hj hu=>?_,fun c hc=>?_⟩
   ·have bd:=ag hj;rw[kB]at bd;rw[fP]at hu;have wQ:=eJ hu (by simp only[List.size_toArray,Ed,tC,<-Nat.add_mul];exact bd);exact(kd.2 j c u hj (by simpa using wQ)).mono hle
   rw[dd]at hc;rcases List.mem_append.1 hc with q|q
   ·exact Lr c q
   exact dG Ef c q
  have dx:=Good.alloc mB (.cells arr e) 0 (.cells (aw (xs++ys.map aa.share))) (.inr rfl) ia;refine⟨.slice (some ⟨g.w.heap.size,0,none⟩) (xs.length+ys.length) cap,_,.inl ?_,hle,dx,?_,?_⟩
  ·rw[dh];simp[bL,G.alloc,lD]
  ·simp[G.alloc,qk,Mode.post]
  rw[<-qk];have e1:(g.w.heap.size)=g1.w.heap.size:=by rw[lD];rfl
  rw[e1];exact .ms (l:=⟨g1.w.heap.size,0,_⟩) (gZ mB) eS (by simp[aq.aJ]) (Nat.le_refl _) qj hlen
theorem np{P:Program}(w:World)(t t' ty e:TypeId)(i:TypeInfo)(z:Value)(ht:P.underlying t=some (.slice e))(yG:P.underlying t'=some (.int .i64))(hi:P.info? e=some i)(hz:i.zero=some z)(s:Option Addr)(n:Nat)
  (hs:(Builtin.firstCells i.size 0 (.slice s 0 0)).run P w.drew=.ok #[] w.drew) (hn:0<n) (E9:n<=2 ^ 62) (fU:n*i.bytes<=2 ^ 47) (c7:0<i.size) :
  (Builtin.append_ #[t,t'] ty #[.slice s 0 0,.int .i64 n]).run P w =
   .ok (.slice (some ⟨w.heap.size,0,none⟩) n (grownCap w n 0 e)) (w.drew.alloc (.cells (Builtin.zeroCells z.cells n++Builtin.zeroCells z.cells (grownCap w n 0 e-n)) e)):=by
 have hw:IntKind.i64.wrap (n:Int)=n:=nc .i64 n (by simp[IntKind.min,IntKind.bits,IntKind.signed]<;>omega) (by simp[IntKind.max,IntKind.bits,IntKind.signed]<;>omega);have h0:¬((n:Int)<0):=by omega
 have Wh:¬((2:Int) ^ 48<(n:Int)*(i.bytes:Int)):=by
  rw[<-Int.natCast_mul];omega
 have Uq:¬(n<=0):=by omega
 have da:¬(n*i.size=0):=by
  have:=Nat.mul_pos hn c7;omega
 have h1:¬(9223372036854775807<(n:Int)):=by omega
 have dv:Builtin.nextslicecap n 0=n:=by
  unfold Builtin.nextslicecap;rw[if_pos (by omega)]
 have ha:∀w:World,(asInt (.int .i64 (n:Int))).run P w=.ok (n:Int) w:=fun _=>rfl;have UK:¬(281474976710656<(n:Int)*(i.bytes:Int)):=by
  rw[<-Int.natCast_mul];omega
 have Ss:¬(281474976710656<n*i.bytes):=by omega
 have vW:¬(n=0):=by omega
 simp[Builtin.append_,run_underlying ht,run_underlying yG,Go.sizeOf,typeInfo,hi,ha,hw,vW,UK,Ss,dv,Question.forced,hs,Go.zeroValue,hz,Go.newRow,grownCap,h1];rw[if_neg h0,if_neg da]
theorem rD{P:Program}{aP:ee}(hT:b8 P aP){o:Oper}{σ:St}{t t' e:TypeId}{x y:Operand}{ti te:cr}{sz:Nat}{n:Int}
  (ho:o.op=.call ⟨.builtin .append,#[x,y],#[t,t']⟩) (hd:∀d,o.dst=some d->d<σ.n) (ht:aP t=some ti) (aT:ti.desc=.slice e) (he:aP e=some te) (yG:P.underlying t'=some (.int .i64)) (hx:σ.ev x=some (.aB sz [] .ex)) (hy:σ.ev y=some (.v (.int .i64 n)))
  (hn:0<n) (hlen:n.toNat<=2 ^ 62) (hb:n.toNat*te.bytes<=2 ^ 47) (c7:0<te.size) :
  Cert P o σ (.ms σ.objs.length 0 n.toNat n.toNat) (.write (σ.objs++[.cells (List.replicate n.toNat te.zero).flatten])) :=
 Cert.gG hd fun base fL a g bV h gW=>by
  have hO:g.objs=σ.objs:=gW.resolve_left (by simp);have hg:=bV.good;have hu:=bY hT ht aT;have iA:=h x (by simp[ho,Op.operands,Call.operands]) _ hx;have ey:=(h y (by simp[ho,Op.operands,Call.operands]) _ hy).b6.1;obtain⟨BL,lM,iB,ex,H0,Ec,Lq,H3,Lr,Ed⟩:=iA.gv (P:=P);obtain⟨⟨i,z,h1,h2,h3,h4,h5,h6,h7,h8,h9⟩,_⟩:=hT e te he;obtain⟨m,rfl⟩:=Int.eq_ofNat_of_zero_le (show 0<=n by omega);simp only[Int.toNat_natCast]at *;have qM:lM=0:=by
   rcases iA.fH with⟨q1,q2⟩|⟨ad,cap,f,q1,_,_,_,_,_,_,_,q2⟩
   ·rw[ex]at q1;simp at q1;exact q1.2
   rw[ex]at q1;simp only[Value.slice.injEq]at q1;rw[q1.2.2];exact q2
  subst qM;simp only[List.length_nil]at ex;have dh:=cY (P:=P) ho a g.w;simp only[builtin,List.map_toArray,List.map_cons,List.map_nil]at dh;have bL:=np (P:=P) g.w t t' o.type e i z hu yG h1 h4 BL m (by cases BL<;>simp[Builtin.firstCells,loadCells,loadCellsFrom]) (by omega) hlen (by rw[h3];exact hb) (by omega);rw[<-ex]at bL;obtain⟨cap,dv⟩:∃cap,cap=grownCap g.w m 0 e:=⟨_,rfl⟩
  have qj:=grownCap_ge g.w m 0 e;rw[<-dv]at bL qj;obtain⟨rest,gq⟩:∃rest,rest=Builtin.zeroCells z.cells (cap-m):=⟨_,rfl⟩
  rw[<-gq]at bL;obtain⟨arr,fP⟩:∃arr,arr=Builtin.zeroCells z.cells m++rest:=⟨_,rfl⟩
  rw[<-fP]at bL;have mB:=hg.heap (w':=g.w.drew) rfl rfl rfl rfl;have nR:=Le.heap (g:=g) (w':=g.w.drew) rfl rfl rfl rfl;obtain⟨g1,k8⟩:∃g1:G,g1=⟨g.w.drew,g.fr,g.env,g.objs⟩:=⟨_,rfl⟩
  rw[<-k8]at mB nR;have lD:g1.w=g.w.drew:=by rw[k8]
  have qk:g1.objs=σ.objs:=by rw[k8];exact hO
  have uQ:(List.replicate m te.zero).flatten.length=m*te.size:=by simp[h6]
  have eo:∀(j:Nat) (c:aa),(List.replicate m te.zero).flatten[j]?=some c->te.zero[j % te.size]?=some c:=fun j c=>h6 ▸ oN te.zero (by omega) m j c;have hle:=nR.trans (Le.alloc mB (.cells arr e) 0 (.cells (List.replicate m te.zero).flatten));have yH:(Builtin.zeroCells z.cells m).size=m*te.size:=by rw[size_zeroCells,h5,h6]
  have ia:Fits (g1.alloc (.cells arr e) 0 (.cells (List.replicate m te.zero).flatten)) (.cells arr e) (.cells (List.replicate m te.zero).flatten):=by
   refine⟨arr,e,rfl,by rw[uQ,fP,Array.size_append,yH];omega,fun j c u hj hu=>?_,fun c hc=>?_⟩
   ·have jo:=eo j c hj;have bd:=ag hj;rw[uQ]at bd;rw[fP,Array.getElem?_append,if_pos (by rw[yH];exact bd)]at hu;have kg:j % te.size<z.cells.size:=by rw[h5];exact ag jo
    refine h8 _ _ _ _ jo ?_;simp only[Builtin.zeroCells,Array.getElem?_map,h5,h6,Array.getElem?_range,if_pos bd,Option.map_some,Option.some.injEq]at hu;subst hu;simp[kg]
   rw[List.mem_flatten]at hc;obtain⟨l,hl,hc⟩:=hc;rw[List.mem_replicate]at hl;exact h9 c (hl.2 ▸ hc)
  have dx:=Good.alloc mB (.cells arr e) 0 (.cells (List.replicate m te.zero).flatten) (.inr rfl) ia;refine⟨.slice (some ⟨g.w.heap.size,0,none⟩) m cap,_,.inl ?_,hle,dx,?_,?_⟩
  ·rw[dh,ey];simp[bL,G.alloc,lD]
  ·simp[G.alloc,qk,Mode.post]
  rw[<-qk];have e1:(g.w.heap.size)=g1.w.heap.size:=by rw[lD];rfl
  rw[e1];exact .ms (l:=⟨g1.w.heap.size,0,_⟩) (gZ mB) eS (by simp[aq.aJ]) (Nat.le_refl _) (by omega) hlen
theorem sT{P:Program}{aP:ee}(hT:b8 P aP){o:Oper}{σ:St}{t t' e:TypeId}{x y:Operand}{ti te:cr}{sz:Nat}{n:Int}
  (ho:o.op=.call ⟨.builtin .append,#[x,y],#[t,t']⟩) (hd:∀d,o.dst=some d->d<σ.n) (ht:aP t=some ti) (aT:ti.desc=.slice e) (he:aP e=some te) (yG:P.underlying t'=some (.int .i64)) (hx:σ.ev x=some (.aB sz [] .ex)) (hy:σ.ev y=some (.v (.int .i64 n)))
  (hn:0<n) (hlen:n.toNat<=2 ^ 62) (hb:n.toNat*te.bytes<=2 ^ 47) (c7:0<te.size) :
  Cert P o σ (.raw te.size n.toNat σ.objs.length) (.write (σ.objs++[.spare 0])) :=
 Cert.gG hd fun base fL a g bV h gW=>by
  have hO:g.objs=σ.objs:=gW.resolve_left (by simp);have hg:=bV.good;have hu:=bY hT ht aT;have iA:=h x (by simp[ho,Op.operands,Call.operands]) _ hx;have ey:=(h y (by simp[ho,Op.operands,Call.operands]) _ hy).b6.1;obtain⟨BL,lM,iB,ex,H0,Ec,Lq,H3,Lr,Ed⟩:=iA.gv (P:=P);obtain⟨⟨i,z,h1,h2,h3,h4,h5,h6,h7,h8,h9⟩,_⟩:=hT e te he;obtain⟨m,rfl⟩:=Int.eq_ofNat_of_zero_le (show 0<=n by omega);simp only[Int.toNat_natCast]at *;have qM:lM=0:=by
   rcases iA.fH with⟨q1,q2⟩|⟨ad,cap,f,q1,_,_,_,_,_,_,_,q2⟩
   ·rw[ex]at q1;simp at q1;exact q1.2
   rw[ex]at q1;simp only[Value.slice.injEq]at q1;rw[q1.2.2];exact q2
  subst qM;simp only[List.length_nil]at ex;have dh:=cY (P:=P) ho a g.w;simp only[builtin,List.map_toArray,List.map_cons,List.map_nil]at dh;have bL:=np (P:=P) g.w t t' o.type e i z hu yG h1 h4 BL m (by cases BL<;>simp[Builtin.firstCells,loadCells,loadCellsFrom]) (by omega) hlen (by rw[h3];exact hb) (by omega);rw[<-ex]at bL;obtain⟨cap,dv⟩:∃cap,cap=grownCap g.w m 0 e:=⟨_,rfl⟩
  have qj:=grownCap_ge g.w m 0 e;rw[<-dv]at bL qj;obtain⟨rest,gq⟩:∃rest,rest=Builtin.zeroCells z.cells (cap-m):=⟨_,rfl⟩
  rw[<-gq]at bL;obtain⟨arr,fP⟩:∃arr,arr=Builtin.zeroCells z.cells m++rest:=⟨_,rfl⟩
  rw[<-fP]at bL;have mB:=hg.heap (w':=g.w.drew) rfl rfl rfl rfl;have nR:=Le.heap (g:=g) (w':=g.w.drew) rfl rfl rfl rfl;obtain⟨g1,k8⟩:∃g1:G,g1=⟨g.w.drew,g.fr,g.env,g.objs⟩:=⟨_,rfl⟩
  rw[<-k8]at mB nR;have lD:g1.w=g.w.drew:=by rw[k8]
  have qk:g1.objs=σ.objs:=by rw[k8];exact hO
  have hle:=nR.trans (Le.alloc mB (.cells arr e) 0 (.spare 0));have yH:(Builtin.zeroCells z.cells m).size=m*te.size:=by rw[size_zeroCells,h5,h6]
  have dx:=Good.alloc mB (.cells arr e) 0 (.spare 0) (.inr rfl) ⟨arr,e,rfl⟩;have xy:rest.size=(cap-m)*te.size:=by rw[gq,size_zeroCells,h5,h6]
  refine⟨.slice (some ⟨g.w.heap.size,0,none⟩) m cap,_,.inl ?_,hle,dx,?_,?_⟩
  ·rw[dh,ey];simp[bL,G.alloc,lD]
  ·simp[G.alloc,qk,Mode.post]
  rw[<-qk];have e1:(g.w.heap.size)=g1.w.heap.size:=by rw[lD];rfl
  rw[e1];refine .raw (by omega) ⟨by simp[G.alloc],fun m' eN=>?_⟩;have yF:(g1.alloc (.cells arr e) 0 (.spare 0)).objs[g1.objs.length]?=some (.spare 0):=eS;rw[yF]at eN;simp only[Option.some.injEq,aq.spare.injEq]at eN;subst eN;refine⟨Nat.le_refl _,fun _=>.inr ⟨⟨g1.w.heap.size,0,_⟩,arr,e,gZ mB,rfl,by simp,cD _ _,?_⟩⟩;rw[fP,Array.size_append,yH,xy,<-Nat.add_mul];exact Nat.mul_le_mul_right _ (by omega)
theorem um{P:Program}{aP:ee}(hT:b8 P aP){o:Oper}{σ:St}{t e:TypeId}{x y:Operand}{ti te:cr}{id off len cap sz:Nat}{cs ys:List aa}{ow:oV}
  (ho:o.op=.call ⟨.builtin .append,#[x,y],#[t,t]⟩) (hd:∀d,o.dst=some d->d<σ.n) (ht:aP t=some ti) (aT:ti.desc=.slice e) (he:aP e=some te) (c7:te.size=sz) (hx:σ.ev x=some (.ms id off len cap)) (lC:σ.objs[id]?=some (.cells cs)) (hy:σ.ev y=some (.aB sz ys ow))
  (kr:len+ys.length<=cap) (Ok:len+ys.length<=2 ^ 62) (Ov:off+(len+ys.length)*sz<=cs.length) :
  Cert P o σ (.ms id off (len+ys.length) cap) (.write (σ.objs.set id (.cells (bz cs (off+len*sz) (aw (ys.map aa.share)))))) :=
 Cert.gG hd fun base fL a g bV h gW=>by
  have hO:g.objs=σ.objs:=gW.resolve_left (by simp);have hg:=bV.good;have hu:=bY hT ht aT;subst c7;have iA:=h x (by simp[ho,Op.operands,Call.operands]) _ hx;have BN:=h y (by simp[ho,Op.operands,Call.operands]) _ hy;obtain⟨l,o1,q1,q2,q3,Oy,cW,iw,dv,eu⟩:=iA.pV;obtain⟨Sj,GP,news,ey,AR,AS,AT,Gy,Ef,tC⟩:=BN.gv (P:=P);obtain⟨⟨i,z,h1,h2,h3,h4,h5,h6,h7,h8,h9⟩,_⟩:=hT e te he;have jh:g.objs[id]?=some (.cells cs):=by rw[hO];exact lC
  obtain⟨arr,t',gy,di,hlen,iq,o4,Li⟩:=hg.row jh q1;have dh:=cY (P:=P) ho a g.w;simp only[builtin,List.map_toArray,List.map_cons,List.map_nil]at dh;obtain⟨b7,iX⟩:∃b7,b7=(arr.toList.take (off+len*te.size)++news++arr.toList.drop (off+len*te.size+news.length)).toArray:=⟨_,rfl⟩
  have hmul:off+(len+ys.length)*te.size=off+len*te.size+ys.length*te.size:=by rw[Nat.add_mul];omega
  have dD:=run_storeCells_at P l.block (off+len*te.size) t' news 0 arr g.w di (by rw[tC];omega) (fun u hu=>by
   obtain⟨j,hj⟩:=List.getElem?_of_mem hu;have bd:=ag hj;have c7:=AT.1;simp only[List.size_toArray]at c7;rw[c7]at bd;have hc:=List.getElem?_eq_getElem bd;exact((AT.2 j _ u hc (by simpa using hj)).iZ (Ef _ (List.mem_of_getElem? hc))).1)
  simp only[Nat.add_zero]at dD;rw[<-iX]at dD;have bL:=iN (P:=P) g.w (g.w.setRow l.block b7) t o.type e i hu h1 ⟨l.block,off,none⟩ len iw ys.length (a.eval y) news AR (by rw[h2];exact AS g.w rfl) (by omega) (by rw[addr_add,h2];exact dD);rw[<-eu]at bL;have eH:=lH (cs':=bz cs (off+len*te.size) (aw (ys.map aa.share))) jh q1 gy b7;have hle:=Le.bo hg eH;have lT:=AT.jI;have kB:(aw (ys.map aa.share)).length=ys.length*te.size:=by
   rw[cj (dV Gy)];simp
  have sB:=jq.bz ⟨hlen,iq⟩ lT (off:=off+len*te.size) (by rw[kB];omega);simp only at sB;rw[<-iX]at sB;refine⟨.slice (some ⟨l.block,off,none⟩) (len+ys.length) iw,g.bo id (some l) (.cells (bz cs (off+len*te.size) (aw (ys.map aa.share)))) (g.w.setRow l.block b7),.inl ?_,hle,Good.bo hg eH ?_ ?_,?_,?_⟩
  ·rw[dh];simp[bL,G.bo]
  ·refine⟨l,b7,t',rfl,gy,?_,sB.1,fun j c u a b=>(sB.2 j c u a b).mono hle,fun c hc=>?_,?_⟩
   ·exact setRow_heap g.w l.block arr b7 t' (0,0) di
   ·simp only[bz,List.mem_append]at hc;rcases hc with hc|hc|hc
    ·exact o4 c (List.mem_of_mem_take hc)
    ·exact dG Ef c hc
    exact o4 c (List.mem_of_mem_drop hc)
   have q:=tC;have q2:=hmul;rw[iX];simp only[List.size_toArray,List.length_append,List.length_take,List.length_drop,Array.length_toList];omega
  ·intro l1 h1 _;simp only[Option.some.injEq]at h1;subst h1;rw[setRow_size];exact aO di
  ·simp only[G.bo,Mode.post,hO]
  have bd:id<g.objs.length:=ag jh;have HL:=iU hg jh;refine .ms (l:=l) (o:=.cells (bz cs (off+len*te.size) (aw (ys.map aa.share)))) ?_ ?_ (by simp[aq.aJ]) kr dv Ok
  ·simp only[G.bo];rw[List.getElem?_set_self HL]
  simp only[G.bo];rw[List.getElem?_set_self bd]
theorem wq{P:Program}{aP:ee}(hT:b8 P aP){o:Oper}{σ:St}{t e:TypeId}{x:Operand}{ti te:cr}{id off len cap:Nat}{cs:List aa}
  (ho:o.op=.call ⟨.builtin .clear,#[x],#[t]⟩) (hd:o.dst=none) (ht:aP t=some ti) (aT:ti.desc=.slice e) (he:aP e=some te) (hx:σ.ev x=some (.ms id off len cap)) (lC:σ.objs[id]?=some (.cells cs))
  (pQ:0<len) (hz:0<te.size) (Ov:off+len*te.size<=cs.length) :
  Cert P o σ (.cN []) (.write (σ.objs.set id (.cells (bz cs off (List.replicate len te.zero).flatten)))) :=
 Cert.gG (by simp[hd]) fun base fL a g bV h gW=>by
  have hO:g.objs=σ.objs:=gW.resolve_left (by simp);have hg:=bV.good;have hu:=bY hT ht aT;have iA:=h x (by simp[ho,Op.operands,Call.operands]) _ hx;obtain⟨l,o1,q1,q2,q3,Oy,cW,iw,dv,eu⟩:=iA.pV;obtain⟨⟨i,z,h1,h2,h3,h4,h5,h6,h7,h8,h9⟩,_⟩:=hT e te he;have jh:g.objs[id]?=some (.cells cs):=by rw[hO];exact lC
  obtain⟨arr,t',gy,di,hlen,iq,o4,Li⟩:=hg.row jh q1;have dh:=cY (P:=P) ho a g.w;simp only[builtin,List.map_toArray,List.map_cons,List.map_nil]at dh;have yH:(Builtin.zeroCells z.cells len).size=len*te.size:=by rw[size_zeroCells,h5,h6]
  have uQ:(List.replicate len te.zero).flatten.length=len*te.size:=by simp[h6]
  have eo:∀(j:Nat) (c:aa),(List.replicate len te.zero).flatten[j]?=some c->te.zero[j % te.size]?=some c:=fun j c=>h6 ▸ oN te.zero (by omega) len j c;have vZ:jq g (List.replicate len te.zero).flatten (Builtin.zeroCells z.cells len):=⟨by rw[yH,uQ],fun j c u hj hu=>by
   have jo:=eo j c hj;have bd:=ag hj;rw[uQ]at bd;have kg:j % te.size<z.cells.size:=by rw[h5];exact ag jo
   refine h8 _ _ _ _ jo ?_;simp only[Builtin.zeroCells,Array.getElem?_map,h5,h6,Array.getElem?_range,if_pos bd,Option.map_some,Option.some.injEq]at hu;subst hu;simp[kg]⟩
  have H5:∀c∈(List.replicate len te.zero).flatten,c.scalar:=fun c hc=>by
   rw[List.mem_flatten]at hc;obtain⟨l,hl,hc⟩:=hc;rw[List.mem_replicate]at hl;exact h9 c (hl.2 ▸ hc)
  obtain⟨news,mc⟩:∃news,news=(Builtin.zeroCells z.cells len).toList:=⟨_,rfl⟩
  have R0:news.length=len*te.size:=by rw[mc,Array.length_toList,yH]
  obtain⟨b7,iX⟩:∃b7,b7=(arr.toList.take off++news++arr.toList.drop (off+news.length)).toArray:=⟨_,rfl⟩
  have dD:=run_storeCells_at P l.block off t' news 0 arr g.w di (by rw[R0];omega) (fun u hu=>by
   obtain⟨j,hj⟩:=List.getElem?_of_mem hu;have bd:=ag hj;rw[R0,<-uQ]at bd;have hc:=List.getElem?_eq_getElem bd;exact((vZ.2 j _ u hc (by rw[mc]at hj;simpa using hj)).iZ (H5 _ (List.mem_of_getElem? hc))).1)
  simp only[Nat.add_zero]at dD;rw[<-iX]at dD;have bL:(Builtin.clear_ #[t] o.type #[a.eval x]).run P g.w=.ok (.tuple #[]) (g.w.setRow l.block b7):=by
   obtain⟨k,rfl⟩:∃k,len=k+1:=⟨len-1,by omega⟩
   rw[eu];simp[Builtin.clear_,run_underlying hu,Go.zeroValue,typeInfo,h1,h4,<-mc,dD]
  have eH:=lH (cs':=bz cs off (List.replicate len te.zero).flatten) jh q1 gy b7;have hle:=Le.bo hg eH;have sB:=jq.bz ⟨hlen,iq⟩ vZ (off:=off) (by rw[uQ];omega);rw[<-mc,<-iX]at sB;refine⟨.tuple #[],g.bo id (some l) (.cells (bz cs off (List.replicate len te.zero).flatten)) (g.w.setRow l.block b7),?_,hle,Good.bo hg eH ?_ ?_,?_,.cN rfl (by simp)⟩
  ·refine .inl ?_;rw[dh];simp[bL,G.bo]
  ·refine⟨l,b7,t',rfl,gy,?_,sB.1,fun j c u a b=>(sB.2 j c u a b).mono hle,fun c hc=>?_,?_⟩
   ·exact setRow_heap g.w l.block arr b7 t' (0,0) di
   ·simp only[bz,List.mem_append]at hc;rcases hc with hc|hc|hc
    ·exact o4 c (List.mem_of_mem_take hc)
    ·exact H5 c hc
    exact o4 c (List.mem_of_mem_drop hc)
   have q:=R0;rw[iX];simp only[List.size_toArray,List.length_append,List.length_take,List.length_drop,Array.length_toList];omega
  ·intro l1 h1 _;simp only[Option.some.injEq]at h1;subst h1;rw[setRow_size];exact aO di
  simp only[G.bo,Mode.post,hO]
end Go.Av
