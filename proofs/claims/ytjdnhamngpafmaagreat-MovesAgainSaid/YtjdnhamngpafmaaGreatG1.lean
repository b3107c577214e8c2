/- Texts of the proof, bound together and shortened by a program of mine. -/
import Derived.Test.YtjdnhamngpafmaaGreatG0
set_option linter.all false
namespace Go.Av
inductive Ec where
 | sh
 | ex
 | nn
 | tok (id:Nat)
 | loc (a:Addr)
inductive KT where
 | str
 | int (k:IntKind)
 | iter (cur:Option (Value×Value))
def KT.plain:KT->Prop
 | .iter _=>False
 | _=>True
def KT.ok:KT->Value->Prop
 | .str,.string _=>True
 | .int k,.int k' _=>k'=k
 | _,_=>False
inductive A2 where
 | v (x:Value)
 | agg (cs:List A2)
 | A3 (sz:Nat) (xs:List A2) (o:Ec)
 | ip (oa:Option Addr) (cs:List A2)
 | mp (id off:Nat)
 | ms (id off len cap:Nat)
 | os (id len sz:Nat)
 | raw (sz n id:Nat)
 | mm (id:Nat)
 | im (kt:KT) (es:List (Value×A2))
 | fn (f:Fn) (first captured:List A2)
 | Ab (vs:List A2)
instance:Inhabited A2:=⟨.v (.bool false)⟩
def A2.cells:A2->List A2
 | .agg cs=>cs
 | x=>[x]
def Mu:Value->Prop
 | .int k n=>k.min<=n∧n<=k.max
 | .agg _=>False
 | .tuple _=>False
 | _=>True
def A2.scalar:A2->Prop
 | .agg _=>False
 | .Ab _=>False
 | _=>True
inductive A8 where
 | cells (cs:List A2)
 | spare (n:Nat)
 | map (kt:KT) (es:List (Value×A2))
 | gone
def A8.live:A8->Prop
 | .gone=>False
 | _=>True
def A8.Hx:A8->Prop
 | .spare _=>True
 | _=>False
structure Loc where
 block:Nat
 lo:Nat
 sz:Nat
structure G where
 w:World
 fr:Nat->Nat->Prop
 env:List (Option Loc)
 objs:List A8
def G.cell(g:G)(b off:Nat):Option Value:=g.w.cell? ⟨b,off,none⟩
def Hn(g:G)(b off:Nat):Prop :=
 ∃(id:Nat) (l:Loc) (o:A8),g.env[id]?=some (some l)∧g.objs[id]?=some o∧o.live∧l.block=b∧l.lo<=off
def I1(g:G)(b:Nat):Prop :=
 ∃(id:Nat) (l:Loc) (o:A8),g.env[id]?=some (some l)∧g.objs[id]?=some o∧o.live∧l.block=b
def HD(g:G)(b off:Nat):Prop:=g.fr b off∨Hn g b off
variable {g:G}{b off:Nat}
theorem Hn.block(h:Hn g b off):I1 g b:=by
 obtain⟨id,l,o,h1,h2,h3,h4,_⟩:=h;exact⟨id,l,o,h1,h2,h3,h4⟩
def AP(xs:List A2):List A2:=xs.flatMap A2.cells
def Wr(g:G)(o:Ec)(a:Addr)(sz len cap:Nat):Prop :=
 match o with
 | .sh=>True
 | .nn=>True
 | .ex=>cap=len
 | .loc a'=>a=a'
 | .tok id=>id<g.objs.length∧∀m:Nat,g.objs[id]?=some (.spare m)->len<=m∧(len=m->cap=len ∨
   ∃(l:Loc) (arr:Array Value) (t:TypeId),g.env[id]?=some (some l)∧a=⟨l.block,0,none⟩∧l.lo=len*sz∧g.w.heap[l.block]?=some (.cells arr t (0,0))∧cap*sz<=arr.size)
def P6(arr:Array MapEntry)(clk:Nat):Prop :=
 (∀(i j:Nat) (e e':MapEntry),i<j->arr[i]?=some e->arr[j]?=some e'->e.born<e'.born)∧∀(i:Nat) (e:MapEntry),arr[i]?=some e->e.born<clk
inductive RV(g:G):A2->Value->Prop
 | v {x:Value} (h:Mu x):RV g (.v x) x
 | agg {cs:List A2} {vs:Array Value} (hl:vs.size=cs.length) (B1:∀c∈cs,c.scalar)
   (h:∀(i:Nat) c u,cs[i]?=some c->vs[i]?=some u->RV g c u):RV g (.agg cs) (.agg vs)
 | nil {sz:Nat} {o:Ec} (ho:∀id,o=.tok id->id<g.objs.length) (hn:o≠.nn):RV g (.A3 sz [] o) (.slice none 0 0)
 | A3 {sz:Nat} {xs:List A2} {o:Ec} {a:Addr} {cap:Nat} (Ag:∀x∈xs,x.cells.length=sz) (B1:∀x∈xs,∀c∈x.cells,c.scalar)
   (C1:xs.length<=cap) (Bm:xs.length<=2 ^ 62) (hs:xs≠[]->a.spot=none) (f:Nat->Value)
   (hm:∀(j:Nat) (c:A2),(AP xs)[j]?=some c->g.cell a.block (a.off+j)=some (f j)∧¬HD g a.block (a.off+j))
   (hr:∀(j:Nat) (c:A2),(AP xs)[j]?=some c->RV g c (f j)) (ho:Wr g o a sz xs.length cap):RV g (.A3 sz xs o) (.slice (some a) xs.length cap)
 | ip {oa:Option Addr} {cs:List A2} {b off:Nat} (ha:oa=none∨oa=some ⟨b,off,none⟩) (B1:∀c∈cs,c.scalar) (f:Nat->Value)
   (hm:∀(j:Nat) (c:A2),cs[j]?=some c->g.cell b (off+j)=some (f j)∧¬HD g b (off+j))
   (hr:∀(j:Nat) (c:A2),cs[j]?=some c->RV g c (f j)):RV g (.ip oa cs) (.pointer (some ⟨b,off,none⟩))
 | mp {id off:Nat} {l:Loc} {o:A8} (he:g.env[id]?=some (some l)) (ho:g.objs[id]?=some o) (hn:¬o.Hx) :
   RV g (.mp id off) (.pointer (some ⟨l.block,off,none⟩))
 | ms {id off len cap:Nat} {l:Loc} {o:A8} (he:g.env[id]?=some (some l)) (ho:g.objs[id]?=some o) (hn:¬o.Hx) {Dm:Nat} (hc:len<=cap) (GU:cap<=Dm) (Bm:len<=2 ^ 62) :
   RV g (.ms id off len cap) (.slice (some ⟨l.block,off,none⟩) len Dm)
 | os {id len sz:Nat} {l:Loc} {o:A8} (he:g.env[id]?=some (some l)) (ho:g.objs[id]?=some o) (hn:¬o.Hx) {cap:Nat} (hc:len<=cap) (hb:cap*sz<=l.sz) (Bm:len<=2 ^ 62) :
   RV g (.os id len sz) (.slice (some ⟨l.block,0,none⟩) len cap)
 | raw {sz n id:Nat} {a:Addr} {cap:Nat} (hn:n<=cap) (ho:Wr g (.tok id) a sz 0 cap):RV g (.raw sz n id) (.slice (some a) n cap)
 | mm {id:Nat} {l:Loc} {o:A8} (he:g.env[id]?=some (some l)) (ho:g.objs[id]?=some o) (hn:¬o.Hx):RV g (.mm id) (.map (some l.block))
 | im {kt:KT} {es:List (Value×A2)} {r clk:Nat} {arr:Array MapEntry} (hh:g.w.heap[r]?=some (.map arr clk)) (hn:∀off,¬HD g r off) (hl:arr.size=es.length)
   (hk:∀(i:Nat) e (kx:Value×A2),arr[i]?=some e->es[i]?=some kx->e.key=kx.1) (Ik:∀p∈es,kt.ok p.1) (hb:P6 arr clk)
   (hr:∀(i:Nat) e (kx:Value×A2),arr[i]?=some e->es[i]?=some kx->RV g kx.2 e.val):RV g (.im kt es) (.map (some r))
 | fn {f:Fn} {fs cs:List A2} {us vs:Array Value} (hl:us.size=fs.length) (J9:vs.size=cs.length)
   (h:∀(i:Nat) c u,fs[i]?=some c->us[i]?=some u->RV g c u) (h':∀(i:Nat) c u,cs[i]?=some c->vs[i]?=some u->RV g c u):RV g (.fn f fs cs) (.func f us vs)
 | Ab {cs:List A2} {vs:Array Value} (hl:vs.size=cs.length)
   (h:∀(i:Nat) c u,cs[i]?=some c->vs[i]?=some u->RV g c u):RV g (.Ab cs) (.tuple vs)
structure Le(g g':G):Prop where
 os:g'.w.os=g.w.os
 tape:g'.w.tape=g.w.tape
 output:g'.w.output=g.w.output
 fr:g'.fr=g.fr
 size:g.w.heap.size<=g'.w.heap.size
 block:∀k,k<g.w.heap.size->¬I1 g k->g'.w.heap[k]?=g.w.heap[k]?∧¬I1 g' k
 cell:∀b off x,g.cell b off=some x->¬Hn g b off->g'.cell b off=some x∧¬Hn g' b off
 len:g.objs.length<=g'.objs.length
 spare:∀(id:Nat) (m:Nat),g.objs[id]?=some (.spare m)->(∃m':Nat,g'.objs[id]?=some (.spare m')∧m<=m')∨∃o':A8,g'.objs[id]?=some o'∧¬o'.Hx
 plain:∀(id:Nat) (o:A8),g.objs[id]?=some o->¬o.Hx->(∃o':A8,g'.objs[id]?=some o'∧¬o'.Hx)∧g'.env[id]?=g.env[id]?
 gone:∀id:Nat,g.objs[id]?=some .gone->g'.objs[id]?=some .gone
 tok:∀(id m:Nat),g.objs[id]?=some (.spare m)->g'.objs[id]?=some (.spare m)->g'.env[id]?=g.env[id]?∧∀l:Loc,g.env[id]?=some (some l)->g'.w.heap[l.block]?=g.w.heap[l.block]?
theorem Le.refl(g:G):Le g g where
 os:=rfl
 tape:=rfl
 output:=rfl
 fr:=rfl
 size:=B6 _
 block:=fun _ _ h=>⟨rfl,h⟩
 cell:=fun _ _ _ h k=>⟨h,k⟩
 len:=B6 _
 spare:=fun _ m h=>.inl ⟨m,h,B6 _⟩
 plain:=fun _ o h k=>⟨⟨o,h,k⟩,rfl⟩
 gone:=fun _ h=>h
 tok:=fun _ _ _ _=>⟨rfl,fun _ _=>rfl⟩
theorem Le.trans{a b c:G}(h:Le a b)(k:Le b c):Le a c where
 os:=k.os.trans h.os
 tape:=k.tape.trans h.tape
 output:=k.output.trans h.output
 fr:=k.fr.trans h.fr
 size:=NC h.size k.size
 block:=fun i hi hn=>by
  obtain⟨h1,h2⟩:=h.block i hi hn;obtain⟨k1,k2⟩:=k.block i (L' hi h.size) h2;exact⟨k1.trans h1,k2⟩
 cell:=fun b off x hx hn=>by
  obtain⟨h1,h2⟩:=h.cell b off x hx hn;exact k.cell b off x h1 h2
 len:=NC h.len k.len
 spare:=fun id m hm=>by
  rcases h.spare id m hm with⟨m',h1,h2⟩|⟨o',h1,h2⟩
  ·rcases k.spare id m' h1 with⟨CT,k1,k2⟩|k1
   ·exact .inl ⟨CT,k1,NC h2 k2⟩
   exact .inr k1
  exact .inr (k.plain id o' h1 h2).1
 plain:=fun id o ho hn=>by
  obtain⟨⟨o',h1,h2⟩,h3⟩:=h.plain id o ho hn;obtain⟨k1,k3⟩:=k.plain id o' h1 h2;exact⟨k1,k3.trans h3⟩
 gone:=fun id hg=>k.gone id (h.gone id hg)
 tok:=fun id m ha hc=>by
  rcases h.spare id m ha with⟨m',h1,h2⟩|⟨o',h1,h2⟩
  ·rcases k.spare id m' h1 with⟨CT,k1,k2⟩|⟨o',k1,k2⟩
   ·rw[k1]at hc;simp only[AM,A8.spare.injEq]at hc;have:m'=m:=I
    subst this;subst hc;obtain⟨e1,e2⟩:=h.tok id _ ha h1;obtain⟨e3,e4⟩:=k.tok id _ h1 k1;refine⟨e3.trans e1,fun l hl=>?_⟩;exact(e4 l (e1.trans hl)).trans (e2 l hl)
   rw[k1]at hc;simp only[AM]at hc;exact B3 (hc ▸ trivial) k2
  obtain⟨⟨o'',k1,k2⟩,_⟩:=k.plain id o' h1 h2;rw[k1]at hc;simp only[AM]at hc;exact B3 (hc ▸ trivial) k2
variable {g':G}
theorem Le.zS(h:Le g g'){b off:Nat}{x:Value}(hx:g.cell b off=some x)(hn:¬HD g b off):g'.cell b off=some x∧¬HD g' b off:=by
 obtain⟨h1,h2⟩:=h.cell b off x hx fun hh=>hn (.inr hh);refine⟨h1,?_⟩;rintro(hf|hl)
 ·exact hn (.inl (h.fr ▸ hf))
 exact h2 hl
variable {α:Type}{l:List α}{i:Nat}
theorem AE{x:α}(h:l[i]?=some x):i<l.length:=by
 rcases T3 i l.length with h1|h1
 ·exact h1
 rw[H3 h1]at h;cases h
theorem Gq{l:Array α}{x:α}(h:l[i]?=some x):i<l.size:=by
 rcases T3 i l.size with h1|h1
 ·exact h1
 rw[Array.getElem?_eq_none h1]at h;cases h
theorem Wr.mono(h:Le g g'){o:Ec}{a:Addr}{sz len cap:Nat}(k:Wr g o a sz len cap):Wr g' o a sz len cap:=by
 cases o with
 | sh=>trivial
 | nn=>trivial
 | ex=>exact k
 | loc a=>exact k
 | tok id =>
  obtain⟨AF,hk⟩:=k;refine⟨L' AF h.len,fun m' BX=>?_⟩;have ho:g.objs[id]?=some g.objs[id]:=AY AF;cases FZ:g.objs[id]with
  | spare m =>
   rw[FZ]at ho;obtain⟨h1,h2⟩:=hk m ho;rcases h.spare id m ho with⟨CT,k1,k2⟩|⟨o',k1,k2⟩
   ·rw[k1]at BX;simp only[AM,A8.spare.injEq]at BX;subst BX;refine⟨NC h1 k2,fun e=>?_⟩;have hmm:m=CT:=I
    subst hmm;obtain⟨e1,e2⟩:=h.tok id m ho k1;rcases h2 I with e3|⟨l,arr,t,q1,q2,q3,q4,q5⟩
    ·exact .inl e3
    exact .inr ⟨l,arr,t,e1.trans q1,q2,q3,(e2 l q1).trans q4,q5⟩
   rw[k1]at BX;simp only[AM]at BX;exact B3 (BX ▸ trivial) k2
  | gone =>
   rw[FZ]at ho;rw[h.gone id ho]at BX;simp at BX
  | cells cs =>
   rw[FZ]at ho;obtain⟨⟨o',q1,q2⟩,_⟩:=h.plain id _ ho Bd;rw[q1]at BX;simp only[AM]at BX;subst BX;simp[A8.Hx]at q2
  | map kt es =>
   rw[FZ]at ho;obtain⟨⟨o',q1,q2⟩,_⟩:=h.plain id _ ho Bd;rw[q1]at BX;simp only[AM]at BX;subst BX;simp[A8.Hx]at q2
theorem Le.stay(h:Le g g'){r clk:Nat}{arr:Array MapEntry}(hh:g.w.heap[r]?=some (.map arr clk))(hn:∀off,¬HD g r off):g'.w.heap[r]?=some (.map arr clk)∧∀off,¬HD g' r off:=by
 have AF:=Gq hh;have hb:¬I1 g r:=by
  rintro⟨id,l,o,h1,h2,h3,h4⟩;exact hn l.lo (.inr ⟨id,l,o,h1,h2,h3,h4,B6 _⟩)
 obtain⟨q1,q2⟩:=h.block _ AF hb;refine⟨q1.trans hh,?_⟩;rintro off (hf|hf)
 ·exact hn off (.inl (h.fr ▸ hf))
 exact q2 hf.block
theorem RV.mono(h:Le g g'){x:A2}{u:Value}(k:RV g x u):RV g' x u:=by
 induction k with
 | v hx=>exact .v hx
 | agg hl B1 _ ih=>exact .agg hl B1 ih
 | nil ho hn=>exact .nil (fun id e=>L' (ho id e) h.len) hn
 | A3 Ag B1 C1 Bm hs f hm _ ho ih=>exact .A3 Ag B1 C1 Bm hs f (fun j c hj=>h.zS (hm j c hj).1 (hm j c hj).2) ih (ho.mono h)
 | ip ha B1 f hm _ ih=>exact .ip ha B1 f (fun j c hj=>h.zS (hm j c hj).1 (hm j c hj).2) ih
 | mp he ho hn =>
  obtain⟨⟨o',q1,q2⟩,q3⟩:=h.plain _ _ ho hn;exact .mp (q3.trans he) q1 q2
 | ms he ho hn hc GU Bm =>
  obtain⟨⟨o',q1,q2⟩,q3⟩:=h.plain _ _ ho hn;exact .ms (q3.trans he) q1 q2 hc GU Bm
 | os he ho hn hc hb Bm =>
  obtain⟨⟨o',q1,q2⟩,q3⟩:=h.plain _ _ ho hn;exact .os (q3.trans he) q1 q2 hc hb Bm
 | raw hn ho=>exact .raw hn (ho.mono h)
 | mm he ho hn =>
  obtain⟨⟨o',q1,q2⟩,q3⟩:=h.plain _ _ ho hn;exact .mm (q3.trans he) q1 q2
 | im hh hn hl hk Ik hb _ ih =>
  obtain⟨q1,q2⟩:=h.stay hh hn;exact .im q1 q2 hl hk Ik hb ih
 | fn hl J9 _ _ ih Nk=>exact .fn hl J9 ih Nk
 | Ab hl _ ih=>exact .Ab hl ih
def Wq(g:G)(kt:KT)(es:List (Value×A2))(ob:Obj):Prop :=
 ∃(arr:Array MapEntry) (clk:Nat),ob=.map arr clk∧arr.size=es.length∧(∀p∈es,kt.ok p.1) ∧
  (∀(i:Nat) (e:MapEntry) (kx:Value×A2),arr[i]?=some e->es[i]?=some kx->e.key=kx.1∧Mu kx.1∧RV g kx.2 e.val)∧P6 arr clk
def ml(g:G)(cur:Option (Value×Value))(es:List (Value×A2))(ob:Obj):Prop :=
 ∃(m clk last:Nat) (seen:Array Nat) (arr:Array MapEntry),ob=.mapIter (some m) clk seen last∧g.w.heap[m]?=some (.map arr clk)∧(∀off,¬HD g m off)∧P6 arr clk∧(seen≠#[]->last=clk) ∧
  (∀(i:Nat) (e:MapEntry),arr[i]?=some e->Mu e.key∧Mu e.val)∧es=(arr.toList.filter fun e=>!seen.contains e.born).map (fun e=>(e.key,A2.v e.val)) ∧
  ∀k x,cur=some (k,x)->∃(i:Nat) (e:MapEntry),arr[i]?=some e∧seen.back?=some e.born∧e.key=k∧e.val=x
def PU(g:G)(kt:KT)(es:List (Value×A2))(ob:Obj):Prop :=
 match kt with
 | .iter cur=>ml g cur es ob
 | kt=>Wq g kt es ob
variable {kt:KT}{es:List (Value×A2)}
theorem PU.imp{ob:Obj}(h:PU g kt es ob)(GJ:∀p∈es,∀u,RV g p.2 u->RV g' p.2 u)
  (Km:∀(m clk:Nat) (arr:Array MapEntry),g.w.heap[m]?=some (.map arr clk)->(∀off,¬HD g m off)->g'.w.heap[m]?=some (.map arr clk)∧∀off,¬HD g' m off):PU g' kt es ob:=by
 have key:∀kt,Wq g kt es ob->Wq g' kt es ob:=fun kt h=>by
  obtain⟨arr,clk,e1,e2,e3,e4,e5⟩:=h;exact⟨arr,clk,e1,e2,e3,fun i e kx a b=>⟨(e4 i e kx a b).1,(e4 i e kx a b).2.1,GJ kx (AK b) _ (e4 i e kx a b).2.2⟩,e5⟩
 cases kt with
 | str=>exact key _ h
 | int k=>exact key _ h
 | iter cur =>
  obtain⟨m,clk,last,seen,arr,e1,e2,e3,e4⟩:=h;obtain⟨q1,q2⟩:=Km m clk arr e2 e3;exact⟨m,clk,last,seen,arr,e1,q1,q2,e4⟩
theorem PU.mono{ob:Obj}(h:PU g kt es ob)(hle:Le g g'):PU g' kt es ob :=
 h.imp (fun _ _ _ q=>q.mono hle) fun _ _ _ q1 q2=>hle.stay q1 q2
theorem PU.map{ob:Obj}(h:PU g kt es ob)(hp:kt.plain):Wq g kt es ob:=by
 cases kt with
 | str=>exact h
 | int k=>exact h
 | iter cur=>exact hp.elim
theorem Wq.mok{ob:Obj}(h:Wq g kt es ob)(hp:kt.plain):PU g kt es ob:=by
 cases kt with
 | str=>exact h
 | int k=>exact h
 | iter cur=>exact hp.elim
structure Good(g:G):Prop where
 frlt:∀b off,g.fr b off->b<g.w.heap.size
 HQ:∀(id:Nat) (l:Loc) (o:A8),g.env[id]?=some (some l)->g.objs[id]?=some o->o.live->∀off,¬g.fr l.block off
 len:g.env.length=g.objs.length
 loc:∀(id:Nat) (l:Loc) (o:A8),g.env[id]?=some (some l)->g.objs[id]?=some o->o.live->l.block<g.w.heap.size
 apart:∀(id Da:Nat) (l l':Loc) (o o':A8),g.env[id]?=some (some l)->g.objs[id]?=some o->o.live->g.env[Da]?=some (some l')->g.objs[Da]?=some o'->o'.live->l.block=l'.block->id=Da
 cells:∀(id:Nat) (cs:List A2),g.objs[id]?=some (.cells cs)->∃(l:Loc) (arr:Array Value) (t:TypeId),g.env[id]?=some (some l)∧l.lo=0∧g.w.heap[l.block]?=some (.cells arr t (0,0))∧cs.length<=arr.size ∧
  (∀(j:Nat) (c:A2) (u:Value),cs[j]?=some c->arr[j]?=some u->RV g c u)∧(∀c∈cs,c.scalar)∧l.sz<=arr.size
 spare:∀(id m:Nat) (l:Loc),g.objs[id]?=some (.spare m)->g.env[id]?=some (some l)->∃(arr:Array Value) (t:TypeId),g.w.heap[l.block]?=some (.cells arr t (0,0))
 map:∀(id:Nat) (kt:KT) (es:List (Value×A2)),g.objs[id]?=some (.map kt es)->∃(l:Loc) (ob:Obj),g.env[id]?=some (some l)∧l.lo=0∧g.w.heap[l.block]?=some ob∧PU g kt es ob
structure St where
 n:Nat
 BG:List (Nat×A2)
 objs:List A8
def look:List (Nat×A2)->Nat->Option A2
 | [],_=>none
 | (k,x)::r,s=>if k=s then some x else look r s
def Nn(d:Nat):List (Nat×A2)->List (Nat×A2)
 | []=>[]
 | (k,x)::r=>if k=d then Nn d r else(k,x)::Nn d r
def GY(d:Nat)(x:A2)(l:List (Nat×A2)):List (Nat×A2):=(d,x)::Nn d l
theorem gl{d s:Nat}(h:d≠s):∀l:List (Nat×A2),look (Nn d l) s=look l s
 | []=>rfl
 | (k,x)::r=>by
  have ih:=gl h r;unfold Nn;split
  ·rename_i hk;subst hk;simp[look,h,ih]
  simp only[look,ih]
theorem ov{d:Nat}:∀l:List (Nat×A2),look (Nn d l) d=none
 | []=>rfl
 | (k,x)::r=>by
  have ih:=ov (d:=d) r;unfold Nn;split
  ·exact ih
  rename_i hk;simp[look,hk,ih]
theorem RL(d s:Nat)(x:A2)(l:List (Nat×A2)):look (GY d x l) s=if d=s then some x else look l s:=by
 unfold GY;simp only[look];split
 ·rfl
 rename_i h;exact gl h l
def St.get(σ:St)(s:Nat):Option A2:=look σ.BG s
structure Rel(base:G)(σ:St)(a:Act)(g:G):Prop where
 le:Le base g
 good:Good g
 objs:g.objs=σ.objs
 size:a.tmps.size=σ.n
 defers:a.defers=[]
 slot:∀(s:Nat) (x:A2),σ.get s=some x->∃u,a.tmps[s]?=some u∧RV g x u
variable {base:G}{σ:St}
theorem Rel.put{a:Act}(h:Rel base σ a g)(hl:Le g g')(hg:Good g'){d:Nat}(hd:d<σ.n){r:A2}{u:Value}(hr:RV g' r u) :
  Rel base ⟨σ.n,GY d r σ.BG,g'.objs⟩ (a.put (some d) u) g' where
 le:=h.le.trans hl
 good:=hg
 objs:=rfl
 size:=by simp[Act.put,h.size]
 defers:=abT
 slot:=fun s x hx=>by
  simp only[St.get,RL]at hx;split at hx
  ·rename_i H6;subst H6;simp only[AM]at hx;subst hx;exact⟨u,by simp[Act.put,h.size,hd],hr⟩
  rename_i H6;obtain⟨y,hy,hry⟩:=h.slot s x hx;exact⟨y,abm,hry.mono hl⟩
theorem Rel.step{a:Act}(h:Rel base σ a g)(hl:Le g g')(hg:Good g'):Rel base ⟨σ.n,σ.BG,g'.objs⟩ a g' where
 le:=h.le.trans hl
 good:=hg
 objs:=rfl
 size:=h.size
 defers:=h.defers
 slot:=fun s x hx=>by
  obtain⟨y,hy,hry⟩:=h.slot s x hx;exact⟨y,hy,hry.mono hl⟩
theorem Rel.forget{a:Act}(h:Rel base σ a g)(d:Nat)(u:Value):Rel base ⟨σ.n,Nn d σ.BG,σ.objs⟩ (a.put (some d) u) g where
 le:=h.le
 good:=h.good
 objs:=h.objs
 size:=by simp[Act.put,h.size]
 defers:=abT
 slot:=fun s x hx=>by
  by_cases H6:d=s
  ·subst H6;simp[St.get,ov]at hx
  simp only[St.get,gl H6]at hx;obtain⟨y,hy,hry⟩:=h.slot s x hx;exact⟨y,abm,hry⟩
variable {w':World}
theorem Le.heap(h1:w'.heap=g.w.heap)(h2:w'.os=g.w.os)(h3:w'.tape=g.w.tape)(h4:w'.output=g.w.output):Le g ⟨w',g.fr,g.env,g.objs⟩ where
 os:=h2
 tape:=h3
 output:=h4
 fr:=rfl
 size:=Uc
 block:=fun k _ h=>⟨Uc,h⟩
 cell:=fun b off x hx hn=>⟨by simpa[G.cell,World.cell?,h1]using hx,hn⟩
 len:=B6 _
 spare:=fun _ m h=>.inl ⟨m,h,B6 _⟩
 plain:=fun _ o h k=>⟨⟨o,h,k⟩,rfl⟩
 gone:=fun _ h=>h
 tok:=fun _ _ _ _=>⟨rfl,fun _ _=>Uc⟩
theorem Good.heap(hg:Good g)(h1:w'.heap=g.w.heap)(h2:w'.os=g.w.os)(h3:w'.tape=g.w.tape)(h4:w'.output=g.w.output):Good ⟨w',g.fr,g.env,g.objs⟩ where
 frlt:=fun b off h=>by simpa[h1]using hg.frlt b off h
 HQ:=hg.HQ
 len:=hg.len
 loc:=fun id l o a b c=>by simpa[h1]using hg.loc id l o a b c
 apart:=hg.apart
 cells:=fun id cs h=>by
  obtain⟨l,arr,t,e1,e0,e2,e3,e4,e5⟩:=hg.cells id cs h;exact⟨l,arr,t,e1,e0,by simpa[h1]using e2,e3,fun j c u a b=>(e4 j c u a b).mono (Le.heap h1 h2 h3 h4),e5⟩
 spare:=fun id m l a b=>by simpa[h1]using hg.spare id m l a b
 map:=fun id kt es h=>by
  obtain⟨l,ob,e1,e0,e2,e3⟩:=hg.map id kt es h;exact⟨l,ob,e1,e0,by simpa[h1]using e2,e3.mono (Le.heap h1 h2 h3 h4)⟩
theorem P0(w:World)(o:Obj){k:Nat}(h:k<w.heap.size):(w.alloc o).heap[k]?=w.heap[k]?:=by
 simp only[World.alloc];rw[dB,A4 I]
theorem Pz(w:World)(o:Obj):(w.alloc o).heap[w.heap.size]?=some o:=by
 simp only[World.alloc];rw[dB,A9 rfl]
theorem ax{x:Value}(h:g.cell b off=some x):b<g.w.heap.size:=by
 simp only[G.cell,World.cell?]at h;split at h
 ·rename_i hh;exact Gq hh
 cases h
theorem ZW{w:World}(h:w'.heap[b]?=w.heap[b]?)(off:Nat):w'.cell? ⟨b,off,none⟩=w.cell? ⟨b,off,none⟩:=by
 simp only[World.cell?,h]
def G.push(g:G)(o:Obj):G:=⟨g.w.alloc o,g.fr,g.env,g.objs⟩
theorem Le.push(g:G)(hg:Good g)(o:Obj):Le g (g.push o) where
 os:=rfl
 tape:=rfl
 output:=rfl
 fr:=rfl
 size:=by show g.w.heap.size<=(g.w.heap.push o).size;rw[Zz];omega
 block:=fun k hk h=>⟨P0 _ _ hk,h⟩
 cell:=fun b off x hx hn=>⟨by
  have:=ax hx;simpa[G.cell,G.push,ZW (P0 g.w o this)]using hx,hn⟩
 len:=B6 _
 spare:=fun _ m h=>.inl ⟨m,h,B6 _⟩
 plain:=fun _ o h k=>⟨⟨o,h,k⟩,rfl⟩
 gone:=fun _ h=>h
 tok:=fun id m h _=>⟨rfl,fun l hl=>P0 _ _ (hg.loc id l _ hl h trivial)⟩
theorem Good.push(hg:Good g)(o:Obj):Good (g.push o) where
 frlt:=fun b off h=>by
  have:=hg.frlt b off h;show b<(g.w.heap.push o).size;rw[Zz];omega
 HQ:=hg.HQ
 len:=hg.len
 loc:=fun id l o' a b c=>by
  have:=hg.loc id l o' a b c;show l.block<(g.w.heap.push o).size;rw[Zz];omega
 apart:=hg.apart
 cells:=fun id cs h=>by
  obtain⟨l,arr,t,e1,e0,e2,e3,e4,e5⟩:=hg.cells id cs h;exact⟨l,arr,t,e1,e0,(P0 _ _ (Gq e2)).trans e2,e3,fun j c u a b=>(e4 j c u a b).mono (Le.push g hg o),e5⟩
 spare:=fun id m l a b=>by
  obtain⟨arr,t,e⟩:=hg.spare id m l a b;exact⟨arr,t,(P0 _ _ (Gq e)).trans e⟩
 map:=fun id kt es h=>by
  obtain⟨l,ob,e1,e0,e2,e3⟩:=hg.map id kt es h;exact⟨l,ob,e1,e0,(P0 _ _ (Gq e2)).trans e2,e3.mono (Le.push g hg o)⟩
def G.add(g:G)(l:Option Loc)(o:A8):G:=⟨g.w,g.fr,g.env++[l],g.objs++[o]⟩
theorem Eu{x:α}{y:α}(h:(l++[x])[i]?=some y):l[i]?=some y∨(i=l.length∧y=x):=by
 rw[Gt]at h;split at h
 ·exact .inl h
 rename_i hh;have:i-l.length<1:=by
  rcases T3 (i-l.length) 1 with q|q
  ·exact q
  rw[H3 dS]at h;cases h
 have e:i=l.length:=I
 subst e;simp at h;exact .inr ⟨rfl,h.symm⟩
theorem Xg{x:α}{y:α}(h:l[i]?=some y):(l++[x])[i]?=some y:=by
 rw[Gt,A9 (AE h)];exact h
theorem Hn.add(hg:Good g){l:Option Loc}{o:A8}{b off:Nat}(h:Hn (g.add l o) b off):Hn g b off∨∃l',l=some l'∧o.live∧l'.block=b∧l'.lo<=off:=by
 obtain⟨id,l',o',h1,h2,h3,h4,h5⟩:=h;rcases Eu h1 with q1|⟨q1,SB⟩
 ·rcases Eu h2 with q2|⟨q2,Tz⟩
  ·exact .inl ⟨id,l',o',q1,q2,h3,h4,h5⟩
  have:=AE q1;have:=hg.len;omega
 rcases Eu h2 with q2|⟨q2,Tz⟩
 ·have:=AE q2;have:=hg.len;omega
 subst Tz;exact .inr ⟨l',SB.symm,h3,h4,h5⟩
theorem I1.add(hg:Good g){l:Option Loc}{o:A8}{b:Nat}(h:I1 (g.add l o) b):I1 g b∨∃l',l=some l'∧o.live∧l'.block=b:=by
 obtain⟨id,l',o',h1,h2,h3,h4⟩:=h;rcases Hn.add hg ⟨id,l',o',h1,h2,h3,h4,B6 _⟩with q|⟨q,q1,q2,q3,_⟩
 ·exact .inl q.block
 exact .inr ⟨q,q1,q2,q3⟩
def cb:Obj->Nat
 | .cells arr _=>arr.size
 | _=>0
def G.alloc(g:G)(ob:Obj)(lo:Nat)(o:A8):G:=⟨g.w.alloc ob,g.fr,g.env++[some ⟨g.w.heap.size,lo,cb ob⟩],g.objs++[o]⟩
def G.mark(g:G)(o:A8):G:=⟨g.w,g.fr,g.env++[none],g.objs++[o]⟩
theorem Le.xW(hg:Good g)(l:Option Loc)(o:A8)(h:Le g g')(he:g'.env=g.env)(ho:g'.objs=g.objs)
  (hn:∀l',l=some l'->g.w.heap.size<=l'.block):Le g (g'.add l o) where
 os:=h.os
 tape:=h.tape
 output:=h.output
 fr:=h.fr
 size:=h.size
 block:=fun k hk hh=>⟨(h.block k hk hh).1,fun q=>by
  obtain⟨id,l',o',h1,h2,h3,h4⟩:=q;rw[show(g'.add l o).env=g.env++[l] by simp[G.add,he]]at h1;rw[show(g'.add l o).objs=g.objs++[o] from qQ]at h2;rcases I1.add (l:=l) (o:=o) (b:=k) hg ⟨id,l',o',h1,h2,h3,h4⟩with q|⟨l',q1,_,q3⟩
  ·exact hh q
  have:=hn l' q1;omega⟩
 cell:=fun b off x hx hh=>⟨(h.cell b off x hx hh).1,fun q=>by
  obtain⟨id,l',o',h1,h2,h3,h4⟩:=q;rw[show(g'.add l o).env=g.env++[l] by simp[G.add,he]]at h1;rw[show(g'.add l o).objs=g.objs++[o] from qQ]at h2;have hk:=ax hx;rcases Hn.add (l:=l) (o:=o) (b:=b) (off:=off) hg ⟨id,l',o',h1,h2,h3,h4⟩with q|⟨l',q1,_,q3,_⟩
  ·exact hh q
  have:=hn l' q1;omega⟩
 len:=qQ
 spare:=fun id m hm=>.inl ⟨m,abJ,B6 _⟩
 plain:=fun id o' CO k=>⟨⟨o',by simp only[G.add,ho];exact Xg CO,k⟩,by
  have AF:=AE CO;simp only[G.add,he];rw[Gt,A9 abO]⟩
 gone:=fun id hm=>abJ
 tok:=fun id m hm _=>⟨by
  have AF:=AE hm;simp only[G.add,he];rw[Gt,A9 abO],fun l hl=>(h.tok id m hm (by rw[ho];exact hm)).2 l hl⟩
theorem Le.alloc(hg:Good g)(ob:Obj)(lo:Nat)(o:A8):Le g (g.alloc ob lo o) :=
 Le.xW (g':=g.push ob) hg (some ⟨g.w.heap.size,lo,cb ob⟩) o (Le.push g hg ob) rfl rfl (fun l' h=>by simp at h;subst h;exact B6 _)
theorem Le.mark(hg:Good g)(o:A8):Le g (g.mark o) :=
 Le.xW (g':=g) hg none o (Le.refl g) rfl rfl (fun l' h=>MI)
def Fits(g':G)(ob:Obj)(o:A8):Prop :=
 match o with
 | .cells cs=>∃(arr:Array Value) (t:TypeId),ob=.cells arr t (0,0)∧cs.length<=arr.size∧(∀(j:Nat) (c:A2) (u:Value),cs[j]?=some c->arr[j]?=some u->RV g' c u)∧∀c∈cs,c.scalar
 | .spare _=>∃(arr:Array Value) (t:TypeId),ob=.cells arr t (0,0)
 | .map kt es=>PU g' kt es ob
 | .gone=>True
theorem Good.alloc(hg:Good g)(ob:Obj)(lo:Nat)(o:A8)(CA:o.Hx∨lo=0)(hf:Fits (g.alloc ob lo o) ob o):Good (g.alloc ob lo o) where
 frlt:=fun b off h=>by
  have:=hg.frlt b off h;show b<(g.w.heap.push ob).size;rw[Zz];omega
 HQ:=fun id l o' a b c off hf=>by
  rcases Eu a with a|⟨a,a'⟩
  ·rcases Eu b with b|⟨b,b'⟩
   ·exact hg.HQ id l o' a b c off hf
   have:=AE a;have:=hg.len;omega
  simp only[AM]at a';subst a';have DH:g.fr g.w.heap.size off:=hf;have:=hg.frlt _ _ DH;omega
 len:=by simp[G.alloc,hg.len]
 loc:=fun id l o' a b c=>by
  show l.block<(g.w.heap.push ob).size;rw[Zz];rcases Eu a with a|⟨a,a'⟩
  ·rcases Eu b with b|⟨b,b'⟩
   ·have:=hg.loc id l o' a b c;omega
   have:=AE a;have:=hg.len;omega
  simp only[AM]at a';subst a';show g.w.heap.size<_;omega
 apart:=fun id Da l l' o' o'' a b c a' b' c' hb=>by
  rcases Eu a with a|⟨a1,a2⟩
  ·rcases Eu a' with a'|⟨a1',a2'⟩
   ·rcases Eu b with b|⟨b1,b2⟩
    ·rcases Eu b' with b'|⟨b1',b2'⟩
     ·exact hg.apart id Da l l' o' o'' a b c a' b' c' hb
     have:=AE a';have:=hg.len;omega
    have:=AE a;have:=hg.len;omega
   simp only[AM]at a2';subst a2';rcases Eu b with b|⟨b1,b2⟩
   ·have:=hg.loc id l o' a b c;simp at hb;omega
   have:=AE a;have:=hg.len;omega
  rcases Eu a' with a'|⟨a1',a2'⟩
  ·simp only[AM]at a2;subst a2;rcases Eu b' with b'|⟨b1',b2'⟩
   ·have:=hg.loc Da l' o'' a' b' c';simp at hb;omega
   have:=AE a';have:=hg.len;omega
  omega
 cells:=fun id cs h=>by
  rcases Eu h with h|⟨hq,h'⟩
  ·obtain⟨l,arr,t,e1,e0,e2,e3,e4,e5⟩:=hg.cells id cs h;exact⟨l,arr,t,Xg e1,e0,(P0 _ _ (Gq e2)).trans e2,e3,fun j c u a b=>(e4 j c u a b).mono (Le.alloc hg ob lo o),e5⟩
  subst h';obtain⟨arr,t,e1,e2,e3,e4⟩:=hf;refine⟨⟨g.w.heap.size,lo,cb ob⟩,arr,t,?_,?_,?_,e2,e3,e4,by rw[e1];exact B6 _⟩
  ·subst hq;simp only[G.alloc];rw[<-hg.len];simp
  ·rcases CA with q|q
   ·exact q.elim
   exact q
  rw[<-e1];exact Pz _ _
 spare:=fun id m l a b=>by
  rcases Eu a with a|⟨a,a'⟩
  ·rcases Eu b with b|⟨b1,b2⟩
   ·obtain⟨arr,t,e⟩:=hg.spare id m l a b;exact⟨arr,t,(P0 _ _ (Gq e)).trans e⟩
   have:=AE a;have:=hg.len;omega
  rcases Eu b with b|⟨b1,b2⟩
  ·have:=AE b;have:=hg.len;omega
  subst a';simp only[AM]at b2;subst b2;obtain⟨arr,t,e⟩:=hf;exact⟨arr,t,by rw[<-e];exact Pz _ _⟩
 map:=fun id kt es h=>by
  rcases Eu h with h|⟨hq,h'⟩
  ·obtain⟨l,ob',e1,e0,e2,e3⟩:=hg.map id kt es h;exact⟨l,ob',Xg e1,e0,(P0 _ _ (Gq e2)).trans e2,e3.mono (Le.alloc hg ob lo o)⟩
  subst h';refine⟨⟨g.w.heap.size,lo,cb ob⟩,ob,?_,?_,?_,hf⟩
  ·subst hq;simp only[G.alloc];rw[<-hg.len];simp
  ·rcases CA with q|q
   ·exact q.elim
   exact q
  exact Pz _ _
theorem Good.mark(hg:Good g)(m:Nat):Good (g.mark (.spare m)) where
 frlt:=hg.frlt
 HQ:=fun id l o' a b c off hf=>by
  rcases Eu a with a|⟨a,a'⟩
  ·rcases Eu b with b|⟨b,b'⟩
   ·exact hg.HQ id l o' a b c off hf
   have:=AE a;have:=hg.len;omega
  cases a'
 len:=by simp[G.mark,hg.len]
 loc:=fun id l o' a b c=>by
  rcases Eu a with a|⟨a,a'⟩
  ·rcases Eu b with b|⟨b,b'⟩
   ·exact hg.loc id l o' a b c
   have:=AE a;have:=hg.len;omega
  cases a'
 apart:=fun id Da l l' o' o'' a b c a' b' c' hb=>by
  rcases Eu a with a|⟨a1,a2⟩
  ·rcases Eu a' with a'|⟨a1',a2'⟩
   ·rcases Eu b with b|⟨b1,b2⟩
    ·rcases Eu b' with b'|⟨b1',b2'⟩
     ·exact hg.apart id Da l l' o' o'' a b c a' b' c' hb
     have:=AE a';have:=hg.len;omega
    have:=AE a;have:=hg.len;omega
   cases a2'
  cases a2
 cells:=fun id cs h=>by
  rcases Eu h with h|⟨h,h'⟩
  ·obtain⟨l,arr,t,e1,e0,e2,e3,e4,e5⟩:=hg.cells id cs h;exact⟨l,arr,t,Xg e1,e0,e2,e3,fun j c u a b=>(e4 j c u a b).mono (Le.mark hg _),e5⟩
  cases h'
 spare:=fun id m' l a b=>by
  rcases Eu b with b|⟨b1,b2⟩
  ·rcases Eu a with a|⟨a,a'⟩
   ·exact hg.spare id m' l a b
   have:=AE b;have:=hg.len;omega
  cases b2
 map:=fun id kt es h=>by
  rcases Eu h with h|⟨h,h'⟩
  ·obtain⟨l,ob,e1,e0,e2,e3⟩:=hg.map id kt es h;exact⟨l,ob,Xg e1,e0,e2,e3.mono (Le.mark hg _)⟩
  cases h'
def G.Am(g:G)(id:Nat)(l':Option Loc)(o':A8)(w':World):G:=⟨w',g.fr,g.env.set id l',g.objs.set id o'⟩
structure N6(g:G)(id:Nat)(o:A8)(l':Option Loc)(o':A8)(w':World):Prop where
 obj:g.objs[id]?=some o
 os:w'.os=g.w.os
 tape:w'.tape=g.w.tape
 output:w'.output=g.w.output
 size:g.w.heap.size<=w'.heap.size
 block:∀k,k<g.w.heap.size->(∀l:Loc,g.env[id]?=some (some l)->o.live->l.block≠k)->w'.heap[k]?=g.w.heap[k]?
 cell:∀b off x,g.cell b off=some x->(∀l:Loc,g.env[id]?=some (some l)->o.live->l.block=b->off<l.lo)->w'.cell? ⟨b,off,none⟩=some x
 place:∀l1:Loc,l'=some l1->o'.live->g.w.heap.size<=l1.block∨∃l:Loc,g.env[id]?=some (some l)∧o.live∧l.block=l1.block∧l.lo<=l1.lo
 spare:∀m,o=.spare m->(∃m',o'=.spare m'∧m<m')∨¬o'.Hx
 plain:¬o.Hx->¬o'.Hx∧g.env[id]?=some l'
 gone:o≠.gone
theorem Q6(hg:Good g){id:Nat}{o:A8}(h:g.objs[id]?=some o):id<g.env.length:=by
 have:=AE h;have:=hg.len;omega
variable {id:Nat}{l':Option Loc}{o':A8}
theorem Hn.Am{o:A8}(hg:Good g)(ht:N6 g id o l' o' w'){b off:Nat}(h:Hn (g.Am id l' o' w') b off) :
  Hn g b off∨g.w.heap.size<=b:=by
 obtain⟨i,l1,o1,h1,h2,h3,h4,h5⟩:=h;simp only[G.Am]at h1 h2;by_cases e:id=i
 ·subst e;rw[Bb (Q6 hg ht.obj)]at h1;rw[Bb (AE ht.obj)]at h2;simp only[AM]at h1 h2;subst h2;rcases ht.place l1 h1 h3 with q|⟨l,q1,q2,q3,q4⟩
  ·exact .inr (h4 ▸ q)
  exact .inl ⟨id,l,o,q1,ht.obj,q2,q3.trans h4,NC q4 h5⟩
 rw[Ap e]at h1 h2;exact .inl ⟨i,l1,o1,h1,h2,h3,h4,h5⟩
theorem I1.Am{o:A8}(hg:Good g)(ht:N6 g id o l' o' w'){b:Nat}(h:I1 (g.Am id l' o' w') b) :
  I1 g b∨g.w.heap.size<=b:=by
 obtain⟨i,l1,o1,h1,h2,h3,h4⟩:=h;rcases Hn.Am hg ht ⟨i,l1,o1,h1,h2,h3,h4,B6 _⟩with q|q
 ·exact .inl q.block
 exact .inr q
theorem Le.Am{o:A8}(hg:Good g)(ht:N6 g id o l' o' w'):Le g (g.Am id l' o' w') where
 os:=ht.os
 tape:=ht.tape
 output:=ht.output
 fr:=rfl
 size:=ht.size
 block:=fun k hk hn=>⟨ht.block k hk fun l hl O9 e=>hn ⟨id,l,o,hl,ht.obj,O9,e⟩,fun hh=>by
  rcases I1.Am hg ht hh with q|q
  ·exact hn q
  omega⟩
 cell:=fun b off x hx hn=>⟨ht.cell b off x hx fun l hl O9 e=>by
   rcases T3 off l.lo with q|q
   ·exact q
   exact B3 ⟨id,l,o,hl,ht.obj,O9,e,q⟩ hn,fun hh=>by
  rcases Hn.Am hg ht hh with q|q
  ·exact hn q
  have:=ax hx;omega⟩
 len:=by simp[G.Am]
 spare:=fun i m hm=>by
  by_cases e:id=i
  ·subst e;have BX:=hm.symm.trans ht.obj;simp only[AM]at BX;rcases ht.spare m BX.symm with⟨m',q1,q2⟩|q1
   ·exact .inl ⟨m',by simp only[G.Am];rw[Bb (AE ht.obj),q1],I⟩
   exact .inr ⟨o',aan,q1⟩
  exact .inl ⟨m,by simp only[G.Am];rw[Ap e];exact hm,B6 _⟩
 plain:=fun i o1 ho hn=>by
  by_cases e:id=i
  ·subst e;have CO:=ho.symm.trans ht.obj;simp only[AM]at CO;subst CO;obtain⟨q1,q2⟩:=ht.plain hn;exact⟨⟨o',aan,q1⟩,by simp only[G.Am];rw[Bb (Q6 hg ht.obj),q2]⟩
  exact⟨⟨o1,by simp only[G.Am];rw[Ap e];exact ho,hn⟩,aaw⟩
 gone:=fun i hi=>by
  by_cases e:id=i
  ·subst e;have:=hi.symm.trans ht.obj;simp only[AM]at this;exact B3 this.symm ht.gone
  simp only[G.Am];rw[Ap e];exact hi
 tok:=fun i m hm BX=>by
  by_cases e:id=i
  ·subst e;have h1:=hm.symm.trans ht.obj;simp only[AM]at h1;simp only[G.Am]at BX;rw[Bb (AE ht.obj)]at BX;simp only[AM]at BX;rcases ht.spare m h1.symm with⟨m',q1,q2⟩|q1
   ·rw[q1]at BX;simp only[A8.spare.injEq]at BX;omega
   exact B3 (BX ▸ trivial) q1
  refine⟨aaw,fun l hl=>ht.block _ (hg.loc i l _ hl hm trivial) fun l1 KP O9 eb=>?_⟩;exact e (hg.apart id i l1 l o _ KP ht.obj O9 hl hm trivial eb)
def qk5(g':G)(l':Option Loc)(o:A8):Prop :=
 match o with
 | .cells cs=>∃(l:Loc) (arr:Array Value) (t:TypeId),l'=some l∧l.lo=0∧g'.w.heap[l.block]?=some (.cells arr t (0,0))∧cs.length<=arr.size ∧
   (∀(j:Nat) (c:A2) (u:Value),cs[j]?=some c->arr[j]?=some u->RV g' c u)∧(∀c∈cs,c.scalar)∧l.sz<=arr.size
 | .spare _=>∀l,l'=some l->∃(arr:Array Value) (t:TypeId),g'.w.heap[l.block]?=some (.cells arr t (0,0))
 | .map kt es=>∃(l:Loc) (ob:Obj),l'=some l∧l.lo=0∧g'.w.heap[l.block]?=some ob∧PU g' kt es ob
 | .gone=>True
theorem Good.Am{o:A8}(hg:Good g)(ht:N6 g id o l' o' w')(hf:qk5 (g.Am id l' o' w') l' o')
  (Ag:∀l1,l'=some l1->o'.live->l1.block<w'.heap.size):Good (g.Am id l' o' w'):=by
 have hle:=Le.Am hg ht;have VL:∀i l1,i≠id->(g.Am id l' o' w').env[i]?=some (some l1)->g.env[i]?=some (some l1):=fun i l1 AT h=>by
  simp only[G.Am]at h
  rwa [Ap (Ne.symm AT)]at h
 have FZ:∀i o1,i≠id->(g.Am id l' o' w').objs[i]?=some o1->g.objs[i]?=some o1:=fun i l1 AT h=>by
  simp only[G.Am]at h
  rwa [Ap (Ne.symm AT)]at h
 have ba:∀l1,(g.Am id l' o' w').env[id]?=some l1->l'=l1:=fun l1 h=>by
  simp only[G.Am]at h;rw[Bb (Q6 hg ht.obj)]at h;simpa using h
 have Ww:∀o1,(g.Am id l' o' w').objs[id]?=some o1->o'=o1:=fun l1 h=>by
  simp only[G.Am]at h;rw[Bb (AE ht.obj)]at h;simpa using h
 have Ry:∀i l1 o1,i≠id->g.env[i]?=some (some l1)->g.objs[i]?=some o1->o1.live->w'.heap[l1.block]?=g.w.heap[l1.block]?:=fun i l1 o1 AT h1 h2 h3 =>
  ht.block _ (hg.loc i l1 o1 h1 h2 h3) fun l2 Ju O9 eb=>AT (hg.apart id i l2 l1 o o1 Ju ht.obj O9 h1 h2 h3 eb).symm
 refine⟨fun b off h=>L' (hg.frlt b off h) ht.size,?_,?_,?_,?_,?_,?_,?_⟩
 ·intro i l1 o1 h1 h2 h3 off hf0;have E8:g.fr l1.block off:=hf0;by_cases e:i=id
  ·subst e;have q1:=ba _ h1;have q2:=Ww _ h2;subst q2;rcases ht.place l1 q1 h3 with q|⟨l,p1,p2,p3,_⟩
   ·have:=hg.frlt _ _ E8;omega
   exact hg.HQ i l o p1 ht.obj p2 off (p3 ▸ E8)
  exact hg.HQ i l1 o1 (VL i l1 e h1) (FZ i o1 e h2) h3 off E8
 ·simp[G.Am,hg.len]
 ·intro i l1 o1 h1 h2 h3;by_cases e:i=id
  ·subst e;have:=ba _ h1;have:=Ww _ h2;subst this;exact Ag l1 I8 h3
  have:=hg.loc i l1 o1 (VL i l1 e h1) (FZ i o1 e h2) h3;exact L' this ht.size
 ·intro i j l1 l2 o1 o2 h1 h2 h3 k1 k2 k3 hb;by_cases e:i=id
  ·by_cases e':j=id
   ·omega
   subst e;have q1:=ba _ h1;have q2:=Ww _ h2;subst q2;have r1:=VL j l2 e' k1;have r2:=FZ j o2 e' k2;rcases ht.place l1 q1 h3 with q|⟨l,p1,p2,p3,_⟩
   ·have:=hg.loc j l2 o2 r1 r2 k3;omega
   exact hg.apart i j l l2 o o2 p1 ht.obj p2 r1 r2 k3 (p3.trans hb)
  by_cases e':j=id
  ·subst e';have q1:=ba _ k1;have q2:=Ww _ k2;subst q2;have r1:=VL i l1 e h1;have r2:=FZ i o1 e h2;rcases ht.place l2 q1 k3 with q|⟨l,p1,p2,p3,_⟩
   ·have:=hg.loc i l1 o1 r1 r2 h3;omega
   exact hg.apart i j l1 l o1 o r1 r2 h3 p1 ht.obj p2 (hb.trans p3.symm)
  exact hg.apart i j l1 l2 o1 o2 (VL i l1 e h1) (FZ i o1 e h2) h3 (VL j l2 e' k1) (FZ j o2 e' k2) k3 hb
 ·intro i cs h;by_cases e:i=id
  ·subst e;have q:=Ww _ h;subst q;obtain⟨l,arr,t,p1,p2,p3,p4,p5,p6⟩:=hf;exact⟨l,arr,t,aac,p2,p3,p4,p5,p6⟩
  obtain⟨l,arr,t,p1,p2,p3,p4,p5,p6⟩:=hg.cells i cs (FZ i _ e h);exact⟨l,arr,t,aap,p2,(Ry i l _ e p1 (FZ i _ e h) trivial).trans p3,p4,fun j c u a b=>(p5 j c u a b).mono hle,p6⟩
 ·intro i m l1 h h1;by_cases e:i=id
  ·subst e;have q:=Ww _ h;subst q;exact hf l1 (ba _ h1)
  obtain⟨arr,t,p⟩:=hg.spare i m l1 (FZ i _ e h) (VL i l1 e h1);exact⟨arr,t,(Ry i l1 _ e (VL i l1 e h1) (FZ i _ e h) trivial).trans p⟩
 intro i kt es h;by_cases e:i=id
 ·subst e;have q:=Ww _ h;subst q;obtain⟨l,ob,p1,p2,p3,p4⟩:=hf;exact⟨l,ob,aac,p2,p3,p4⟩
 obtain⟨l,ob,p1,p2,p3,p4⟩:=hg.map i kt es (FZ i _ e h);exact⟨l,ob,aap,p2,(Ry i l _ e p1 (FZ i _ e h) trivial).trans p3,p4.mono hle⟩
inductive TD where
 | other
 | struct (fs:List (Nat×TypeId))
 | slice (e:TypeId)
 | array (n:Nat) (e:TypeId)
 | map (k e:TypeId)
structure CU where
 size:Nat
 bytes:Nat
 zero:List A2
 desc:TD
def TD.agg:TD->Bool
 | .struct _ | .array _ _=>true
 | _=>false
def bE(d:TypeDesc):TD->Prop
 | .struct fs=>∃fields:Array Field,d=.struct fields∧fields.toList.map (fun f=>(f.offset,f.type))=fs
 | .slice e=>d=.slice e
 | .array n e=>d=.array n e
 | .map k e=>d=.map k e
 | .other=>(match d with | .struct _=>False | .array _ _=>False | _=>True)
structure NU(P:Program)(t:TypeId)(ti:CU):Prop where
 info:∃(i:TypeInfo) (z:Value),P.info? t=some i∧i.size=ti.size∧i.bytes=ti.bytes∧i.zero=some z∧z.cells.size=ti.zero.length∧ti.zero.length=ti.size ∧
  ((ti.desc.agg=true->∃cs,z=.agg cs)∧(ti.desc.agg=false->z.cells = #[z]))∧(∀g:G,∀(j:Nat) (c:A2) (u:Value),ti.zero[j]?=some c->z.cells[j]?=some u->RV g c u)∧∀c∈ti.zero,c.scalar
 desc:∃d,P.underlying t=some d∧bE d ti.desc
abbrev Cn:=TypeId->Option CU
def CH(P:Program)(AD:Cn):Prop:=∀t ti,AD t=some ti->NU P t ti
def SA:IntKind->Int
 | .i8=>-128
 | .i16=>-32768
 | .i32=>-2147483648
 | .i64=>-9223372036854775808
 | _=>0
def Ow:IntKind->Int
 | .i8=>127
 | .i16=>32767
 | .i32=>2147483647
 | .i64=>9223372036854775807
 | .u8=>255
 | .u16=>65535
 | .u32=>4294967295
 | .u64=>18446744073709551615
theorem fI(k:IntKind):SA k=k.min:=by cases k<;>rfl
theorem fL(k:IntKind):Ow k=k.max:=by cases k<;>rfl
def bF:Value->Option A2
 | .int k n=>if SA k<=n∧n<=Ow k then some (.v (.int k n))else none
 | .agg _=>none
 | .tuple _=>none
 | x=>some (.v x)
def St.ev(σ:St):Operand->Option A2
 | .tmp t=>σ.get t
 | .const x=>bF x
 | .func f=>some (.fn (.func f) [] [])
 | .global _=>none
theorem Rel.eval{a:Act}(h:Rel base σ a g){x:Operand}{y:A2}(hx:σ.ev x=some y):RV g y (a.eval x):=by
 cases x with
 | tmp t =>
  obtain⟨u,h1,h2⟩:=h.slot t y hx;have:a.eval (.tmp t)=u:=by simp[Act.eval,HU,h1]
  rw[this];exact h2
 | const v =>
  simp only[St.ev]at hx;unfold bF at hx;split at hx
  ·split at hx
   ·rename_i hh;simp only[AM]at hx;subst hx;rw[fI,fL]at hh;exact .v hh
   cases hx
  ·cases hx
  ·cases hx
  rename_i h1 h2 h3;simp only[AM]at hx;subst hx;refine .v ?_;unfold Mu;split
  ·rename_i k n;exact B3 rfl (h1 k n)
  ·rename_i cs;exact B3 rfl (h2 cs)
  ·rename_i vs;exact B3 rfl (h3 vs)
  trivial
 | func f =>
  simp only[St.ev,AM]at hx;subst hx;exact .fn rfl rfl A6 A6
 | global _=>cases hx
inductive Mode where
 | pure
 | read
 | rd (id:Nat)
 | write (O:List A8)
 | wr (n:Nat) (l:List Nat) (O:List A8)
 | new (id:Nat) (o:A8)
def Mode.post(m:Mode)(O:List A8):List A8 :=
 match m with
 | .write O'=>O'
 | .wr _ _ O'=>O'
 | .new id o=>O.set id o
 | _=>O
def Mode.agree(m:Mode)(O O0:List A8):Prop :=
 match m with
 | .pure=>True
 | .rd id=>O[id]?=O0[id]?
 | .new id _=>O[id]?=O0[id]?
 | _=>O=O0
def Mode.ok(m:Mode)(O:List A8):Prop :=
 match m with
 | .wr n l O'=>∀i,i<n->i ∉ l->O'[i]?=O[i]?
 | _=>True
variable {m:Mode}{O:List A8}
theorem Mode.kr{O0:List A8}(h:m=.pure∨O=O0):m.agree O O0:=by
 rcases h with h|h
 ·subst h;trivial
 subst h;cases m<;>first|trivial|rfl
def MR(d:Option Nat)(r:A2)(l:List (Nat×A2)):List (Nat×A2) :=
 match d with
 | some d=>GY d r l
 | none=>l
def Cert(P:Program)(o:Oper)(H5:St)(r:A2)(m:Mode):Prop :=
 m.ok H5.objs∧∀(base:G) (σ:St) (a:Act) (g:G),Rel base σ a g->σ.n=H5.n->(∀x∈o.op.operands,∀y,H5.ev x=some y->σ.ev x=some y)->m.agree σ.objs H5.objs ->
  ∀(K:Act->World->Prop) (Q:Exit->Act->World->Prop),(∀u g',Rel base ⟨σ.n,MR o.dst r σ.BG,m.post σ.objs⟩ (a.put o.dst u) g'->K (a.put o.dst u) g'.w)->o.wp P a g.w K Q
variable {P:Program}{o:Oper}{H5:St}{r:A2}
theorem Cert.lS(EU:m.ok H5.objs)(hd:∀d,o.dst=some d->d<H5.n)
  (h:∀(base:G) (σ:St) (a:Act) (g:G),Rel base σ a g->(∀x∈o.op.operands,∀y,H5.ev x=some y->RV g y (a.eval x))->m.agree g.objs H5.objs ->
   ∃u g',((execOp a.eval o).run P g.w=.ok (.value u) g'.w∨(o.dst=none∧(execOp a.eval o).run P g.w=.ok .skip g'.w))∧Le g g'∧Good g'∧g'.objs=m.post g.objs∧RV g' r u):Cert P o H5 r m:=by
 refine⟨EU,?_⟩;intro base σ a g Ax hn Er hm K Q hK;obtain⟨u,g',Aj,hle,EA,qlD,GJ⟩:=h base σ a g Ax (fun x hx y hy=>Ax.eval (Er x hx y hy)) (by rw[Ax.objs];exact hm);have key:Rel base ⟨σ.n,MR o.dst r σ.BG,m.post σ.objs⟩ (a.put o.dst u) g':=by
  have e:g'.objs=m.post σ.objs:=by rw[qlD,Ax.objs]
  cases IS:o.dst with
  | none =>
   have:=Ax.step hle EA;rw[e]at this;exact Cd
  | some d =>
   have:=Ax.put hle EA (d:=d) j6 GJ;rw[e]at this;exact Cd
 unfold Oper.wp;rcases Aj with Aj|⟨ES,Aj⟩
 ·rw[Aj,Oper.upon_value];exact hK u g' key
 rw[Aj,Oper.upon_skip];have:=hK u g' key;rw[ES]at this ⊢;exact Cd
def Mode.plain:Mode->Prop
 | .rd _=>False
 | .wr _ _ _=>False
 | .new _ _=>False
 | _=>True
theorem Mode.wM(hp:m.plain){O O0:List A8}(h:m.agree O O0):m=.pure∨O=O0:=by
 cases m<;>first|exact .inl rfl|exact .inr h|exact hp.elim
theorem Cert.IP(hd:∀d,o.dst=some d->d<H5.n)
  (h:∀(base:G) (σ:St) (a:Act) (g:G),Rel base σ a g->(∀x∈o.op.operands,∀y,H5.ev x=some y->RV g y (a.eval x))->(m=.pure∨g.objs=H5.objs) ->
   ∃u g',((execOp a.eval o).run P g.w=.ok (.value u) g'.w∨(o.dst=none∧(execOp a.eval o).run P g.w=.ok .skip g'.w))∧Le g g'∧Good g'∧g'.objs=m.post g.objs∧RV g' r u) (hp:m.plain:=by trivial):Cert P o H5 r m :=
 Cert.lS aai hd fun base σ a g Ax Er hm=>h base σ a g Ax Er (m.wM hp hm)
variable {O':List A8}
theorem Cert.close(h:Cert P o H5 r (.write O')){n:Nat}{l:List Nat}(hk:∀i,i<n->i ∉ l->O'[i]?=H5.objs[i]?):Cert P o H5 r (.wr n l O'):=⟨hk,h.2⟩
theorem Cert.EL(m:Mode)(hm:m=.pure∨m=.read)(hd:∀d,o.dst=some d->d<H5.n)
  (h:∀(a:Act) (g:G),Good g->(∀x∈o.op.operands,∀y,H5.ev x=some y->RV g y (a.eval x))->(m=.pure∨g.objs=H5.objs) ->
   ∃u,(execOp a.eval o).run P g.w=.ok (.value u) g.w∧RV g r u):Cert P o H5 r m :=
 Cert.IP (hp:=by rcases hm with hm|hm<;>subst hm<;>trivial) hd fun base σ a g Ax Er ho=>by
  obtain⟨u,h1,h2⟩:=h a g Ax.good Er ho;refine⟨u,g,.inl h1,Le.refl g,Ax.good,?_,h2⟩;rcases hm with hm|hm<;>subst hm<;>rfl
theorem Cert.ga(hd:∀d,o.dst=some d->d<H5.n)
  (h:∀(a:Act) (g:G),Good g->(∀x∈o.op.operands,∀y,H5.ev x=some y->RV g y (a.eval x))->g.objs[id]?=H5.objs[id]? ->
   ∃u,(execOp a.eval o).run P g.w=.ok (.value u) g.w∧RV g r u):Cert P o H5 r (.rd id) :=
 Cert.lS trivial hd fun base σ a g Ax Er ho=>by
  obtain⟨u,h1,h2⟩:=h a g Ax.good Er ho;exact⟨u,g,.inl h1,Le.refl g,Ax.good,rfl,h2⟩
theorem addr_add(b off j:Nat):(⟨b,off,none⟩:Addr).add j=⟨b,off+j,none⟩:=by
 unfold Addr.add;split
 ·rename_i h;subst h;rfl
 rfl
section
variable {P:Program} {t:TypeId} {ti:CU}
theorem NU.sizeOf(h:NU P t ti)(w:World):(Go.sizeOf t).run P w=.ok ti.size w:=by
 obtain⟨⟨i,z,h1,h2,_⟩,_⟩:=h;simp[Go.sizeOf,typeInfo,h1,h2]
theorem NU.isAgg(h:NU P t ti)(w:World):(Go.isAgg t).run P w=.ok ti.desc.agg w:=by
 obtain⟨_,d,h1,h2⟩:=h;simp only[Go.isAgg,Go.underlying,Sem.run_bind,run_program,Result.andThen_ok,h1];cases hd:ti.desc<;>rw[hd]at h2<;>simp only[bE]at h2
 ·cases d<;>simp_all [TD.agg]
 ·obtain⟨fs,h3,_⟩:=h2;subst h3;simp[TD.agg]
 ·subst h2;simp[TD.agg]
 ·subst h2;simp[TD.agg]
 subst h2;simp[TD.agg]
theorem NU.zeroValue(h:NU P t ti):∃z,(∀w,(Go.zeroValue t).run P w=.ok z w)∧z.cells.size=ti.zero.length∧ti.zero.length=ti.size∧(ti.desc.agg=true->∃cs,z=.agg cs) ∧
  (∀g:G,∀(j:Nat) (c:A2) (u:Value),ti.zero[j]?=some c->z.cells[j]?=some u->RV g c u)∧∀c∈ti.zero,c.scalar:=by
 obtain⟨⟨i,z,h1,h2,h3,h4,h5,h6,h7,h8,h9⟩,_⟩:=h;exact⟨z,fun w=>aaZ,h5,h6,h7.1,h8,h9⟩
theorem NU.sD(h:NU P t ti)(EO:ti.desc.agg=true)(w:World)(b off:Nat)(f:Nat->Value)(hc:∀j,j<ti.size->w.cell? ⟨b,off+j,none⟩=some (f j)) :
  (loadVar t ⟨b,off,none⟩).run P w=.ok (.agg ((List.range ti.size).map f).toArray) w:=by
 have hl:=run_loadCells (P:=P) w ⟨b,off,none⟩ ti.size f (fun j hj=>by rw[addr_add];exact hc j hj);simp[loadVar,h.isAgg,h.sizeOf,EO,hl]
theorem NU.pC(h:NU P t ti)(EO:ti.desc.agg=false)(w:World)(a:Addr)(u:Value)(hc:w.cell? a=some u):(loadVar t a).run P w=.ok u w:=by
 simp[loadVar,h.isAgg,EO,hc]
end
theorem Yk(k:IntKind)(n:Int)(h1:k.min<=n)(h2:n<=k.max):k.wrap n=n:=by
 cases k<;>simp[IntKind.min,IntKind.max,IntKind.wrap,IntKind.bits,IntKind.signed]at *<;>omega
variable {u:Value}
theorem RV.Vy{x:A2}(h:RV g x u)(hs:x.scalar):u.oneCell'=true∧u.cells = #[u]:=by
 cases h with
 | v hx =>
  cases u<;>simp[Mu]at hx<;>simp[Value.oneCell',Value.cells]
 | agg=>exact hs.elim
 | Ab=>exact hs.elim
 | nil=>simp[Value.oneCell',Value.cells]
 | A3=>simp[Value.oneCell',Value.cells]
 | ip=>simp[Value.oneCell',Value.cells]
 | mp=>simp[Value.oneCell',Value.cells]
 | ms=>simp[Value.oneCell',Value.cells]
 | os=>simp[Value.oneCell',Value.cells]
 | raw=>simp[Value.oneCell',Value.cells]
 | mm=>simp[Value.oneCell',Value.cells]
 | im=>simp[Value.oneCell',Value.cells]
 | fn=>simp[Value.oneCell',Value.cells]
theorem RV.cells{x:A2}(h:RV g x u)(hs:∀c∈x.cells,c.scalar):u.cells.size=x.cells.length∧∀(j:Nat) (c:A2) (e:Value),x.cells[j]?=some c->u.cells[j]?=some e->RV g c e:=by
 by_cases hx:x.scalar
 ·have:=(h.Vy hx).2;have hc:x.cells=[x]:=by
   cases x<;>simp[A2.scalar]at hx<;>rfl
  rw[this,hc];refine⟨rfl,fun j c e h1 h2=>?_⟩
  match j,h1,h2 with
  | 0,h1,h2 =>
   simp at h1 h2;subst h1;subst h2;exact h
 cases h with
 | agg hl B1 hh=>exact⟨hl,hh⟩
 | Ab=>exact B3 (hs _ (List.mem_singleton.2 rfl)) (by simp[A2.scalar])
 | _=>exact B3 trivial hx
theorem ou(l:List α)(n:Nat)(f:Nat->α)(hn:l.length=n)(h:∀j,j<n->l[j]?=some (f j)):(List.range n).map f=l:=by
 apply Gg;intro i;rcases T3 i n with hi|hi
 ·rw[h i hi];simp[hi]
 rw[H3 T5,H3 I]
theorem RV.ofRow(cs:List A2)(f:Nat->Value)(B1:∀c∈cs,c.scalar)(hr:∀(j:Nat)(c:A2),cs[j]?=some c->RV g c (f j)):RV g (.agg cs) (.agg ((List.range cs.length).map f).toArray) :=
 .agg A6 B1 fun i c u h1 h2=>by
  have hi:=AE h1;simp[hi]at h2;subst h2;exact hr i c h1
theorem RV.D0{x:Value}(h:RV g (.v x) u):u=x∧Mu x:=by
 cases h with
 | v h=>exact⟨rfl,h⟩
variable {cs:List A2}
theorem RV.Wc{oa:Option Addr}(h:RV g (.ip oa cs) u):∃(b off:Nat) (f:Nat->Value),u=.pointer (some ⟨b,off,none⟩)∧(oa=none∨oa=some ⟨b,off,none⟩)∧(∀c∈cs,c.scalar) ∧
  (∀(j:Nat) (c:A2),cs[j]?=some c->g.cell b (off+j)=some (f j)∧¬HD g b (off+j))∧∀(j:Nat) (c:A2),cs[j]?=some c->RV g c (f j):=by
 cases h with
 | ip ha B1 f hm hr=>exact⟨_,_,f,rfl,ha,B1,hm,hr⟩
theorem RV.RT(h:RV g (.mp id off) u):∃(l:Loc) (o:A8),g.env[id]?=some (some l)∧g.objs[id]?=some o∧¬o.Hx∧u=.pointer (some ⟨l.block,off,none⟩):=by
 cases h with
 | mp he ho hn=>exact⟨_,_,he,ho,hn,rfl⟩
variable {len cap:Nat}
theorem RV.QD(h:RV g (.ms id off len cap) u):∃(l:Loc) (o:A8),g.env[id]?=some (some l)∧g.objs[id]?=some o∧¬o.Hx∧len<=cap∧len<=2 ^ 62∧∃Dm,cap<=Dm∧u=.slice (some ⟨l.block,off,none⟩) len Dm:=by
 cases h with
 | ms he ho hn hc GU Bm=>exact⟨_,_,he,ho,hn,hc,Bm,_,GU,rfl⟩
variable {sz:Nat}
theorem RV.Yo(h:RV g (.os id len sz) u):∃(l:Loc) (o:A8) (cap:Nat),g.env[id]?=some (some l)∧g.objs[id]?=some o∧¬o.Hx∧len<=cap∧cap*sz<=l.sz∧len<=2 ^ 62∧u=.slice (some ⟨l.block,0,none⟩) len cap:=by
 cases h with
 | os he ho hn hc hb Bm=>exact⟨_,_,_,he,ho,hn,hc,hb,Bm,rfl⟩
variable {n:Nat}
theorem RV.qjF(h:RV g (.raw sz n id) u):∃(a:Addr) (cap:Nat),u=.slice (some a) n cap∧n<=cap∧Wr g (.tok id) a sz 0 cap:=by
 cases h with
 | raw hn ho=>exact⟨_,_,rfl,hn,ho⟩
theorem RV.mv(h:RV g (.mm id) u):∃(l:Loc) (o:A8),g.env[id]?=some (some l)∧g.objs[id]?=some o∧¬o.Hx∧u=.map (some l.block):=by
 cases h with
 | mm he ho hn=>exact⟨_,_,he,ho,hn,rfl⟩
theorem RV.lz(h:RV g (.agg cs) u):∃vs:Array Value,u=.agg vs∧vs.size=cs.length∧(∀c∈cs,c.scalar)∧∀(i:Nat) (c:A2) (e:Value),cs[i]?=some c->vs[i]?=some e->RV g c e:=by
 cases h with
 | agg hl B1 h=>exact⟨_,rfl,hl,B1,h⟩
theorem RV.qjT(h:RV g (.Ab cs) u):∃vs:Array Value,u=.tuple vs∧vs.size=cs.length∧∀(i:Nat) (c:A2) (e:Value),cs[i]?=some c->vs[i]?=some e->RV g c e:=by
 cases h with
 | Ab hl h=>exact⟨_,rfl,hl,h⟩
variable {fs:List A2}
theorem RV.xc{f:Fn}(h:RV g (.fn f fs cs) u):∃us vs:Array Value,u=.func f us vs∧us.size=fs.length∧vs.size=cs.length ∧
  (∀(i:Nat) (c:A2) (e:Value),fs[i]?=some c->us[i]?=some e->RV g c e)∧∀(i:Nat) (c:A2) (e:Value),cs[i]?=some c->vs[i]?=some e->RV g c e:=by
 cases h with
 | fn hl J9 h h'=>exact⟨_,_,rfl,hl,J9,h,h'⟩
theorem RV.qky(h:RV g (.im kt es) u):∃(r clk:Nat) (arr:Array MapEntry),u=.map (some r)∧g.w.heap[r]?=some (.map arr clk)∧arr.size=es.length ∧
  (∀(i:Nat) (e:MapEntry) (kx:Value×A2),arr[i]?=some e->es[i]?=some kx->e.key=kx.1)∧(∀p∈es,kt.ok p.1)∧∀(i:Nat) (e:MapEntry) (kx:Value×A2),arr[i]?=some e->es[i]?=some kx->RV g kx.2 e.val:=by
 cases h with
 | im hh hn hl hk Ik hb hr=>exact⟨_,_,_,rfl,hh,hl,hk,Ik,hr⟩
variable {xs:List A2}
theorem RV.LP{o:Ec}(h:RV g (.A3 sz xs o) u) :
  (u=.slice none 0 0∧xs=[])∨∃(a:Addr) (cap:Nat) (f:Nat->Value),u=.slice (some a) xs.length cap∧(∀x∈xs,x.cells.length=sz)∧(∀x∈xs,∀c∈x.cells,c.scalar)∧xs.length<=cap∧xs.length<=2 ^ 62∧(xs≠[]->a.spot=none) ∧
   (∀(j:Nat) (c:A2),(AP xs)[j]?=some c->g.cell a.block (a.off+j)=some (f j)∧¬HD g a.block (a.off+j))∧(∀(j:Nat) (c:A2),(AP xs)[j]?=some c->RV g c (f j))∧Wr g o a sz xs.length cap:=by
 cases h with
 | nil=>exact .inl ⟨rfl,rfl⟩
 | A3 Ag B1 C1 Bm hs f hm hr ho=>exact .inr ⟨_,_,f,rfl,Ag,B1,C1,Bm,hs,hm,hr,ho⟩
theorem RV.wz{o:Ec}(h:RV g (.A3 sz xs o) u):xs.length<=2 ^ 62:=by
 rcases h.LP with⟨_,h⟩|⟨_,_,_,_,_,_,_,h,_⟩
 ·subst h;simp
 exact h
theorem RV.Xq{o:Ec}(h:RV g (.A3 sz xs o) u):RV g (.A3 sz xs .sh) u:=by
 cases h with
 | nil=>exact .nil (fun id e=>db) A6
 | A3 Ag B1 C1 Bm hs f hm hr ho=>exact .A3 Ag B1 C1 Bm hs f hm hr trivial
theorem om(Ag:∀x∈xs,x.cells.length=sz){i j:Nat}{x c:A2}(hx:xs[i]?=some x)(hc:x.cells[j]?=some c):(AP xs)[i*sz+j]?=some c:=by
 induction xs generalizing i with
 | nil=>simp at hx
 | cons y ys ih =>
  have hy:=Ag y A6;cases i with
  | zero =>
   simp at hx;subst hx;simp only[AP,GF,MH,Db];rw[Gt,A9 (AE hc)];exact hc
  | succ i =>
   simp at hx;have:=ih (fun x hx=>Ag x QQ) hx;simp only[AP,GF]at this ⊢;rw[Gt,A4 (by rw[hy,RZ];omega),hy];rw[show(i+1)*sz+j-sz=i*sz+j from YN];exact Cd
theorem Ja(Ag:∀x∈xs,x.cells.length=sz):(AP xs).length=xs.length*sz:=by
 induction xs with
 | nil=>simp[AP]
 | cons y ys ih =>
  have hy:=Ag y A6;have:=ih (fun x hx=>Ag x QQ);simp only[AP,GF,Bf,CE]at this ⊢;rw[this,hy,RZ];omega
variable {x:Operand}{y:A2}
theorem qeM(ho:o.op=.move x∨o.op=.assign x)(hd:∀d,o.dst=some d->d<σ.n)(hx:σ.ev x=some y):Cert P o σ y .pure :=
 Cert.EL .pure (.inl rfl) hd fun a g _ h _=>⟨a.eval x,by rcases ho with ho|ho<;>simp[execOp,ho],h x iv y hx⟩
theorem qgD(sz:Nat)(ho:o.op=.move (.const (.slice none 0 0))∨o.op=.assign (.const (.slice none 0 0)))(hd:∀d,o.dst=some d->d<σ.n):Cert P o σ (.A3 sz [] .ex) .pure :=
 Cert.EL .pure (.inl rfl) hd fun a g _ _ _=>⟨.slice none 0 0,by rcases ho with ho|ho<;>simp[execOp,ho,Act.eval],.nil (fun id e=>db) A6⟩
theorem uL{c z:Operand}{b:Bool}(ho:o.op=.pick c x z)(hd:∀d,o.dst=some d->d<σ.n)(hc:σ.ev c=some (.v (.bool b)))
  (hx:b=true->σ.ev x=some y) (hz:b=false->σ.ev z=some y):Cert P o σ y .pure :=
 Cert.EL .pure (.inl rfl) hd fun a g _ h _=>by
  have e2:=(h c CM _ hc).D0.1;cases b
  ·exact⟨a.eval z,aax,h z CM y (hz rfl)⟩
  exact⟨a.eval x,aax,h x CM y (hx rfl)⟩
variable {j:Nat}
theorem Zm{c:α}(h:(l.take n)[j]?=some c):l[j]?=some c:=by
 rw[GC]at h;split at h
 ·exact h
 cases h
variable {AD:Cn}
theorem qaz(hT:CH P AD){o:Oper}{σ:St}{t:TypeId}{x:Operand}{ti:CU}{oa:Option Addr}{cs:List A2}(ho:o.op=.load t x)(hd:∀d,o.dst=some d->d<σ.n)
  (ht:AD t=some ti) (hx:σ.ev x=some (.ip oa cs)) (EO:ti.desc.agg=true) (hs:ti.size<=cs.length):Cert P o σ (.agg (cs.take ti.size)) .pure :=
 Cert.EL .pure (.inl rfl) hd fun a g _ h _=>by
  obtain⟨b,off,f,e,_,B1,hm,hr⟩:=(h x CM _ hx).Wc;have Aj:=(hT t ti ht).sD EO g.w b off f (fun j hj=>(hm j _ (AY I)).1);have hlen:(cs.take ti.size).length=ti.size:=Ai
  refine⟨.agg ((List.range ti.size).map f).toArray,iz,?_⟩;have:=RV.ofRow (g:=g) (cs.take ti.size) f (fun c hc=>B1 c (KF hc)) (fun j c hj=>hr j c (Zm hj));rw[hlen]at this;exact Cd
theorem qaZ(hT:CH P AD){o:Oper}{σ:St}{t:TypeId}{x:Operand}{ti:CU}{oa:Option Addr}{cs:List A2}{c:A2}(ho:o.op=.load t x)(hd:∀d,o.dst=some d->d<σ.n)
  (ht:AD t=some ti) (hx:σ.ev x=some (.ip oa cs)) (EO:ti.desc.agg=false) (hs:cs[0]?=some c):Cert P o σ c .pure :=
 Cert.EL .pure (.inl rfl) hd fun a g _ h _=>by
  obtain⟨b,off,f,e,_,B1,hm,hr⟩:=(h x CM _ hx).Wc;have Aj:=(hT t ti ht).pC EO g.w ⟨b,off,none⟩ (f 0) (hm 0 c hs).1;exact⟨f 0,iz,hr 0 c hs⟩
theorem Good.row(hg:Good g){id:Nat}{cs:List A2}{l:Loc}(ho:g.objs[id]?=some (.cells cs))(he:g.env[id]?=some (some l)) :
  ∃(arr:Array Value) (t:TypeId),l.lo=0∧g.w.heap[l.block]?=some (.cells arr t (0,0))∧cs.length<=arr.size∧(∀(j:Nat) (c:A2) (u:Value),cs[j]?=some c->arr[j]?=some u->RV g c u)∧(∀c∈cs,c.scalar)∧l.sz<=arr.size:=by
 obtain⟨l',arr,t,h1,h2,h3,h4,h5,h6⟩:=hg.cells id cs ho;rw[he]at h1;simp only[AM]at h1;subst h1;exact⟨arr,t,h2,h3,h4,h5,h6⟩
variable {t:TypeId}
theorem cell_of_row{w:World}{arr:Array Value}{fz:Nat×Nat}(h:w.heap[b]?=some (.cells arr t fz))(off:Nat):w.cell? ⟨b,off,none⟩=arr[off]?:=by
 simp[World.cell?,h]
theorem qb0(hT:CH P AD){o:Oper}{σ:St}{t:TypeId}{x:Operand}{ti:CU}{id off:Nat}{cs:List A2}(ho:o.op=.load t x)(hd:∀d,o.dst=some d->d<σ.n)
  (ht:AD t=some ti) (hx:σ.ev x=some (.mp id off)) (Ex:σ.objs[id]?=some (.cells cs)) (EO:ti.desc.agg=true) (hs:off+ti.size<=cs.length):Cert P o σ (.agg ((cs.drop off).take ti.size)) (.rd id) :=
 Cert.ga hd fun a g hg h hO=>by
  obtain⟨l,o1,he,h1,_,e⟩:=(h x CM _ hx).RT;obtain⟨arr,t',_,CV,hlen,GJ,B1,_⟩:=hg.row Rf he;obtain⟨f,hf⟩:∃f:Nat->Value,∀j,off+j<arr.size->arr[off+j]?=some (f j):=⟨fun j=>arr.getD (off+j) undef,fun j hj=>by simp[HU,hj]⟩
  have Aj:=(hT t ti ht).sD EO g.w l.block off f (fun j hj=>by
   rw[cell_of_row CV];exact hf j I)
  have hl:((cs.drop off).take ti.size).length=ti.size:=Ai
  refine⟨.agg ((List.range ti.size).map f).toArray,iz,?_⟩;have:=RV.ofRow (g:=g) ((cs.drop off).take ti.size) f (fun c hc=>B1 c (N9 (KF hc))) (fun j c hj=>by
   have CK:=Zm hj;rw[FC]at CK;have AF:=AE CK;exact GJ (off+j) c _ CK (hf j I))
  rw[hl]at this;exact Cd
theorem qaa(hT:CH P AD){o:Oper}{σ:St}{t:TypeId}{x:Operand}{ti:CU}{id off:Nat}{cs:List A2}{c:A2}(ho:o.op=.load t x)(hd:∀d,o.dst=some d->d<σ.n)
  (ht:AD t=some ti) (hx:σ.ev x=some (.mp id off)) (Ex:σ.objs[id]?=some (.cells cs)) (EO:ti.desc.agg=false) (hs:cs[off]?=some c):Cert P o σ c (.rd id) :=
 Cert.ga hd fun a g hg h hO=>by
  obtain⟨l,o1,he,h1,_,e⟩:=(h x CM _ hx).RT;obtain⟨arr,t',_,CV,hlen,GJ,B1,_⟩:=hg.row Rf he;have AF:=AE hs;have Cg:g.w.cell? ⟨l.block,off,none⟩=some arr[off]:=by
   exact adF
  have Aj:=(hT t ti ht).pC EO g.w ⟨l.block,off,none⟩ _ Cg;exact⟨arr[off],iz,GJ off c _ hs aaX⟩
theorem adU(hT:CH P AD){f:Field}{tf:CU}(hf:AD f.type=some tf)(hs:tf.size≠0)(w:World)(b off:Nat) :
  (fieldPlace ⟨b,off,none⟩ f).run P w=.ok ⟨b,off+f.offset,none⟩ w:=by
 have:=(hT _ _ hf).sizeOf w;simp[fieldPlace,this,hs,addr_add]
theorem s7(hT:CH P AD){s:TypeId}{ti:CU}{fs:List (Nat×TypeId)}{k PL:Nat}{ft:TypeId}(ht:AD s=some ti)(Ah:ti.desc=.struct fs)(hk:fs[k]?=some (PL,ft)) :
  ∃(fields:Array Field) (f:Field),P.underlying s=some (.struct fields)∧fields[k]?=some f∧f.offset=PL∧f.type=ft:=by
 obtain⟨_,d,h1,h2⟩:=hT s ti ht;rw[Ah]at h2;obtain⟨fields,h3,h4⟩:=h2;subst h3;rw[<-h4]at hk;simp only[Bv,PB,NB,pL]at hk;obtain⟨f,e1,e2,e3⟩:=hk;exact⟨fields,f,h1,e1,e2,e3⟩
theorem qnc(hT:CH P AD){o:Oper}{σ:St}{s:TypeId}{x:Operand}{k PL:Nat}{ft:TypeId}{ti tf:CU}{fs:List (Nat×TypeId)}{oa:Option Addr}{cs:List A2}
  (ho:o.op=.fieldAddr s x k) (hd:∀d,o.dst=some d->d<σ.n) (ht:AD s=some ti) (Ah:ti.desc=.struct fs) (hk:fs[k]?=some (PL,ft)) (hf:AD ft=some tf) (hz:tf.size≠0)
  (hx:σ.ev x=some (.ip oa cs)):Cert P o σ (.ip (oa.map (·.add PL)) (cs.drop PL)) .pure :=
 Cert.EL .pure (.inl rfl) hd fun a g _ h _=>by
  obtain⟨b,off,f,e,ha,B1,hm,hr⟩:=(h x CM _ hx).Wc;obtain⟨fields,fl,h1,h2,h3,h4⟩:=s7 hT ht Ah hk;subst h3;subst h4;refine⟨.pointer (some ⟨b,off+fl.offset,none⟩),by simp[execOp,ho,e,Instr.fieldAt,run_underlying h1,h2,Instr.sureAddr,adU hT hf hz],?_⟩;refine .ip ?_ (fun c hc=>B1 c (N9 hc)) (fun j=>f (fl.offset+j)) (fun j c hj=>?_) (fun j c hj=>?_)
  ·rcases ha with ha|ha<;>subst ha<;>simp[addr_add]
  ·rw[FC]at hj;rw[Y6];exact hm _ c hj
  rw[FC]at hj;exact hr _ c hj
theorem qnZ(hT:CH P AD){o:Oper}{σ:St}{s:TypeId}{x:Operand}{k PL:Nat}{ft:TypeId}{ti tf:CU}{fs:List (Nat×TypeId)}{id off:Nat}
  (ho:o.op=.fieldAddr s x k) (hd:∀d,o.dst=some d->d<σ.n) (ht:AD s=some ti) (Ah:ti.desc=.struct fs) (hk:fs[k]?=some (PL,ft)) (hf:AD ft=some tf) (hz:tf.size≠0)
  (hx:σ.ev x=some (.mp id off)):Cert P o σ (.mp id (off+PL)) .pure :=
 Cert.EL .pure (.inl rfl) hd fun a g _ h _=>by
  obtain⟨l,o1,he,h1,hn,e⟩:=(h x CM _ hx).RT;obtain⟨fields,fl,h2,h3,h4,h5⟩:=s7 hT ht Ah hk;subst h4;subst h5;exact⟨.pointer (some ⟨l.block,off+fl.offset,none⟩),by simp[execOp,ho,e,Instr.fieldAt,run_underlying h2,h3,Instr.sureAddr,adU hT hf hz],.mp he h1 hn⟩
theorem GZ(hT:CH P AD){t e:TypeId}{ti:CU}(ht:AD t=some ti)(Ah:ti.desc=.slice e):P.underlying t=some (.slice e):=by
 obtain⟨_,d,h1,h2⟩:=hT t ti ht;rw[Ah]at h2;simp only[bE]at h2;rw[h1,h2]
def Uy:Ec->Nat->Option Addr
 | .sh,_=>none
 | .ex,_=>none
 | .nn,_=>none
 | .tok _,_=>none
 | .loc a,k=>some ⟨a.block,a.off+k,none⟩
theorem qnY(hT:CH P AD){o:Oper}{σ:St}{t e:TypeId}{x i:Operand}{ti te:CU}{sz:Nat}{xs:List A2}{ow:Ec}{k:IntKind}{n:Int}{y:A2}
  (ho:o.op=.indexAddr t x i) (hd:∀d,o.dst=some d->d<σ.n) (ht:AD t=some ti) (Ah:ti.desc=.slice e) (he:AD e=some te) (Ag:te.size=sz)
  (hx:σ.ev x=some (.A3 sz xs ow)) (hi:σ.ev i=some (.v (.int k n))) (h0:0<=n) (hy:xs[n.toNat]?=some y):Cert P o σ (.ip (Uy ow (n.toNat*te.size)) y.cells) .pure :=
 Cert.EL .pure (.inl rfl) hd fun a g _ h _=>by
  have ei:=(h i CM _ hi).D0.1;have hu:=GZ hT ht Ah;have AF:=AE hy;rcases(h x CM _ hx).LP with⟨_,e0⟩|⟨ad,cap,f,eu,La,B1,_,Bm,hs,hm,hr,IQ⟩
  ·subst e0;simp at AF
  have bS:=hs (by intro e;subst e;simp at AF);obtain⟨b,off,sp⟩:=ad;simp only at bS;subst bS;subst Ag;have ED:y∈xs:=AK hy;refine⟨.pointer (some ⟨b,off+n.toNat*te.size,none⟩),?_,?_⟩
  ·have HR:n<(xs.length:Int):=I
   simp[execOp,ho,ei,eu,Instr.indexAt,asIntOf,run_underlying hu,h0,HR,(hT e te he).sizeOf,addr_add]
  have qlO:Uy ow (n.toNat*te.size)=none∨Uy ow (n.toNat*te.size)=some ⟨b,off+n.toNat*te.size,none⟩:=by
   cases ow with
   | loc a' =>
    have e:(⟨b,off,none⟩:Addr)=a':=IQ;subst e;exact .inr rfl
   | _=>exact .inl rfl
  refine .ip qlO (B1 y ED) (fun j=>f (n.toNat*te.size+j)) (fun j c hj=>?_) (fun j c hj=>?_)
  ·rw[Y6];exact hm _ c (om La hy hj)
  exact hr _ c (om La hy hj)
theorem qna(hT:CH P AD){o:Oper}{σ:St}{t e:TypeId}{x i:Operand}{ti te:CU}{id off len cap:Nat}{k:IntKind}{n:Int}
  (ho:o.op=.indexAddr t x i) (hd:∀d,o.dst=some d->d<σ.n) (ht:AD t=some ti) (Ah:ti.desc=.slice e) (he:AD e=some te)
  (hx:σ.ev x=some (.ms id off len cap)) (hi:σ.ev i=some (.v (.int k n))) (h0:0<=n) (hn:n<len):Cert P o σ (.mp id (off+n.toNat*te.size)) .pure :=
 Cert.EL .pure (.inl rfl) hd fun a g _ h _=>by
  have ei:=(h i CM _ hi).D0.1;have hu:=GZ hT ht Ah;obtain⟨l,o1,h1,h2,h3,_,_,_,_,eu⟩:=(h x CM _ hx).QD;exact⟨.pointer (some ⟨l.block,off+n.toNat*te.size,none⟩),aa7,.mp h1 h2 h3⟩
theorem CC(hT:CH P AD){o:Oper}{σ:St}{s:TypeId}{x:Operand}{k PL:Nat}{ft:TypeId}{ti tf:CU}{fs:List (Nat×TypeId)}{cs:List A2}{r:A2}
  (ho:o.op=.field s x k) (hd:∀d,o.dst=some d->d<σ.n) (ht:AD s=some ti) (Ah:ti.desc=.struct fs) (hk:fs[k]?=some (PL,ft)) (hf:AD ft=some tf)
  (hx:σ.ev x=some (.agg cs)) (hr:if tf.desc.agg then r=.agg ((cs.drop PL).take tf.size)else cs[PL]?=some r):Cert P o σ r .pure :=
 Cert.EL .pure (.inl rfl) hd fun a g _ h _=>by
  obtain⟨vs,e,hl,B1,hh⟩:=(h x CM _ hx).lz;obtain⟨fields,fl,h1,h2,h3,h4⟩:=s7 hT ht Ah hk;subst h3;subst h4;have Er:=(hT _ _ hf).isAgg g.w;have Ag:=(hT _ _ hf).sizeOf g.w;split at hr
  ·rename_i EO;subst hr;refine⟨.agg (vs.extract fl.offset (fl.offset+tf.size)),by simp[execOp,ho,e,Instr.field,run_underlying h1,h2,asAgg,part,Er,EO,Ag],?_⟩;refine .agg ?_ (fun c hc=>B1 c (N9 (KF hc))) (fun i c u hi hu=>?_)
   ·simp[hl];omega
   have Bo:=Zm hi;rw[FC]at Bo;refine hh (fl.offset+i) c u Bo ?_;have:i<tf.size:=by
    have:=AE hi;simp at this;omega
   rw[Array.getElem?_extract]at hu;split at hu
   ·exact hu
   cases hu
  rename_i EO;have AF:fl.offset<vs.size:=by
   rw[hl];exact AE hr
  exact⟨vs[fl.offset],by simp[execOp,ho,e,Instr.field,run_underlying h1,h2,asAgg,part,Er,EO,AF],hh _ _ _ hr Gu⟩
theorem qay{k:Nat}
  (ho:o.op=.extract x k) (hd:∀d,o.dst=some d->d<σ.n) (hx:σ.ev x=some (.Ab cs)) (hr:cs[k]?=some r):Cert P o σ r .pure :=
 Cert.EL .pure (.inl rfl) hd fun a g _ h _=>by
  obtain⟨vs,e,hl,hh⟩:=(h x CM _ hx).qjT;have AF:k<vs.size:=by
   rw[hl];exact AE hr
  exact⟨vs[k],by simp[execOp,ho,e,Instr.extract,AF],hh _ _ _ hr Gu⟩
theorem U3(op:BinOp)(t:TypeId)(x y:Operand)(a b:Value)(w:World)(h1:a≠.nilIface)(h2:∀cs,a≠.agg cs):(eqGuard op t x y a b).run P w=.ok () w:=by
 cases op<;>first|rfl|(cases a<;>first|rfl|exact B3 rfl h1|exact B3 rfl (h2 _))
def RR:BinOp->Int->Int->Option Bool
 | .eql,a,b=>some (decide (a=b))
 | .neq,a,b=>some (!decide (a=b))
 | .lss,a,b=>some (decide (a<b))
 | .leq,a,b=>some (decide (a<=b))
 | .gtr,a,b=>some (decide (b<a))
 | .geq,a,b=>some (decide (b<=a))
 | _,_,_=>none
variable {t':TypeId}
theorem qbY{op:BinOp}{y:Operand}{k:IntKind}{m n:Int}{r:Bool}
  (ho:o.op=.binOp op t x y t') (hd:∀d,o.dst=some d->d<σ.n) (hx:σ.ev x=some (.v (.int k m))) (hy:σ.ev y=some (.v (.int k n))) (hr:RR op m n=some r):Cert P o σ (.v (.bool r)) .pure :=
 Cert.EL .pure (.inl rfl) hd fun a g _ h _=>by
  have ex:=(h x CM _ hx).D0.1;have ey:=(h y CM _ hy).D0.1;have hg:=U3 (P:=P) op t x y (.int k m) (.int k n) g.w A6 A6;refine Yg ?_;have hb:(binOp op t (.int k m) (.int k n)).run P g.w=.ok (.bool r) g.w:=by
   cases op<;>first|(cases hr;done)|(obtain rfl:=HX hr;simp[binOp,Op.intCmp];try (rw[YF];simp))
  simp[execOp,ho,ex,ey,hg,hb]
def bitsOf(k:IntKind)(f:BitVec k.bits->BitVec k.bits->BitVec k.bits)(a b:Int):Int:=k.wrap (f (BitVec.ofInt k.bits a) (BitVec.ofInt k.bits b)).toNat
def Mr(k:IntKind):BinOp->Int->Int->Option Int
 | .add,a,b=>some (a+b)
 | .sub,a,b=>some (a-b)
 | .mul,a,b=>some (a*b)
 | .quo,a,b=>if b=0 then none else some (a.tdiv b)
 | .rem,a,b=>if b=0 then none else some (a.tmod b)
 | .and,a,b=>some (bitsOf k (fun x y=>x&&& y) a b)
 | .or,a,b=>some (bitsOf k (fun x y=>x ||| y) a b)
 | .xor,a,b=>some (bitsOf k (fun x y=>x ^^^ y) a b)
 | .andNot,a,b=>some (bitsOf k (fun x y=>x&&& ~~~y) a b)
 | _,_,_=>none
theorem qaV{op:BinOp}{y:Operand}{k:IntKind}{m n r:Int}
  (ho:o.op=.binOp op t x y t') (hd:∀d,o.dst=some d->d<σ.n) (hx:σ.ev x=some (.v (.int k m))) (hy:σ.ev y=some (.v (.int k n))) (hr:Mr k op m n=some r) (h1:k.min<=r) (h2:r<=k.max) :
  Cert P o σ (.v (.int k r)) .pure :=
 Cert.EL .pure (.inl rfl) hd fun a g _ h _=>by
  have ex:=(h x CM _ hx).D0.1;have ey:=(h y CM _ hy).D0.1;have hg:=U3 (P:=P) op t x y (.int k m) (.int k n) g.w A6 A6;have hw:=Yk k r h1 h2;refine⟨.int k r,?_,.v ⟨h1,h2⟩⟩;have hb:(binOp op t (.int k m) (.int k n)).run P g.w=.ok (.int k r) g.w:=by
   cases op with
   | add | sub | mul=>simp[Mr]at hr;subst hr;simp[binOp,Op.intArith,hw]
   | quo | rem =>
    simp only[Mr]at hr;split at hr
    ·cases hr
    rename_i Il;simp only[AM]at hr;subst hr;simp[binOp,Op.intDiv,Il,hw]
   | and | or | xor | andNot=>simp[Mr]at hr;subst hr;simp[binOp,Op.intBits,bitsOf]
   | _=>simp[Mr]at hr
  simp[execOp,ho,ex,ey,hg,hb]
def Jd:BinOp->Bool
 | .add=>false
 | .sub=>false
 | .mul=>false
 | .quo=>false
 | .rem=>false
 | .and=>false
 | .or=>false
 | .xor=>false
 | .shl=>true
 | .shr=>true
 | .andNot=>false
 | .eql=>false
 | .neq=>false
 | .lss=>false
 | .leq=>false
 | .gtr=>false
 | .geq=>false
def Nw(k:IntKind):BinOp->Int->Int->Int
 | .shl,a,n=>k.wrap (a*2 ^ (min n.toNat k.bits))
 | _,a,n=>a.fdiv (2 ^ (min n.toNat k.bits))
theorem qad{op:BinOp}{y:Operand}{k k':IntKind}{m n:Int}
  (ho:o.op=.binOp op t x y t') (hd:∀d,o.dst=some d->d<σ.n) (hx:σ.ev x=some (.v (.int k m))) (hy:σ.ev y=some (.v (.int k' n))) (hs:Jd op=true) (hn:0<=n) (h1:k.min<=Nw k op m n) (h2:Nw k op m n<=k.max) :
  Cert P o σ (.v (.int k (Nw k op m n))) .pure :=
 Cert.EL .pure (.inl rfl) hd fun a g _ h _=>by
  have ex:=(h x CM _ hx).D0.1;have ey:=(h y CM _ hy).D0.1;have hg:=U3 (P:=P) op t x y (.int k m) (.int k' n) g.w A6 A6;have DA:¬n<0:=I
  refine⟨.int k (Nw k op m n),?_,.v ⟨h1,h2⟩⟩;have hb:(binOp op t (.int k m) (.int k' n)).run P g.w=.ok (.int k (Nw k op m n)) g.w:=by
   cases op with
   | shl | shr=>simp[binOp,Op.shift,DA,Nw]
   | _=>simp[Jd]at hs
  simp[execOp,ho,ex,ey,hg,hb]
theorem qg2(a b:ByteArray):(a.toList == b.toList)=decide (a=b):=by
 rw[YF];simp only[beq_iff_eq,Cp];refine⟨fun h=>?_,fun h=>pg⟩;rw[ByteArray.toList_eq,ByteArray.toList_eq]at h;exact ByteArray.ext (Array.toList_inj.1 h)
theorem qaY{op:BinOp}{y:Operand}{m n:ByteArray}{r:Bool}
  (ho:o.op=.binOp op t x y t') (hd:∀d,o.dst=some d->d<σ.n) (hx:σ.ev x=some (.v (.string m))) (hy:σ.ev y=some (.v (.string n)))
  (hr:(op=.eql∧r=decide (m=n))∨(op=.neq∧r=!decide (m=n))):Cert P o σ (.v (.bool r)) .pure :=
 Cert.EL .pure (.inl rfl) hd fun a g _ h _=>by
  have ex:=(h x CM _ hx).D0.1;have ey:=(h y CM _ hy).D0.1;have hg:=U3 (P:=P) op t x y (.string m) (.string n) g.w A6 A6;refine Yg ?_;have hb:(binOp op t (.string m) (.string n)).run P g.w=.ok (.bool r) g.w:=by
   have Mi:=qg2 m n;rcases hr with⟨e1,e2⟩|⟨e1,e2⟩<;>subst e1<;>subst e2
   ·simp only[binOp,Op.stringOp,Sem.run_pure,Mi]
   simp only[binOp,Op.stringOp,Sem.run_pure,Mi]
  simp[execOp,ho,ex,ey,hg,hb]
theorem qba{op:BinOp}{y:Operand}{m n r:Bool}
  (ho:o.op=.binOp op t x y t') (hd:∀d,o.dst=some d->d<σ.n) (ht:P.underlying t=some .bool) (hx:σ.ev x=some (.v (.bool m))) (hy:σ.ev y=some (.v (.bool n)))
  (hr:(op=.eql∧r=(m == n))∨(op=.neq∧r=!(m == n))):Cert P o σ (.v (.bool r)) .pure :=
 Cert.EL .pure (.inl rfl) hd fun a g _ h _=>by
  have ex:=(h x CM _ hx).D0.1;have ey:=(h y CM _ hy).D0.1;have hg:=U3 (P:=P) op t x y (.bool m) (.bool n) g.w A6 A6;refine Yg ?_;have he:(Op.equal t (.bool m) (.bool n)).run P g.w=.ok (m == n) g.w:=by
   have e:∃d,Op.equal t (.bool m) (.bool n)=Op.equalIn (d+1) t (.bool m) (.bool n):=⟨9999,rfl⟩
   obtain⟨d,e⟩:=e;rw[e];simp only[Op.equalIn,Sem.run_bind,run_underlying ht,Result.andThen_ok,Sem.run_pure]
  rcases hr with⟨e1,e2⟩|⟨e1,e2⟩<;>subst e1<;>subst e2<;>simp[execOp,ho,ex,ey,hg,binOp,he]
theorem qgE{m:Bool}
  (ho:o.op=.unOp .not t x) (hd:∀d,o.dst=some d->d<σ.n) (hx:σ.ev x=some (.v (.bool m))):Cert P o σ (.v (.bool !m)) .pure :=
 Cert.EL .pure (.inl rfl) hd fun a g _ h _=>by
  have ex:=(h x CM _ hx).D0.1;exact⟨.bool !m,by simp[execOp,ho,ex,Op.unary],.v trivial⟩
theorem qgC{k:IntKind}{m:Int}
  (ho:o.op=.unOp .neg t x) (hd:∀d,o.dst=some d->d<σ.n) (hx:σ.ev x=some (.v (.int k m))) (h1:k.min<=-m) (h2:-m<=k.max):Cert P o σ (.v (.int k (-m))) .pure :=
 Cert.EL .pure (.inl rfl) hd fun a g _ h _=>by
  have ex:=(h x CM _ hx).D0.1;have hw:=Yk k (-m) h1 h2;exact⟨.int k (-m),by simp[execOp,ho,ex,Op.unary,Op.intArith,hw],.v ⟨h1,h2⟩⟩
theorem Lw{b:Builtin}{args:Array Operand}{HI:Array TypeId}(ho:o.op=.call ⟨.builtin b,args,HI⟩)(a:Act)(w:World) :
  (execOp a.eval o).run P w=(builtin b HI o.type (args.map fun | .const _=>true|_=>false) (args.map a.eval)).run P w:=by
 simp[execOp,ho,resolve,invoke];rfl
theorem qgA(hT:CH P AD){o:Oper}{σ:St}{t e:TypeId}{x:Operand}{ti:CU}{n:Nat}{y:A2}
  (ho:o.op=.call ⟨.builtin .len,#[x],#[t]⟩) (hd:∀d,o.dst=some d->d<σ.n) (ht:AD t=some ti) (Ah:ti.desc=.slice e) (hx:σ.ev x=some y)
  (hy:(∃sz xs ow,y=.A3 sz xs ow∧n=xs.length)∨(∃id off cap,y=.ms id off n cap)∨∃id sz,y=.os id n sz):Cert P o σ (.v (.int .i64 n)) .pure :=
 Cert.EL .pure (.inl rfl) hd fun a g _ h _=>by
  have hu:=GZ hT ht Ah;have Bu:=h x Gh _ hx;have key:∃ad cap,a.eval x=.slice ad n cap∧n<=2 ^ 62:=by
   rcases hy with⟨sz,xs,ow,e1,e2⟩|⟨id,off,cap,e1⟩|⟨id,sz,e1⟩
   ·subst e1;subst e2;rcases Bu.LP with⟨q1,q2⟩|⟨ad,cap,_,q1,_,_,_,q2,_⟩
    ·subst q2;exact⟨_,_,q1,A6⟩
    exact⟨_,_,q1,q2⟩
   ·subst e1;obtain⟨l,_,_,_,_,_,q2,_,_,q1⟩:=Bu.QD;exact⟨_,_,q1,q2⟩
   subst e1;obtain⟨l,_,_,_,_,_,_,_,q2,q1⟩:=Bu.Yo;exact⟨_,_,q1,q2⟩
  obtain⟨ad,cap,q1,q2⟩:=key;refine⟨.int .i64 n,?_,.v ?_⟩
  ·rw[Lw ho];simp[builtin,Builtin.len_,q1,run_underlying hu,goInt]
  exact acz
theorem run_sliceBound(k:IntKind)(n:Int)(y:Nat)(c:BoundsCode)(w:World)(h0:0<=n)(h1:n<=y):(Instr.sliceBound (.int k n) y c).run P w=.ok n.toNat w:=by
 simp[Instr.sliceBound,asIntOf,h0,h1]
theorem wx(Ag:∀x∈xs,x.cells.length=sz)(lo hi j:Nat)(c:A2)(h:(AP ((xs.take hi).drop lo))[j]?=some c):(AP xs)[lo*sz+j]?=some c:=by
 induction xs generalizing lo hi j with
 | nil=>simp[AP]at h
 | cons y ys ih =>
  have hy:=Ag y A6;have Nk:=ih (fun x hx=>Ag x QQ);cases hi with
  | zero=>simp[AP]at h
  | succ hi =>
   cases lo with
   | zero =>
    simp only[Ra,I7,AP,GF,MH,Db]at h ⊢;rw[Gt]at h ⊢;split at h
    ·rename_i hj;rw[A9 hj];exact h
    rename_i hj;rw[A4 hj];have:=Nk 0 hi (j-y.cells.length) (by simpa[AP]using h);simpa[AP]using this
   | succ lo =>
    simp only[Ra,List.drop_succ_cons]at h;have:=Nk lo hi j h;simp only[AP,GF]at this ⊢;rw[Gt,A4 (by rw[hy,RZ];omega),hy,show(lo+1)*sz+j-sz=lo*sz+j from YN];exact Cd
def Rs(σ:St)(p:Option Operand)(X1 n:Nat):Prop:=(p=none∧n=X1)∨∃q k,p=some q∧σ.ev q=some (.v (.int k (n:Int)))
theorem qch(hT:CH P AD){o:Oper}{σ:St}{t e:TypeId}{x:Operand}{ti te:CU}{sz:Nat}{xs:List A2}{ow:Ec}{lo hi:Option Operand}{l h:Nat}
  (ho:o.op=.slice t x lo hi none) (hd:∀d,o.dst=some d->d<σ.n) (ht:AD t=some ti) (Ah:ti.desc=.slice e) (he:AD e=some te) (Ag:te.size=sz) (hx:σ.ev x=some (.A3 sz xs ow))
  (CA:Rs σ lo 0 l) (GI:Rs σ hi xs.length h) (h1:l<=h) (h2:h<=xs.length):Cert P o σ (.A3 sz ((xs.take h).drop l) .sh) .pure :=
 Cert.EL .pure (.inl rfl) hd fun a g _ hh _=>by
  have hu:=GZ hT ht Ah;have Bu:=hh x dK _ hx;have hl:(lo=none∧l=0)∨∃q k,lo=some q∧a.eval q=.int k (l:Int):=by
   rcases CA with q|⟨q,k,e1,e2⟩
   ·exact JV
   exact du hh
  have Bo:(hi=none∧h=xs.length)∨∃q k,hi=some q∧a.eval q=.int k (h:Int):=by
   rcases GI with q|⟨q,k,e1,e2⟩
   ·exact JV
   exact dv hh
  have D4:execOp a.eval o=(do pure (.value (<-Instr.sliceAt t (a.eval x) (lo.map a.eval) (hi.map a.eval) none))):=by
   simp[execOp,ho]
  clear CA GI ho;have bounds:∀cap:Nat,xs.length<=cap->(Instr.sliceBounds true xs.length cap (lo.map a.eval) (hi.map a.eval) none).run P g.w=.ok (l,h,cap) g.w:=by
   intro cap C1;rcases hl with⟨e1,e2⟩|⟨p,k,e1,hk⟩
   ·rcases Bo with⟨e3,e4⟩|⟨q,k',e3,G3⟩
    ·subst e1 e2 e3 e4;exact kF
    subst e1 e2 e3;have:=run_sliceBound (P:=P) k' h cap .sliceAcap g.w I I;exact Un G3
   rcases Bo with⟨e3,e4⟩|⟨q,k',e3,G3⟩
   ·subst e1 e3 e4;have:=run_sliceBound (P:=P) k l xs.length .sliceB g.w I I;exact Un hk
   subst e1 e3;have e1:=run_sliceBound (P:=P) k' h cap .sliceAcap g.w I I;have e2:=run_sliceBound (P:=P) k l h .sliceB g.w I I;simp[Instr.sliceBounds,hk,G3,e1,e2]
  have K9:=(hT e te he).sizeOf g.w;rcases Bu.LP with⟨q1,q2⟩|⟨ad,cap,f,q1,La,B1,C1,Bm,hs,hm,hr,_⟩
  ·subst q2;have b:=bounds 0 A6;simp at h2;subst h2;have:l=0:=I
   subst this;refine⟨.slice none 0 0,?_,.nil (fun id e=>db) A6⟩;rw[D4];simp only[GD]at b;simp[Instr.sliceAt,run_underlying hu,Instr.slice,q1,K9,b]
  obtain⟨b0,zR,sp⟩:=ad;have hlen:((xs.take h).drop l).length=h-l:=Ai
  subst Ag;by_cases B8:cap=l
  ·-- the cut is empty and keeps the address
   have e1:l=xs.length:=I
   have e2:h=xs.length:=I
   subst B8;subst e2;have b:=bounds cap C1;refine⟨.slice (some ⟨b0,zR,sp⟩) (xs.length-cap) (cap-cap),?_,?_⟩
   ·rw[D4];simp[Instr.sliceAt,run_underlying hu,Instr.slice,q1,b,K9]
   have cA:(xs.take xs.length).drop cap=[]:=Ai
   rw[cA];have h0:xs.length-cap=0:=I
   rw[h0];exact adK
  have b:=bounds cap C1;refine⟨.slice (some ((⟨b0,zR,sp⟩:Addr).add (l*te.size))) (h-l) (cap-l),?_,?_⟩
  ·rw[D4];simp[Instr.sliceAt,run_underlying hu,Instr.slice,q1,b,K9,B8]
  rw[<-hlen];have ED:∀y,y∈(xs.take h).drop l->y∈xs:=fun y hy=>KF (N9 hy);by_cases AT:xs=[]
  ·subst AT;simp only[List.take_nil,List.drop_nil];exact adK
  have Bg:=hs AT;simp only at Bg;subst Bg;rw[addr_add];refine .A3 (fun y hy=>La y (ED y hy)) (fun y hy=>B1 y (ED y hy)) qB qB (fun _=>rfl) (fun j=>f (l*te.size+j)) (fun j c hj=>?_) (fun j c hj=>?_) trivial
  ·have:=hm _ c (wx La l h j c hj);simpa[Y6]using this
  exact hr _ c (wx La l h j c hj)
def A2.Dd:A2->A2
 | .A3 sz xs _=>.A3 sz xs .sh
 | x=>x
def A2.share:A2->A2
 | .A3 sz xs _=>.A3 sz xs .sh
 | .agg cs=>.agg (cs.map A2.Dd)
 | x=>x
theorem RV.Dd{x:A2}(h:RV g x u):RV g x.Dd u:=by
 unfold A2.Dd;split
 ·exact h.Xq
 exact h
theorem A2.ZN{x:A2}(h:x.scalar):x.Dd.scalar:=by
 cases x<;>first|exact h|trivial
theorem RV.share{x:A2}(h:RV g x u):RV g x.share u:=by
 unfold A2.share;split
 ·exact h.Xq
 ·obtain⟨vs,e,hl,B1,hh⟩:=h.lz;subst e;refine .agg OL (fun c hc=>?_) (fun i c w h1 h2=>?_)
  ·rw[JQ]at hc;obtain⟨c',h1,h2⟩:=hc;subst h2;exact A2.ZN (B1 c' h1)
  rw[Bv,PB]at h1;obtain⟨c',h3,h4⟩:=h1;subst h4;exact(hh i c' w h3 h2).Dd
 exact h
def Co(g:G)(cs:List A2)(arr:Array Value):Prop:=arr.size=cs.length∧∀(j:Nat) (c:A2) (u:Value),cs[j]?=some c->arr[j]?=some u->RV g c u
theorem Co.mono(h:Le g g'){cs:List A2}{arr:Array Value}(k:Co g cs arr):Co g' cs arr:=⟨k.1,fun j c u a b=>(k.2 j c u a b).mono h⟩
theorem Co.agg{arr:Array Value}(k:Co g cs arr)(B1:∀c∈cs,c.scalar):RV g (.agg cs) (.agg arr):=.agg k.1 B1 k.2
theorem RV.mh{x:A2}(h:RV g x u)(hs:∀c∈x.cells,c.scalar):Co g x.cells u.cells:=h.cells hs
def A2.flat:A2->Prop
 | .Ab _=>False
 | _=>True
theorem RV.ZQ{x:A2}(h:RV g x u)(hx:x.flat):∀c∈x.cells,c.scalar:=by
 cases h with
 | agg hl B1 hh=>exact B1
 | Ab=>exact hx.elim
 | _=>intro c hc;simp only[A2.cells,Fq]at hc;subst hc;trivial
def As(cs:List A2)(off:Nat)(xs:List A2):List A2:=cs.take off++(xs++cs.drop (off+xs.length))
theorem P'(h:off+xs.length<=cs.length):(As cs off xs).length=cs.length:=by
 simp[As];omega
theorem Xl(h:off+xs.length<=cs.length)(k:Nat) :
  (As cs off xs)[k]?=if off<=k∧k<off+xs.length then xs[k-off]? else cs[k]?:=by
 simp only[As];rw[Gt,Gt,GC,FC];have hl:(cs.take off).length=off:=Ai
 rw[hl];by_cases h1:k<off
 ·rw[A9 h1,A9 h1,A4 I]
 rw[A4 h1];by_cases h2:k-off<xs.length
 ·rw[A9 h2,A9 I]
 rw[A4 h2,A4 I];congr 1;omega
theorem ub(off:Nat):∀(vs:List Value) (n:Nat) (arr:Array Value),off+n+vs.length<=arr.size->∀k,((vs.zipIdx n).foldl (fun cs p=>cs.setIfInBounds (off+p.2) p.1) arr).size=arr.size ∧
  ((vs.zipIdx n).foldl (fun cs p=>cs.setIfInBounds (off+p.2) p.1) arr)[k]?=if off+n<=k∧k<off+n+vs.length then vs[k-(off+n)]? else arr[k]?
 | [],n,arr,_,k=>by
  refine⟨rfl,?_⟩;rw[A4 (by simp only[GD];omega)];rfl
 | v::vs,n,arr,h,k=>by
  simp only[CE]at h;obtain⟨h1,h2⟩:=ub off vs (n+1) (arr.setIfInBounds (off+n) v) (by rw[Array.size_setIfInBounds];omega) k;simp only[T0,HG];refine⟨h1.trans A6,?_⟩;rw[h2];simp only[CE];by_cases e1:off+(n+1)<=k∧k<off+(n+1)+vs.length
  ·rw[A9 e1,A9 I,show k-(off+n)=(k-(off+(n+1)))+1 from I];simp
  rw[A4 e1];by_cases e2:k=off+n
  ·subst e2;rw[A9 I,FB];rw[iJ I];rfl
  rw[A4 I,cw I]
def JH(place:Nat->Option (Nat×Nat)):List A2->List (Nat×A2)->Option (List A2)
 | cs,[]=>some cs
 | cs,(i,x)::r =>
  match place i with
  | none=>none
  | some (off,size)=>if x.cells.length=size∧off+size<=cs.length then JH place (As cs off x.cells) r else none
inductive VB(g:G):List (Nat×A2)->List (Nat×Value)->Prop
 | nil:VB g [] []
 | cons {i:Nat} {x:A2} {u:Value} {ps:List (Nat×A2)} {vs:List (Nat×Value)} (h:RV g x u) (hf:x.flat) (r:VB g ps vs):VB g ((i,x)::ps) ((i,u)::vs)
theorem ck(place:Nat->Option (Nat×Nat)){ps:List (Nat×A2)}{vs:List (Nat×Value)}(hp:VB g ps vs):∀{cs cs':List A2} {arr:Array Value},Co g cs arr->JH place cs ps=some cs' ->
  ∃BJ,Instr.fill place arr vs=some BJ∧Co g cs' BJ∧((∀c∈cs,c.scalar)->∀c∈cs',c.scalar):=by
 induction hp with
 | nil =>
  intro cs cs' arr h e;simp only[JH,AM]at e;subst e;exact⟨arr,rfl,h,fun h=>h⟩
 | cons hx hf r ih =>
  rename_i i x u ps vs;intro cs cs' arr h e;simp only[JH]at e;cases IH:place i with
  | none=>simp[IH]at e
  | some p =>
   obtain⟨off,size⟩:=p;simp only[IH]at e;split at e
   ·rename_i hc;obtain⟨Dp,Kk⟩:=hc;have BQ:=hx.ZQ hf;obtain⟨q1,q2⟩:=hx.mh BQ;have Ag:off+0+u.cells.toList.length<=arr.size:=by
     simp only[WG,q1,Dp,h.1];omega
    have Fk:=ub off u.cells.toList 0 arr Ag;have Qf:Co g (As cs off x.cells) (u.cells.zipIdx.foldl (fun cs p=>cs.setIfInBounds (off+p.2) p.1) arr):=by
     have Yt:u.cells.zipIdx.foldl (fun cs p=>cs.setIfInBounds (off+p.2) p.1) arr=(u.cells.toList.zipIdx 0).foldl (fun cs p=>cs.setIfInBounds (off+p.2) p.1) arr:=by
      rw[<-Array.foldl_toList];congr 1;simp[Array.toList_zipIdx]
     rw[Yt];refine⟨?_,fun j c w hj hw=>?_⟩
     ·rw[(Fk 0).1,P' I,h.1]
     rw[(Fk j).2]at hw;rw[Xl I]at hj;simp only[J4,WG,q1]at hw;by_cases G2:off<=j∧j<off+x.cells.length
     ·rw[A9 G2]at hj hw;exact q2 _ c w hj (by simpa using hw)
     rw[A4 G2]at hj hw;exact h.2 j c w hj hw
    obtain⟨BJ,e1,e2,e3⟩:=ih Qf e;refine⟨BJ,?_,e2,fun Br=>e3 fun c hc=>?_⟩
    ·simp only[Instr.fill,IH];rw[A4 (by simp[q1,Dp,h.1];omega)];exact e1
    simp only[As,HY]at hc;rcases hc with hc|hc|hc
    ·exact Br c (KF hc)
    ·exact BQ c hc
    exact Br c (N9 hc)
   cases e
def St.K4(σ:St):List (Nat×Operand)->Option (List (Nat×A2))
 | []=>some []
 | (i,x)::r =>
  match σ.ev x,σ.K4 r with
  | some y,some ys=>some ((i,y)::ys)
  | _,_=>none
theorem ZT{σ:St}{a:Act}{g:G}:∀{parts:List (Nat×Operand)} {ps:List (Nat×A2)},(∀x∈parts.map (·.2),∀y,σ.ev x=some y->RV g y (a.eval x))->σ.K4 parts=some ps->(∀p∈ps,p.2.flat) ->
  VB g ps (parts.map fun p=>(p.1,a.eval p.2))
 | [],ps,_,h,_=>by
  simp only[St.K4,AM]at h;subst h;exact .nil
 | (i,x)::r,ps,Er,h,hf=>by
  simp only[St.K4]at h;cases hx:σ.ev x with
  | none=>simp[hx]at h
  | some y =>
   cases hr:σ.K4 r with
   | none=>simp[hx,hr]at h
   | some ys =>
    simp only[hx,hr,AM]at h;subst h;exact .cons (Er x A6 y hx) (hf (i,y) (DQ)) (ZT (fun z hz=>Er z (by simp only[Bc,CL];exact .inr hz)) hr fun p hp=>hf p (Dw _ hp))
def UD(AD:Cn):List (Nat×TypeId)->Option (List (Nat×Nat))
 | []=>some []
 | (off,t)::r =>
  match AD t,UD AD r with
  | some ti,some ps=>some ((off,ti.size)::ps)
  | _,_=>none
theorem aen{P:Program}{AD:Cn}(hT:CH P AD):∀{fields:List Field} {ps:List (Nat×Nat)},UD AD (fields.map fun f=>(f.offset,f.type))=some ps ->
  fields.mapM (fun f=>(P.info? f.type).map fun i=>(f.offset,i.size))=some ps
 | [],ps,h=>by
  simp only[Ed,UD,AM]at h;subst h;rfl
 | f::r,ps,h=>by
  simp only[Bc,UD]at h;cases ht:AD f.type with
  | none=>simp[ht]at h
  | some ti =>
   cases hr:UD AD (r.map fun f=>(f.offset,f.type))with
   | none=>simp[ht,hr]at h
   | some qs =>
    simp only[ht,hr,AM]at h;subst h;obtain⟨⟨i,z,h1,h2,_⟩,_⟩:=hT _ _ ht;have ih:=aen hT hr;simp only[pX,h1,FV,ih];simp[h2]
theorem qcc(hT:CH P AD){o:Oper}{σ:St}{t:TypeId}{parts:Array (Nat×Operand)}{ti:CU}{fs:List (Nat×TypeId)}{fY:List (Nat×Nat)}{ps:List (Nat×A2)}{cs:List A2}
  (ho:o.op=.build t parts) (hd:∀d,o.dst=some d->d<σ.n) (ht:AD t=some ti) (Ah:ti.desc=.struct fs) (IH:UD AD fs=some fY) (Hd:σ.K4 parts.toList=some ps) (Bt:∀p∈ps,p.2.flat)
  (BQ:JH (fun i=>fY[i]?) ti.zero ps=some cs):Cert P o σ (.agg cs) .pure :=
 Cert.EL .pure (.inl rfl) hd fun a g _ h _=>by
  have Ax:=ZT (a:=a) (g:=g) (fun x hx y hy=>h x dP y hy) Hd Bt;obtain⟨⟨i,z,h1,h2,h3,h4,h5,h6,h7,h8,h9⟩,d,Jr,h11⟩:=hT t ti ht;rw[Ah]at h11;obtain⟨fields,e1,e2⟩:=h11;subst e1;obtain⟨BJ,q1,q2,q3⟩:=ck (fun i=>fY[i]?) Ax (cs:=ti.zero) (arr:=z.cells) ⟨h5,h8 g⟩ BQ;have hp:=aen hT (fields:=fields.toList) (ps:=fY) (by rw[e2];exact IH);have hb:P.built t (parts.map fun(i,x)=>(i,a.eval x)).toList=some BJ:=by
   unfold Program.built;simp only[h1,Jr,h4,hp];rw[Zy];simpa using q1
  have Aj:=run_build g.w t _ BJ hb;exact acn
theorem RV.newRow(hg:Good g){xs:List A2}{sz:Nat}{arr:Array Value}{t:TypeId}(Ag:∀x∈xs,x.cells.length=sz)(B1:∀x∈xs,∀c∈x.cells,c.scalar)(Bm:xs.length<=2 ^ 62)
  (hr:Co g (AP xs) arr):RV (g.push (.cells arr t)) (.A3 sz xs .ex) (.slice (some ⟨g.w.heap.size,0,none⟩) xs.length xs.length):=by
 have hle:=Le.push g hg (.cells arr t);have hg':=hg.push (.cells arr t);refine .A3 Ag B1 (B6 _) Bm (fun _=>rfl) (fun j=>arr.getD j undef) (fun j c hj=>?_) (fun j c hj=>?_) rfl
 ·have AF:=AE hj;rw[<-hr.1]at AF;refine⟨?_,?_⟩
  ·simp only[G.cell,G.push,Db];rw[cell_of_row (Pz _ _)];simp[HU,AF]
  rintro(hf|⟨id,l,o,h1,h2,h3,h4,_⟩)
  ·have DH:g.fr g.w.heap.size (0+j):=hf;have:=hg.frlt _ _ DH;omega
  have:=hg.loc id l o h1 h2 h3;have h4':l.block=g.w.heap.size:=h4;omega
 have AF:=AE hj;rw[<-hr.1]at AF;exact(hr.2 j c _ hj (by simp[HU,AF])).mono hle
theorem kl{sz:Nat}:∀(ys:List A2) (k:Nat) (cs cs':List A2),JH (fun i=>some (i*sz,sz)) cs ((ys.zipIdx k).map fun p=>(p.2,p.1))=some cs'->(k+ys.length)*sz<=cs.length ->
  cs'=cs.take (k*sz)++(AP ys++cs.drop ((k+ys.length)*sz))∧∀y∈ys,y.cells.length=sz
 | [],k,cs,cs',h,hl=>by
  simp only[List.zipIdx_nil,Ed,JH,AM]at h;subst h;simp[AP]
 | y::ys,k,cs,cs',h,hl=>by
  simp only[T0,Bc,JH]at h;split at h
  ·rename_i hc;obtain⟨Dp,Kk⟩:=hc;have J9:(k+1+ys.length)*sz<=(As cs (k*sz) y.cells).length:=by
    rw[P' I];simp only[CE]at hl;rw[show k+1+ys.length=k+(ys.length+1) from I];exact hl
   obtain⟨e1,e2⟩:=kl ys (k+1) _ cs' h J9;refine⟨?_,fun z hz=>?_⟩
   ·rw[e1];apply Gg;intro j;simp only[CE]at hl ⊢;have Mk:(k+1)*sz=k*sz+sz:=RZ k sz;have Bg:(As cs (k*sz) y.cells).take ((k+1)*sz)=cs.take (k*sz)++y.cells:=by
     simp only[As];rw[Mk,YD];have hlen:(cs.take (k*sz)).length=k*sz:=Ai
     have ht1:(cs.take (k*sz)).take (k*sz+sz)=cs.take (k*sz):=Cb I;rw[hlen,ht1,show k*sz+sz-k*sz=sz from I,YD,Cb (Nat.le_of_eq Dp),Dp,FB];simp
    have XQ:(As cs (k*sz) y.cells).drop ((k+1+ys.length)*sz)=cs.drop ((k+(ys.length+1))*sz):=by
     simp only[As];have hlen:(cs.take (k*sz)).length=k*sz:=Ai
     have hmul:(k+1+ys.length)*sz=k*sz+sz+ys.length*sz:=by rw[LX,Mk]
     have qlC:(k+(ys.length+1))*sz=k*sz+sz+ys.length*sz:=by rw[LX,RZ];omega
     have Gk:(cs.take (k*sz)).drop (k*sz+sz+ys.length*sz)=[]:=KD qB;have G1:y.cells.drop (k*sz+sz+ys.length*sz-k*sz)=[]:=KD I;rw[hmul,qlC,WJ,Gk,hlen,HF,WJ,G1,HF,WD,Dp];congr 1;omega
    rw[Bg,XQ];simp[AP,Ez]
   rcases List.mem_cons.1 hz with hz|hz
   ·subst hz;exact Dp
   exact e2 z hz
  cases h
def Q4:Nat->List (Nat×A2)->Option (List A2)
 | _,[]=>some []
 | k,(i,x)::r =>
  if i=k then
   match Q4 (k+1) r with
   | some xs=>some (x::xs)
   | none=>none
  else none
theorem gz:∀{ps:List (Nat×A2)} {k:Nat} {xs:List A2},Q4 k ps=some xs->ps=(xs.zipIdx k).map fun p=>(p.2,p.1)
 | [],k,xs,h=>by
  simp only[Q4,AM]at h;subst h;rfl
 | (i,x)::r,k,xs,h=>by
  simp only[Q4]at h;split at h
  ·rename_i hi;subst hi;cases hr:Q4 (i+1) r with
   | none=>simp[hr]at h
   | some ys =>
    simp only[hr,AM]at h;subst h;simp[gz hr]
  cases h
theorem A2.gx(x:A2):x.share.cells=x.cells.map A2.Dd:=by
 cases x<;>rfl
theorem Co.M0{arr:Array Value}(h:Co g cs arr):Co g (cs.map A2.Dd) arr :=
 ⟨by simpa using h.1,fun j c u h1 h2=>by
  rw[Bv,PB]at h1;obtain⟨c',h3,h4⟩:=h1;subst h4;exact(h.2 j c' u h3 h2).Dd⟩
theorem ZP(xs:List A2):AP (xs.map A2.share)=(AP xs).map A2.Dd:=by
 induction xs with
 | nil=>rfl
 | cons y ys ih =>
  simp only[AP,Bc,GF,Dx,A2.gx]at ih ⊢;rw[ih]
theorem qnk(hT:CH P AD){o:Oper}{σ:St}{t e:TypeId}{len:Nat}{parts:Array (Nat×Operand)}{ti te:CU}{ps:List (Nat×A2)}{xs:List A2}
  (ho:o.op=.buildSlice t len parts) (hd:∀d,o.dst=some d->d<σ.n) (ht:AD t=some ti) (Ah:ti.desc=.slice e) (he:AD e=some te) (JK:0<te.size) (Hd:σ.K4 parts.toList=some ps) (Bt:∀p∈ps,p.2.flat)
  (XD:Q4 0 ps=some xs) (hlen:xs.length=len) (Ag:∀x∈xs,x.cells.length=te.size) (Lg:len*te.size<=2 ^ 24):Cert P o σ (.A3 te.size (xs.map A2.share) .ex) .pure :=
 Cert.IP hd fun base Bl a g Ax h _=>by
  have hg:=Ax.good;have Gn:=ZT (a:=a) (g:=g) (fun x hx y hy=>h x dP y hy) Hd Bt;have hu:=GZ hT ht Ah;obtain⟨⟨i,z,h1,h2,h3,h4,h5,h6,h7,h8,h9⟩,_⟩:=hT e te he;have GS:=gz XD;have B1:∀x∈xs,∀c∈x.cells,c.scalar:=by
   have aux:∀{ps:List (Nat×A2)} {vs:List (Nat×Value)},VB g ps vs->∀p∈ps,∀c∈p.2.cells,c.scalar:=by
    intro ps vs hr;induction hr with
    | nil=>intro p hp;cases hp
    | cons hx hf r ih =>
     intro p hp;rcases List.mem_cons.1 hp with hp|hp
     ·subst hp;exact hx.ZQ hf
     exact ih p hp
   intro x hx c hc;have ED:∃k,(k,x)∈ps:=by
    obtain⟨k,hk⟩:=MF hx;exact rD GS
   obtain⟨k,hk⟩:=ED;exact aux Gn _ hk c hc
  by_cases hz:len=0
  ·subst hz;have II:xs=[]:=List.length_eq_zero_iff.1 hlen;subst II;have ny:ps=[]:=by rw[GS];rfl
   subst ny;have nZ:parts.toList=[]:=by
    cases hp:parts.toList with
    | nil=>rfl
    | cons p r =>
     obtain⟨i,x⟩:=p;rw[hp]at Hd;simp only[St.K4]at Hd;cases hx:σ.ev x with
     | none=>simp[hx]at Hd
     | some y =>
      cases hr:σ.K4 r with
      | none=>simp[hx,hr]at Hd
      | some ys=>simp[hx,hr]at Hd
   have n7:parts = #[]:=Array.toList_eq_nil_iff.1 nZ;subst n7;refine⟨.slice (some ⟨g.w.heap.size,0,none⟩) 0 0,g.push (.cells #[] e),.inl ?_,Le.push g hg _,hg.push _,rfl,?_⟩
   ·have er:WK 0 = #[]:=rfl;exact acu ho h1 er
   exact RV.newRow (xs:=[]) hg A6 A6 A6 ⟨Rh,Rh⟩
  have AT:¬len*i.size=0:=by
   rw[h2];intro e0;rcases Nat.mul_eq_zero.1 e0 with q|q<;>omega
  obtain⟨zs,JX⟩:∃zs:Array Value,zs=(WK (len*i.size)).map (z.cells[· % z.cells.size]!):=⟨_,rfl⟩
  have TR:zs.size=len*te.size:=qf
  obtain⟨zc,hzc,Nj,IY⟩:∃zc:List A2,(∀c∈zc,c.scalar)∧Co g zc zs∧zc.length=len*te.size:=by
   refine⟨(List.range (len*te.size)).map fun j=>te.zero.getD (j % te.size) (.v (.bool false)),fun c hc=>?_,⟨by simp[TR],fun j c u hj Ox=>?_⟩,A6⟩
   ·rw[JQ]at hc;obtain⟨j,_,e⟩:=hc;subst e;have AF:j % te.size<te.zero.length:=aH
    rw[KC,AY AF];exact h9 _ (MG AF)
   have CK:=AE hj;simp only[BE,N7]at CK;rw[Bv,J3 CK]at hj;simp only[FV,AM]at hj;subst hj;have AF:j % te.size<te.zero.length:=aH
   have HR:j % te.size<z.cells.size:=qg
   rw[JX]at Ox;simp only[UU,h2,WH,A9 CK,FV,AM]at Ox;subst Ox;exact rS h5 h6 HR
  have bc:∃cs',JH (fun i=>some (i*te.size,te.size)) zc ps=some cs':=by
   have aux:∀(ys:List A2) (k:Nat) (cs:List A2),(∀y∈ys,y.cells.length=te.size)->(k+ys.length)*te.size<=cs.length->∃cs',JH (fun i=>some (i*te.size,te.size)) cs ((ys.zipIdx k).map fun p=>(p.2,p.1))=some cs':=by
    intro ys;induction ys with
    | nil=>intro k cs _ _;exact⟨cs,rfl⟩
    | cons y ys ih =>
     intro k cs hy hl;simp only[T0,Bc,JH];simp only[CE]at hl;have Mk:(k+1)*te.size=k*te.size+te.size:=RZ k te.size;have bg:(k+1)*te.size<=(k+(ys.length+1))*te.size:=OE _ I;have hc:y.cells.length=te.size∧k*te.size+te.size<=cs.length:=⟨hy y A6,I⟩
     exact r6 hl
   rw[GS];exact aux xs 0 zc Ag a6
  obtain⟨cs',V5⟩:=bc;obtain⟨BJ,q1,q2,_⟩:=ck (fun i=>some (i*te.size,te.size)) Gn Nj V5;obtain⟨e1,_⟩:=kl xs 0 zc cs' qH a6;have e2:cs'=AP xs:=by
   rw[e1];exact rT
  subst e2;have Aj:(Instr.buildSlice t len (parts.map fun(i,x)=>(i,a.eval x))).run P g.w=.ok (.slice (some ⟨g.w.heap.size,0,none⟩) len len) (g.w.alloc (.cells BJ e)):=by
   have TE:¬len*i.size > 2 ^ 24:=qP
   rw[JX,<-h2]at q1;have SB:Instr.fill (fun i_1=>some (i_1*i.size,i.size)) ((WK (len*i.size)).map (z.cells[· % z.cells.size]!)) (parts.map fun(i,x)=>(i,a.eval x)).toList=some BJ:=by
    rw[Zy];exact q1
   exact qq h1 h1 h4 SB
  refine acK ?_;have:=RV.newRow (xs:=xs.map A2.share) (sz:=te.size) (arr:=BJ) (t:=e) hg (fun x hx=>by
   rw[JQ]at hx;obtain⟨y,h1,h2⟩:=hx;subst h2;rw[A2.gx,BE];exact Ag y h1) (fun x hx c hc=>by
   rw[JQ]at hx;obtain⟨y,h1,h2⟩:=hx;subst h2;rw[A2.gx,JQ]at hc;obtain⟨c',h3,h4⟩:=hc;subst h4;exact A2.ZN (B1 y h1 c' h3)) (by
    simp only[BE,hlen];have:len<=len*te.size:=iK _ JK;omega) (by rw[ZP];exact q2.M0)
  rw[BE,hlen]at this;exact Cd
theorem Nq{o:A8}:(g.objs++[o])[g.objs.length]?=some o:=by simp
theorem RO(hg:Good g){l:Option Loc}:(g.env++[l])[g.objs.length]?=some l:=by
 rw[<-hg.len];simp
theorem qg9(ho:o.op=.box t x)(hd:∀d,o.dst=some d->d<σ.n)(hx:σ.ev x=some y)(hf:y.flat) :
  Cert P o σ (.mp σ.objs.length 0) (.write (σ.objs++[.cells y.cells])) :=
 Cert.IP hd fun base Bl a g Ax h CO=>by
  have hO:g.objs=σ.objs:=CO.resolve_left A6;have hg:=Ax.good;have Bu:=h x CM _ hx;have B1:=Bu.ZQ hf;have GJ:=Bu.mh B1;have hle:=Le.alloc hg (.cells (a.eval x).cells t) 0 (.cells y.cells);refine⟨.pointer (some ⟨g.w.heap.size,0,none⟩),g.alloc (.cells (a.eval x).cells t) 0 (.cells y.cells),.inl ?_,hle,Good.alloc hg _ 0 _ (.inr rfl) ⟨_,t,rfl,by rw[GJ.1];exact B6 _,(GJ.mono hle).2,B1⟩,?_,?_⟩
  ·simp[execOp,ho,Instr.box,Go.newVar,Go.newRow,G.alloc]
  ·exact Rl hO
  exact rV hO hg
theorem qcb(hT:CH P AD){o:Oper}{σ:St}{t:TypeId}{ti:CU}(ho:o.op=.alloc t)(hd:∀d,o.dst=some d->d<σ.n)(ht:AD t=some ti) :
  Cert P o σ (.mp σ.objs.length 0) (.write (σ.objs++[.cells ti.zero])) :=
 Cert.IP hd fun base Bl a g Ax h CO=>by
  have hO:g.objs=σ.objs:=CO.resolve_left A6;have hg:=Ax.good;obtain⟨z,hz,h5,_,_,h8,h9⟩:=(hT t ti ht).zeroValue;have hle:=Le.alloc hg (.cells z.cells t) 0 (.cells ti.zero);refine⟨.pointer (some ⟨g.w.heap.size,0,none⟩),g.alloc (.cells z.cells t) 0 (.cells ti.zero),.inl ?_,hle,Good.alloc hg _ 0 _ (.inr rfl) ⟨_,t,rfl,by rw[h5];exact B6 _,fun j c u a b=>h8 _ j c u a b,h9⟩,?_,?_⟩
  ·simp[execOp,ho,Instr.alloc,hz,Go.newVar,Go.newRow,G.alloc]
  ·exact Rl hO
  exact rV hO hg
theorem qb1(kt:KT)(hp:kt.plain)(ho:o.op=.makeMap t none)(hd:∀d,o.dst=some d->d<σ.n) :
  Cert P o σ (.mm σ.objs.length) (.write (σ.objs++[.map kt []])) :=
 Cert.IP hd fun base Bl a g Ax h CO=>by
  have hO:g.objs=σ.objs:=CO.resolve_left A6;have hg:=Ax.good;have hle:=Le.alloc hg (.map #[] 0) 0 (.map kt []);refine⟨.map (some g.w.heap.size),g.alloc (.map #[] 0) 0 (.map kt []),.inl ?_,hle,Good.alloc hg _ 0 _ (.inr rfl) (Wq.mok ⟨#[],0,rfl,rfl,A6,A6,⟨A6,A6⟩⟩ hp),?_,?_⟩
  ·simp[execOp,ho,Instr.makeMap,G.alloc]
  ·exact Rl hO
  rw[<-hO];exact .mm (l:=⟨g.w.heap.size,0,_⟩) (RO hg) Nq Bd
theorem au(z:List A2)(hz:0<z.length):∀(m j:Nat) (c:A2),(List.replicate m z).flatten[j]?=some c->z[j % z.length]?=some c
 | 0,j,c=>by simp
 | m+1,j,c=>by
  intro hj;rw[KG,UW,Gt]at hj;split at hj
  ·rename_i AF;rw[pT AF];exact hj
  rename_i FM;have:=au z hz m _ c hj;rw[Nat.mod_eq_sub_mod I];exact Cd
theorem A1(hT:CH P AD){o:Oper}{σ:St}{t e:TypeId}{x y:Operand}{ti te:CU}{k k':IntKind}{n:Int}
  (ho:o.op=.makeSlice t x y) (hd:∀d,o.dst=some d->d<σ.n) (ht:AD t=some ti) (Ah:ti.desc=.slice e) (he:AD e=some te) (hx:σ.ev x=some (.v (.int k n))) (hy:σ.ev y=some (.v (.int k' n)))
  (h0:0<=n) (hb:te.bytes*n.toNat<=2 ^ 48) (R0:n.toNat<=2 ^ 62) (hs:0<te.size) :
  Cert P o σ (.ms σ.objs.length 0 n.toNat n.toNat) (.write (σ.objs++[.cells (List.replicate n.toNat te.zero).flatten])) :=
 Cert.IP hd fun base Bl a g Ax h CO=>by
  have hO:g.objs=σ.objs:=CO.resolve_left A6;have hg:=Ax.good;have ex:=(h x CM _ hx).D0.1;have ey:=(h y CM _ hy).D0.1;have hu:=GZ hT ht Ah;obtain⟨⟨i,z,h1,h2,h3,h4,h5,h6,h7,h8,h9⟩,_⟩:=hT e te he;obtain⟨m,rfl⟩:=cx h0;simp only[BH]at *;have Mh:(i.bytes:Int)*(m:Int)<=281474976710656:=by
   rw[h3,<-cu];omega
  have Aj:=run_make (P:=P) g.w t e i z hu h1 h4 k k' m m I (OK _) Mh I;simp only[BH]at Aj;have hlen:(List.replicate m te.zero).flatten.length=m*te.size:=dg
  have DO:∀(j:Nat) (c:A2),(List.replicate m te.zero).flatten[j]?=some c->te.zero[j % te.size]?=some c:=fun j c=>h6 ▸ au te.zero I m j c;have hle:=Le.alloc hg (.cells (madeCells z.cells (m*i.size)) e) 0 (.cells (List.replicate m te.zero).flatten);refine⟨.slice (some ⟨g.w.heap.size,0,none⟩) m m,g.alloc (.cells (madeCells z.cells (m*i.size)) e) 0 (.cells (List.replicate m te.zero).flatten),.inl ?_,hle,Good.alloc hg _ 0 _ (.inr rfl) ⟨_,e,rfl,?_,?_,?_⟩,?_,?_⟩
  ·simp[execOp,ho,ex,ey,Aj,G.alloc]
  ·rw[hlen,size_madeCells,h2];exact B6 _
  ·intro j c u hj G';have CK:=DO j c hj;have AF:=AE hj;rw[hlen]at AF;have HR:j % te.size<z.cells.size:=dU
   refine h8 _ _ _ _ CK ?_;simp only[madeCells,UU,h2,WH,A9 AF,FV,AM]at G';subst G';rw[h5,h6];simp[HR]
  ·intro c hc;rw[ic]at hc;obtain⟨l,hl,hc⟩:=hc;rw[Zs]at hl;exact h9 c (hl.2 ▸ hc)
  ·exact Rl hO
  rw[<-hO];exact .ms (l:=⟨g.w.heap.size,0,_⟩) (RO hg) Nq Bd (B6 _) (B6 _) R0
theorem Co.As{g:G}{cs xs:List A2}{arr vs:Array Value}(h:cs.length<=arr.size∧∀(j:Nat)(c:A2)(u:Value),cs[j]?=some c->arr[j]?=some u->RV g c u)(k:Co g xs vs){off:Nat}(ho:off+xs.length<=cs.length) :
  (As cs off xs).length<=(arr.toList.take off++vs.toList++arr.toList.drop (off+vs.toList.length)).toArray.size ∧
  ∀(j:Nat) (c:A2) (u:Value),(As cs off xs)[j]?=some c->(arr.toList.take off++vs.toList++arr.toList.drop (off+vs.toList.length)).toArray[j]?=some u->RV g c u:=by
 obtain⟨h1,h2⟩:=h;obtain⟨k1,k2⟩:=k;have hl:(arr.toList.take off).length=off:=Ai
 refine⟨?_,fun j c u hj hu=>?_⟩
 ·rw[P' ho];simp[k1];omega
 rw[Xl ho]at hj;have G':(arr.toList.take off++vs.toList++arr.toList.drop (off+vs.toList.length))[j]?=some u:=qR
 rw[Ez,Gt,hl,Gt,WG,k1]at G';by_cases e1:j<off
 ·rw[A9 e1]at G';rw[A4 I]at hj;rw[GC,A9 e1]at G';exact h2 j c u hj jI
 rw[A4 e1]at G';by_cases e2:j-off<xs.length
 ·rw[A9 e2]at G';rw[A9 I]at hj;exact k2 _ c u hj jI
 rw[A4 e2]at G';rw[A4 I]at hj;rw[FC]at G';refine h2 j c u hj ?_;rw[show off+xs.length+(j-off-xs.length)=j from I]at G';simpa using G'
theorem setRow_other(w:World)(b k:Nat)(cs:Array Value)(h:k≠b):(w.setRow b cs).heap[k]?=w.heap[k]?:=by
 simp only[World.setRow,dA];rw[A4 I]
theorem setRow_size(w:World)(b:Nat)(cs:Array Value):(w.setRow b cs).heap.size=w.heap.size:=by
 simp[World.setRow]
theorem ZV{cs':List A2}{l:Loc}(ho:g.objs[id]?=some (.cells cs))(he:g.env[id]?=some (some l))(CA:l.lo=0)(BJ:Array Value):N6 g id (.cells cs) (some l) (.cells cs') (g.w.setRow l.block BJ) where
 obj:=ho
 os:=rfl
 tape:=rfl
 output:=rfl
 size:=ab6
 block:=fun k _ hk=>setRow_other _ _ _ _ (fun e=>hk l he trivial e.symm)
 cell:=fun b off x hx hb=>by
  by_cases e:b=l.block
  ·have:=hb l he trivial e.symm;omega
  rw[ZW (setRow_other g.w l.block b BJ e)];exact hx
 place:=fun l1 h1 _=>by
  simp only[AM]at h1;subst h1;exact .inr ⟨l,he,trivial,rfl,B6 _⟩
 spare:=fun m h=>NG
 plain:=fun _=>⟨Bd,he⟩
 gone:=A6
theorem qci(hT:CH P AD){o:Oper}{σ:St}{t:TypeId}{x y:Operand}{ti:CU}{id off:Nat}{cs:List A2}{v:A2}(ho:o.op=.store t x y)(IS:o.dst=none)
  (ht:AD t=some ti) (hx:σ.ev x=some (.mp id off)) (Ex:σ.objs[id]?=some (.cells cs)) (hy:σ.ev y=some v) (hf:v.flat) (Ag:v.cells.length=ti.size) (hs:off+ti.size<=cs.length) :
  Cert P o σ (.v (.bool false)) (.write (σ.objs.set id (.cells (As cs off v.cells)))) :=
 Cert.IP (by simp[IS]) fun base Bl a g Ax h CO=>by
  have hO:g.objs=σ.objs:=CO.resolve_left A6;have hg:=Ax.good;obtain⟨l,o1,he,h1,_,ex⟩:=(h x CM _ hx).RT;have H8:=h y CM _ hy;have B1:=H8.ZQ hf;have GJ:=H8.mh B1;have Fz:g.objs[id]?=some (.cells cs):=Rf
  obtain⟨arr,t',CA,CV,hlen,BQ,Iw,TO⟩:=hg.row Fz he;obtain⟨BJ,HB⟩:∃BJ,BJ=(arr.toList.take off++(a.eval y).cells.toList++arr.toList.drop (off+(a.eval y).cells.toList.length)).toArray:=⟨_,rfl⟩
  have Au:=run_storeCells_at P l.block off t' (a.eval y).cells.toList 0 arr g.w CV (by simp[GJ.1];omega) (fun u hu=>by
   obtain⟨j,hj⟩:=MF hu;have CK:(a.eval y).cells[j]?=some u:=QO
   have AF:=Gq CK;rw[GJ.1]at AF;have hc:=AY AF;exact((GJ.2 j _ u hc CK).Vy (B1 _ (AK hc))).1)
  simp only[J4]at Au;rw[<-HB]at Au;have Ew:=ZV (cs':=As cs off v.cells) Fz he CA BJ;have hle:=Le.Am hg Ew;have Bg:=Co.As ⟨hlen,BQ⟩ GJ (off:=off) I;rw[<-HB]at Bg;refine⟨.bool false,g.Am id (some l) (.cells (As cs off v.cells)) (g.w.setRow l.block BJ),.inr ⟨IS,?_⟩,hle,Good.Am hg Ew ?_ ?_,?_,.v trivial⟩
  ·have Pn:((a.eval y).cells.size≠ti.size)=False:=by simp[GJ.1,Ag]
   simp[execOp,ho,ex,Instr.storeAt,Instr.sureAddr,Go.storeVar,(hT t ti ht).sizeOf,GJ.1,Ag,Au,G.Am]
  ·refine⟨l,BJ,t',rfl,CA,?_,Bg.1,fun j c u a b=>(Bg.2 j c u a b).mono hle,fun c hc=>?_,?_⟩
   ·exact jt
   ·simp only[As,HY]at hc;rcases hc with hc|hc|hc
    ·exact Iw c (KF hc)
    ·exact B1 c hc
    exact Iw c (N9 hc)
   have q:=GJ.1;rw[HB];exact kB
  ·intro l1 h1 _;simp only[AM]at h1;subst h1;exact kH
  simp only[G.Am,Mode.post,hO]
section
variable {P:Program}
theorem Xi(w w':World)(t ty e:TypeId)(i:TypeInfo)(ht:P.underlying t=some (.slice e))(hi:P.info? e=some i)(a:Addr)(Kz Qb n:Nat)(x:Value)(news:List Value)
  (Oh:∀w,(Builtin.lenOf x).run P w=.ok n w) (L8:(Builtin.firstCells i.size n x).run P w=.ok news.toArray w) (LU:Kz+n<=Qb) (Au:(storeCells (a.add (Kz*i.size)) news).run P w=.ok () w') :
  (Builtin.append_ #[t,t] ty #[.slice (some a) Kz Qb,x]).run P w=.ok (.slice (some a) (Kz+n) Qb) w':=by
 simp[Builtin.append_,run_underlying ht,Go.sizeOf,typeInfo,hi,Oh,LU,L8,Au]
theorem Xj(w:World)(t ty e:TypeId)(i:TypeInfo)(z:Value)(ht:P.underlying t=some (.slice e))(hi:P.info? e=some i)(hz:i.zero=some z)(s:Option Addr)(Kz Qb n:Nat)(x:Value)(Dt news:List Value)
  (Oh:∀w,(Builtin.lenOf x).run P w=.ok n w) (L8:(Builtin.firstCells i.size n x).run P w.drew=.ok news.toArray w.drew) (hs:(Builtin.firstCells i.size Kz (.slice s Kz Qb)).run P w.drew=.ok Dt.toArray w.drew)
  (LU:Qb<Kz+n) (h63:Kz+n<=2 ^ 62) (AO:(Kz+n)*i.bytes<=2 ^ 47) :
  (Builtin.append_ #[t,t] ty #[.slice s Kz Qb,x]).run P w =
   .ok (.slice (some ⟨w.heap.size,0,none⟩) (Kz+n) (grownCap w (Kz+n) Qb e)) (w.drew.alloc (.cells (Dt.toArray++news.toArray++Builtin.zeroCells z.cells (grownCap w (Kz+n) Qb e-(Kz+n))) e)):=by
 have hn:¬(Kz+n<=Qb):=I
 have qlx:¬(9223372036854775807<((Kz:Int)+(n:Int))):=I
 have h48:¬(281474976710656<Builtin.nextslicecap (Kz+n) Qb*i.bytes):=by
  have h1:=nextslicecap_le LU;have h2:=OE i.bytes h1;rw[Nat.mul_assoc]at h2;omega
 simp[Builtin.append_,run_underlying ht,Go.sizeOf,typeInfo,Go.zeroValue,hi,hz,Oh,hn,qlx,h48,Question.forced,L8,hs,Go.newRow,grownCap];congr 2;apply Zx;simp[Ez]
end
theorem RV.Ms{o:Ec}(h:RV g (.A3 sz xs o) u):∃(ad:Option Addr) (cap:Nat) (vs:List Value),u=.slice ad xs.length cap∧(∀w,(Builtin.lenOf u).run P w=.ok xs.length w) ∧
  (∀w:World,w.heap=g.w.heap->(Builtin.firstCells sz xs.length u).run P w=.ok vs.toArray w)∧Co g (AP xs) vs.toArray∧(∀x∈xs,x.cells.length=sz)∧(∀c∈AP xs,c.scalar)∧vs.length=xs.length*sz:=by
 rcases h.LP with⟨e1,e2⟩|⟨a,cap,f,e1,Ag,B1,_,_,hs,hm,hr,_⟩
 ·subst e1 e2;exact⟨none,0,[],rfl,fun w=>rfl,fun w _=>by simp[Builtin.firstCells],⟨Rh,Rh⟩,A6,Rh,A6⟩
 subst e1;have hl:=Ja Ag;refine⟨some a,cap,(List.range (xs.length*sz)).map f,rfl,fun w=>rfl,fun w hw=>?_,⟨jV,fun j c u hj hu=>?_⟩,Ag,fun c hc=>?_,A6⟩
 ·simp only[Builtin.firstCells];refine run_loadCells w a (xs.length*sz) f fun j hj=>?_;have CK:j<(AP xs).length:=I
  have AT:xs≠[]:=by
   intro e;subst e;simp[AP]at CK
  have:=(hm j _ (AY CK)).1;obtain⟨b,off,sp⟩:=a;have Bg:=hs AT;simp only at Bg;subst Bg;rw[addr_add];simp only[World.cell?,hw];exact Cd
 ·have AF:=AE hj;rw[hl]at AF;have G':((List.range (xs.length*sz)).map f)[j]?=some u:=qR
  rw[Bv,J3 AF]at G';simp only[FV,AM]at G';subst G';exact hr j c hj
 simp only[AP,L0]at hc;obtain⟨x,hx,hc⟩:=hc;exact B1 x hx c hc
theorem Pw(xs ys:List A2):AP (xs++ys)=AP xs++AP ys:=by simp[AP]
variable {ds:List A2}
theorem Co.append{us vs:List Value}(h:Co g cs us.toArray)(k:Co g ds vs.toArray):Co g (cs++ds) (us++vs).toArray:=by
 obtain⟨h1,h2⟩:=h;obtain⟨k1,k2⟩:=k;simp only[Jj]at h1 k1;refine⟨by simp[h1,k1],fun j c u hj hu=>?_⟩;have G':(us++vs)[j]?=some u:=qR
 rw[Gt]at hj G';by_cases e:j<cs.length
 ·rw[A9 e]at hj;rw[A9 I]at G';exact h2 j c u hj jI
 rw[A4 e]at hj;rw[A4 I,h1]at G';exact k2 _ c u hj jI
theorem RV.mP{zs:List A2}{l:Loc}{arr:Array Value}(hg:Good g)(Ag:∀x∈zs,x.cells.length=sz)(B1:∀c∈AP zs,c.scalar)(Bm:zs.length<=2 ^ 62)(C1:zs.length<=cap)
  (he:g.env[id]?=some (some l)) (BN:g.objs[id]?=some (.spare zs.length)) (CA:l.lo=zs.length*sz) (CV:g.w.heap[l.block]?=some (.cells arr t (0,0))) (hc:cap*sz<=arr.size) (B0:∀off,¬g.fr l.block off)
  (hr:∀(j:Nat) (c:A2) (u:Value),(AP zs)[j]?=some c->arr[j]?=some u->RV g c u):RV g (.A3 sz zs (.tok id)) (.slice (some ⟨l.block,0,none⟩) zs.length cap):=by
 have hl:=Ja Ag;have hle:zs.length*sz<=cap*sz:=OE _ C1;refine .A3 Ag (fun x hx c hc=>B1 c (by simp only[AP,L0];exact⟨x,hx,hc⟩)) C1 Bm (fun _=>rfl) (fun j=>arr.getD j undef) (fun j c hj=>?_) (fun j c hj=>?_) ⟨AE BN,fun m hm=>?_⟩
 ·have AF:=AE hj;rw[hl]at AF;refine⟨?_,?_⟩
  ·simp only[G.cell,Db];exact acr
  rintro(hf|⟨Da,l',o',h1,h2,h3,h4,h5⟩)
  ·exact B0 _ hf
  have hb:l'.block=l.block:=h4;have:=hg.apart Da id l' l o' _ h1 h2 h3 he BN trivial hb;subst this;rw[he]at h1;simp only[AM]at h1;subst h1;simp only[Db]at h5;omega
 ·have AF:=AE hj;rw[hl]at AF;exact hr j c _ hj aak
 rw[BN]at hm;simp only[AM,A8.spare.injEq]at hm;subst hm;exact⟨B6 _,fun _=>.inr ⟨l,arr,t,he,rfl,CA,CV,hc⟩⟩
variable {ys:List A2}
theorem Co.Zb{vs:List Value}(h:Co g (AP ys) vs.toArray):Co g (AP (ys.map A2.share)) vs.toArray:=by
 rw[ZP];exact h.M0
theorem Vx(h:∀x∈ys,x.cells.length=sz):∀x∈ys.map A2.share,x.cells.length=sz:=fun x hx=>by
 rw[JQ]at hx;obtain⟨y,h1,h2⟩:=hx;subst h2;rw[A2.gx,BE];exact h y h1
theorem Xh(h:∀c∈AP ys,c.scalar):∀c∈AP (ys.map A2.share),c.scalar:=fun c hc=>by
 rw[ZP,JQ]at hc;obtain⟨c',h1,h2⟩:=hc;subst h2;exact A2.ZN (h c' h1)
theorem U4{Dt news rest:Array Value}(h:(Dt++news++rest)[j]?=some u)(hj:j<Dt.size+news.size):(Dt++news)[j]?=some u:=by
 rw[iR]at h;rw[A9 QO]at h;exact h
theorem qnu(hT:CH P AD){o:Oper}{σ:St}{t e:TypeId}{x y:Operand}{ti te:CU}{sz:Nat}{xs ys:List A2}{ow:Ec}
  (ho:o.op=.call ⟨.builtin .append,#[x,y],#[t,t]⟩) (hd:∀d,o.dst=some d->d<σ.n) (ht:AD t=some ti) (Ah:ti.desc=.slice e) (he:AD e=some te) (Ag:te.size=sz) (hx:σ.ev x=some (.A3 sz xs .ex)) (hy:σ.ev y=some (.A3 sz ys ow))
  (hlen:xs.length+ys.length<=2 ^ 62) (hb:(xs.length+ys.length)*te.bytes<=2 ^ 47) :
  Cert P o σ (.A3 sz (xs++ys.map A2.share) (.tok σ.objs.length)) (.write (σ.objs++[.spare (xs.length+ys.length)])) :=
 Cert.IP hd fun base Bl a g Ax h CO=>by
  have hO:g.objs=σ.objs:=CO.resolve_left A6;have hg:=Ax.good;have hu:=GZ hT ht Ah;subst Ag;have Bu:=h x Gh _ hx;have H8:=h y Gh _ hy;obtain⟨L9,Iv,Dt,ex,Oh,L8,Qq,Oi,Ko,OZ⟩:=Bu.Ms (P:=P);obtain⟨XK,Wz,news,ey,JD,PN,Im,Lv,KV,IW⟩:=H8.Ms (P:=P);obtain⟨⟨i,z,h1,h2,h3,h4,h5,h6,h7,h8,h9⟩,_⟩:=hT e te he;have Rt:Iv=xs.length:=by
   rcases Bu.LP with⟨q1,q2⟩|⟨ad,cap,f,q1,_,_,_,_,_,_,_,q2⟩
   ·rw[ex]at q1;cases q2;simp at q1;simp[q1]
   rw[ex]at q1;simp only[Value.slice.injEq]at q1;exact Ye
  subst Rt;have D4:=Lw (P:=P) ho a g.w;simp only[builtin,QL,Bc,Ed]at D4;by_cases hn:ys.length=0
  ·have JE:ys=[]:=List.length_eq_zero_iff.1 hn;subst JE;have QI:news=[]:=by
    have:news.length=0:=by simpa using IW
    exact kC
   subst QI;have Aj:(Builtin.append_ #[t,t] o.type #[a.eval x,a.eval y]).run P g.w=.ok (a.eval x) g.w:=by
    rw[ex];cases L9 with
    | none =>
     have Pt:xs=[]:=by
      rcases Bu.LP with⟨_,q2⟩|⟨ad,cap,f,q1,_⟩
      ·exact q2
      rw[ex]at q1;simp at q1
     subst Pt;have q:=PN g.w rfl;simp only[GD]at q;simp[Builtin.append_,run_underlying hu,Go.sizeOf,typeInfo,h1,JD,h2,q]
    | some ad =>
     have:=Xi (P:=P) g.w g.w t o.type e i hu h1 ad xs.length xs.length 0 (a.eval y) [] (fun w=>by simpa using JD w) abK I (by simp[storeCells]);exact NI
   refine⟨a.eval x,g.mark (.spare (xs.length+0)),.inl (by rw[D4];simp[Aj,G.mark]),Le.mark hg _,Good.mark hg _,by simp[G.mark,hO,Mode.post],?_⟩;simp only[Ed,F9];have KU:=Bu.mono (Le.mark hg (.spare (xs.length+0)));cases G':a.eval x with
   | slice ad len cap =>
    rw[G']at KU;cases KU with
    | nil=>exact .nil (fun id e=>aaR) A6
    | A3 Ag B1 C1 Bm hs f hm hr Vn =>
     refine .A3 Ag B1 C1 Bm hs f hm hr ⟨jE,fun m BX=>?_⟩;have:(g.mark (.spare (xs.length+0))).objs[σ.objs.length]?=some (.spare (xs.length+0)):=by
      rw[<-hO];exact Nq
     rw[this]at BX;simp only[AM,A8.spare.injEq]at BX;exact⟨I,fun _=>.inl Vn⟩
   | _=>rw[ex]at G';cases G'
  have Aj:=Xj (P:=P) g.w t o.type e i z hu h1 h4 L9 xs.length xs.length ys.length (a.eval y) Dt news JD YG dI I hlen Ua;rw[<-ex]at Aj;obtain⟨cap,C1⟩:∃cap,cap=grownCap g.w (xs.length+ys.length) xs.length e:=⟨_,rfl⟩
  obtain⟨rest,D3⟩:∃rest,rest=Builtin.zeroCells z.cells (cap-(xs.length+ys.length)):=⟨_,rfl⟩
  have FM:=grownCap_ge g.w (xs.length+ys.length) xs.length e;rw[<-C1]at Aj FM;rw[<-D3]at Aj;have Ie:rest.size=(cap-(xs.length+ys.length))*te.size:=YI
  obtain⟨arr,ER⟩:∃arr,arr=Dt.toArray++news.toArray++rest:=⟨_,rfl⟩
  rw[<-ER]at Aj;have Du:=hg.heap (w':=g.w.drew) rfl rfl rfl rfl;have Iy:=Le.heap (g:=g) (w':=g.w.drew) rfl rfl rfl rfl;obtain⟨g1,DJ⟩:∃g1:G,g1=⟨g.w.drew,g.fr,g.env,g.objs⟩:=⟨_,rfl⟩
  rw[<-DJ]at Du Iy;have Ha:g1.w=g.w.drew:=WM
  have DT:g1.objs=σ.objs:=WL
  have FZ:Fits (g1.alloc (.cells arr e) ((xs.length+ys.length)*te.size) (.spare (xs.length+ys.length))) (.cells arr e) (.spare (xs.length+ys.length)):=⟨arr,e,rfl⟩
  have EA:=Good.alloc Du (.cells arr e) ((xs.length+ys.length)*te.size) (.spare (xs.length+ys.length)) (.inl trivial) FZ;have hle:=Iy.trans (Le.alloc Du (.cells arr e) ((xs.length+ys.length)*te.size) (.spare (xs.length+ys.length)));refine jw ?_ ?_ ?_
  ·rw[D4];simp[Aj,G.alloc,Ha]
  ·exact Rl DT
  have Kt:(xs++ys.map A2.share).length=xs.length+ys.length:=A6
  have Ks:=Qq.append Im.Zb;rw[<-Pw]at Ks;have B8:(AP (xs++ys.map A2.share)).length=(xs.length+ys.length)*te.size:=by
   rw[Ja (sz:=te.size) (fun x hx=>by
    rcases List.mem_append.1 hx with q|q
    ·exact Oi x q
    exact Vx Lv x q),Kt]
  have:=RV.mP (g:=g1.alloc (.cells arr e) ((xs.length+ys.length)*te.size) (.spare (xs.length+ys.length))) (zs:=xs++ys.map A2.share) (sz:=te.size) (cap:=cap) (l:=⟨g.w.heap.size,(xs.length+ys.length)*te.size,arr.size⟩) (arr:=arr) (t:=e) (id:=σ.objs.length) EA
   (fun x hx=>by
    rcases List.mem_append.1 hx with q|q
    ·exact Oi x q
    exact Vx Lv x q)
   (fun c hc=>by
    rw[Pw]at hc;rcases List.mem_append.1 hc with q|q
    ·exact Ko c q
    exact Xh KV c q)
   qI (by rw[Kt];exact FM) (by
    have:=RO Du (l:=some ⟨g1.w.heap.size,(xs.length+ys.length)*te.size,cb (.cells arr e)⟩);rw[DT]at this;simp only[G.alloc];rw[this,Ha];rfl) (by rw[Kt,<-DT];exact Nq) (by rw[Kt]) (by
    have:=Pz g1.w (.cells arr e);rw[Ha]at this;simp only[G.alloc,Ha];exact this) (by
    rw[ER];simp only[RX,Jj,OZ,IW,Ie,<-LX];rw[show xs.length+ys.length+(cap-(xs.length+ys.length))=cap from I];exact B6 _) (fun off hf=>by
    have DH:g.fr g.w.heap.size off:=by rw[DJ]at hf;exact hf
    have:=hg.frlt _ _ DH;omega) (fun j c u hj hu=>by
    have AF:=AE hj;rw[B8]at AF;rw[ER]at hu;have IX:=U4 hu dL;exact(Ks.2 j c u hj Ub).mono hle)
  rw[Kt]at this;exact Cd
theorem qnj(hT:CH P AD){o:Oper}{σ:St}{t e:TypeId}{x y:Operand}{ti te:CU}{sz:Nat}{xs ys:List A2}{ow:Ec}{id:Nat}
  (ho:o.op=.call ⟨.builtin .append,#[x,y],#[t,t]⟩) (hd:∀d,o.dst=some d->d<σ.n) (ht:AD t=some ti) (Ah:ti.desc=.slice e) (he:AD e=some te) (Ag:te.size=sz) (hx:σ.ev x=some (.A3 sz xs (.tok id))) (hy:σ.ev y=some (.A3 sz ys ow))
  (BN:σ.objs[id]?=some (.spare xs.length)) (hlen:xs.length+ys.length<=2 ^ 62) (hb:(xs.length+ys.length)*te.bytes<=2 ^ 47) :
  Cert P o σ (.A3 sz (xs++ys.map A2.share) (.tok id)) (.write (σ.objs.set id (.spare (xs.length+ys.length)))) :=
 Cert.IP hd fun base Bl a g Ax h CO=>by
  have hO:g.objs=σ.objs:=CO.resolve_left A6;have hg:=Ax.good;have hu:=GZ hT ht Ah;subst Ag;have Bu:=h x Gh _ hx;have H8:=h y Gh _ hy;obtain⟨L9,Iv,Dt,ex,Oh,L8,Qq,Oi,Ko,OZ⟩:=Bu.Ms (P:=P);obtain⟨XK,Wz,news,ey,JD,PN,Im,Lv,KV,IW⟩:=H8.Ms (P:=P);obtain⟨⟨i,z,h1,h2,h3,h4,h5,h6,h7,h8,h9⟩,_⟩:=hT e te he;have Gz:g.objs[id]?=some (.spare xs.length):=YL
  have D4:=Lw (P:=P) ho a g.w;simp only[builtin,QL,Bc,Ed]at D4;have Fk:∀m,m=xs.length->g.objs.set id (.spare m)=g.objs:=fun m hm=>by
   subst hm;apply Gg;intro k;by_cases e:id=k
   ·subst e;rw[Bb (AE Gz),Gz]
   rw[Ap e]
  have Kt:(xs++ys.map A2.share).length=xs.length+ys.length:=A6
  have TR:∀x∈xs++ys.map A2.share,x.cells.length=te.size:=fun x hx=>by
   rcases List.mem_append.1 hx with q|q
   ·exact Oi x q
   exact Vx Lv x q
  have bz:∀c∈AP (xs++ys.map A2.share),c.scalar:=fun c hc=>by
   rw[Pw]at hc;rcases List.mem_append.1 hc with q|q
   ·exact Ko c q
   exact Xh KV c q
  have B8:(AP (xs++ys.map A2.share)).length=(xs.length+ys.length)*te.size:=by
   rw[Ja TR,Kt]
  have Ks:=Qq.append Im.Zb;rw[<-Pw]at Ks;by_cases hn:ys.length=0
  ·have JE:ys=[]:=List.length_eq_zero_iff.1 hn;subst JE;have QI:news=[]:=by
    have:news.length=0:=by simpa using IW
    exact kC
   subst QI;have C1:xs.length<=Iv:=by
    rcases Bu.LP with⟨_,q2⟩|⟨ad,cap,f,q1,_,_,q2,_⟩
    ·simp[q2]
    rw[ex]at q1;simp only[Value.slice.injEq]at q1;exact Ye
   have Aj:(Builtin.append_ #[t,t] o.type #[a.eval x,a.eval y]).run P g.w=.ok (a.eval x) g.w:=by
    rw[ex];cases L9 with
    | none =>
     have Pt:xs=[]∧Iv=0:=by
      rcases Bu.LP with⟨q1,q2⟩|⟨ad,cap,f,q1,_⟩
      ·rw[ex]at q1;simp only[Value.slice.injEq]at q1;exact⟨q2,q1.2.2⟩
      rw[ex]at q1;simp at q1
     obtain⟨e1,e2⟩:=Pt;subst e1;subst e2;have q:=PN g.w rfl;simp only[GD]at q;simp[Builtin.append_,run_underlying hu,Go.sizeOf,typeInfo,h1,JD,h2,q]
    | some ad =>
     have:=Xi (P:=P) g.w g.w t o.type e i hu h1 ad xs.length Iv 0 (a.eval y) [] (fun w=>by simpa using JD w) abK I (by simp[storeCells]);exact NI
   refine⟨a.eval x,g,.inl (by rw[D4];simp[Aj]),Le.refl g,hg,?_,?_⟩
   ·simp only[Mode.post,<-hO];exact(Fk _ A6).symm
   simpa using Bu
  have hm:xs.length<xs.length+ys.length:=I
  by_cases LU:xs.length+ys.length<=Iv
  ·-- in place
   obtain⟨l,arr,t',q1,q2,q3,q4,q5⟩:∃(l:Loc) (arr:Array Value) (t':TypeId),g.env[id]?=some (some l)∧L9=some ⟨l.block,0,none⟩∧l.lo=xs.length*te.size∧g.w.heap[l.block]?=some (.cells arr t' (0,0))∧Iv*te.size<=arr.size:=by
    rcases Bu.LP with⟨q1,q2⟩|⟨ad,cap,f,q1,_,_,_,_,_,_,_,q2⟩
    ·rw[ex]at q1;simp only[Value.slice.injEq]at q1;omega
    rw[ex]at q1;simp only[Value.slice.injEq]at q1;obtain⟨e1,_,e3⟩:=q1;subst e1;subst e3;rcases(q2.2 _ Gz).2 rfl with q|⟨l,arr,t',q1,q2,q3,q4,q5⟩
    ·omega
    exact⟨l,arr,t',q1,by rw[q2],q3,q4,q5⟩
   subst q2;have AO:xs.length*te.size+0+news.length<=arr.size:=by
    rw[IW,J4,<-LX];exact NC (OE _ LU) q5
   have TQ:∀v∈news,v.oneCell'=true:=fun v hv=>by
    obtain⟨j,hj⟩:=MF hv;have AF:=AE hj;have hs:=Im.1;simp only[Jj]at hs;rw[hs]at AF;have hc:=AY AF;exact((Im.2 j _ v hc QO).Vy (KV _ (AK hc))).1
   have Au:=run_storeCells_at P l.block (xs.length*te.size) t' news 0 arr g.w q4 AO TQ;simp only[J4]at Au;obtain⟨BJ,HB⟩:∃BJ,BJ=(arr.toList.take (xs.length*te.size)++news++arr.toList.drop (xs.length*te.size+news.length)).toArray:=⟨_,rfl⟩
   rw[<-HB]at Au;have La:BJ.size=arr.size:=by
    rw[HB];exact KM
   have TN:∀j,j<xs.length*te.size->BJ[j]?=arr[j]?:=fun j hj=>by
    rw[HB];simp only[Ez,Zq];rw[Gt,A9 Ai,GC,A9 hj];simp
   have Qf:∀j u,BJ[j]?=some u->xs.length*te.size<=j->j<(xs.length+ys.length)*te.size->news[j-xs.length*te.size]?=some u:=fun j u hj h1 h2=>by
    rw[HB]at hj;simp only[Ez,Zq]at hj;have Qw:(arr.toList.take (xs.length*te.size)).length=xs.length*te.size:=Ai
    rw[Gt,Qw,A4 I,Gt,A9 (by rw[IW];rw[LX]at h2;omega)]at hj;exact hj
   have Aj:=Xi (P:=P) g.w (g.w.setRow l.block BJ) t o.type e i hu h1 ⟨l.block,0,none⟩ xs.length Iv ys.length (a.eval y) news JD j9 LU (by rw[h2,addr_add,Db];exact Au);rw[<-ex]at Aj;have Ew:N6 g id (.spare xs.length) (some ⟨l.block,(xs.length+ys.length)*te.size,0⟩) (.spare (xs.length+ys.length)) (g.w.setRow l.block BJ):={
    obj:=Gz
    os:=rfl
    tape:=rfl
    output:=rfl
    size:=ab6
    block:=fun k _ hk=>setRow_other _ _ _ _ (fun e=>hk l q1 trivial e.symm)
    cell:=fun b off x hx hb=>by
     by_cases e:b=l.block
     ·subst e;have AF:=hb l q1 trivial rfl;rw[q3]at AF;rw[cell_of_row (setRow_heap g.w l.block arr BJ t' (0,0) q4),TN off AF];simp only[G.cell]at hx;rw[cell_of_row q4]at hx;exact hx
     rw[ZW (setRow_other g.w l.block b BJ e)];exact hx
    place:=fun l1 h1 _=>by
     simp only[AM]at h1;subst h1;exact .inr ⟨l,q1,trivial,rfl,by rw[q3];exact OE _ I⟩
    spare:=fun m h=>by
     simp only[A8.spare.injEq]at h;subst h;exact .inl ⟨_,rfl,hm⟩
    plain:=fun h=>B3 trivial h
    gone:=A6}
   have hle:=Le.Am hg Ew;have EA:=Good.Am hg Ew (fun l1 h1=>by
    simp only[AM]at h1;subst h1;exact⟨BJ,t',setRow_heap g.w l.block arr BJ t' (0,0) q4⟩) (fun l1 h1 _=>by
    simp only[AM]at h1;subst h1;rw[setRow_size];exact Gq q4)
   refine⟨.slice (some ⟨l.block,0,none⟩) (xs.length+ys.length) Iv,_,.inl ?_,hle,EA,ab3,?_⟩
   ·rw[D4];simp[Aj,G.Am]
   have:=RV.mP (g:=g.Am id (some ⟨l.block,(xs.length+ys.length)*te.size,0⟩) (.spare (xs.length+ys.length)) (g.w.setRow l.block BJ)) (zs:=xs++ys.map A2.share) (sz:=te.size) (cap:=Iv)
    (l:=⟨l.block,(xs.length+ys.length)*te.size,0⟩) (arr:=BJ) (t:=t') (id:=id) EA TR bz qI (by rw[Kt];exact LU)
    jA aag (by rw[Kt])
    (setRow_heap g.w l.block arr BJ t' (0,0) q4) (by rw[La];exact q5) (fun off hf=>?_) (fun j c u hj hu=>?_)
   ·rw[Kt]at this;exact Cd
   ·have DH:g.fr l.block off:=hf;exact B3 DH (hg.HQ id l _ q1 Gz trivial off)
   have AF:=AE hj;rw[B8]at AF;refine(Ks.2 j c u hj ?_).mono hle;have Jx:Dt.length=xs.length*te.size:=OZ;simp only[Zq];rw[Gt];by_cases e:j<Dt.length
   ·rw[A9 e];have CK:(AP xs)[j]?=some c:=by
     rw[Pw,Gt,A9 (by rw[Ja Oi];omega)]at hj;exact hj
    rw[TN j I]at hu;have Qs:=L8 g.w rfl;rw[ex]at Qs;simp only[Builtin.firstCells]at Qs;have nX:=run_loadCells (P:=P) g.w ⟨l.block,0,none⟩ (xs.length*te.size) (fun k=>arr.getD k undef) (fun k hk=>by
     rw[addr_add,cell_of_row q4,Db];simp[HU,show k<arr.size from I])
    rw[nX]at Qs;simp only[Result.ok.injEq,FW]at Qs;have holds:Dt=(List.range (xs.length*te.size)).map (fun k=>arr.getD k undef):=by
     have:=Dj Array.toList Qs;simpa using this.symm
    rw[holds,Bv,J3 I];simp only[FV,AM];have XV:j<arr.size:=I
    simp only[UO XV,AM]at hu;simp[HU,XV,hu]
   rw[A4 e,Jx];exact Qf j u hu I AF
  -- a new row
  have Aj:=Xj (P:=P) g.w t o.type e i z hu h1 h4 L9 xs.length Iv ys.length (a.eval y) Dt news JD YG dI I hlen Ua;rw[<-ex]at Aj;obtain⟨cap,C1⟩:∃cap,cap=grownCap g.w (xs.length+ys.length) Iv e:=⟨_,rfl⟩
  obtain⟨rest,D3⟩:∃rest,rest=Builtin.zeroCells z.cells (cap-(xs.length+ys.length)):=⟨_,rfl⟩
  have FM:=grownCap_ge g.w (xs.length+ys.length) Iv e;rw[<-C1]at Aj FM;rw[<-D3]at Aj;have Ie:rest.size=(cap-(xs.length+ys.length))*te.size:=YI
  obtain⟨arr,ER⟩:∃arr,arr=Dt.toArray++news.toArray++rest:=⟨_,rfl⟩
  rw[<-ER]at Aj;have Ew:N6 g id (.spare xs.length) (some ⟨g.w.heap.size,(xs.length+ys.length)*te.size,0⟩) (.spare (xs.length+ys.length)) (g.w.drew.alloc (.cells arr e)):={
   obj:=Gz
   os:=rfl
   tape:=rfl
   output:=rfl
   size:=aaM
   block:=fun k hk _=>P0 g.w.drew _ hk
   cell:=fun b off x hx _=>by
    have:=ax hx;rw[ZW (P0 g.w.drew (.cells arr e) this)];exact hx
   place:=fun l1 h1 _=>by
    simp only[AM]at h1;subst h1;exact .inl (B6 _)
   spare:=fun m h=>by
    simp only[A8.spare.injEq]at h;subst h;exact .inl ⟨_,rfl,hm⟩
   plain:=fun h=>B3 trivial h
   gone:=A6}
  have hle:=Le.Am hg Ew;have EA:=Good.Am hg Ew (fun l1 h1=>by
   simp only[AM]at h1;subst h1;exact⟨arr,e,Pz g.w.drew _⟩) (fun l1 h1 _=>by
   simp only[AM]at h1;subst h1;exact Gq (Pz g.w.drew (.cells arr e)))
  refine⟨.slice (some ⟨g.w.heap.size,0,none⟩) (xs.length+ys.length) cap,_,.inl ?_,hle,EA,ab3,?_⟩
  ·rw[D4];simp[Aj,G.Am]
  have:=RV.mP (g:=g.Am id (some ⟨g.w.heap.size,(xs.length+ys.length)*te.size,0⟩) (.spare (xs.length+ys.length)) (g.w.drew.alloc (.cells arr e))) (zs:=xs++ys.map A2.share) (sz:=te.size) (cap:=cap)
   (l:=⟨g.w.heap.size,(xs.length+ys.length)*te.size,0⟩) (arr:=arr) (t:=e) (id:=id) EA TR bz qI (by rw[Kt];exact FM)
   jA aag (by rw[Kt])
   (Pz g.w.drew _) (by
    rw[ER];simp only[RX,Jj,OZ,IW,Ie,<-LX];rw[show xs.length+ys.length+(cap-(xs.length+ys.length))=cap from I];exact B6 _) (fun off hf=>by
    have DH:g.fr g.w.heap.size off:=hf;have:=hg.frlt _ _ DH;omega) (fun j c u hj hu=>by
    have AF:=AE hj;rw[B8]at AF;rw[ER]at hu;have IX:=U4 hu dL;exact(Ks.2 j c u hj Ub).mono hle)
  rw[Kt]at this;exact Cd
def P8:Value->Value->Bool
 | .string a,.string b=>decide (a=b)
 | .int _ a,.int _ b=>decide (a=b)
 | _,_=>false
def HC:List (Value×A2)->Value->Option A2
 | [],_=>none
 | (k,x)::r,key=>if P8 k key then some x else HC r key
def Fa:List (Value×A2)->Value->A2->List (Value×A2)
 | [],key,y=>[(key,y)]
 | (k,x)::r,key,y=>if P8 k key then(key,y)::r else(k,x)::Fa r key y
def KT.desc:KT->TypeDesc->Prop
 | .str,d=>d=.string
 | .int k,d=>d=.int k
 | .iter _,_=>False
theorem KT.iF{d:TypeDesc}(h:kt.desc d):kt.plain:=by
 cases kt with
 | str=>trivial
 | int k=>trivial
 | iter c=>exact h.elim
theorem bytes_beq(s t:ByteArray):(s == t)=decide (s=t):=by
 obtain⟨a⟩:=s;obtain⟨b⟩:=t;have e:((⟨a⟩:ByteArray) == ⟨b⟩)=(a == b):=rfl;rw[e,YF];simp
theorem qdg{d:TypeDesc}(hd:kt.desc d){a b:Value}(ha:kt.ok a)(hb:kt.ok b):Instr.sameNow d a b=some (P8 b a):=by
 cases kt with
 | iter c=>exact hd.elim
 | str =>
  simp only[KT.desc]at hd;subst hd;cases a<;>simp only[KT.ok]at ha;cases b<;>simp only[KT.ok]at hb;rename_i s t;simp only[Instr.sameNow,P8,AM,bytes_beq];rw[YF];simp only[Cp];exact⟨Eq.symm,Eq.symm⟩
 | int k =>
  simp only[KT.desc]at hd;subst hd;cases a<;>simp only[KT.ok]at ha;cases b<;>simp only[KT.ok]at hb;rename_i s t;subst ha;subst hb;simp only[Instr.sameNow,P8,L4,AM];rw[YF];simp only[beq_iff_eq,Cp];exact⟨Eq.symm,Eq.symm⟩
theorem findNow_spec{kt:KT}{d:TypeDesc}(hd:kt.desc d){key:Value}(hk:kt.ok key):∀(arr:List MapEntry) (es:List (Value×A2)) (i:Nat),arr.length=es.length ->
  (∀(j:Nat) (e:MapEntry) (kx:Value×A2),arr[j]?=some e->es[j]?=some kx->e.key=kx.1)->(∀p∈es,kt.ok p.1) ->
  ∃r,Instr.findNow d key arr i=some r ∧
   ((r=none∧HC es key=none∧∀y,Fa es key y=es++[(key,y)]) ∨
    ∃(j:Nat) (e:MapEntry) (x:A2) (k0:Value),r=some (i+j,e.val)∧arr[j]?=some e∧es[j]?=some (k0,x)∧P8 k0 key=true∧HC es key=some x∧∀y,Fa es key y=es.set j (key,y))
 | [],[],i,_,_,_=>⟨none,rfl,.inl ⟨rfl,rfl,fun _=>rfl⟩⟩
 | [],_::_,i,hl,_,_=>by simp at hl
 | _::_,[],i,hl,_,_=>by simp at hl
 | e::arr,(k0,x)::es,i,hl,ZG,EU=>by
  have he:e.key=k0:=ZG 0 e (k0,x) rfl rfl;have Ln:kt.ok k0:=EU (k0,x) A6;have hs:=qdg hd hk (he ▸ Ln:kt.ok e.key);simp only[Instr.findNow,hs];cases hq:P8 e.key key with
  | true =>
   refine⟨some (i,e.val),CX,.inr ⟨0,e,x,k0,A6,rfl,rfl,he ▸ hq,?_,fun y=>?_⟩⟩
   ·rw[he]at hq;simp[HC,hq]
   rw[he]at hq;simp[Fa,hq]
  | false =>
   rw[he]at hq;obtain⟨r,h1,h2⟩:=findNow_spec hd hk arr es (i+1) OL (fun j e' kx a b=>ZG (j+1) e' kx jF qi) (fun p hp=>EU p de);refine⟨r,h1,?_⟩;rcases h2 with⟨q1,q2,q3⟩|⟨j,e',x',k',q1,q2,q3,q4,q5,q6⟩
   ·exact .inl ⟨q1,by simp[HC,hq,q2],fun y=>by simp[Fa,hq,q3]⟩
   refine .inr ⟨j+1,e',x',k',?_,qn,by simpa using q3,q4,by simp[HC,hq,q5],fun y=>by simp[Fa,hq,q6]⟩;rw[q1];simp only[AM,NB,FW];omega
theorem Zl(hT:CH P AD){t k e:TypeId}{ti:CU}(ht:AD t=some ti)(Ah:ti.desc=.map k e):P.underlying t=some (.map k e):=by
 obtain⟨_,d,h1,h2⟩:=hT t ti ht;rw[Ah]at h2;simp only[bE]at h2;rw[h1,h2]
theorem run_checkKey{k:TypeId}{d:TypeDesc}(hu:P.underlying k=some d)(hd:kt.desc d){key:Value}(w:World)(b:Bool)(n:Nat):(Instr.checkKey b (n+1) k key).run P w=.ok () w:=by
 cases kt<;>simp only[KT.desc]at hd<;>subst hd<;>simp[Instr.checkKey,run_underlying hu]
def zeroOf(ti:CU):A2:=if ti.desc.agg then .agg ti.zero else ti.zero.getD 0 (.v (.bool false))
theorem sB{ti:CU}(h:NU P t ti)(hs:ti.desc.agg=true∨ti.size=1):∃z,(∀w,(Go.zeroValue t).run P w=.ok z w)∧∀g,RV g (zeroOf ti) z:=by
 obtain⟨⟨i,z,h1,h2,h3,h4,h5,h6,h7,h8,h9⟩,_⟩:=h;refine⟨z,fun w=>aaZ,fun g=>?_⟩;unfold zeroOf;split
 ·rename_i EO;obtain⟨cs,e⟩:=h7.1 EO;subst e;exact .agg h5 h9 (h8 g)
 rename_i EO;have Ag:ti.zero.length=1:=by
  rcases hs with q|q
  ·exact B3 q EO
  omega
 match hz:ti.zero,Ag with
 | [c],_ =>
  have Dp:z.cells.size=1:=by rw[h5,hz];rfl
  have B1:c.scalar:=h9 c qO;have hr:=h8 g 0 c (z.cells[0]) (by rw[hz];rfl) (by simp[Dp]);have Oz:=h7.2 qC;have hzc:z.cells[0]=z:=by simp[Oz]
  rw[hzc]at hr;exact hr
theorem qb6{ti:CU}(h:NU P t ti)(hs:ti.desc.agg=true∨ti.size=1):(zeroOf ti).cells=ti.zero∧ti.zero.length=ti.size∧∀c∈ti.zero,c.scalar:=by
 obtain⟨⟨i,z,h1,h2,h3,h4,h5,h6,h7,h8,h9⟩,_⟩:=h;refine⟨?_,h6,h9⟩;unfold zeroOf;split
 ·rfl
 rename_i EO;have Ag:ti.zero.length=1:=by
  rcases hs with q|q
  ·exact B3 q EO
  omega
 match hz:ti.zero,Ag with
 | [c],_ =>
  have B1:c.scalar:=h9 c qO;simp only[List.getD_cons_zero];cases c<;>first|rfl|exact B1.elim
theorem RV.qav{o:Ec}(h:RV g (.A3 sz xs o) u):RV g (.A3 sz (xs.map A2.share) o) u:=by
 cases h with
 | nil ho hn=>exact .nil ho hn
 | A3 Ag B1 C1 Bm hs f hm hr ho =>
  have key:∀(j:Nat) (c:A2),(AP (xs.map A2.share))[j]?=some c->∃c',(AP xs)[j]?=some c'∧c'.Dd=c:=fun j c hj=>by
   rw[ZP,Bv,PB]at hj;exact hj
  have hl:(xs.map A2.share).length=xs.length:=BE _;rw[<-hl]at C1 Bm ho ⊢;refine .A3 (Vx Ag) (fun x hx c hc=>?_) C1 Bm (fun AT=>hs fun e=>AT aK) f (fun j c hj=>?_) (fun j c hj=>?_) ho
  ·exact Xh (fun c hc=>by
    simp only[AP,L0]at hc;obtain⟨x,hx,hc⟩:=hc;exact B1 x hx c hc) c (by
    simp only[AP,L0];exact⟨x,hx,hc⟩)
  ·obtain⟨c',GU,_⟩:=key j c hj;exact hm j c' GU
  obtain⟨c',GU,rfl⟩:=key j c hj;exact(hr j c' GU).Dd
theorem qnm(hT:CH P AD){o:Oper}{σ:St}{t e:TypeId}{x y:Operand}{ti te:CU}{k k':IntKind}{n:Int}
  (ho:o.op=.makeSlice t x y) (hd:∀d,o.dst=some d->d<σ.n) (ht:AD t=some ti) (Ah:ti.desc=.slice e) (he:AD e=some te) (hx:σ.ev x=some (.v (.int k n))) (hy:σ.ev y=some (.v (.int k' n)))
  (h0:0<=n) (hb:te.bytes*n.toNat<=2 ^ 48) (R0:n.toNat<=2 ^ 62) (hs:0<te.size) (TQ:te.desc.agg=true∨te.size=1) :
  Cert P o σ (.A3 te.size (List.replicate n.toNat (zeroOf te).share) .ex) .pure :=
 Cert.IP hd fun base Bl a g Ax h _=>by
  have hg:=Ax.good;have ex:=(h x CM _ hx).D0.1;have ey:=(h y CM _ hy).D0.1;have hu:=GZ hT ht Ah;obtain⟨c1,c2,c3⟩:=qb6 (hT e te he) TQ;obtain⟨⟨i,z,h1,h2,h3,h4,h5,h6,h7,h8,h9⟩,_⟩:=hT e te he;obtain⟨m,rfl⟩:=cx h0;simp only[BH]at *;have Mh:(i.bytes:Int)*(m:Int)<=281474976710656:=by
   rw[h3,<-cu];omega
  have Aj:=run_make (P:=P) g.w t e i z hu h1 h4 k k' m m I (OK _) Mh I;simp only[BH]at Aj;have hca:AP (List.replicate m (zeroOf te))=(List.replicate m te.zero).flatten:=by
   rw[AP,List.flatMap_replicate,c1]
  have hlen:(List.replicate m te.zero).flatten.length=m*te.size:=dg
  have DO:∀(j:Nat) (c:A2),(List.replicate m te.zero).flatten[j]?=some c->te.zero[j % te.size]?=some c:=fun j c=>h6 ▸ au te.zero I m j c;have hle:=Le.push g hg (.cells (madeCells z.cells (m*i.size)) e);have Qf:=Pz g.w (.cells (madeCells z.cells (m*i.size)) e (0,0));have oc:RV (g.push (.cells (madeCells z.cells (m*i.size)) e)) (.A3 te.size (List.replicate m (zeroOf te)) .ex) (.slice (some ⟨g.w.heap.size,0,none⟩) m m):=by
   have key:=@RV.A3 (g.push (.cells (madeCells z.cells (m*i.size)) e)) te.size (List.replicate m (zeroOf te)) .ex ⟨g.w.heap.size,0,none⟩ m (fun x hx=>by
    rw[(List.mem_replicate.1 hx).2,c1,c2]) (fun x hx c hc=>by
    rw[(List.mem_replicate.1 hx).2,c1]at hc;exact c3 c hc) A6 (by simpa using R0) (fun _=>rfl) (fun j=>(madeCells z.cells (m*i.size)).getD j undef) (fun j c hj=>by
     rw[hca]at hj;have AF:=AE hj;rw[hlen]at AF;refine⟨?_,?_⟩
     ·show(g.w.alloc _).cell? _=_;rw[cell_of_row Qf,Db];have Ag:j<(madeCells z.cells (m*i.size)).size:=abM
      simp[HU,Ag]
     ·rintro(hf|⟨id,l,o',q1,q2,q3,q4,_⟩)
      ·have:=hg.frlt _ _ hf;simp at this
      have:=hg.loc id l o' q1 q2 q3;simp only at q4;omega) (fun j c hj=>by
     rw[hca]at hj;have CK:=DO j c hj;have AF:=AE hj;rw[hlen]at AF;have HR:j % te.size<z.cells.size:=dU
     refine h8 _ _ _ _ CK ?_;have Ag:j<(madeCells z.cells (m*i.size)).size:=abM
     have:(madeCells z.cells (m*i.size))[j]?=some (z.cells[j % te.size]'HR):=by
      simp only[madeCells,UU,h2,WH,A9 AF,FV,AM];rw[h5,h6];simp[HU,HR]
     rw[HU,this,Fp];exact UO HR) (by simp[Wr])
   simpa using key
  refine⟨.slice (some ⟨g.w.heap.size,0,none⟩) m m,g.push (.cells (madeCells z.cells (m*i.size)) e),.inl ?_,hle,Good.push hg _,rfl,by simpa using oc.qav⟩;simp[execOp,ho,ex,ey,Aj,G.push]
theorem tk{k e:TypeId}{d:TypeDesc}(hu:P.underlying t=some (.map k e))(hk:P.underlying k=some d)(hd:kt.desc d){g:G}{r clk:Nat}{arr:Array MapEntry}{es:List (Value×A2)}{z:Value}{zx:A2}
  (hh:g.w.heap[r]?=some (.map arr clk)) (hl:arr.size=es.length) (ZG:∀(i:Nat) (e:MapEntry) (kx:Value×A2),arr[i]?=some e->es[i]?=some kx->e.key=kx.1) (EU:∀p∈es,kt.ok p.1)
  (hr:∀(i:Nat) (e:MapEntry) (kx:Value×A2),arr[i]?=some e->es[i]?=some kx->RV g kx.2 e.val) {key:Value} (Bh:kt.ok key) (hz:(Go.zeroValue e).run P g.w=.ok z g.w) (hzx:RV g zx z) (ok:Bool) :
  ∃u,(Instr.lookup t (.map (some r)) key ok).run P g.w=.ok (if ok then .tuple #[u,.bool (HC es key).isSome]else u) g.w∧RV g ((HC es key).getD zx) u:=by
 obtain⟨fr,h1,h2⟩:=findNow_spec hd Bh arr.toList es 0 OL (fun j e kx a b=>ZG j e kx jF b) EU;have X7:∀b,(Instr.checkKey b 10000 k key).run P g.w=.ok () g.w:=fun b=>run_checkKey hk hd g.w b 9999;have DO:(getObj r).run P g.w=.ok (.map arr clk) g.w:=by
  simp[Go.getObj,Sem.run,hh]
 have bd:(Instr.findKey k key arr.toList).run P g.w=.ok fr g.w:=by
  simp[Instr.findKey,run_underlying hk,h1]
 rcases h2 with⟨q1,q2,_⟩|⟨j,e',x,k0,q1,q2,q3,_,q5,_⟩
 ·subst q1;refine⟨z,?_,by rw[q2];exact hzx⟩;simp only[Instr.lookup,Sem.run_bind,run_underlying hu,Result.andThen_ok,DO,Sem.run_pure,X7,bd,hz,q2];cases ok<;>rfl
 subst q1;refine⟨e'.val,?_,by rw[q5];exact hr j e' (k0,x) qn q3⟩;simp only[Instr.lookup,Sem.run_bind,run_underlying hu,Result.andThen_ok,DO,Sem.run_pure,X7,bd,q5];cases ok<;>rfl
def W9(ok:Bool)(x:Option A2)(z:A2):A2:=if ok then .Ab [x.getD z,.v (.bool x.isSome)]else x.getD z
theorem pD{ok:Bool}{x:Option A2}{z:A2}(h:RV g (x.getD z) u):RV g (W9 ok x z) (if ok then .tuple #[u,.bool x.isSome]else u):=by
 cases ok
 ·exact h
 refine .Ab rfl (fun i c v h1 h2=>?_)
 match i,h1,h2 with
 | 0,h1,h2 =>
  simp at h1 h2;subst h1;subst h2;exact h
 | 1,h1,h2 =>
  simp at h1 h2;subst h1;subst h2;exact .v trivial
theorem Eg(hT:CH P AD){o:Oper}{σ:St}{t k e:TypeId}{x y:Operand}{ok:Bool}{ti te:CU}{kt:KT}{es:List (Value×A2)}{key:Value}{d:TypeDesc}
  (ho:o.op=.lookup t x y ok) (hd:∀d,o.dst=some d->d<σ.n) (ht:AD t=some ti) (Ah:ti.desc=.map k e) (hk:P.underlying k=some d) (Ij:kt.desc d) (he:AD e=some te) (Ag:te.desc.agg=true∨te.size=1)
  (hx:σ.ev x=some (.im kt es)) (hy:σ.ev y=some (.v key)) (Bh:kt.ok key):Cert P o σ (W9 ok (HC es key) (zeroOf te)) .pure :=
 Cert.EL .pure (.inl rfl) hd fun a g _ h _=>by
  obtain⟨r,clk,arr,ex,hh,hl,ZG,EU,hr⟩:=(h x CM _ hx).qky;have ey:=(h y CM _ hy).D0.1;obtain⟨z,hz,Nj⟩:=sB (hT e te he) Ag;obtain⟨u,h1,h2⟩:=tk (Zl hT ht Ah) hk Ij hh hl ZG EU hr Bh (hz g.w) (Nj g) ok;exact⟨_,ph,pD h2⟩
theorem AL(hT:CH P AD){o:Oper}{σ:St}{t k e:TypeId}{x y:Operand}{ok:Bool}{ti te:CU}{kt:KT}{es:List (Value×A2)}{id:Nat}{key:Value}{d:TypeDesc}
  (ho:o.op=.lookup t x y ok) (hd:∀d,o.dst=some d->d<σ.n) (ht:AD t=some ti) (Ah:ti.desc=.map k e) (hk:P.underlying k=some d) (Ij:kt.desc d) (he:AD e=some te) (Ag:te.desc.agg=true∨te.size=1)
  (hx:σ.ev x=some (.mm id)) (Ex:σ.objs[id]?=some (.map kt es)) (hy:σ.ev y=some (.v key)) (Bh:kt.ok key):Cert P o σ (W9 ok (HC es key) (zeroOf te)) (.rd id) :=
 Cert.ga hd fun a g hg h hO=>by
  obtain⟨l,o1,Gw,h1,_,ex⟩:=(h x CM _ hx).mv;have ey:=(h y CM _ hy).D0.1;obtain⟨l',ob,e1,_,hh0,KQ⟩:=hg.map id kt es Rf;obtain⟨arr,clk,e2,hl,EU,hr,_⟩:=KQ.map (KT.iF Ij);subst e2;have hh:=hh0;rw[Gw]at e1;simp only[AM]at e1;subst e1;obtain⟨z,hz,Nj⟩:=sB (hT e te he) Ag;obtain⟨u,h1,h2⟩:=tk (Zl hT ht Ah) hk Ij hh hl (fun i e kx a b=>(hr i e kx a b).1) EU (fun i e kx a b=>(hr i e kx a b).2.2) Bh (hz g.w) (Nj g) ok;exact⟨_,ph,pD h2⟩
theorem qnl(hT:CH P AD){o:Oper}{σ:St}{t k e:TypeId}{x y:Operand}{ok:Bool}{ti te:CU}{kt:KT}{key:Value}{d:TypeDesc}
  (ho:o.op=.lookup t x y ok) (hd:∀d,o.dst=some d->d<σ.n) (ht:AD t=some ti) (Ah:ti.desc=.map k e) (hk:P.underlying k=some d) (Ij:kt.desc d) (he:AD e=some te) (Ag:te.desc.agg=true∨te.size=1)
  (hx:σ.ev x=some (.v (.map none))) (hy:σ.ev y=some (.v key)):Cert P o σ (W9 ok none (zeroOf te)) .pure :=
 Cert.EL .pure (.inl rfl) hd fun a g _ h _=>by
  have ex:=(h x CM _ hx).D0.1;have ey:=(h y CM _ hy).D0.1;obtain⟨z,hz,Nj⟩:=sB (hT e te he) Ag;have X7:∀b,(Instr.checkKey b 10000 k key).run P g.w=.ok () g.w:=fun b=>run_checkKey hk Ij g.w b 9999;have h1:(Instr.lookup t (.map none) key ok).run P g.w=.ok (if ok then .tuple #[z,.bool (none:Option A2).isSome]else z) g.w:=by
   simp only[Instr.lookup,Sem.run_bind,run_underlying (Zl hT ht Ah),Result.andThen_ok,Sem.run_pure,X7,Instr.findKey,run_underlying hk,Instr.findNow,hz g.w];cases ok<;>rfl
  exact⟨_,ph,pD (Nj g)⟩
theorem qfa{a b:Value}(ha:kt.ok a)(hb:kt.ok b)(h:P8 a b=true):a=b:=by
 cases kt with
 | iter c=>exact ha.elim
 | str =>
  cases a<;>simp only[KT.ok]at ha;cases b<;>simp only[KT.ok]at hb;simp only[P8,Cp]at h;rw[h]
 | int k =>
  cases a<;>simp only[KT.ok]at ha;cases b<;>simp only[KT.ok]at hb;simp only[P8,Cp]at h;rw[h,ha,hb]
theorem sameBits_self{a:Value}(ha:kt.ok a)(n:Nat):Instr.sameBits n a a=true:=by
 cases kt with
 | iter c=>exact ha.elim
 | str =>
  cases a<;>simp only[KT.ok]at ha;cases n<;>simp[Instr.sameBits,bytes_beq]
 | int k =>
  cases a<;>simp only[KT.ok]at ha;cases n<;>simp[Instr.sameBits]
theorem qjC{key:Value}(h:∀p∈es,kt.ok p.1)(hk:kt.ok key):∀p∈Fa es key y,kt.ok p.1:=by
 induction es with
 | nil=>simp[Fa,hk]
 | cons q r ih =>
  obtain⟨k,x⟩:=q;simp only[Fa];split
  ·intro p hp;rcases List.mem_cons.1 hp with e|e
   ·subst e;exact hk
   exact h p da
  intro p hp;rcases List.mem_cons.1 hp with e|e
  ·subst e;exact h _ A6
  exact ih (fun p hp=>h p de) p e
theorem P6.push{arr:Array MapEntry}{clk:Nat}(h:P6 arr clk){x:MapEntry}(hx:x.born=clk):P6 (arr.push x) (clk+1):=by
 have key:∀(i:Nat) (e:MapEntry),(arr.push x)[i]?=some e->(i<arr.size∧arr[i]?=some e)∨(i=arr.size∧e=x):=fun i e hi=>by
  rw[dB]at hi;split at hi
  ·rename_i q;simp only[AM]at hi;exact .inr ⟨q,hi.symm⟩
  exact .inl ⟨Gq hi,hi⟩
 refine⟨fun i j e e' F4 hi hj=>?_,fun i e hi=>?_⟩
 ·rcases key j e' hj with⟨q1,q2⟩|⟨q1,q2⟩
  ·rcases key i e hi with⟨r1,r2⟩|⟨r1,r2⟩
   ·exact h.1 i j e e' F4 r2 q2
   omega
  rcases key i e hi with⟨r1,r2⟩|⟨r1,r2⟩
  ·rw[q2,hx];exact h.2 i e r2
  omega
 rcases key i e hi with⟨q1,q2⟩|⟨q1,q2⟩
 ·have:=h.2 i e q2;omega
 rw[q2,hx];omega
theorem P6.modify{arr:Array MapEntry}{clk:Nat}(h:P6 arr clk)(j:Nat){f:MapEntry->MapEntry}(hf:∀e,(f e).born=e.born):P6 (arr.modify j f) clk:=by
 have key:∀(i:Nat) (e:MapEntry),(arr.modify j f)[i]?=some e->∃e0,arr[i]?=some e0∧e.born=e0.born:=fun i e hi=>by
  rw[dA]at hi;split at hi
  ·cases h0:arr[i]? with
   | none=>rw[h0]at hi;cases hi
   | some e0 =>
    rw[h0,FV,AM]at hi;exact⟨e0,rfl,by rw[<-hi,hf]⟩
  exact⟨e,hi,rfl⟩
 refine⟨fun i k e e' Tm hi hk=>?_,fun i e hi=>?_⟩
 ·obtain⟨a,a1,a2⟩:=key i e hi;obtain⟨b,b1,b2⟩:=key k e' hk;rw[a2,b2];exact h.1 i k a b Tm a1 b1
 obtain⟨a,a1,a2⟩:=key i e hi;rw[a2];exact h.2 i a a1
theorem adV(hT:CH P AD){o:Oper}{σ:St}{t k e:TypeId}{x y v:Operand}{ti:CU}{kt:KT}{es:List (Value×A2)}{id:Nat}{key:Value}{d:TypeDesc}{val:A2}
  (ho:o.op=.mapUpdate t x y v∨o.op=.insert t x y v) (IS:o.dst=none) (ht:AD t=some ti) (Ah:ti.desc=.map k e) (hk:P.underlying k=some d) (Ij:kt.desc d)
  (hx:σ.ev x=some (.mm id)) (Ex:σ.objs[id]?=some (.map kt es)) (hy:σ.ev y=some (.v key)) (Bh:kt.ok key) (hv:σ.ev v=some val) :
  Cert P o σ (.v (.bool false)) (.write (σ.objs.set id (.map kt (Fa es key val)))) :=
 Cert.IP (by simp[IS]) fun base Bl a g Ax h CO=>by
  have Xb:g.objs=σ.objs:=CO.resolve_left A6;have hg:=Ax.good;obtain⟨l,o1,Gw,h1,_,ex⟩:=(h x iv _ hx).mv;have hey:=(h y iv _ hy).D0;have ey:=hey.1;have hv':=h v iv _ hv;have Fz:g.objs[id]?=some (.map kt es):=by rw[Xb];exact Ex
  obtain⟨l',ob,e1,CA,hh,KQ⟩:=hg.map id kt es Fz;obtain⟨arr,clk,e2,hl,EU,hr,fo⟩:=KQ.map (KT.iF Ij);subst e2;rw[Gw]at e1;simp only[AM]at e1;subst e1;obtain⟨fr,f1,f2⟩:=findNow_spec Ij Bh arr.toList es 0 OL (fun j e kx a b=>(hr j e kx jF b).1) EU;have X7:∀b,(Instr.checkKey b 10000 k key).run P g.w=.ok () g.w:=fun b=>run_checkKey hk Ij g.w b 9999;have DO:(getObj l.block).run P g.w=.ok (.map arr clk) g.w:=by
   simp[Go.getObj,Sem.run,hh]
  have bd:(Instr.findKey k key arr.toList).run P g.w=.ok fr g.w:=by
   simp[Instr.findKey,run_underlying hk,f1]
  have Fk:∀o',(setObj l.block o').run P g.w=.ok () { g.w with heap:=g.w.heap.setIfInBounds l.block o' }:=fun o'=>by
   simp[Go.setObj,Sem.run,hh]
  have AF:=Gq hh;have qmj:∃BJ V8,(Instr.mapUpdate t (.map (some l.block)) key (a.eval v)).run P g.w=.ok () { g.w with heap:=g.w.heap.setIfInBounds l.block (.map BJ V8) }∧BJ.size=(Fa es key val).length ∧
    (∀(i:Nat) (e:MapEntry) (kx:Value×A2),BJ[i]?=some e->(Fa es key val)[i]?=some kx->e.key=kx.1∧Mu kx.1∧RV g kx.2 e.val)∧P6 BJ V8:=by
   rcases f2 with⟨q1,q2,q3⟩|⟨j,e',x',k0,q1,q2,q3,q4,q5,q6⟩
   ·subst q1;refine⟨arr.push { key,val:=a.eval v,born:=clk },clk+1,?_,by rw[q3];simp[hl],fun i e kx a1 a2=>?_,fo.push rfl⟩
    ·simp only[Instr.mapUpdate,Sem.run_bind,run_underlying (Zl hT ht Ah),Result.andThen_ok,DO,X7,bd,Fk]
    rw[q3]at a2;rcases Eu a2 with b|⟨b1,b2⟩
    ·have hi:=AE b;rw[dB,A4 I]at a1;exact hr i e kx a1 b
    subst b2;rw[dB,A9 I]at a1;simp only[AM]at a1;subst a1;exact⟨rfl,hey.2,hv'⟩
   subst q1;have Ln:k0=key:=qfa (EU (k0,x') (AK q3)) Bh q4;have Tz:arr[j]?=some e':=qn
   have hek:e'.key=key:=(hr j e' (k0,x') Tz q3).1.trans Ln;refine⟨arr.modify j fun e=>{ e with key,val:=a.eval v },clk,?_,by rw[q6];simp[hl],fun i e kx a1 a2=>?_,fo.modify j fun _=>rfl⟩
   ·have qm7:∀w,(Instr.keyThatStays key key).run P w=.ok key w:=fun w=>by simp[Instr.keyThatStays,sameBits_self Bh]
    simp only[Instr.mapUpdate,Sem.run_bind,run_underlying (Zl hT ht Ah),Result.andThen_ok,DO,X7,bd,Db,Tz,FV,Fp,hek,qm7,Fk]
   rw[q6]at a2;rw[dA]at a1;by_cases e:j=i
   ·subst e;rw[A9 rfl,Tz]at a1;rw[Bb (by rw[<-hl];exact Gq Tz)]at a2;simp only[FV,AM]at a1 a2;subst a1;subst a2;exact⟨rfl,hey.2,hv'⟩
   rw[A4 e]at a1;rw[Ap e]at a2;exact hr i _ kx a1 a2
  obtain⟨BJ,V8,Aj,La,oH,qkO⟩:=qmj;have bI:∀k,k≠l.block->(g.w.heap.setIfInBounds l.block (.map BJ V8))[k]?=g.w.heap[k]?:=fun k hk=>cw (fun e=>hk e.symm);have Ew:N6 g id (.map kt es) (some l) (.map kt (Fa es key val)) { g.w with heap:=g.w.heap.setIfInBounds l.block (.map BJ V8) }:={
   obj:=Fz
   os:=rfl
   tape:=rfl
   output:=rfl
   size:=A6
   block:=fun k _ hk=>bI k (fun e=>hk l Gw trivial e.symm)
   cell:=fun b off x hx _=>by
    by_cases e:b=l.block
    ·subst e;simp only[G.cell,World.cell?,hh]at hx;cases hx
    simp only[World.cell?,bI b e];exact hx
   place:=fun l1 h1 _=>by
    simp only[AM]at h1;subst h1;exact .inr ⟨l,Gw,trivial,rfl,B6 _⟩
   spare:=fun m h=>NG
   plain:=fun _=>⟨Bd,Gw⟩
   gone:=A6}
  have hle:=Le.Am hg Ew;refine⟨.bool false,g.Am id (some l) (.map kt (Fa es key val)) { g.w with heap:=g.w.heap.setIfInBounds l.block (.map BJ V8) },.inr ⟨IS,?_⟩,hle,Good.Am hg Ew ?_ ?_,by simp only[G.Am,Mode.post,Xb],.v trivial⟩
  ·rcases ho with ho|ho<;>simp only[execOp,ho,ex,ey,Sem.run_bind,Aj,Result.andThen_ok,Sem.run_pure,G.Am]
  ·refine⟨l,.map BJ V8,rfl,CA,?_,Wq.mok ⟨BJ,V8,rfl,La,qjC EU Bh,fun i e kx a b=>⟨(oH i e kx a b).1,(oH i e kx a b).2.1,(oH i e kx a b).2.2.mono hle⟩,qkO⟩ (KT.iF Ij)⟩;simp only[G.Am];rw[iJ AF]
  intro l1 h1 _;simp only[AM]at h1;subst h1;simpa using AF
def St.LB(σ:St):List Operand->Option (List A2)
 | []=>some []
 | x::r =>
  match σ.ev x,σ.LB r with
  | some y,some ys=>some (y::ys)
  | _,_=>none
theorem ep{σ:St}{a:Act}{g:G}:∀{xs:List Operand} {ys:List A2},(∀x∈xs,∀y,σ.ev x=some y->RV g y (a.eval x))->σ.LB xs=some ys->Co g ys (xs.map a.eval).toArray
 | [],ys,_,h=>by
  simp only[St.LB,AM]at h;subst h;exact⟨rfl,A6⟩
 | x::r,ys,Er,h=>by
  simp only[St.LB]at h;cases hx:σ.ev x with
  | none=>simp[hx]at h
  | some y =>
   cases hr:σ.LB r with
   | none=>simp[hx,hr]at h
   | some zs =>
    simp only[hx,hr,AM]at h;subst h;obtain⟨h1,h2⟩:=ep (g:=g) (a:=a) (fun z hz=>Er z (Dw _ hz)) hr;refine⟨JT,fun j c u a1 a2=>?_⟩;cases j with
    | zero =>
     simp at a1 a2;subst a1;subst a2;exact Er x (DQ) y hx
    | succ j=>exact h2 j c u (by simpa using a1) (by simpa using a2)
theorem qab{f:Fn}{first captured:Array Operand}(ho:o.op=.makeFunc f first captured)(hd:∀d,o.dst=some d->d<σ.n)
  (hf:σ.LB first.toList=some fs) (hc:σ.LB captured.toList=some cs):Cert P o σ (.fn f fs cs) .pure :=
 Cert.EL .pure (.inl rfl) hd fun a g _ h _=>by
  have m1:∀x∈first.toList,x∈o.op.operands:=fun x hx=>by
   rw[ho];simp only[Op.operands,ij];exact .inl (Array.mem_toList_iff.1 hx)
  have m2:∀x∈captured.toList,x∈o.op.operands:=fun x hx=>by
   rw[ho];simp only[Op.operands,ij];exact .inr (Array.mem_toList_iff.1 hx)
  have h1:=ep (g:=g) (a:=a) (fun x hx y hy=>h x (m1 x hx) y hy) hf;have h2:=ep (g:=g) (a:=a) (fun x hx y hy=>h x (m2 x hx) y hy) hc;refine⟨.func f (first.map a.eval) (captured.map a.eval),by simp[execOp,ho,Instr.makeFunc],?_⟩;have e1:first.map a.eval=(first.toList.map a.eval).toArray:=Zx jW
  have e2:captured.map a.eval=(captured.toList.map a.eval).toArray:=Zx jW;rw[e1,e2];exact .fn h1.1 h2.1 h1.2 h2.2
mutual
def A2.upto(n:Nat):A2->Prop
 | .v _=>True
 | .agg cs=>AQ n cs
 | .A3 _ xs o=>AQ n xs∧(match o with | .tok id=>id<n | _=>True)
 | .ip _ cs=>AQ n cs
 | .mp id _=>id<n
 | .ms id _ _ _=>id<n
 | .os id _ _=>id<n
 | .raw _ _ id=>id<n
 | .mm id=>id<n
 | .im _ es=>My n es
 | .fn _ fs cs=>AQ n fs∧AQ n cs
 | .Ab cs=>AQ n cs
def AQ(n:Nat):List A2->Prop
 | []=>True
 | x::r=>x.upto n∧AQ n r
def My(n:Nat):List (Value×A2)->Prop
 | []=>True
 | x::r=>y7 n x∧My n r
def y7(n:Nat):Value×A2->Prop
 | (_,x)=>x.upto n
end
theorem CF{l:List A2}:AQ n l↔∀x∈l,x.upto n:=by
 induction l with
 | nil=>simp[AQ]
 | cons x r ih=>simp[AQ,ih]
theorem Zj{l:List (Value×A2)}:My n l↔∀x∈l,x.2.upto n:=by
 induction l with
 | nil=>simp[My]
 | cons x r ih =>
  obtain⟨k,x⟩:=x;simp[My,y7,ih]
def G.De(g:G)(n:Nat):G:=⟨g.w,g.fr,g.env.take n,g.objs.take n⟩
theorem LJ{x:α}(h:(l.take n)[i]?=some x):l[i]?=some x∧i<n:=by
 rw[GC]at h;split at h
 ·rename_i hh;exact⟨h,hh⟩
 cases h
theorem Hn.De(h:Hn (g.De n) b off):Hn g b off:=by
 obtain⟨id,l,o,h1,h2,h3,h4,h5⟩:=h;exact⟨id,l,o,(LJ h1).1,(LJ h2).1,h3,h4,h5⟩
theorem HD.De(h:HD (g.De n) b off):HD g b off:=h.imp id Hn.De
theorem I1.De(h:I1 (g.De n) b):I1 g b:=by
 obtain⟨id,l,o,h1,h2,h3,h4⟩:=h;exact⟨id,l,o,(LJ h1).1,(LJ h2).1,h3,h4⟩
theorem RV.De{x:A2}(h:RV g x u)(hn:n<=g.objs.length)(hb:x.upto n):RV (g.De n) x u:=by
 have DO:∀(id:Nat),id<n->(g.De n).objs[id]?=g.objs[id]?:=fun id BN=>by
  simp only[G.De];rw[GC,A9 BN]
 have bO:∀(id:Nat),id<n->(g.De n).env[id]?=g.env[id]?:=fun id BN=>by
  simp only[G.De];rw[GC,A9 BN]
 induction h with
 | v hx=>exact .v hx
 | agg hl B1 _ ih =>
  simp only[A2.upto,CF]at hb;exact .agg hl B1 fun i c u a b=>ih i c u a b (hb c (AK a))
 | nil ho Jw =>
  simp only[A2.upto]at hb;refine .nil (fun id e=>?_) Jw;subst e;have:=hb.2;simp only[G.De,Dy];omega
 | A3 Ag B1 C1 Bm hs f hm hr ho ih =>
  rename_i sz xs o a cap;simp only[A2.upto,CF]at hb;refine .A3 Ag B1 C1 Bm hs f (fun j c hj=>⟨(hm j c hj).1,fun q=>(hm j c hj).2 q.De⟩) (fun j c hj=>ih j c hj ?_) ?_
  ·have hc:=AK hj;simp only[AP,L0]at hc;obtain⟨x,hx,hc⟩:=hc;have:=hb.1 x hx;cases x with
   | agg cs =>
    simp only[A2.upto,CF]at this;exact this c hc
   | _=>simp only[A2.cells,Fq]at hc;subst hc;exact Cd
  cases o with
  | sh=>trivial
  | nn=>trivial
  | ex=>exact ho
  | loc a=>exact ho
  | tok id =>
   have BN:=hb.2;simp only at BN;obtain⟨q1,q2⟩:=ho;refine⟨aay,fun m BX=>?_⟩;rw[DO id BN]at BX;obtain⟨r1,r2⟩:=q2 m BX;refine⟨r1,fun e=>(r2 e).imp (fun h=>h) ?_⟩;rintro⟨l,arr,t,p1,p2,p3,p4,p5⟩;exact acb
 | ip ha B1 f hm hr ih =>
  simp only[A2.upto,CF]at hb;exact .ip ha B1 f (fun j c hj=>⟨(hm j c hj).1,fun q=>(hm j c hj).2 q.De⟩) fun j c hj=>ih j c hj (hb c (AK hj))
 | mp he ho DA=>exact .mp ((bO _ hb).trans he) ((DO _ hb).trans ho) DA
 | ms he ho DA hc GU Bm=>exact .ms ((bO _ hb).trans he) ((DO _ hb).trans ho) DA hc GU Bm
 | os he ho DA hc GU Bm=>exact .os ((bO _ hb).trans he) ((DO _ hb).trans ho) DA hc GU Bm
 | raw Jw ho =>
  rename_i sz n0 id a cap;have BN:id<n:=hb;obtain⟨q1,q2⟩:=ho;refine .raw Jw ⟨aay,fun m BX=>?_⟩;rw[DO id BN]at BX;obtain⟨r1,r2⟩:=q2 m BX;refine⟨r1,fun e=>(r2 e).imp (fun h=>h) ?_⟩;rintro⟨l,arr,t,p1,p2,p3,p4,p5⟩;exact acb
 | mm he ho DA=>exact .mm ((bO _ hb).trans he) ((DO _ hb).trans ho) DA
 | im hh DA hl hk Ik R9 _ ih =>
  simp only[A2.upto,Zj]at hb;exact .im hh (fun off q=>DA off q.De) hl hk Ik R9 fun i e kx a b=>ih i e kx a b (hb kx (AK b))
 | fn hl J9 _ _ ih Nk =>
  simp only[A2.upto,CF]at hb;exact .fn hl J9 (fun i c u a b=>ih i c u a b (hb.1 c (AK a))) fun i c u a b=>Nk i c u a b (hb.2 c (AK a))
 | Ab hl _ ih =>
  simp only[A2.upto,CF]at hb;exact .Ab hl fun i c u a b=>ih i c u a b (hb c (AK a))
def A8.upto(n:Nat):A8->Prop
 | .cells cs=>AQ n cs
 | .map _ es=>My n es
 | _=>True
theorem Good.De(hg:Good g){n:Nat}(hn:n<=g.objs.length)(hb:∀o∈g.objs.take n,o.upto n):Good (g.De n) where
 frlt:=hg.frlt
 HQ:=fun id l o h1 h2 h3=>hg.HQ id l o (LJ h1).1 (LJ h2).1 h3
 len:=by simp only[G.De,Dy,hg.len]
 loc:=fun id l o h1 h2 h3=>hg.loc id l o (LJ h1).1 (LJ h2).1 h3
 apart:=fun id Da l l' o o' h1 h2 h3 h4 h5 h6 h7=>hg.apart id Da l l' o o' (LJ h1).1 (LJ h2).1 h3 (LJ h4).1 (LJ h5).1 h6 h7
 cells:=fun id cs h=>by
  obtain⟨l,arr,t,e1,e0,e2,e3,e4,e5⟩:=hg.cells id cs (LJ h).1;have hbb:=hb _ (AK h);simp only[A8.upto,CF]at hbb;exact⟨l,arr,t,aah,e0,e2,e3,fun j c u a b=>(e4 j c u a b).De hn (hbb c (AK a)),e5⟩
 spare:=fun id m l h1 h2=>hg.spare id m l (LJ h1).1 (LJ h2).1
 map:=fun id kt es h=>by
  obtain⟨l,ob,e1,e0,e2,e3⟩:=hg.map id kt es (LJ h).1;have hbb:=hb _ (AK h);simp only[A8.upto,Zj]at hbb;exact⟨l,ob,aah,e0,e2,e3.imp (fun p hp u q=>q.De hn (hbb p hp)) fun m clk arr q1 q2=>⟨q1,fun off q=>q2 off q.De⟩⟩
theorem Le.De{g0:G}(h:Le g0 g){n:Nat}(hn:g0.objs.length<=n):Le g0 (g.De n) where
 os:=h.os
 tape:=h.tape
 output:=h.output
 fr:=h.fr
 size:=h.size
 block:=fun k hk hh=>⟨(h.block k hk hh).1,fun q=>(h.block k hk hh).2 q.De⟩
 cell:=fun b off x hx hh=>⟨(h.cell b off x hx hh).1,fun q=>(h.cell b off x hx hh).2 q.De⟩
 len:=by
  have:=h.len;simp only[G.De,Dy];omega
 spare:=fun id m hm=>by
  have AF:=AE hm;have e:(g.De n).objs[id]?=g.objs[id]?:=by
   exact ae
  rw[e];exact h.spare id m hm
 plain:=fun id o ho hs=>by
  have AF:=AE ho;have e:(g.De n).objs[id]?=g.objs[id]?:=by
   exact ae
  have e':(g.De n).env[id]?=g.env[id]?:=by
   exact ae
  rw[e,e'];exact h.plain id o ho hs
 gone:=fun id ho=>by
  have AF:=AE ho;have e:(g.De n).objs[id]?=g.objs[id]?:=by
   exact ae
  rw[e];exact h.gone id ho
 tok:=fun id m hm BX=>by
  have AF:=AE hm;have e:(g.De n).objs[id]?=g.objs[id]?:=by
   exact ae
  have e':(g.De n).env[id]?=g.env[id]?:=by
   exact ae
  rw[e]at BX;rw[e'];exact h.tok id m hm BX
def Enters (P : Program) (f : FuncId) : Prop := ∃ fn, P.funcs[f]? = some fn ∧ (fn.name == "runtime.NumGoroutine") = false ∧ fn.body.isNone = false
def Aq(P:Program)(f:FuncId)(O:List A8)(args:List A2)(R:A2->List A8->Prop):Prop :=
 Enters P f∧∀(g:G) (vs:Array Value),Good g->g.objs=O->Co g args vs->Calls P f vs g.w fun e w'=>∃g' v r,e=.returned v∧g'.w=w'∧Le g g'∧Good g'∧RV g' r v∧R r g'.objs
def BR(P:Program)(f:FuncId)(args:List A2)(r:A2):Prop:=Aq P f [] args fun r' O'=>r'=r∧O'=[]
theorem Aq.mono{f:FuncId}{args:List A2}{R R':A2->List A8->Prop}(h:Aq P f O args R)(hr:∀r O',R r O'->R' r O'):Aq P f O args R' :=
 ⟨h.1,fun g vs hg ho ha=>(h.2 g vs hg ho ha).mono fun _ _ ⟨g',v,r,h1,h2,h3,h4,h5,h6⟩=>⟨g',v,r,h1,h2,h3,h4,h5,hr _ _ h6⟩⟩
def G.bare(g:G):G:=⟨g.w,HD g,[],[]⟩
theorem tZ:HD g.bare b off↔HD g b off:=by
 constructor
 ·rintro(h|⟨id,l,o,h1,_⟩)
  ·exact h
  simp[G.bare]at h1
 exact .inl
theorem RV.bare{x:A2}(h:RV g x u)(hb:x.upto 0):RV g.bare x u:=by
 induction h with
 | v hx=>exact .v hx
 | agg hl B1 _ ih =>
  simp only[A2.upto,CF]at hb;exact .agg hl B1 fun i c u a b=>ih i c u a b (hb c (AK a))
 | nil ho Jw =>
  simp only[A2.upto]at hb;refine .nil (fun id e=>?_) Jw;subst e;have:=hb.2;simp only at this;omega
 | A3 Ag B1 C1 Bm hs f hm hr ho ih =>
  rename_i sz xs o a cap;simp only[A2.upto,CF]at hb;refine .A3 Ag B1 C1 Bm hs f (fun j c hj=>⟨(hm j c hj).1,fun q=>(hm j c hj).2 (tZ.1 q)⟩) (fun j c hj=>ih j c hj ?_) ?_
  ·have hc:=AK hj;simp only[AP,L0]at hc;obtain⟨x,hx,hc⟩:=hc;have:=hb.1 x hx;cases x with
   | agg cs =>
    simp only[A2.upto,CF]at this;exact this c hc
   | _=>simp only[A2.cells,Fq]at hc;subst hc;exact Cd
  cases o with
  | sh=>trivial
  | nn=>trivial
  | ex=>exact ho
  | loc a=>exact ho
  | tok id =>
   have BN:=hb.2;simp only at BN;omega
 | ip ha B1 f hm hr ih =>
  simp only[A2.upto,CF]at hb;exact .ip ha B1 f (fun j c hj=>⟨(hm j c hj).1,fun q=>(hm j c hj).2 (tZ.1 q)⟩) fun j c hj=>ih j c hj (hb c (AK hj))
 | mp he ho DA=>simp only[A2.upto]at hb;omega
 | ms he ho DA hc GU Bm=>simp only[A2.upto]at hb;omega
 | os he ho DA hc GU Bm=>simp only[A2.upto]at hb;omega
 | raw Jw ho=>simp only[A2.upto]at hb;omega
 | mm he ho DA=>simp only[A2.upto]at hb;omega
 | im hh DA hl hk Ik R9 _ ih =>
  simp only[A2.upto,Zj]at hb;exact .im hh (fun off q=>DA off (tZ.1 q)) hl hk Ik R9 fun i e kx a b=>ih i e kx a b (hb kx (AK b))
 | fn hl J9 _ _ ih Nk =>
  simp only[A2.upto,CF]at hb;exact .fn hl J9 (fun i c u a b=>ih i c u a b (hb.1 c (AK a))) fun i c u a b=>Nk i c u a b (hb.2 c (AK a))
 | Ab hl _ ih =>
  simp only[A2.upto,CF]at hb;exact .Ab hl fun i c u a b=>ih i c u a b (hb c (AK a))
theorem Good.bare(hg:Good g):Good g.bare where
 frlt:=fun b off h=>by
  rcases h with h|⟨id,l,o,h1,h2,h3,h4,_⟩
  ·exact hg.frlt b off h
  exact h4 ▸ hg.loc id l o h1 h2 h3
 HQ:=fun id l o h1=>aC
 len:=rfl
 loc:=fun id l o h1=>aC
 apart:=fun id Da l l' o o' h1=>aC
 cells:=fun id cs h1=>aC
 spare:=fun id m l h1=>aC
 map:=fun id kt es h1=>aC
def G.back(g g':G):G:=⟨g'.w,g.fr,g.env,g.objs⟩
theorem fW(he:g.env=[]){b:Nat}:¬I1 g b:=by
 rintro⟨id,l,o,h1,_⟩;simp[he]at h1
theorem Le.back(hg:Good g)(h:Le g.bare g'):Le g (g.back g') where
 os:=h.os
 tape:=h.tape
 output:=h.output
 fr:=rfl
 size:=h.size
 block:=fun k hk hh=>⟨(h.block k hk (fW rfl)).1,hh⟩
 cell:=fun b off x hx hh=>⟨(h.cell b off x hx (fun q=>fW rfl q.block)).1,hh⟩
 len:=B6 _
 spare:=fun id m hm=>.inl ⟨m,hm,B6 _⟩
 plain:=fun id o ho hs=>⟨⟨o,ho,hs⟩,rfl⟩
 gone:=fun id ho=>ho
 tok:=fun id m hm BX=>⟨rfl,fun l hl=>(h.block _ (hg.loc id l _ hl hm trivial) (fW rfl)).1⟩
theorem Good.back(hg:Good g)(h:Le g.bare g'):Good (g.back g'):=by
 have hle:=Le.back hg h;have Ry:∀k,k<g.w.heap.size->g'.w.heap[k]?=g.w.heap[k]?:=fun k hk=>(h.block k hk (fW rfl)).1;exact {
  frlt:=fun b off hf=>L' (hg.frlt b off hf) h.size
  HQ:=hg.HQ
  len:=hg.len
  loc:=fun id l o h1 h2 h3=>L' (hg.loc id l o h1 h2 h3) h.size
  apart:=hg.apart
  cells:=fun id cs h1=>by
   obtain⟨l,arr,t,e1,e0,e2,e3,e4,e5⟩:=hg.cells id cs h1;exact⟨l,arr,t,e1,e0,(Ry _ (Gq e2)).trans e2,e3,fun j c u a b=>(e4 j c u a b).mono hle,e5⟩
  spare:=fun id m l h1 h2=>by
   obtain⟨arr,t,e⟩:=hg.spare id m l h1 h2;exact⟨arr,t,(Ry _ (Gq e)).trans e⟩
  map:=fun id kt es h1=>by
   obtain⟨l,ob,e1,e0,e2,e3⟩:=hg.map id kt es h1;exact⟨l,ob,e1,e0,(Ry _ (Gq e2)).trans e2,e3.mono hle⟩ }
theorem RV.back{x:A2}(B0:g'.fr=HD g)(Fb:g'.env=[])(Ex:g'.objs=[])(h:RV g' x u):RV (g.back g') x u:=by
 have IQ:∀b off,HD (g.back g') b off->HD g' b off:=fun b off q=>by
  refine .inl ?_;rw[B0];exact q
 induction h with
 | v hx=>exact .v hx
 | agg hl B1 _ ih=>exact .agg hl B1 ih
 | nil ho Jw =>
  refine .nil (fun id e=>?_) Jw;have:=ho id e;simp[Ex]at this
 | A3 Ag B1 C1 Bm hs f hm hr ho ih =>
  rename_i sz xs o a cap;refine .A3 Ag B1 C1 Bm hs f (fun j c hj=>⟨(hm j c hj).1,fun q=>(hm j c hj).2 (IQ _ _ q)⟩) ih ?_;cases o with
  | sh=>trivial
  | nn=>trivial
  | ex=>exact ho
  | loc a=>exact ho
  | tok id =>
   have:=ho.1;simp[Ex]at this
 | ip ha B1 f hm hr ih=>exact .ip ha B1 f (fun j c hj=>⟨(hm j c hj).1,fun q=>(hm j c hj).2 (IQ _ _ q)⟩) ih
 | mp he ho DA=>simp[Fb]at he
 | ms he ho DA hc GU Bm=>simp[Fb]at he
 | os he ho DA hc GU Bm=>simp[Fb]at he
 | raw Jw ho =>
  have:=ho.1;simp[Ex]at this
 | mm he ho DA=>simp[Fb]at he
 | im hh DA hl hk Ik R9 _ ih=>exact .im hh (fun off q=>DA off (IQ _ _ q)) hl hk Ik R9 ih
 | fn hl J9 _ _ ih Nk=>exact .fn hl J9 ih Nk
 | Ab hl _ ih=>exact .Ab hl ih
theorem BR.use{f:FuncId}{args:List A2}(h:BR P f args r)(hb:AQ 0 args)(O:List A8):Aq P f O args fun r' O'=>r'=r∧O'=O:=by
 refine⟨h.1,?_⟩;intro g vs hg ho ha;have Pe:Co g.bare args vs:=⟨ha.1,fun j c u a b=>(ha.2 j c u a b).bare (CF.1 hb c (AK a))⟩
 refine(h.2 g.bare vs hg.bare rfl Pe).mono ?_;rintro e w' ⟨g',v,r',h1,h2,h3,h4,h5,h6,h7⟩;subst h6;have Fb:g'.env=[]:=by
  have:=h4.len;rw[h7]at this;exact kC
 exact⟨g.back g',v,r',h1,h2,Le.back hg h3,Good.back hg h3,h5.back h3.fr Fb h7,rfl,ho⟩
inductive Kind where
 | pure
 | read
 | rd (id:Nat)
 | write
 | wr (n:Nat) (l:List Nat)
 | new (id:Nat)
 deriving DecidableEq
def Eff(k:Kind)(F:List A8->List A8):Prop :=
 match k with
 | .write=>∀O O',F O=F O'
 | .wr _ _=>∀O O',F O=F O'
 | .new id=>∃o,∀O,F O=O.set id o
 | _=>∀O,F O=O
def Mode.kind:Mode->Kind
 | .pure=>.pure
 | .read=>.read
 | .rd id=>.rd id
 | .write _=>.write
 | .wr n l _=>.wr n l
 | .new id _=>.new id
def V'(n:Nat)(d:Option Nat)(l:List (Nat×A2)):List (Nat×A2) :=
 match d with
 | some d=>if d<n then GY d (.Ab []) l else Nn d l
 | none=>l
structure GQ(σ τ:St):Prop where
 n:σ.n=τ.n
 objs:σ.objs=τ.objs
 get:∀s,σ.get s=τ.get s
theorem GQ.refl(σ:St):GQ σ σ:=⟨rfl,rfl,fun _=>rfl⟩
variable {τ:St}
theorem GQ.symm(h:GQ σ τ):GQ τ σ:=⟨h.n.symm,h.objs.symm,fun s=>(h.get s).symm⟩
theorem GQ.trans{ρ:St}(h:GQ σ τ)(k:GQ τ ρ):GQ σ ρ:=⟨h.n.trans k.n,h.objs.trans k.objs,fun s=>(h.get s).trans (k.get s)⟩
theorem GQ.ev(h:GQ σ τ)(x:Operand):σ.ev x=τ.ev x:=by
 cases x with
 | tmp t=>exact h.get t
 | _=>rfl
theorem GQ.rel(h:GQ σ τ){base:G}{a:Act}{g:G}(k:Rel base σ a g):Rel base τ a g where
 le:=k.le
 good:=k.good
 objs:=k.objs.trans h.objs
 size:=k.size.trans h.n
 defers:=k.defers
 slot:=fun s x hx=>k.slot s x ((h.get s).trans hx)
def St.put(σ:St)(d:Option Nat)(r:A2)(O:List A8):St:=⟨σ.n,MR d r σ.BG,O⟩
def St.skip(σ:St)(d:Option Nat):St:=⟨σ.n,V' σ.n d σ.BG,σ.objs⟩
theorem bA(σ:St)(d:Option Nat)(r:A2)(O:List A8)(s:Nat):(σ.put d r O).get s=if d=some s then some r else σ.get s:=by
 cases d with
 | none=>simp[St.put,St.get,MR]
 | some d =>
  simp only[St.put,St.get,MR,RL];by_cases e:d=s
  ·simp[e]
  simp[e]
theorem Zk(σ:St)(d:Option Nat)(s:Nat):(σ.skip d).get s=if d=some s then(if s<σ.n then some (.Ab [])else none)else σ.get s:=by
 cases d with
 | none=>simp[St.skip,St.get,V']
 | some d =>
  simp only[St.skip,St.get,V'];by_cases e:d=s
  ·subst e;by_cases h:d<σ.n
   ·simp[h,RL]
   simp[h,ov]
  by_cases h:d<σ.n
  ·simp[e,h,RL]
  simp[e,h,gl e]
theorem Rel.skip{a:Act}(h:Rel base σ a g)(d:Nat):Rel base (σ.skip (some d)) (a.put (some d) undef) g:=by
 by_cases hd:d<σ.n
 ·have:=h.put (Le.refl g) h.good hd (r:=.Ab []) (u:=undef) (.Ab rfl A6);rw[show σ.skip (some d)=⟨σ.n,GY d (.Ab []) σ.BG,g.objs⟩ by simp[St.skip,V',hd,h.objs]];exact Cd
 have:=h.forget d undef;rw[show σ.skip (some d)=⟨σ.n,Nn d σ.BG,σ.objs⟩ by simp[St.skip,V',hd]];exact Cd
theorem GQ.put(h:GQ σ τ)(d:Option Nat)(r:A2)(O:List A8):GQ (σ.put d r O) (τ.put d r O) :=
 ⟨h.n,rfl,fun s=>by rw[bA,bA,h.get]⟩
theorem GQ.skip(h:GQ σ τ)(d:Option Nat):GQ (σ.skip d) (τ.skip d) :=
 ⟨h.n,h.objs,fun s=>by rw[Zk,Zk,h.get,h.n]⟩
def JF(ops:Array Oper)(o:Oper)(σ:St):Option Bool :=
 match o.guard with
 | none=>some true
 | some (j,want) =>
  match (ops[j]?).bind (·.dst)with
  | some t =>
   match σ.get t with
   | some (.v (.bool b))=>some (b == want)
   | some (.Ab [])=>some false
   | _=>none
  | none=>none
theorem cL{ops:Array Oper}{a:Act}{b:Bool}(h:Rel base σ a g)(hw:JF ops o σ=some b):Region.wanted o (yielded ops a.tmps)=b:=by
 unfold JF at hw;unfold Region.wanted;cases hg:o.guard with
 | none =>
  simp only[hg,AM]at hw;exact hw
 | some p =>
  obtain⟨j,want⟩:=p;simp only[hg]at hw;cases ht:(ops[j]?).bind (·.dst)with
  | none=>simp[ht]at hw
  | some t =>
   simp only[ht]at hw;split at hw
   ·rename_i c hc;simp only[AM]at hw;obtain⟨u,h1,h2⟩:=h.slot t _ hc;have:=h2.D0.1;subst this;have hy:yielded ops a.tmps j=some c:=by
     unfold yielded;simp[ht,h1]
    simp only[hy];rw[<-hw];cases c<;>cases want<;>rfl
   ·rename_i hc;simp only[AM]at hw;obtain⟨u,h1,h2⟩:=h.slot t _ hc;cases h2 with
    | Ab hl _ =>
     rename_i vs;have hy:yielded ops a.tmps j=none:=by
      unfold yielded;simp[ht,h1]
     simp only[hy];rw[<-hw];rfl
   cases hw
theorem oy{ops:Array Oper}(h:∀j want t,o.guard=some (j,want)->(ops[j]?).bind (·.dst)=some t->σ.get t=τ.get t):JF ops o σ=JF ops o τ:=by
 unfold JF;cases hg:o.guard with
 | none=>rfl
 | some p =>
  obtain⟨j,want⟩:=p;simp only;cases ht:(ops[j]?).bind (·.dst)with
  | none=>rfl
  | some t =>
   simp only;rw[h j want t hg ht]
theorem Cert.congr(h:Cert P o σ r m)(hn:σ.n=τ.n)(Hd:∀x∈o.op.operands,σ.ev x=τ.ev x)(ho:m.agree τ.objs σ.objs):Cert P o τ r m:=by
 refine⟨?_,?_⟩
 ·have:=h.1;cases m with
  | wr n l O' =>
   intro i hi hl;rw[this i hi hl,show τ.objs=σ.objs from ho]
  | _=>trivial
 intro base ρ a g Ax h1 h2 h3;refine h.2 base ρ a g Ax (h1.trans hn.symm) (fun x hx y hy=>h2 x hx y ((Hd x hx).symm.trans hy)) ?_;cases m with
 | pure=>trivial
 | rd id=>exact Eq.trans h3 ho
 | new id _=>exact Eq.trans h3 ho
 | _=>exact Eq.trans h3 ho
def Su(P:Program)(ops:Array Oper)(i:Nat)(k:Kind)(σ Bl:St):Prop :=
 ∃o,ops[i]?=some o ∧
  ((JF ops o σ=some true∧∃r m,Cert P o σ r m∧m.kind=k∧Bl=σ.put o.dst r (m.post σ.objs)) ∨
   (JF ops o σ=some false∧k=.pure∧Bl=σ.skip o.dst))
def Gy(P:Program)(ops:Array Oper):List (Nat×Kind)->St->St->Prop
 | [],σ,τ=>GQ σ τ
 | (i,k)::r,σ,τ=>∃Bl,Su P ops i k σ Bl∧Gy P ops r Bl τ
variable {k:Kind}
theorem Su.same{ops:Array Oper}{Bl:St}(h:Su P ops i k σ Bl)(hs:GQ σ τ):∃RD,Su P ops i k τ RD∧GQ Bl RD:=by
 obtain⟨o,ho,h⟩:=h;rcases h with⟨h1,r,m,h2,h3,h4⟩|⟨h1,h2,h3⟩
 ·refine⟨τ.put o.dst r (m.post τ.objs),⟨o,ho,.inl ⟨?_,r,m,h2.congr hs.n (fun x _=>hs.ev x) (Mode.kr (.inr hs.objs.symm)),h3,rfl⟩⟩,?_⟩
  ·rw[<-h1];exact oy fun _ _ t _ _=>(hs.get t).symm
  subst h4;rw[hs.objs];exact hs.put _ _ _
 refine⟨τ.skip o.dst,⟨o,ho,.inr ⟨?_,h2,rfl⟩⟩,?_⟩
 ·rw[<-h1];exact oy fun _ _ t _ _=>(hs.get t).symm
 subst h3;exact hs.skip _
theorem Gy.same{ops:Array Oper}:∀{l:List (Nat×Kind)} {σ τ ρ:St},Gy P ops l σ ρ->GQ σ τ->Gy P ops l τ ρ
 | [],_,_,_,h,hs=>hs.symm.trans h
 | (i,k)::r,σ,τ,ρ,h,hs=>by
  obtain⟨Bl,h1,h2⟩:=h;obtain⟨RD,h3,h4⟩:=h1.same hs;exact⟨RD,h3,h2.same h4⟩
def Hz(k k':Kind):Bool :=
 match k,k' with
 | .pure,_=>true
 | _,.pure=>true
 | .read,.read=>true
 | .rd _,.read=>true
 | .read,.rd _=>true
 | .rd _,.rd _=>true
 | .rd id,.wr n l=>decide (id<n)&&!l.contains id
 | .wr n l,.rd id=>decide (id<n)&&!l.contains id
 | .new i,.new j=>!decide (i=j)
 | .new i,.rd j=>!decide (i=j)
 | .rd i,.new j=>!decide (i=j)
 | _,_=>false
def Kind.agree(k:Kind)(O O0:List A8):Prop :=
 match k with
 | .pure=>True
 | .rd id=>O[id]?=O0[id]?
 | .new id=>O[id]?=O0[id]?
 | _=>O=O0
theorem Mode.qcu{O0:List A8}(h:m.kind.agree O O0):m.agree O O0:=by
 cases m<;>exact h
theorem qaj{ops:Array Oper}{t:Nat}(h:(.tmp t:Operand)∈o.op.operands):t∈o.looksAt ops :=
 UQ _ (List.mem_filterMap.2 ⟨.tmp t,Array.mem_toList_iff.2 h,rfl⟩)
theorem qc2{ops:Array Oper}{want:Bool}{t:Nat}(h:o.guard=some (j,want))(ht:(ops[j]?).bind (·.dst)=some t):t∈o.looksAt ops:=by
 refine YB _ ?_;simp[h,ht]
structure qkR(P:Program)(ops:Array Oper)(o:Oper)(k:Kind)(F:List A8->List A8)(σ Bl:St):Prop where
 n:Bl.n=σ.n
 get:∀s,o.dst≠some s->Bl.get s=σ.get s
 eff:Eff k F
 objs:Bl.objs=F σ.objs
 Iu:∀n l,k=.wr n l->∀i,i<n->i ∉ l->(F σ.objs)[i]?=σ.objs[i]?
 move:∀τ:St,τ.n=σ.n->(∀t∈o.looksAt ops,τ.get t=σ.get t)->k.agree τ.objs σ.objs ->
  ∃RD,(JF ops o τ=some true∧(∃r m,Cert P o τ r m∧m.kind=k∧RD=τ.put o.dst r (m.post τ.objs))∨JF ops o τ=some false∧k=.pure∧RD=τ.skip o.dst) ∧
   (∀s,o.dst=some s->RD.get s=Bl.get s)∧(∀s,o.dst≠some s->RD.get s=τ.get s)∧RD.n=τ.n∧RD.objs=F τ.objs
theorem y6{ops:Array Oper}{Bl:St}
  (h:(JF ops o σ=some true∧∃r m,Cert P o σ r m∧m.kind=k∧Bl=σ.put o.dst r (m.post σ.objs))∨(JF ops o σ=some false∧k=.pure∧Bl=σ.skip o.dst)):∃F,qkR P ops o k F σ Bl:=by
 have Hd:∀τ:St,(∀t∈o.looksAt ops,τ.get t=σ.get t)->∀x∈o.op.operands,σ.ev x=τ.ev x:=fun τ ht x hx=>by
  cases x with
  | tmp t=>exact(ht t (qaj hx)).symm
  | _=>rfl
 have yJ:∀τ:St,(∀t∈o.looksAt ops,τ.get t=σ.get t)->JF ops o τ=JF ops o σ:=fun τ ht=>oy fun j w t hg hd=>ht t (qc2 hg hd);rcases h with⟨h1,r,m,h2,h3,h4⟩|⟨h1,h2,h3⟩
 ·subst h4;subst h3;have gP:Eff m.kind m.post:=by
   cases m with
   | new id o=>exact⟨o,fun _=>rfl⟩
   | write O=>exact fun _ _=>rfl
   | wr n l O=>exact fun _ _=>rfl
   | _=>exact fun _=>rfl
  refine⟨m.post,rfl,fun s hs=>by rw[bA,A4 hs],gP,rfl,fun n l hk i hi hl=>?_,fun τ hn ht ho=>⟨τ.put o.dst r (m.post τ.objs),.inl ⟨(yJ τ ht).trans h1,r,m,?_,rfl,rfl⟩,?_,?_,rfl,rfl⟩⟩
  ·cases m with
   | wr n' l' O' =>
    simp only[Mode.kind,Kind.wr.injEq]at hk;obtain⟨rfl,rfl⟩:=hk;exact h2.1 i hi hl
   | _=>simp[Mode.kind]at hk
  ·exact h2.congr hn.symm (Hd τ ht) (Mode.qcu ho)
  ·intro s hs;rw[bA,bA,A9 hs,A9 hs]
  intro s hs;rw[bA,A4 hs]
 subst h3;subst h2;refine⟨id,rfl,fun s hs=>by rw[Zk,A4 hs],fun _=>rfl,rfl,fun n l hk=>(by cases hk),fun τ hn ht ho=>⟨τ.skip o.dst,.inr ⟨(yJ τ ht).trans h1,rfl,rfl⟩,?_,?_,rfl,rfl⟩⟩
 ·intro s hs;rw[Zk,Zk,A9 hs,A9 hs,hn]
 intro s hs;rw[Zk,A4 hs]
theorem qcv(h:k.agree O O'):k.agree O' O:=by
 cases k<;>first|trivial|exact Eq.symm h
variable {kj ki:Kind}
theorem uf{F:List A8->List A8}(hk:Hz kj ki=true)(hF:Eff kj F)(M9:∀n l,kj=.wr n l->∀i,i<n->i ∉ l->(F O)[i]?=O[i]?):ki.agree O (F O):=by
 cases ki with
 | pure=>trivial
 | rd id =>
  show O[id]?=(F O)[id]?;cases kj with
  | write=>simp[Hz]at hk
  | wr n l =>
   simp only[Hz,F0,Cp,OI,aaD,Kf]at hk;exact(M9 n l rfl id hk.1 hk.2).symm
  | new j =>
   obtain⟨o,hF⟩:=hF;simp only[Hz,OI,Kf]at hk;rw[hF,Ap hk]
  | _=>rw[hF O]
 | new id =>
  show O[id]?=(F O)[id]?;cases kj with
  | new j =>
   obtain⟨o,hF⟩:=hF;simp only[Hz,OI,Kf]at hk;rw[hF,Ap hk]
  | pure=>rw[hF O]
  | rd j=>rw[hF O]
  | _=>simp[Hz]at hk
 | read=>cases kj<;>first | exact(hF O).symm | simp[Hz]at hk
 | write=>cases kj<;>first | exact(hF O).symm | simp[Hz]at hk
 | wr n l=>cases kj<;>first | exact(hF O).symm | simp[Hz]at hk
theorem qcx{k':Kind}(h:Hz k k'=true):Hz k' k=true:=by
 cases k<;>cases k'<;>first|exact h|(simp only[Hz,OI,Kf]at h ⊢;exact fun e=>h e.symm)
theorem qfs{Fj Fi:List A8->List A8}(hk:Hz kj ki=true)(hj:Eff kj Fj)(hi:Eff ki Fi)(O:List A8):Fi (Fj O)=Fj (Fi O):=by
 cases kj with
 | new j =>
  obtain⟨oj,hj⟩:=hj;cases ki with
  | new i =>
   obtain⟨oi,hi⟩:=hi;simp only[Hz,OI,Kf]at hk;rw[hj,hi,hj,hi,Y7 _ _ hk]
  | pure=>rw[hi,hi]
  | rd _=>rw[hi,hi]
  | _=>simp[Hz]at hk
 | pure=>rw[hj,hj]
 | read=>rw[hj,hj]
 | rd _=>rw[hj,hj]
 | write=>cases ki<;>first | (rw[hi,hi];done) | simp[Hz]at hk
 | wr _ _=>cases ki<;>first | (rw[hi,hi];done) | simp[Hz]at hk
theorem swap{ops:Array Oper}{oi oj:Oper}{σ1 σ2:St}(hi:ops[i]?=some oi)(hj:ops[j]?=some oj)(hap:oj.apart ops oi=true)(hk:Hz kj ki=true)
  (h1:Su P ops j kj σ σ1) (h2:Su P ops i ki σ1 σ2):∃τ1 τ2,Su P ops i ki σ τ1∧Su P ops j kj τ1 τ2∧GQ σ2 τ2:=by
 obtain⟨a1,a2,a3⟩:=Oper.apart_spec hap;obtain⟨oj',CK,h1⟩:=h1;rw[hj]at CK;simp only[AM]at CK;subst CK;obtain⟨oi',Bo,h2⟩:=h2;rw[hi]at Bo;simp only[AM]at Bo;subst Bo;obtain⟨Fj,s1⟩:=y6 h1;obtain⟨Fi,s2⟩:=y6 h2;have qlG:∀s,oj.dst=some s->oi.dst≠some s:=fun s hs e=>a2 s hs e;have Er:=uf hk s1.eff s1.Iu;rw[<-s1.objs]at Er;obtain⟨τ1,t1,t2,t3,t4,t5⟩:=s2.move σ s1.n.symm (fun t ht=>(s1.get t (fun e=>a1 t e ht)).symm) Er;obtain⟨τ2,u1,u2,u3,u4,u5⟩:=s1.move τ1 t4 (fun t ht=>t3 t (fun e=>a3 t e ht)) (by
  rw[t5];refine qcv (uf (qcx hk) s2.eff fun n l e i hi hl=>?_);subst e;have h4:=s2.Iu n l rfl i hi hl;rw[s1.objs]at h4;have hFj:∀O,Fj O=O:=by
   have he:=s1.eff;clear s1 h1 Er;cases kj with
   | pure=>exact he
   | rd _=>exact he
   | _=>simp[Hz]at hk
  rw[hFj]at h4;exact h4)
 refine⟨τ1,τ2,⟨oi,hi,t1⟩,⟨oj,hj,u1⟩,⟨?_,?_,fun s=>?_⟩⟩
 ·rw[s2.n,s1.n,u4,t4]
 ·rw[s2.objs,s1.objs,u5,t5];exact qfs hk s1.eff s2.eff _
 by_cases ei:oi.dst=some s
 ·have ej:oj.dst≠some s:=fun e=>qlG s e ei;rw[u3 s ej,t2 s ei]
 rw[s2.get s ei];by_cases ej:oj.dst=some s
 ·rw[u2 s ej]
 rw[u3 s ej,t3 s ei,s1.get s ej]
def indep(ops:Array Oper)(j i:Nat)(kj ki:Kind):Bool :=
 match ops[j]?,ops[i]? with
 | some oj,some oi=>oj.apart ops oi&&Hz kj ki
 | _,_=>false
theorem Gy.front{ops:Array Oper}{l2:List (Nat×Kind)}:∀{l1:List (Nat×Kind)} {σ ρ:St},Gy P ops (l1++(i,ki)::l2) σ ρ->(∀p∈l1,indep ops p.1 i p.2 ki=true)->Gy P ops ((i,ki)::(l1++l2)) σ ρ
 | [],_,_,h,_=>h
 | (j,kj)::l1,σ,ρ,h,gS=>by
  obtain⟨σ1,h1,h2⟩:=h;obtain⟨σ2,h3,h4⟩:=Gy.front h2 (fun p hp=>gS p de);have F4:=gS (j,kj) A6;simp only[indep]at F4;have hoi:∃oi,ops[i]?=some oi:=by
   obtain⟨oi,hoi,_⟩:=h3;exact⟨oi,hoi⟩
  have Qy:∃oj,ops[j]?=some oj:=by
   obtain⟨oj,Qy,_⟩:=h1;exact⟨oj,Qy⟩
  obtain⟨oi,hoi⟩:=hoi;obtain⟨oj,Qy⟩:=Qy;simp only[hoi,Qy,F0]at F4;obtain⟨τ1,τ2,q1,q2,q3⟩:=swap hoi Qy F4.1 F4.2 h1 h3;exact⟨τ1,q1,τ2,q2,h4.same q3⟩
def Yq(ops:Array Oper):Nat->Nat->Nat->Bool
 | 0,_,_=>false
 | n+1,j,i =>
  match ops[i]? with
  | some o=>o.after.toList.any fun e=>Region.binds .any e&&(e.on == j || Yq ops n j e.on)
  | none=>false
def xm(ops:Array Oper):Bool :=
 (List.range ops.size).all fun i =>
  match ops[i]? with
  | some o=>o.after.toList.all fun e=>!Region.binds .any e || decide (e.on<i)
  | none=>true
def We(ops:Array Oper)(ks:List Kind):Bool :=
 xm ops&&(ks.length == ops.size) &&
 (List.range ops.size).all fun i=>(List.range i).all fun j=>Yq ops ops.size j i ||indep ops j i (ks.getD j .write) (ks.getD i .write)
def m9(ops:Array Oper)(Cs:Array Bool):Prop :=
 ∀i o,ops[i]?=some o->Cs.getD i false=true->∀e∈o.after.toList,Region.binds .any e=true->Cs.getD e.on false=true
theorem adr{ops:Array Oper}{Cs:Array Bool}(hc:m9 ops Cs):∀(n j i:Nat) (o:Oper),ops[i]?=some o->(∀e∈o.after.toList,Region.binds .any e=true->Cs.getD e.on false=true)->Yq ops n j i=true->Cs.getD j false=true
 | 0,j,i,o,_,_,h=>by simp[Yq]at h
 | n+1,j,i,o,ho,Br,h=>by
  simp only[Yq,ho,dF,F0,Hq,beq_iff_eq]at h;obtain⟨e,he,hb,h⟩:=h;have hon:=Br e he hb;rcases h with h|h
  ·rw[<-h];exact hon
  cases SU:ops[e.on]? with
  | none =>
   cases n with
   | zero=>simp[Yq]at h
   | succ n=>simp[Yq,SU]at h
  | some o'=>exact adr hc n j e.on o' SU (fun e' Fu Mh=>hc e.on o' SU hon e' Fu Mh) h
theorem sf{ops:Array Oper}{Cs:Array Bool}:i∈Region.ready .any ops Cs↔i<ops.size∧Cs.getD i true=false∧∃o,ops[i]?=some o∧∀e∈o.after.toList,Region.binds .any e=true->Cs.getD e.on false=true:=by
 unfold Region.ready;rw[ct,Zv];constructor
 ·rintro⟨h1,h2⟩;rw[F0]at h2;obtain⟨h2,h3⟩:=h2;refine⟨h1,KI,?_⟩;cases ho:ops[i]? with
  | none=>simp[ho]at h3
  | some o =>
   refine⟨o,rfl,fun e he hb=>?_⟩;simp only[ho,FV,Fp]at h3;have:=Array.all_eq_true_iff_forall_mem.1 h3 e (Array.mem_toList_iff.1 he);simpa[hb]using this
 rintro⟨h1,h2,o,ho,h3⟩;refine⟨h1,?_⟩;rw[F0];refine⟨KI,?_⟩;simp only[ho,FV,Fp];refine Array.all_eq_true_iff_forall_mem.2 fun e he=>?_;by_cases hb:Region.binds .any e=true
 ·simp only[hb,Y8,Y5];exact h3 e (Array.mem_toList_iff.2 he) hb
 simp[hb]
theorem range_split(h:i<n):List.range n=List.range i++i::(List.range n).drop (i+1):=by
 apply Gg;intro j;rw[Gt];simp only[N7];by_cases h1:j<i
 ·rw[A9 h1,J3 h1,J3 I]
 rw[A4 h1];by_cases h2:j=i
 ·subst h2;simp[h]
 obtain⟨m,hm⟩:∃m,j-i=m+1:=⟨j-i-1,I⟩
 rw[hm,LY,FC];congr 1;omega
theorem qa9(h:j∈(List.range n).drop (i+1)):i<j∧j<n:=by
 obtain⟨k,hk⟩:=MF h;rw[FC]at hk;have:=AE hk;simp only[N7]at this;rw[J3 this]at hk;simp only[AM]at hk;omega
def M7(ks:List Kind)(n:Nat)(Cs:Array Bool):List (Nat×Kind) :=
 ((List.range n).filter fun i=>!Cs.getD i true).map fun i=>(i,ks.getD i .write)
theorem qdt(ks:List Kind){n:Nat}{Cs:Array Bool}(Ag:Cs.size=n){i:Nat}(hi:i<n)(hl:Cs.getD i true=false) :
  ∃l1 l2,M7 ks n Cs=l1++(i,ks.getD i .write)::l2∧M7 ks n (Cs.setIfInBounds i true)=l1++l2∧∀p∈l1,p.1<i∧Cs.getD p.1 true=false∧p.2=ks.getD p.1 .write:=by
 refine⟨((List.range i).filter fun j=>!Cs.getD j true).map fun j=>(j,ks.getD j .write),(((List.range n).drop (i+1)).filter fun j=>!Cs.getD j true).map fun j=>(j,ks.getD j .write),?_,?_,?_⟩
 ·unfold M7;rw[range_split hi];rw[UT,Dx,pU];simp only[hl,iu,L4,Bc];rw[<-range_split hi]
 ·unfold M7;rw[range_split hi];rw[UT,Dx,pU];have hii:(Cs.setIfInBounds i true).getD i true=true:=by
   simp[HU,iJ (by omega:i<Cs.size)]
  simp only[hii,Y8,JS,Gf];rw[<-range_split hi];have AT:∀j,j≠i->(Cs.setIfInBounds i true).getD j true=Cs.getD j true:=fun j hj=>by
   simp[HU,cw (fun e=>hj e.symm)]
  congr 2
  ·apply ia;intro j hj;rw[Zv]at hj;rw[AT j I]
  apply ia;intro j hj;have:=qa9 hj;rw[AT j I]
 intro p hp;rw[JQ]at hp;obtain⟨j,hj,e⟩:=hp;subst e;rw[ct,Zv]at hj;exact⟨hj.1,by simpa using hj.2,rfl⟩
theorem ud{Cs:Array Bool}(h:i<Cs.size):Cs.getD i true=Cs.getD i false:=by
 simp[HU,h]
theorem qcH{ops:Array Oper}{ks:List Kind}(hB:We ops ks=true){base:G}{ρ:St}{Q:Exit->Act->World->Prop}(hQ:∀a g,Rel base ρ a g->Q .normal a g.w) :
  ∀(fuel:Nat) (Cs:Array Bool) (σ:St) (a:Act) (g:G),Cs.size=ops.size->m9 ops Cs->(M7 ks ops.size Cs).length<=fuel->Gy P ops (M7 ks ops.size Cs) σ ρ->Rel base σ a g ->
   wpAny P .any ops Q fuel Cs a g.w:=by
 simp only[We,F0,OJ,Hq]at hB;obtain⟨⟨Ys,_⟩,gS⟩:=hB;have qkN:∀i o,ops[i]?=some o->∀e∈o.after.toList,Region.binds .any e=true->e.on<i:=by
  intro i o ho e he hb;simp only[xm,OJ]at Ys;have AF:i<ops.size:=Gq ho;have:=Ys i (List.mem_range.2 AF);simp only[ho,OJ,Hq,Cp]at this;have:=this e he;simpa[hb]using this
 have qkC:∀Cs:Array Bool,Cs.size=ops.size->Region.ready .any ops Cs=[]->M7 ks ops.size Cs=[]:=by
  intro Cs Ag hr;refine N8 fun AT=>?_;have hex:∃i,i<ops.size∧Cs.getD i true=false:=by
   cases ht:M7 ks ops.size Cs with
   | nil=>exact B3 ht AT
   | cons p r =>
    have hm:p∈M7 ks ops.size Cs:=by rw[ht];simp
    simp only[M7,JQ,ct,Zv]at hm;obtain⟨i,⟨h1,h2⟩,_⟩:=hm;exact⟨i,h1,KI⟩
  have qn5:∃i,i<ops.size∧Cs.getD i true=false∧∀j,j<i->Cs.getD j true=true:=by
   obtain⟨i,h1,h2⟩:=hex;induction i using Nat.strongRecOn with
   | _ i ih =>
    by_cases h:∃j,j<i∧Cs.getD j true=false
    ·obtain⟨j,h3,h4⟩:=h;exact ih j h3 I h4
    refine⟨i,h1,h2,fun j hj=>?_⟩;cases hc:Cs.getD j true with
    | true=>rfl
    | false=>exact B3 ⟨j,hj,hc⟩ h
  obtain⟨i,h1,h2,h3⟩:=qn5;have hi:i∈Region.ready .any ops Cs:=by
   refine sf.2 ⟨h1,h2,ops[i],UO h1,fun e he hb=>?_⟩;have AF:=qkN i _ (UO h1) e he hb;rw[<-ud I];exact h3 _ AF
  rw[hr]at hi;cases hi
 intro fuel;induction fuel with
 | zero =>
  intro Cs σ a g Ag hc hlen F5 Ax;have ht:M7 ks ops.size Cs=[]:=List.length_eq_zero_iff.1 I;rw[ht]at F5;refine⟨?_,hQ a g (GQ.rel F5 Ax)⟩;cases hr:Region.ready .any ops Cs with
  | nil=>rfl
  | cons i r =>
   have hi:i∈Region.ready .any ops Cs:=by rw[hr];simp
   obtain⟨h1,h2,_⟩:=sf.1 hi;have:(i,ks.getD i .write)∈M7 ks ops.size Cs:=by
    simp only[M7,JQ,ct,Zv];exact⟨i,⟨h1,by rw[h2];rfl⟩,rfl⟩
   rw[ht]at this;cases this
 | succ fuel ih =>
  intro Cs σ a g Ag hc hlen F5 Ax;refine⟨fun hr=>?_,fun i hi=>?_⟩
  ·have ht:=qkC Cs Ag hr;rw[ht]at F5;exact hQ a g (GQ.rel F5 Ax)
  obtain⟨h1,h2,o,ho,h3⟩:=sf.1 hi;obtain⟨l1,l2,e1,e2,e3⟩:=qdt ks Ag h1 h2;rw[e1]at F5;have qlf:=Gy.front F5 (fun p hp=>by
   obtain⟨q1,q2,q3⟩:=e3 p hp;have:=gS i (List.mem_range.2 h1) p.1 (List.mem_range.2 q1);rcases this with this|this
   ·have:=adr hc _ _ _ o ho h3 this;rw[<-ud I,q2]at this;cases this
   rw[q3];exact this)
  obtain⟨Bl,⟨o',CO,BD⟩,D3⟩:=qlf;rw[ho]at CO;simp only[AM]at CO;subst CO;rw[<-e2]at D3;have La:(Cs.setIfInBounds i true).size=ops.size:=by simpa using Ag
  have GU:m9 ops (Cs.setIfInBounds i true):=by
   intro j oj Qy Hb e he hb;have bg:∀k,Cs.getD k false=true->(Cs.setIfInBounds i true).getD k false=true:=fun k hk=>getD_set_true hk;by_cases hji:j=i
   ·subst hji;rw[ho]at Qy;simp only[AM]at Qy;subst Qy;exact bg _ (h3 e he hb)
   rw[getD_set_ne false (fun e=>hji e.symm)]at Hb;exact bg _ (hc j oj Qy Hb e he hb)
  have Kt:(M7 ks ops.size (Cs.setIfInBounds i true)).length<=fuel:=by
   rw[e1]at hlen;rw[e2];simp only[Bf,CE]at hlen ⊢;omega
  unfold wpOp;simp only[ho];rcases BD with⟨hw,r,m,bY,hk,RC⟩|⟨hw,_,RC⟩
  ·rw[A9 (cL Ax hw)];refine .inl (bY.2 base σ a g Ax rfl (fun x _ y hy=>hy) (Mode.kr (.inr rfl)) _ _ fun u g' TB=>?_);subst RC;exact ih _ _ _ _ La GU Kt D3 TB
  rw[A4 qJ];subst RC;refine ih _ _ _ g La GU Kt D3 ?_;cases IS:o.dst with
  | none=>exact Ax
  | some d=>exact Ax.skip d
theorem zl(hm:P.follows .mixedOrders=true){ops:Array Oper}{ks:List Kind}(hB:We ops ks=true){id:Nat}{base:G}{σ ρ:St}{a:Act}{g:G}{Q:Exit->Act->World->Prop}
  (F5:Gy P ops ((List.range ops.size).map fun i=>(i,ks.getD i .write)) σ ρ) (Ax:Rel base σ a g) (hQ:∀a g,Rel base ρ a g->Q .normal a g.w):(Code.region id ops true).wp P Q a g.w:=by
 refine wp_region_any hm ?_;have yI:M7 ks ops.size (Array.replicate ops.size false)=(List.range ops.size).map fun i=>(i,ks.getD i .write):=by
  unfold M7;congr 1;rw[List.filter_eq_self];intro i hi;rw[Zv]at hi;simp[HU,hi]
 have hg':=Ax.good.heap (w':={ g.w with drawn:=g.w.drawn+1 }) rfl rfl rfl rfl;have qn0:=Le.heap (g:=g) (w':={ g.w with drawn:=g.w.drawn+1 }) rfl rfl rfl rfl;have TB:=Ax.step qn0 hg';have FZ:(⟨σ.n,σ.BG,g.objs⟩:St)=σ:=by rw[Ax.objs]
 rw[FZ]at TB;refine qcH hB hQ ops.size (Array.replicate ops.size false) σ a _ A6 ?_ ?_ (by rw[yI];exact F5) TB
 ·intro i o ho hl;have AF:i<ops.size:=Gq ho;simp[HU,AF]at hl
 rw[yI];simp
theorem sA{P:Program}{ops:Array Oper}{base:G}{ρ:St}{Q:Exit->Act->World->Prop}(hQ:∀a g,Rel base ρ a g->Q .normal a g.w) :
  ∀(l:List (Nat×Kind)) (σ:St) (a:Act) (g:G),Gy P ops l σ ρ->Rel base σ a g->wpOps P ops Q (l.map (·.1)) a g.w
 | [],σ,a,g,F5,Ax=>hQ a g (GQ.rel F5 Ax)
 | (i,k)::r,σ,a,g,F5,Ax=>by
  obtain⟨Bl,⟨o,ho,BD⟩,D3⟩:=F5;simp only[Bc,wpOps,ho];rcases BD with⟨hw,r',m,bY,hk,RC⟩|⟨hw,_,RC⟩
  ·rw[A9 (cL Ax hw)];refine .inl (bY.2 base σ a g Ax rfl (fun x _ y hy=>hy) (Mode.kr (.inr rfl)) _ _ fun u g' TB=>?_);subst RC;exact sA hQ r _ _ _ D3 TB
  rw[A4 qJ];subst RC;refine sA hQ r _ _ g D3 ?_;cases IS:o.dst with
  | none=>exact Ax
  | some d=>exact Ax.skip d
theorem oz{ops:Array Oper}{ks:List Kind}{ρ:St}{a:Act}{Q:Exit->Act->World->Prop}
  (F5:Gy P ops ((List.range ops.size).map fun i=>(i,ks.getD i .write)) σ ρ) (Ax:Rel base σ a g) (hQ:∀a g,Rel base ρ a g->Q .normal a g.w):(Code.region id ops false).wp P Q a g.w:=by
 refine wp_region ?_;have:=sA (Q:=Q) hQ _ σ a g F5 Ax;rw[HV]at this;rw[show((List.range ops.size).map ((fun x:Nat×Kind=>x.1) ∘ fun i=>(i,ks.getD i .write)))=List.range ops.size by
  conv=>rhs;rw[<-List.map_id (List.range ops.size)]
  rfl]at this
 exact Cd
inductive E7 where
 | norm
 | ret
 | exit (id:Nat)
def nu(base:G)(Q:E7->St->Prop):Exit->Act->World->Prop
 | .normal,a,w=>∃g σ,g.w=w∧Rel base σ a g∧Q .norm σ
 | .ret,a,w=>∃g σ,g.w=w∧Rel base σ a g∧Q .ret σ
 | .exit id,a,w=>∃g σ,g.w=w∧Rel base σ a g∧Q (.exit id) σ
 | _,_,_=>False
def AU(P:Program)(kb:Nat)(c:Code)(Q:E7->St->Prop)(σ:St):Prop :=
 ∀(base:G) (a:Act) (g:G),base.objs.length<=kb->Rel base σ a g->c.wp P (nu base Q) a g.w
variable {kb:Nat}{c:Code}{Q:E7->St->Prop}
theorem AU.mono{Q':E7->St->Prop}(h:AU P kb c Q σ)(hq:∀e σ,Q e σ->Q' e σ):AU P kb c Q' σ:=fun base a g hb hr =>
 wp_mono (h base a g hb hr) fun e a w hp=>by
  cases e with
  | normal=>obtain⟨g,σ,h1,h2,h3⟩:=hp;exact ri
  | ret=>obtain⟨g,σ,h1,h2,h3⟩:=hp;exact ri
  | exit id=>obtain⟨g,σ,h1,h2,h3⟩:=hp;exact ri
  | goto l=>exact hp
  | panic c=>exact hp
  | outgrown=>exact hp
theorem AU.weaken(h:AU P kb c Q τ)(hw:∀base a g,base.objs.length<=kb->Rel base σ a g->∃g',g'.w=g.w∧Rel base τ a g'):AU P kb c Q σ:=fun base a g hb hr=>by
 obtain⟨g',h1,h2⟩:=hw base a g hb hr;rw[<-h1];exact h base a g' hb h2
def DX(P:Program)(kb:Nat)(b:Code)(Q:E7->St->Prop):E7->St->Prop
 | .norm,σ=>AU P kb b Q σ
 | e,σ=>Q e σ
theorem DW{x y:Code}(h:AU P kb x (DX P kb y Q) σ):AU P kb (.seq x y) Q σ:=fun base a g hb hr =>
 wp_seq (wp_mono (h base a g hb hr) fun e a w hp=>by
  cases e with
  | normal =>
   obtain⟨g,σ,h1,h2,h3⟩:=hp;subst h1;exact h3 base a g hb h2
  | ret=>exact hp
  | exit id=>exact hp
  | goto l=>exact hp
  | panic c=>exact hp
  | outgrown=>exact hp)
theorem Pv(h:Q .norm σ):AU P kb .skip Q σ:=fun base _ g _ hr=>wp_skip ⟨g,σ,rfl,hr,h⟩
theorem F3(h:Q .ret σ):AU P kb .ret Q σ:=fun base _ g _ hr=>wp_ret ⟨g,σ,rfl,hr,h⟩
theorem qkP(h:Q (.exit id) σ):AU P kb (.exit id) Q σ:=fun base _ g _ hr=>wp_exit ⟨g,σ,rfl,hr,h⟩
def GL(id:Nat)(Q:E7->St->Prop):E7->St->Prop
 | .exit Da,σ=>if Da=id then Q .norm σ else Q (.exit Da) σ
 | e,σ=>Q e σ
theorem Al(h:AU P kb c (GL id Q) σ):AU P kb (.block id c) Q σ:=fun base a g hb hr =>
 wp_block (wp_mono (h base a g hb hr) fun e a w hp=>by
  cases e with
  | normal=>exact hp
  | ret=>exact hp
  | exit Da =>
   obtain⟨g,σ,h1,h2,h3⟩:=hp;simp only[GL]at h3;simp only[Exit.inBlock];split
   ·rename_i e;rw[A9 e]at h3;exact⟨g,σ,h1,h2,h3⟩
   rename_i e;rw[A4 e]at h3;exact⟨g,σ,h1,h2,h3⟩
  | goto l=>exact hp
  | panic c=>exact hp
  | outgrown=>exact hp)
theorem eO{c:Operand}{x y:Code}{b:Bool}(hc:σ.ev c=some (.v (.bool b)))(ht:b=true->AU P kb x Q σ)(hf:b=false->AU P kb y Q σ):AU P kb (.cond c x y) Q σ:=fun base a g hb hr=>by
 have GU:=(hr.eval hc).D0.1;cases b
 ·exact wp_cond_false GU (hf rfl base a g hb hr)
 exact wp_cond_true GU (ht rfl base a g hb hr)
def Sub(O:List A8)(x y:A2):Prop:=∀(g:G) (u:Value),g.objs=O->RV g x u->RV g y u
theorem Sub.refl(x:A2):Sub O x x:=fun _ _ _ h=>h
theorem Sub.of_eq{x:A2}(h:x=y):Sub O x y:=h ▸ Sub.refl x
theorem Sub.sh{o:Ec}(h:xs=ys):Sub O (.A3 sz xs o) (.A3 sz ys .sh):=fun _ _ _ k=>h ▸ k.Xq
theorem Sub.nil{o:Ec}(h:xs=[])(ho:∀id,o≠.tok id)(hn:o≠.nn):Sub O (.v (.slice none 0 0)) (.A3 sz xs o):=fun g u _ k=>by
 have:=k.D0.1;subst this;subst h;exact .nil (fun id e=>B3 e (ho id)) hn
def SX(σ:St):List (Nat×A2)->Prop
 | []=>True
 | (s,y)::r=>(∃x,σ.get s=some x∧Sub σ.objs x y)∧SX σ r
theorem tO{σ:St}{base:G}{a:Act}{g:G}(hr:Rel base σ a g):∀{l:List (Nat×A2)},SX σ l->∀s y,look l s=some y->∃u,a.tmps[s]?=some u∧RV g y u
 | [],_,s,y,h=>by cases h
 | (k,z)::l,h,s,y,hl=>by
  obtain⟨⟨x,h1,h2⟩,h3⟩:=h;simp only[look]at hl;split at hl
  ·rename_i e;subst e;simp only[AM]at hl;subst hl;obtain⟨u,h4,h5⟩:=hr.slot k x h1;exact⟨u,h4,h2 g u hr.objs h5⟩
  exact tO hr h3 s y hl
structure Hy(σ τ:St):Prop where
 n:σ.n=τ.n
 objs:σ.objs=τ.objs
 qmG:SX σ τ.BG
theorem Hy.rel(h:Hy σ τ){base:G}{a:Act}{g:G}(hr:Rel base σ a g):Rel base τ a g where
 le:=hr.le
 good:=hr.good
 objs:=hr.objs.trans h.objs
 size:=hr.size.trans h.n
 defers:=hr.defers
 slot:=fun s y hy=>tO hr h.qmG s y hy
theorem AU.cover(h:AU P kb c Q τ)(hc:Hy σ τ):AU P kb c Q σ:=fun base a g hb hr=>h base a g hb (hc.rel hr)
def Q3{ι:Type}(L:ι->St)(μ:ι->Nat)(i:ι)(Q:E7->St->Prop):E7->St->Prop
 | .norm,σ=>∃j,μ j<μ i∧Hy σ (L j)
 | e,σ=>Q e σ
theorem BZ{ι:Type}(L:ι->St)(μ:ι->Nat)(i0:ι)(h0:Hy σ (L i0))(round:∀i,AU P kb c (Q3 L μ i Q) (L i)):AU P kb (.loop c) Q σ:=by
 intro base a g hb hr b k cs;have key:∀n i a g,μ i=n->Rel base (L i) a g->∃e a' w',nu base Q e a' w'∧Arrives P (lone (b.at a (.code c::.inLoop c::k)) cs g.w) b k cs e a' w':=by
  intro n;induction n using Nat.strongRecOn with
  | _ n ih =>
   intro i a g hn hr;obtain⟨e,nv,zF,hq,ER⟩:=round i base a g hb hr b (.inLoop c::k) cs;cases e with
   | normal =>
    obtain⟨cD,fm,h1,h2,j,h3,h4⟩:=hq;subst h1;obtain⟨qlv,qlr,qmJ,qlF,qiE⟩:=ih (μ j) (hn ▸ h3) j nv cD rfl (h4.rel h2);exact⟨qlv,qlr,qmJ,qlF,.of_steps (Steps.trans ER (.one step_inLoop)) qiE⟩
   | exit id =>
    obtain⟨cD,fm,h1,h2,h3⟩:=hq;exact⟨.exit id,nv,zF,⟨cD,fm,h1,h2,h3⟩,.pass (x:=.inLoop c) rfl (fun _ _=>.inl A6) ER⟩
   | goto l=>exact hq.elim
   | ret =>
    obtain⟨cD,fm,h1,h2,h3⟩:=hq;exact⟨.ret,nv,zF,⟨cD,fm,h1,h2,h3⟩,.pass (x:=.inLoop c) rfl (fun _ _=>.inl A6) ER⟩
   | panic ch=>exact hq.elim
   | outgrown=>exact hq.elim
 obtain⟨e,a',w',hq,ER⟩:=key _ i0 a g rfl (h0.rel hr);exact⟨e,a',w',hq,.of_steps (.one step_loop) ER⟩
variable {BG:List (Nat×A2)}
theorem lW(s:Nat){sz:Nat}{xs:List A2}(hs:look BG s=some (.A3 sz xs .ex))
  (h:AU P kb c Q ⟨n,GY s (.A3 sz xs (.tok O.length)) BG,O++[.spare xs.length]⟩):AU P kb c Q ⟨n,BG,O⟩ :=
 h.weaken fun base a g hb hr=>by
  have hO:g.objs=O:=hr.objs;refine⟨g.mark (.spare xs.length),rfl,?_⟩;have hle:=Le.mark hr.good (.spare xs.length);refine { le:=hr.le.trans hle,good:=Good.mark hr.good _,objs:=jE,size:=hr.size,defers:=hr.defers,slot:=fun k x hx=>?_ };simp only[St.get,RL]at hx;split at hx
  ·rename_i e;subst e;simp only[AM]at hx;subst hx;obtain⟨u,h1,h2⟩:=hr.slot s _ hs;refine⟨u,h1,?_⟩;have h3:=h2.mono hle;cases h3 with
   | nil=>exact .nil (fun id e=>aaR) A6
   | A3 Ag B1 C1 Bm hs f hm hr ho =>
    refine .A3 Ag B1 C1 Bm hs f hm hr ⟨jE,fun m BX=>?_⟩;have:(g.mark (.spare xs.length)).objs[O.length]?=some (.spare xs.length):=by
     rw[<-hO];exact Nq
    rw[this]at BX;simp only[AM,A8.spare.injEq]at BX;exact⟨I,fun _=>.inl ho⟩
  obtain⟨u,h1,h2⟩:=hr.slot k x hx;exact⟨u,h1,h2.mono hle⟩
theorem tJ(k:Nat)(hk:k<=O.length)(Lh:kb<=k)(FH:List (Nat×A2))(hb:∀o∈O.take k,o.upto k)(hs:SX ⟨n,BG,O⟩ FH)
  (EH:∀s x,look FH s=some x->x.upto k) (h:AU P kb c Q ⟨n,FH,O.take k⟩):AU P kb c Q ⟨n,BG,O⟩:=by
 intro base a g qlR hr;have hO:g.objs=O:=hr.objs;have Mn:Rel base ⟨n,FH,O.take k⟩ a (g.De k):={
  le:=hr.le.De I
  good:=hr.good.De (by rw[hO];exact hk) (by rw[hO];exact hb)
  objs:=by simp only[G.De,hO]
  size:=hr.size
  defers:=hr.defers
  slot:=fun s x hx=>by
   obtain⟨u,h1,h2⟩:=tO hr hs s x hx;exact⟨u,h1,h2.De (by rw[hO];exact hk) (EH s x hx)⟩ }
 exact h base a (g.De k) qlR Mn
theorem vJ{args:Array Operand}{HI:Array TypeId}(ho:o.op=.call ⟨.value x,args,HI⟩){a:Act}{w:World}{f:FuncId}{us vs:Array Value}(hx:a.eval x=.func (.func f) us vs)(hf:Enters P f) :
  (execOp a.eval o).run P w=.ok (.enter f (us++args.map a.eval++vs)) w:=by
 obtain⟨fn,h1,h2,h3⟩:=hf;simp only[execOp,ho,resolve,hx,Deferred.ofValue,Sem.run_bind,Sem.run_pure,Result.andThen_ok,invoke,callFunc,run_program,h1,h2,h3];rfl
theorem Co.iA{us vs:Array Value}(h:Co g cs us)(k:Co g ds vs):Co g (cs++ds) (us++vs):=by
 have:=Co.append (us:=us.toList) (vs:=vs.toList) Aa (by simpa using k);have e:(us.toList++vs.toList).toArray=us++vs:=Zx A6;rw[<-e];exact Cd
variable {BI:List A2}
theorem sw{args:Array Operand}{HI:Array TypeId}{f:FuncId}(m:Mode)
  (ho:o.op=.call ⟨.value x,args,HI⟩) (hd:∀d,o.dst=some d->d<σ.n) (hx:σ.ev x=some (.fn (.func f) fs cs)) (ha:σ.LB args.toList=some BI) {args':List A2} (GP:∀g u,Co g (fs++BI++cs) u->Co g args' u)
  (FJ:∀O,(m=.pure∨O=σ.objs)->Aq P f O args' fun r' O'=>r'=r∧O'=m.post O) (Fb:Enters P f) (hp:m.plain:=by trivial):Cert P o σ r m:=by
 refine⟨aai,?_⟩;intro base τ a g Ax hn Er hm K Q hK;have Lu:σ.ev x=some (.fn (.func f) fs cs):=hx;have h1:=Ax.eval (Er x Gh _ hx);obtain⟨us,vs,e1,l1,l2,r1,r2⟩:=h1.xc;have h2:=ep (σ:=σ) (a:=a) (g:=g) (xs:=args.toList) (fun z hz y hy=>Ax.eval (Er z (by
  rw[ho];simp only[Op.operands,Call.operands,ij];exact .inr (Array.mem_toList_iff.1 hz)) y hy)) ha
 have Qz:Co g BI (args.map a.eval):=by
  have e:args.map a.eval=(args.toList.map a.eval).toArray:=Zx jW;rw[e];exact h2
 have Br:=GP g _ ((Co.iA (Co.iA ⟨l1,r1⟩ Qz) ⟨l2,r2⟩));have Aj:=vJ (P:=P) (w:=g.w) ho e1 Fb;unfold Oper.wp;rw[Aj,Oper.upon_enter];refine((FJ g.objs (by
  rcases m.wM hp hm with hm|hm
  ·exact .inl hm
  exact .inr (Ax.objs.trans hm))).2 g _ Ax.good rfl Br).mono ?_
 rintro e w' ⟨g',v,r',q1,q2,q3,q4,q5,q6,q7⟩;subst q1;subst q2;subst q6;refine hK v g' ?_;have e:g'.objs=m.post τ.objs:=by rw[q7,Ax.objs]
 cases IS:o.dst with
 | none =>
  have:=Ax.step q3 q4;rw[e]at this;exact Cd
 | some d =>
  have:=Ax.put q3 q4 (d:=d) j6 q5;rw[e]at this;exact Cd
theorem Co.share{u:Array Value}(h:Co g cs u):Co g (cs.map A2.share) u :=
 ⟨by simpa using h.1,fun j c v a b=>by
  rw[Bv,PB]at a;obtain⟨c',h1,h2⟩:=a;subst h2;exact(h.2 j c' v h1 b).share⟩
theorem qcf{args:Array Operand}{HI:Array TypeId}{f:FuncId}
  (ho:o.op=.call ⟨.value x,args,HI⟩) (hd:∀d,o.dst=some d->d<σ.n) (hx:σ.ev x=some (.fn (.func f) fs cs)) (ha:σ.LB args.toList=some BI)
  (FJ:BR P f ((fs++BI++cs).map A2.share) r) (AN:AQ 0 ((fs++BI++cs).map A2.share)):Cert P o σ r .pure :=
 sw .pure ho hd hx ha (args':=(fs++BI++cs).map A2.share) (fun _ _ h=>h.share) (fun O _=>FJ.use AN O) FJ.1
theorem AH{args:Array Operand}{HI:Array TypeId}{f:FuncId}
  (ho:o.op=.call ⟨.value x,args,HI⟩) (hd:∀d,o.dst=some d->d<σ.n) (hx:σ.ev x=some (.fn (.func f) fs cs)) (ha:σ.LB args.toList=some BI)
  (FJ:Aq P f σ.objs (fs++BI++cs) fun r' O1=>r'=r∧O1=O'):Cert P o σ r (.write O') :=
 sw (.write O') ho hd hx ha (args':=fs++BI++cs) (fun _ _ h=>h) (fun O hO=>by
  have:O=σ.objs:=hO.resolve_left A6;subst this;exact FJ) FJ.1
theorem qcg{args:Array Operand}{HI:Array TypeId}{f:FuncId}
  (ho:o.op=.call ⟨.value x,args,HI⟩) (hd:∀d,o.dst=some d->d<σ.n) (hx:σ.ev x=some (.fn (.func f) fs cs)) (ha:σ.LB args.toList=some BI)
  (FJ:Aq P f σ.objs (fs++BI++cs) fun r' O1=>r'=r∧O1=σ.objs):Cert P o σ r .read :=
 sw .read ho hd hx ha (args':=fs++BI++cs) (fun _ _ h=>h) (fun O hO=>by
  have:O=σ.objs:=hO.resolve_left A6;subst this;exact FJ) FJ.1
theorem kQ{o:A8}(ho:g.objs[id]?=some o)(he:g.env[id]?=some l')(hp:¬o.Hx)(hl:o.live):N6 g id o l' .gone g.w where
 obj:=ho
 os:=rfl
 tape:=rfl
 output:=rfl
 size:=B6 _
 block:=fun _ _ _=>rfl
 cell:=fun b off x hx _=>hx
 place:=fun _ _ h=>h.elim
 spare:=fun m h=>by subst h;exact B3 trivial hp
 plain:=fun _=>⟨Bd,he⟩
 gone:=fun h=>by subst h;exact hl
def G.freeze(g:G)(id:Nat)(l':Option Loc):G:=g.Am id l' .gone g.w
def Eh(O:List A8)(id:Nat)(x y:A2):Prop :=
 ∀(g:G) (u:Value) (l':Option Loc),Good g->g.objs=O->g.env[id]?=some l'->Le g (g.freeze id l')->RV g x u->RV (g.freeze id l') y u
theorem Eh.refl(x:A2):Eh O id x x:=fun _ _ _ _ _ _ hle h=>h.mono hle
theorem zb(hg:Good g){id:Nat}{l:Loc}{o:A8}(he:g.env[id]?=some (some l))(ho:g.objs[id]?=some o)(hl:o.live)(off:Nat):¬HD (g.freeze id (some l)) l.block off:=by
 have AF:=AE ho;rintro(hf|⟨Da,l',o',h1,h2,h3,h4,_⟩)
 ·exact hg.HQ id l o he ho hl off hf
 simp only[G.freeze,G.Am]at h1 h2;by_cases e:Da=id
 ·subst e;rw[Bb I]at h2;simp only[AM]at h2;subst h2;exact h3
 rw[Ap (Ne.symm e)]at h1 h2;exact e (hg.apart Da id l' l o' o h1 h2 h3 he ho hl h4)
theorem Eh.mp(BN:O[id]?=some (.cells cs))(hd:(cs.drop off).map A2.Dd=ds):Eh O id (.mp id off) (.ip none ds):=fun g u l' hg hO he hle h=>by
 obtain⟨l,o1,h1,h2,_,eu⟩:=h.RT;subst eu;rw[he]at h1;simp only[AM]at h1;subst h1;have Gz:g.objs[id]?=some (.cells cs):=YL
 obtain⟨arr,t',CA,CV,hlen,BQ,Iw,_⟩:=hg.row Gz he;subst hd;refine .ip (.inl rfl) (fun c hc=>by
  obtain⟨c',h1,h2⟩:=List.mem_map.1 hc;subst h2;exact A2.ZN (Iw c' (N9 h1))) (fun j=>arr.getD (off+j) undef) (fun j c hj=>?_) (fun j c hj=>?_)
 ·rw[Bv,PB]at hj;obtain⟨c',hj,_⟩:=hj;rw[FC]at hj;have AF:=AE hj;refine rf ?_;exact ack
 rw[Bv,PB]at hj;obtain⟨c',hj,e⟩:=hj;subst e;rw[FC]at hj;have AF:=AE hj;exact((BQ _ c' _ hj aad).mono hle).Dd
theorem Eh.ms(BN:O[id]?=some (.cells cs))(Ag:∀x∈xs,x.cells.length=sz)(hlen:xs.length=len)(hd:((cs.drop off).take (len*sz)).map A2.Dd=AP xs):Eh O id (.ms id off len cap) (.A3 sz xs .sh):=fun g u l' hg hO he hle h=>by
 obtain⟨l,o1,h1,h2,_,Lp,Bm,Dm,C1,eu⟩:=h.QD;subst eu;rw[he]at h1;simp only[AM]at h1;subst h1;have Gz:g.objs[id]?=some (.cells cs):=YL
 obtain⟨arr,t',CA,CV,DK,BQ,Iw,_⟩:=hg.row Gz he;subst hlen;have key:∀(j:Nat) (c:A2),(AP xs)[j]?=some c->∃c',cs[off+j]?=some c'∧c'.Dd=c:=fun j c hj=>by
  rw[<-hd,Bv,PB]at hj;obtain⟨c',hj,e⟩:=hj;have:=Zm hj;rw[FC]at this;exact⟨c',this,e⟩
 refine .A3 Ag (fun x hx c hc=>?_) (NC Lp C1) Bm (fun _=>rfl) (fun j=>arr.getD (off+j) undef) (fun j c hj=>?_) (fun j c hj=>?_) trivial
 ·have ED:c∈AP xs:=by
   simp only[AP,L0];exact⟨x,hx,hc⟩
  obtain⟨j,hj⟩:=MF ED;obtain⟨c',CK,e⟩:=key j c hj;subst e;exact A2.ZN (Iw c' (AK CK))
 ·obtain⟨c',CK,e⟩:=key j c hj;have AF:=AE CK;refine rf ?_;simp only;exact ack
 obtain⟨c',CK,e⟩:=key j c hj;have AF:=AE CK;subst e;exact((BQ _ c' _ CK aad).mono hle).Dd
theorem Eh.mm(BN:O[id]?=some (.map kt es))(hp:kt.plain:=by trivial):Eh O id (.mm id) (.im kt es):=fun g u l' hg hO he hle h=>by
 obtain⟨l,o1,h1,h2,_,eu⟩:=h.mv;subst eu;rw[he]at h1;simp only[AM]at h1;subst h1;have Gz:g.objs[id]?=some (.map kt es):=YL
 obtain⟨l2,ob,e1,e2,e3,KQ⟩:=hg.map id kt es Gz;obtain⟨arr,clk,e9,e4,e5,e6,R9⟩:=KQ.map hp;subst e9;rw[he]at e1;simp only[AM]at e1;subst e1;exact .im (r:=l.block) (clk:=clk) (arr:=arr) e3 (fun off=>zb hg he Gz trivial off) e4 (fun i e kx a b=>(e6 i e kx a b).1) e5 R9 (fun i e kx a b=>(e6 i e kx a b).2.2.mono hle)
theorem qd0(id:Nat){o:A8}(BN:O[id]?=some o)(hp:¬o.Hx)(O9:o.live)(FH:List (Nat×A2))
  (hs:∀s y,look FH s=some y->∃x,look BG s=some x∧Eh O id x y) (h:AU P kb c Q ⟨n,FH,O.set id .gone⟩):AU P kb c Q ⟨n,BG,O⟩ :=
 h.weaken fun base a g hb hr=>by
  have hO:g.objs=O:=hr.objs;have Gz:g.objs[id]?=some o:=YL
  have AF:=Q6 hr.good Gz;have he:g.env[id]?=some g.env[id]:=AY AF;have ht:=kQ Gz he hp O9;have hle:=Le.Am hr.good ht;refine⟨g.freeze id g.env[id],rfl,{ le:=hr.le.trans hle,good:=Good.Am hr.good ht trivial (fun _ _ h=>h.elim),objs:=abU,size:=hr.size,defers:=hr.defers,slot:=fun s y hy=>?_ }⟩;obtain⟨x,h1,h2⟩:=hs s y hy;obtain⟨u,h3,h4⟩:=hr.slot s x h1;exact⟨u,h3,h2 g u _ hr.good hO he hle h4⟩
theorem Cz(s id:Nat){o:A8}{x:A2}(y:A2)(BN:O[id]?=some o)(hp:¬o.Hx)(O9:o.live)(hx:look BG s=some x)(hf:Eh O id x y)
  (h:AU P kb c Q ⟨n,GY s y BG,O.set id .gone⟩):AU P kb c Q ⟨n,BG,O⟩ :=
 qd0 id BN hp O9 (GY s y BG) (fun k z hz=>by
  rw[RL]at hz;split at hz
  ·rename_i e;subst e;simp only[AM]at hz;subst hz;exact⟨x,hx,hf⟩
  exact⟨z,hz,.refl z⟩) h
theorem ZO(id:Nat){o:A8}(BN:O[id]?=some o)(hp:¬o.Hx)(O9:o.live)(FH:List (Nat×A2))
  (hs:∀s y,look FH s=some y->∃x,look BG s=some x∧Eh O id x y) (k:Nat) (hk:k≠id) (cs ds:List A2) (EU:O[k]?=some (.cells cs)) (hl:cs.length=ds.length) (B1:∀d∈ds,d.scalar)
  (BQ:∀(j:Nat) (c d:A2),cs[j]?=some c->ds[j]?=some d->Eh O id c d) (h:AU P kb c Q ⟨n,FH,(O.set id .gone).set k (.cells ds)⟩):AU P kb c Q ⟨n,BG,O⟩ :=
 h.weaken fun base a g hb hr=>by
  have hO:g.objs=O:=hr.objs;have Gz:g.objs[id]?=some o:=YL
  have AF:=Q6 hr.good Gz;have he:g.env[id]?=some g.env[id]:=AY AF;have ht:=kQ Gz he hp O9;have hle:=Le.Am hr.good ht;have EA:=Good.Am hr.good ht trivial (fun _ _ h=>h.elim);obtain⟨l,arr,t,e1,e2,e3,e4,e5,e6⟩:=hr.good.cells k cs qd;have gW:(g.freeze id g.env[id]).objs[k]?=some (.cells cs):=by
   simp only[G.freeze,G.Am];rw[Ap (Ne.symm hk),hO];exact EU
  have yZ:(g.freeze id g.env[id]).env[k]?=some (some l):=by
   simp only[G.freeze,G.Am];rw[Ap (Ne.symm hk)];exact e1
  have ht2:N6 (g.freeze id g.env[id]) k (.cells cs) (some l) (.cells ds) g.w:={
   obj:=gW
   os:=rfl
   tape:=rfl
   output:=rfl
   size:=B6 _
   block:=fun _ _ _=>rfl
   cell:=fun b off x hx _=>hx
   place:=fun l1 h1 _=>by
    simp only[AM]at h1;subst h1;exact .inr ⟨l,yZ,trivial,rfl,B6 _⟩
   spare:=fun m h=>NG
   plain:=fun _=>⟨Bd,yZ⟩
   gone:=A6}
  have VN:=Le.Am EA ht2;have n6:=Good.Am EA ht2 ⟨l,arr,t,rfl,e2,e3,I,fun j d u hd hu=>by
   have AF:=AE hd;have hc:cs[j]?=some cs[j]:=AY I;exact(BQ j _ d hc hd g u _ hr.good hO he hle (e5 j _ u hc hu)).mono VN,B1,e6.2⟩ (fun l1 h1 _=>by
    simp only[AM]at h1;subst h1;exact Gq e3)
  refine⟨(g.freeze id g.env[id]).Am k (some l) (.cells ds) g.w,rfl,{ le:=(hr.le.trans hle).trans VN,good:=n6,objs:=abU,size:=hr.size,defers:=hr.defers,slot:=fun s y hy=>?_ }⟩;obtain⟨x,h1,h2⟩:=hs s y hy;obtain⟨u,h3,h4⟩:=hr.slot s x h1;exact⟨u,h3,(h2 g u _ hr.good hO he hle h4).mono VN⟩
theorem adh(s:Nat){sz:Nat}{xs:List A2}{o:Ec}(hs:look BG s=some (.A3 sz xs o))
  (h1:xs=[]->AU P kb c Q ⟨n,GY s (.v (.slice none 0 0)) BG,O⟩) (h2:AU P kb c Q ⟨n,GY s (.A3 sz xs .nn) BG,O⟩):AU P kb c Q ⟨n,BG,O⟩:=by
 intro base a g hb hr;obtain⟨u,e1,e2⟩:=hr.slot s _ hs;have key:∀y,RV g y u->Rel base ⟨n,GY s y BG,O⟩ a g:=fun y hy =>
  {le:=hr.le,good:=hr.good,objs:=hr.objs,size:=hr.size,defers:=hr.defers,slot:=fun k x hx=>by
    simp only[St.get,RL]at hx;split at hx
    ·rename_i e;subst e;simp only[AM]at hx;subst hx;exact⟨u,e1,hy⟩
    exact hr.slot k x hx }
 cases e2 with
 | nil ho hn=>exact h1 rfl base a g hb (key _ (.v trivial))
 | A3 Ag B1 C1 Bm hs f hm hr ho=>exact h2 base a g hb (key _ (.A3 Ag B1 C1 Bm hs f hm hr trivial))
theorem qnT(w:World){t e:TypeId}(a:Addr)(n c:Nat)(ht:P.underlying t=some (.slice e)) :
  (binOp .neq t (.slice (some a) n c) (.slice none 0 0)).run P w=.ok (.bool true) w:=by
 have h:∀d:Nat,(Op.equalIn (d+1) t (.slice (some a) n c) (.slice none 0 0)).run P w=.ok false w:=fun d=>by
  simp[Op.equalIn,run_underlying ht]
 exact acd
theorem qn9(w:World){t e:TypeId}(n c:Nat)(ht:P.underlying t=some (.slice e)) :
  (binOp .neq t (.slice none n c) (.slice none 0 0)).run P w=.ok (.bool false) w:=by
 have h:∀d:Nat,(Op.equalIn (d+1) t (.slice none n c) (.slice none 0 0)).run P w=.ok true w:=fun d=>by
  simp[Op.equalIn,run_underlying ht]
 exact acd
theorem qb7(w:World){op:BinOp}{t e:TypeId}{u:Value}{b r:Bool}(ht:P.underlying t=some (.slice e))(hu:(∃n c,u=.slice none n c∧b=true)∨(∃a n c,u=.slice (some a) n c∧b=false))
  (hr:(op=.eql∧r=b)∨(op=.neq∧r=!b)):(binOp op t u (.slice none 0 0)).run P w=.ok (.bool r) w:=by
 rcases hu with⟨n,c,e1,e2⟩|⟨a,n,c,e1,e2⟩<;>rcases hr with⟨e3,e4⟩|⟨e3,e4⟩<;>subst e1<;>subst e2<;>subst e3<;>subst e4
 ·exact Go.Lib.run_eql_slice_nil_nil w n c ht
 ·exact qn9 w n c ht
 ·exact Go.Lib.run_eql_slice_some_nil w a n c ht
 exact qnT w a n c ht
theorem qbc(hT:CH P AD){o:Oper}{σ:St}{t t' e:TypeId}{x:Operand}{ti:CU}{y:A2}{b r:Bool}{op:BinOp}
  (ho:o.op=.binOp op t x (.const (.slice none 0 0)) t') (hd:∀d,o.dst=some d->d<σ.n) (ht:AD t=some ti) (Ah:ti.desc=.slice e) (hx:σ.ev x=some y)
  (hy:(y=.v (.slice none 0 0)∧b=true)∨(∃sz xs,y=.A3 sz xs .nn∧b=false)∨(∃id off len cap,y=.ms id off len cap∧b=false)) (hr:(op=.eql∧r=b)∨(op=.neq∧r=!b)):Cert P o σ (.v (.bool r)) .pure :=
 Cert.EL .pure (.inl rfl) hd fun a g _ h _=>by
  have hu:=GZ hT ht Ah;have Bu:=h x CM _ hx;refine Yg ?_;have EH:(∃n c,a.eval x=.slice none n c∧b=true)∨(∃ad n c,a.eval x=.slice (some ad) n c∧b=false):=by
   rcases hy with⟨e1,e2⟩|⟨sz,xs,e1,e2⟩|⟨id,off,len,cap,e1,e2⟩
   ·subst e1;exact .inl ⟨_,_,Bu.D0.1,e2⟩
   ·subst e1;cases hv:a.eval x with
    | slice ad len cap =>
     rw[hv]at Bu;cases Bu with
     | nil ho hn=>exact B3 rfl hn
     | A3 Ag B1 C1 Bm hs f hm hr ho=>exact .inr ⟨_,_,_,rfl,e2⟩
    | _=>rw[hv]at Bu;cases Bu
   subst e1;obtain⟨l,o1,_,_,_,_,_,Dm,_,eu⟩:=Bu.QD;exact .inr ⟨_,_,_,eu,e2⟩
  have Aj:=qb7 (P:=P) g.w hu EH hr;have gH:∃ad n c,a.eval x=.slice ad n c:=by
   rcases EH with⟨_,_,e,_⟩|⟨_,_,_,e,_⟩
   ·exact⟨_,_,_,e⟩
   exact⟨_,_,_,e⟩
  obtain⟨ad,n,c,gH⟩:=gH;have hg:=U3 (P:=P) op t x (.const (.slice none 0 0)) (.slice ad n c) (.slice none 0 0) g.w A6 A6;rw[gH]at Aj;have hc:a.eval (.const (.slice none 0 0))=.slice none 0 0:=rfl;simp[execOp,ho,gH,hc,hg,Aj]
theorem qcd(hT:CH P AD){o:Oper}{σ:St}{t e:TypeId}{x:Operand}{ti:CU}{sz:Nat}{xs:List A2}
  (ho:o.op=.call ⟨.builtin .cap,#[x],#[t]⟩) (hd:∀d,o.dst=some d->d<σ.n) (ht:AD t=some ti) (Ah:ti.desc=.slice e) (hx:σ.ev x=some (.A3 sz xs .ex)):Cert P o σ (.v (.int .i64 xs.length)) .pure :=
 Cert.EL .pure (.inl rfl) hd fun a g _ h _=>by
  have hu:=GZ hT ht Ah;have Bu:=h x Gh _ hx;have Bm:=Bu.wz;have key:∃ad,a.eval x=.slice ad xs.length xs.length:=by
   rcases Bu.LP with⟨q1,q2⟩|⟨ad,cap,_,q1,_,_,_,_,_,_,_,q2⟩
   ·subst q2;exact⟨_,q1⟩
   have q3:cap=xs.length:=q2;subst q3;exact⟨_,q1⟩
  obtain⟨ad,q1⟩:=key;refine⟨.int .i64 xs.length,?_,.v ?_⟩
  ·rw[Lw ho];simp[builtin,Builtin.cap_,q1,run_underlying hu,goInt]
  exact acz
theorem ada(ho:o.op=.nilCheck x)(hd:∀d,o.dst=some d->d<σ.n)(hx:σ.ev x=some y)
  (hy:(∃id off,y=.mp id off)∨∃oa cs,y=.ip oa cs):Cert P o σ y .pure :=
 Cert.EL .pure (.inl rfl) hd fun a g _ h _=>by
  have Bu:=h x CM _ hx;have key:∃ad,a.eval x=.pointer (some ad):=by
   rcases hy with⟨id,off,e⟩|⟨oa,cs,e⟩
   ·subst e;obtain⟨l,o1,_,_,_,eu⟩:=Bu.RT;exact⟨_,eu⟩
   subst e;obtain⟨b,off,f,eu,_⟩:=Bu.Wc;exact⟨_,eu⟩
  obtain⟨ad,e⟩:=key;exact⟨a.eval x,by simp[execOp,ho,e],Bu⟩
theorem qnn(hT:CH P AD){o:Oper}{σ:St}{t e:TypeId}{x:Operand}{ti te:CU}{sz:Nat}{xs:List A2}{ow:Ec}{lo hi:Option Operand}
  (ho:o.op=.slice t x lo hi none) (hd:∀d,o.dst=some d->d<σ.n) (ht:AD t=some ti) (Ah:ti.desc=.slice e) (he:AD e=some te) (hx:σ.ev x=some (.A3 sz xs ow))
  (CA:Rs σ lo 0 0) (GI:Rs σ hi xs.length xs.length):Cert P o σ (.A3 sz xs ow) .pure :=
 Cert.EL .pure (.inl rfl) hd fun a g _ hh _=>by
  have hu:=GZ hT ht Ah;have Bu:=hh x dK _ hx;have hl:(lo=none)∨∃q k,lo=some q∧a.eval q=.int k (0:Int):=by
   rcases CA with q|⟨q,k,e1,e2⟩
   ·exact .inl q.1
   exact du hh
  have Bo:(hi=none)∨∃q k,hi=some q∧a.eval q=.int k (xs.length:Int):=by
   rcases GI with q|⟨q,k,e1,e2⟩
   ·exact .inl q.1
   exact dv hh
  have D4:execOp a.eval o=(do pure (.value (<-Instr.sliceAt t (a.eval x) (lo.map a.eval) (hi.map a.eval) none))):=by
   simp[execOp,ho]
  clear CA GI ho;have bounds:∀cap:Nat,xs.length<=cap->(Instr.sliceBounds true xs.length cap (lo.map a.eval) (hi.map a.eval) none).run P g.w=.ok (0,xs.length,cap) g.w:=by
   intro cap C1;rcases hl with e1|⟨p,k,e1,hk⟩
   ·rcases Bo with e3|⟨q,k',e3,G3⟩
    ·subst e1 e3;exact kF
    subst e1 e3;have:=run_sliceBound (P:=P) k' xs.length cap .sliceAcap g.w I I;exact Un G3
   rcases Bo with e3|⟨q,k',e3,G3⟩
   ·subst e1 e3;have:=run_sliceBound (P:=P) k 0 xs.length .sliceB g.w I I;exact Un hk
   subst e1 e3;have e1:=run_sliceBound (P:=P) k' xs.length cap .sliceAcap g.w I I;have e2:=run_sliceBound (P:=P) k 0 xs.length .sliceB g.w I I;simp[Instr.sliceBounds,hk,G3,e1,e2]
  have K9:=(hT e te he).sizeOf g.w;refine⟨a.eval x,?_,Bu⟩;rw[D4];rcases Bu.LP with⟨q1,q2⟩|⟨ad,cap,f,q1,La,B1,C1,Bm,hs,hm,hr,_⟩
  ·subst q2;have b:=bounds 0 A6;simp only[GD]at b;simp[Instr.sliceAt,run_underlying hu,Instr.slice,q1,K9,b]
  have b:=bounds cap C1;by_cases ID:cap=0
  ·subst ID;simp[Instr.sliceAt,run_underlying hu,Instr.slice,q1,K9,b,Addr.add]
  simp[Instr.sliceAt,run_underlying hu,Instr.slice,q1,K9,b,ID,Addr.add]
theorem qae(hT:CH P AD){o:Oper}{σ:St}{t e:TypeId}{x:Operand}{ti te:CU}{id off len cap:Nat}{lo hi:Option Operand}{l h:Nat}
  (ho:o.op=.slice t x lo hi none) (hd:∀d,o.dst=some d->d<σ.n) (ht:AD t=some ti) (Ah:ti.desc=.slice e) (he:AD e=some te) (hx:σ.ev x=some (.ms id off len cap))
  (CA:Rs σ lo 0 l) (GI:Rs σ hi len h) (h1:l<=h) (h2:h<=cap) (h3:l<cap) (R0:h<=2 ^ 62):Cert P o σ (.ms id (off+l*te.size) (h-l) (cap-l)) .pure :=
 Cert.EL .pure (.inl rfl) hd fun a g _ hh _=>by
  have hu:=GZ hT ht Ah;have Bu:=hh x dK _ hx;have hl:(lo=none∧l=0)∨∃q k,lo=some q∧a.eval q=.int k (l:Int):=by
   rcases CA with q|⟨q,k,e1,e2⟩
   ·exact JV
   exact du hh
  have Bo:(hi=none∧h=len)∨∃q k,hi=some q∧a.eval q=.int k (h:Int):=by
   rcases GI with q|⟨q,k,e1,e2⟩
   ·exact JV
   exact dv hh
  have D4:execOp a.eval o=(do pure (.value (<-Instr.sliceAt t (a.eval x) (lo.map a.eval) (hi.map a.eval) none))):=by
   simp[execOp,ho]
  clear CA GI ho;obtain⟨lc,o1,q1,q2,q3,Lp,Bm,Dm,C1,eu⟩:=Bu.QD;have bounds:(Instr.sliceBounds true len Dm (lo.map a.eval) (hi.map a.eval) none).run P g.w=.ok (l,h,Dm) g.w:=by
   rcases hl with⟨e1,e2⟩|⟨p,k,e1,hk⟩
   ·rcases Bo with⟨e3,e4⟩|⟨q,k',e3,G3⟩
    ·subst e1 e2 e3 e4;exact kF
    subst e1 e2 e3;have:=run_sliceBound (P:=P) k' h Dm .sliceAcap g.w I I;exact Un G3
   rcases Bo with⟨e3,e4⟩|⟨q,k',e3,G3⟩
   ·subst e1 e3 e4;have:=run_sliceBound (P:=P) k l h .sliceB g.w I I;exact Un hk
   subst e1 e3;have e1:=run_sliceBound (P:=P) k' h Dm .sliceAcap g.w I I;have e2:=run_sliceBound (P:=P) k l h .sliceB g.w I I;simp[Instr.sliceBounds,hk,G3,e1,e2]
  have K9:=(hT e te he).sizeOf g.w;refine⟨.slice (some ((⟨lc.block,off,none⟩:Addr).add (l*te.size))) (h-l) (Dm-l),?_,?_⟩
  ·rw[D4];simp[Instr.sliceAt,run_underlying hu,Instr.slice,eu,bounds,K9,show Dm≠l from I]
  exact adC
theorem qnr(hT:CH P AD){o:Oper}{σ:St}{t e:TypeId}{x:Operand}{ti te:CU}{id sz len:Nat}{lo hi:Option Operand} 
  (ho:o.op=.slice t x lo hi none) (hd:∀d,o.dst=some d->d<σ.n) (ht:AD t=some ti) (Ah:ti.desc=.slice e) (he:AD e=some te) (hx:σ.ev x=some (.raw sz len id))
  (CA:Rs σ lo 0 0) (GI:Rs σ hi len 0) (h3:0<len):Cert P o σ (.A3 sz [] (.tok id)) .pure :=
 Cert.EL .pure (.inl rfl) hd fun a g _ hh _=>by
  have hu:=GZ hT ht Ah;have Bu:=hh x dK _ hx;have hl:(lo=none∧(0:Nat)=0)∨∃q k,lo=some q∧a.eval q=.int k ((0:Nat):Int):=by
   rcases CA with q|⟨q,k,e1,e2⟩
   ·exact JV
   exact du hh
  have Bo:(hi=none∧(0:Nat)=len)∨∃q k,hi=some q∧a.eval q=.int k ((0:Nat):Int):=by
   rcases GI with q|⟨q,k,e1,e2⟩
   ·exact JV
   exact dv hh
  have D4:execOp a.eval o=(do pure (.value (<-Instr.sliceAt t (a.eval x) (lo.map a.eval) (hi.map a.eval) none))):=by
   simp[execOp,ho]
  clear CA GI ho;obtain⟨ad,Dm,eu,C1,Vn⟩:=Bu.qjF;have bounds:(Instr.sliceBounds true len Dm (lo.map a.eval) (hi.map a.eval) none).run P g.w=.ok (0,0,Dm) g.w:=by
   rcases hl with⟨e1,e2⟩|⟨p,k,e1,hk⟩
   ·rcases Bo with⟨e3,e4⟩|⟨q,k',e3,G3⟩
    ·omega
    subst e1 e3;have:=run_sliceBound (P:=P) k' 0 Dm .sliceAcap g.w I I;exact Un G3
   rcases Bo with⟨e3,e4⟩|⟨q,k',e3,G3⟩
   ·omega
   subst e1 e3;have e1:=run_sliceBound (P:=P) k' 0 Dm .sliceAcap g.w I I;have e2:=run_sliceBound (P:=P) k 0 0 .sliceB g.w I I;simp[Instr.sliceBounds,hk,G3,e1,e2]
  have K9:=(hT e te he).sizeOf g.w;refine⟨.slice (some (ad.add (0*te.size))) (0-0) (Dm-0),?_,?_⟩
  ·rw[D4];exact adL eu K9
  rw[MH,show ad.add 0=ad by cases ad;rfl];exact .A3 (xs:=[]) A6 A6 (H4 _) (H4 _) A6 (fun _=>undef) Rh Rh Vn
theorem qnh(hT:CH P AD){o:Oper}{σ:St}{t e:TypeId}{x y:Operand}{ti te:CU}{sz:Nat}{xs ys:List A2}{ow:Ec}
  (ho:o.op=.call ⟨.builtin .append,#[x,y],#[t,t]⟩) (hd:∀d,o.dst=some d->d<σ.n) (ht:AD t=some ti) (Ah:ti.desc=.slice e) (he:AD e=some te) (Ag:te.size=sz) (hx:σ.ev x=some (.A3 sz xs .ex)) (hy:σ.ev y=some (.A3 sz ys ow))
  (hn:ys.length≠0) (hlen:xs.length+ys.length<=2 ^ 62) (hb:(xs.length+ys.length)*te.bytes<=2 ^ 47) :
  Cert P o σ (.ms σ.objs.length 0 (xs.length+ys.length) (xs.length+ys.length)) (.write (σ.objs++[.cells (AP (xs++ys.map A2.share))])) :=
 Cert.IP hd fun base Bl a g Ax h CO=>by
  have hO:g.objs=σ.objs:=CO.resolve_left A6;have hg:=Ax.good;have hu:=GZ hT ht Ah;subst Ag;have Bu:=h x Gh _ hx;have H8:=h y Gh _ hy;obtain⟨L9,Iv,Dt,ex,Oh,L8,Qq,Oi,Ko,OZ⟩:=Bu.Ms (P:=P);obtain⟨XK,Wz,news,ey,JD,PN,Im,Lv,KV,IW⟩:=H8.Ms (P:=P);obtain⟨⟨i,z,h1,h2,h3,h4,h5,h6,h7,h8,h9⟩,_⟩:=hT e te he;have Rt:Iv=xs.length:=by
   rcases Bu.LP with⟨q1,q2⟩|⟨ad,cap,f,q1,_,_,_,_,_,_,_,q2⟩
   ·rw[ex]at q1;cases q2;simp at q1;simp[q1]
   rw[ex]at q1;simp only[Value.slice.injEq]at q1;exact Ye
  subst Rt;have D4:=Lw (P:=P) ho a g.w;simp only[builtin,QL,Bc,Ed]at D4;have Aj:=Xj (P:=P) g.w t o.type e i z hu h1 h4 L9 xs.length xs.length ys.length (a.eval y) Dt news JD YG dI I hlen Ua;rw[<-ex]at Aj;obtain⟨cap,C1⟩:∃cap,cap=grownCap g.w (xs.length+ys.length) xs.length e:=⟨_,rfl⟩
  obtain⟨rest,D3⟩:∃rest,rest=Builtin.zeroCells z.cells (cap-(xs.length+ys.length)):=⟨_,rfl⟩
  have FM:=grownCap_ge g.w (xs.length+ys.length) xs.length e;rw[<-C1]at Aj FM;rw[<-D3]at Aj;obtain⟨arr,ER⟩:∃arr,arr=Dt.toArray++news.toArray++rest:=⟨_,rfl⟩
  rw[<-ER]at Aj;have Du:=hg.heap (w':=g.w.drew) rfl rfl rfl rfl;have Iy:=Le.heap (g:=g) (w':=g.w.drew) rfl rfl rfl rfl;obtain⟨g1,DJ⟩:∃g1:G,g1=⟨g.w.drew,g.fr,g.env,g.objs⟩:=⟨_,rfl⟩
  rw[<-DJ]at Du Iy;have Ha:g1.w=g.w.drew:=WM
  have DT:g1.objs=σ.objs:=WL
  have Ks:=Qq.append Im.Zb;rw[<-Pw]at Ks;have B8:(AP (xs++ys.map A2.share)).length=(xs.length+ys.length)*te.size:=by
   rw[Ja (sz:=te.size) (fun x hx=>by
    rcases List.mem_append.1 hx with q|q
    ·exact Oi x q
    exact Vx Lv x q)]
   simp
  have OD:(AP (xs++ys.map A2.share)).length<=arr.size:=by
   rw[B8,ER];simp only[RX,Jj,OZ,IW,<-LX];omega
  have hle:=Iy.trans (Le.alloc Du (.cells arr e) 0 (.cells (AP (xs++ys.map A2.share))));have FZ:Fits (g1.alloc (.cells arr e) 0 (.cells (AP (xs++ys.map A2.share)))) (.cells arr e) (.cells (AP (xs++ys.map A2.share))):=by
   refine⟨arr,e,rfl,OD,fun j c u hj hu=>?_,fun c hc=>?_⟩
   ·have AF:=AE hj;rw[B8]at AF;rw[ER]at hu;have IX:=U4 hu dL;exact(Ks.2 j c u hj Ub).mono hle
   rw[Pw]at hc;rcases List.mem_append.1 hc with q|q
   ·exact Ko c q
   exact Xh KV c q
  have EA:=Good.alloc Du (.cells arr e) 0 (.cells (AP (xs++ys.map A2.share))) (.inr rfl) FZ;refine jw ?_ ?_ ?_
  ·rw[D4];simp[Aj,G.alloc,Ha]
  ·exact Rl DT
  rw[<-DT];have e1:(g.w.heap.size)=g1.w.heap.size:=YQ
  rw[e1];exact .ms (l:=⟨g1.w.heap.size,0,_⟩) (RO Du) Nq Bd (B6 _) FM hlen
theorem zh(w:World)(t t' ty e:TypeId)(i:TypeInfo)(z:Value)(ht:P.underlying t=some (.slice e))(ht':P.underlying t'=some (.int .i64))(hi:P.info? e=some i)(hz:i.zero=some z)(s:Option Addr)(n:Nat)
  (hs:(Builtin.firstCells i.size 0 (.slice s 0 0)).run P w.drew=.ok #[] w.drew) (hn:0<n) (h63:n<=2 ^ 62) (AO:n*i.bytes<=2 ^ 47) (Ag:0<i.size) :
  (Builtin.append_ #[t,t'] ty #[.slice s 0 0,.int .i64 n]).run P w =
   .ok (.slice (some ⟨w.heap.size,0,none⟩) n (grownCap w n 0 e)) (w.drew.alloc (.cells (Builtin.zeroCells z.cells n++Builtin.zeroCells z.cells (grownCap w n 0 e-n)) e)):=by
 have hw:IntKind.i64.wrap (n:Int)=n:=Yk .i64 n (by simp[IntKind.min,IntKind.bits,IntKind.signed]<;>omega) (by simp[IntKind.max,IntKind.bits,IntKind.signed]<;>omega);have h0:¬((n:Int)<0):=I
 have h48:¬((2:Int) ^ 48<(n:Int)*(i.bytes:Int)):=by
  rw[<-cu];omega
 have hns:¬(n<=0):=I
 have AT:¬(n*i.size=0):=by
  have:=Nat.mul_pos hn Ag;omega
 have h1:¬(9223372036854775807<(n:Int)):=I
 have C1:Builtin.nextslicecap n 0=n:=by
  unfold Builtin.nextslicecap;rw[A9 I]
 have ha:∀w:World,(asInt (.int .i64 (n:Int))).run P w=.ok (n:Int) w:=fun _=>rfl;have qlw:¬(281474976710656<(n:Int)*(i.bytes:Int)):=by
  rw[<-cu];omega
 have qlN:¬(281474976710656<n*i.bytes):=I
 have Il:¬(n=0):=I
 simp[Builtin.append_,run_underlying ht,run_underlying ht',Go.sizeOf,typeInfo,hi,ha,hw,Il,qlw,qlN,C1,Question.forced,hs,Go.zeroValue,hz,Go.newRow,grownCap,h1];rw[A4 h0,A4 AT]
theorem qne(hT:CH P AD){o:Oper}{σ:St}{t t' e:TypeId}{x y:Operand}{ti te:CU}{sz:Nat}{n:Int}
  (ho:o.op=.call ⟨.builtin .append,#[x,y],#[t,t']⟩) (hd:∀d,o.dst=some d->d<σ.n) (ht:AD t=some ti) (Ah:ti.desc=.slice e) (he:AD e=some te) (ht':P.underlying t'=some (.int .i64)) (hx:σ.ev x=some (.A3 sz [] .ex)) (hy:σ.ev y=some (.v (.int .i64 n)))
  (hn:0<n) (hlen:n.toNat<=2 ^ 62) (hb:n.toNat*te.bytes<=2 ^ 47) (Ag:0<te.size) :
  Cert P o σ (.ms σ.objs.length 0 n.toNat n.toNat) (.write (σ.objs++[.cells (List.replicate n.toNat te.zero).flatten])) :=
 Cert.IP hd fun base Bl a g Ax h CO=>by
  have hO:g.objs=σ.objs:=CO.resolve_left A6;have hg:=Ax.good;have hu:=GZ hT ht Ah;have Bu:=h x Gh _ hx;have ey:=(h y Gh _ hy).D0.1;obtain⟨L9,Iv,Dt,ex,Oh,L8,Qq,Oi,Ko,OZ⟩:=Bu.Ms (P:=P);obtain⟨⟨i,z,h1,h2,h3,h4,h5,h6,h7,h8,h9⟩,_⟩:=hT e te he;obtain⟨m,rfl⟩:=cx (show 0<=n from I);simp only[BH]at *;have Rt:Iv=0:=by
   rcases Bu.LP with⟨q1,q2⟩|⟨ad,cap,f,q1,_,_,_,_,_,_,_,q2⟩
   ·rw[ex]at q1;simp at q1;exact q1.2
   rw[ex]at q1;simp only[Value.slice.injEq]at q1;exact Ye
  subst Rt;simp only[GD]at ex;have D4:=Lw (P:=P) ho a g.w;simp only[builtin,QL,Bc,Ed]at D4;have Aj:=zh (P:=P) g.w t t' o.type e i z hu ht' h1 h4 L9 m aaK I hlen Ua I;rw[<-ex]at Aj;obtain⟨cap,C1⟩:∃cap,cap=grownCap g.w m 0 e:=⟨_,rfl⟩
  have FM:=grownCap_ge g.w m 0 e;rw[<-C1]at Aj FM;obtain⟨rest,D3⟩:∃rest,rest=Builtin.zeroCells z.cells (cap-m):=⟨_,rfl⟩
  rw[<-D3]at Aj;obtain⟨arr,ER⟩:∃arr,arr=Builtin.zeroCells z.cells m++rest:=⟨_,rfl⟩
  rw[<-ER]at Aj;have Du:=hg.heap (w':=g.w.drew) rfl rfl rfl rfl;have Iy:=Le.heap (g:=g) (w':=g.w.drew) rfl rfl rfl rfl;obtain⟨g1,DJ⟩:∃g1:G,g1=⟨g.w.drew,g.fr,g.env,g.objs⟩:=⟨_,rfl⟩
  rw[<-DJ]at Du Iy;have Ha:g1.w=g.w.drew:=WM
  have DT:g1.objs=σ.objs:=WL
  have Wu:(List.replicate m te.zero).flatten.length=m*te.size:=dg
  have DO:∀(j:Nat) (c:A2),(List.replicate m te.zero).flatten[j]?=some c->te.zero[j % te.size]?=some c:=fun j c=>h6 ▸ au te.zero I m j c;have hle:=Iy.trans (Le.alloc Du (.cells arr e) 0 (.cells (List.replicate m te.zero).flatten));have JX:(Builtin.zeroCells z.cells m).size=m*te.size:=pv
  have FZ:Fits (g1.alloc (.cells arr e) 0 (.cells (List.replicate m te.zero).flatten)) (.cells arr e) (.cells (List.replicate m te.zero).flatten):=by
   refine⟨arr,e,rfl,by rw[Wu,ER,RX,JX];omega,fun j c u hj hu=>?_,fun c hc=>?_⟩
   ·have CK:=DO j c hj;have AF:=AE hj;rw[Wu]at AF;rw[ER,iR,A9 (by rw[JX];exact AF)]at hu;have HR:j % te.size<z.cells.size:=dU
    refine h8 _ _ _ _ CK ?_;simp only[Builtin.zeroCells,UU,h5,h6,WH,A9 AF,FV,AM]at hu;subst hu;simp[HR]
   rw[ic]at hc;obtain⟨l,hl,hc⟩:=hc;rw[Zs]at hl;exact h9 c (hl.2 ▸ hc)
  have EA:=Good.alloc Du (.cells arr e) 0 (.cells (List.replicate m te.zero).flatten) (.inr rfl) FZ;refine⟨.slice (some ⟨g.w.heap.size,0,none⟩) m cap,_,.inl ?_,hle,EA,?_,?_⟩
  ·rw[D4,ey];simp[Aj,G.alloc,Ha]
  ·exact Rl DT
  rw[<-DT];have e1:(g.w.heap.size)=g1.w.heap.size:=YQ
  rw[e1];exact .ms (l:=⟨g1.w.heap.size,0,_⟩) (RO Du) Nq Bd (B6 _) I hlen
theorem qni(hT:CH P AD){o:Oper}{σ:St}{t t' e:TypeId}{x y:Operand}{ti te:CU}{sz:Nat}{n:Int}
  (ho:o.op=.call ⟨.builtin .append,#[x,y],#[t,t']⟩) (hd:∀d,o.dst=some d->d<σ.n) (ht:AD t=some ti) (Ah:ti.desc=.slice e) (he:AD e=some te) (ht':P.underlying t'=some (.int .i64)) (hx:σ.ev x=some (.A3 sz [] .ex)) (hy:σ.ev y=some (.v (.int .i64 n)))
  (hn:0<n) (hlen:n.toNat<=2 ^ 62) (hb:n.toNat*te.bytes<=2 ^ 47) (Ag:0<te.size) :
  Cert P o σ (.raw te.size n.toNat σ.objs.length) (.write (σ.objs++[.spare 0])) :=
 Cert.IP hd fun base Bl a g Ax h CO=>by
  have hO:g.objs=σ.objs:=CO.resolve_left A6;have hg:=Ax.good;have hu:=GZ hT ht Ah;have Bu:=h x Gh _ hx;have ey:=(h y Gh _ hy).D0.1;obtain⟨L9,Iv,Dt,ex,Oh,L8,Qq,Oi,Ko,OZ⟩:=Bu.Ms (P:=P);obtain⟨⟨i,z,h1,h2,h3,h4,h5,h6,h7,h8,h9⟩,_⟩:=hT e te he;obtain⟨m,rfl⟩:=cx (show 0<=n from I);simp only[BH]at *;have Rt:Iv=0:=by
   rcases Bu.LP with⟨q1,q2⟩|⟨ad,cap,f,q1,_,_,_,_,_,_,_,q2⟩
   ·rw[ex]at q1;simp at q1;exact q1.2
   rw[ex]at q1;simp only[Value.slice.injEq]at q1;exact Ye
  subst Rt;simp only[GD]at ex;have D4:=Lw (P:=P) ho a g.w;simp only[builtin,QL,Bc,Ed]at D4;have Aj:=zh (P:=P) g.w t t' o.type e i z hu ht' h1 h4 L9 m aaK I hlen Ua I;rw[<-ex]at Aj;obtain⟨cap,C1⟩:∃cap,cap=grownCap g.w m 0 e:=⟨_,rfl⟩
  have FM:=grownCap_ge g.w m 0 e;rw[<-C1]at Aj FM;obtain⟨rest,D3⟩:∃rest,rest=Builtin.zeroCells z.cells (cap-m):=⟨_,rfl⟩
  rw[<-D3]at Aj;obtain⟨arr,ER⟩:∃arr,arr=Builtin.zeroCells z.cells m++rest:=⟨_,rfl⟩
  rw[<-ER]at Aj;have Du:=hg.heap (w':=g.w.drew) rfl rfl rfl rfl;have Iy:=Le.heap (g:=g) (w':=g.w.drew) rfl rfl rfl rfl;obtain⟨g1,DJ⟩:∃g1:G,g1=⟨g.w.drew,g.fr,g.env,g.objs⟩:=⟨_,rfl⟩
  rw[<-DJ]at Du Iy;have Ha:g1.w=g.w.drew:=WM
  have DT:g1.objs=σ.objs:=WL
  have hle:=Iy.trans (Le.alloc Du (.cells arr e) 0 (.spare 0));have JX:(Builtin.zeroCells z.cells m).size=m*te.size:=pv
  have EA:=Good.alloc Du (.cells arr e) 0 (.spare 0) (.inr rfl) ⟨arr,e,rfl⟩;have Ie:rest.size=(cap-m)*te.size:=YI
  refine⟨.slice (some ⟨g.w.heap.size,0,none⟩) m cap,_,.inl ?_,hle,EA,?_,?_⟩
  ·rw[D4,ey];simp[Aj,G.alloc,Ha]
  ·exact Rl DT
  rw[<-DT];have e1:(g.w.heap.size)=g1.w.heap.size:=YQ
  rw[e1];refine .raw I ⟨by simp[G.alloc],fun m' BX=>?_⟩;have Qf:(g1.alloc (.cells arr e) 0 (.spare 0)).objs[g1.objs.length]?=some (.spare 0):=Nq;rw[Qf]at BX;simp only[AM,A8.spare.injEq]at BX;subst BX;refine⟨B6 _,fun _=>.inr ⟨⟨g1.w.heap.size,0,_⟩,arr,e,RO Du,rfl,A6,Pz _ _,?_⟩⟩;rw[ER,RX,JX,Ie,<-LX];exact OE _ I
theorem qnw(hT:CH P AD){o:Oper}{σ:St}{t e:TypeId}{x y:Operand}{ti te:CU}{id off len cap sz:Nat}{cs ys:List A2}{ow:Ec}
  (ho:o.op=.call ⟨.builtin .append,#[x,y],#[t,t]⟩) (hd:∀d,o.dst=some d->d<σ.n) (ht:AD t=some ti) (Ah:ti.desc=.slice e) (he:AD e=some te) (Ag:te.size=sz) (hx:σ.ev x=some (.ms id off len cap)) (Ex:σ.objs[id]?=some (.cells cs)) (hy:σ.ev y=some (.A3 sz ys ow))
  (LU:len+ys.length<=cap) (R0:len+ys.length<=2 ^ 62) (G2:off+(len+ys.length)*sz<=cs.length) :
  Cert P o σ (.ms id off (len+ys.length) cap) (.write (σ.objs.set id (.cells (As cs (off+len*sz) (AP (ys.map A2.share)))))) :=
 Cert.IP hd fun base Bl a g Ax h CO=>by
  have hO:g.objs=σ.objs:=CO.resolve_left A6;have hg:=Ax.good;have hu:=GZ hT ht Ah;subst Ag;have Bu:=h x Gh _ hx;have H8:=h y Gh _ hy;obtain⟨l,o1,q1,q2,q3,Lp,Bm,Dm,C1,eu⟩:=Bu.QD;obtain⟨XK,Wz,news,ey,JD,PN,Im,Lv,KV,IW⟩:=H8.Ms (P:=P);obtain⟨⟨i,z,h1,h2,h3,h4,h5,h6,h7,h8,h9⟩,_⟩:=hT e te he;have Fz:g.objs[id]?=some (.cells cs):=Rf
  obtain⟨arr,t',CA,CV,hlen,BQ,Iw,TO⟩:=hg.row Fz q1;have D4:=Lw (P:=P) ho a g.w;simp only[builtin,QL,Bc,Ed]at D4;obtain⟨BJ,HB⟩:∃BJ,BJ=(arr.toList.take (off+len*te.size)++news++arr.toList.drop (off+len*te.size+news.length)).toArray:=⟨_,rfl⟩
  have hmul:off+(len+ys.length)*te.size=off+len*te.size+ys.length*te.size:=by rw[LX];omega
  have Au:=run_storeCells_at P l.block (off+len*te.size) t' news 0 arr g.w CV qS (fun u hu=>by
   obtain⟨j,hj⟩:=MF hu;have AF:=AE hj;have Ag:=Im.1;simp only[Jj]at Ag;rw[Ag]at AF;have hc:=AY AF;exact((Im.2 j _ u hc QO).Vy (KV _ (AK hc))).1)
  simp only[J4]at Au;rw[<-HB]at Au;have Aj:=Xi (P:=P) g.w (g.w.setRow l.block BJ) t o.type e i hu h1 ⟨l.block,off,none⟩ len Dm ys.length (a.eval y) news JD j9 I (by rw[addr_add,h2];exact Au);rw[<-eu]at Aj;have Ew:=ZV (cs':=As cs (off+len*te.size) (AP (ys.map A2.share))) Fz q1 CA BJ;have hle:=Le.Am hg Ew;have D5:=Im.Zb;have B8:(AP (ys.map A2.share)).length=ys.length*te.size:=by
   rw[Ja (Vx Lv)];simp
  have Bg:=Co.As ⟨hlen,BQ⟩ D5 (off:=off+len*te.size) (by rw[B8];omega);simp only at Bg;rw[<-HB]at Bg;refine⟨.slice (some ⟨l.block,off,none⟩) (len+ys.length) Dm,g.Am id (some l) (.cells (As cs (off+len*te.size) (AP (ys.map A2.share)))) (g.w.setRow l.block BJ),.inl ?_,hle,Good.Am hg Ew ?_ ?_,?_,?_⟩
  ·rw[D4];simp[Aj,G.Am]
  ·refine⟨l,BJ,t',rfl,CA,?_,Bg.1,fun j c u a b=>(Bg.2 j c u a b).mono hle,fun c hc=>?_,?_⟩
   ·exact jt
   ·simp only[As,HY]at hc;rcases hc with hc|hc|hc
    ·exact Iw c (KF hc)
    ·exact Xh KV c hc
    exact Iw c (N9 hc)
   have q:=IW;have q2:=hmul;rw[HB];exact kB
  ·intro l1 h1 _;simp only[AM]at h1;subst h1;exact kH
  ·simp only[G.Am,Mode.post,hO]
  have AF:id<g.objs.length:=AE Fz;have X9:=Q6 hg Fz;refine .ms (l:=l) (o:=.cells (As cs (off+len*te.size) (AP (ys.map A2.share)))) ?_ ?_ Bd LU C1 R0
  ·simp only[G.Am];rw[Bb X9]
  simp only[G.Am];rw[Bb AF]
theorem qaW(hT:CH P AD){o:Oper}{σ:St}{t e:TypeId}{x:Operand}{ti te:CU}{id off len cap:Nat}{cs:List A2}
  (ho:o.op=.call ⟨.builtin .clear,#[x],#[t]⟩) (hd:o.dst=none) (ht:AD t=some ti) (Ah:ti.desc=.slice e) (he:AD e=some te) (hx:σ.ev x=some (.ms id off len cap)) (Ex:σ.objs[id]?=some (.cells cs))
  (JK:0<len) (hz:0<te.size) (G2:off+len*te.size<=cs.length) :
  Cert P o σ (.Ab []) (.write (σ.objs.set id (.cells (As cs off (List.replicate len te.zero).flatten)))) :=
 Cert.IP (by simp[hd]) fun base Bl a g Ax h CO=>by
  have hO:g.objs=σ.objs:=CO.resolve_left A6;have hg:=Ax.good;have hu:=GZ hT ht Ah;have Bu:=h x Gh _ hx;obtain⟨l,o1,q1,q2,q3,Lp,Bm,Dm,C1,eu⟩:=Bu.QD;obtain⟨⟨i,z,h1,h2,h3,h4,h5,h6,h7,h8,h9⟩,_⟩:=hT e te he;have Fz:g.objs[id]?=some (.cells cs):=Rf
  obtain⟨arr,t',CA,CV,hlen,BQ,Iw,TO⟩:=hg.row Fz q1;have D4:=Lw (P:=P) ho a g.w;simp only[builtin,QL,Bc,Ed]at D4;have JX:(Builtin.zeroCells z.cells len).size=len*te.size:=pv
  have Wu:(List.replicate len te.zero).flatten.length=len*te.size:=dg
  have DO:∀(j:Nat) (c:A2),(List.replicate len te.zero).flatten[j]?=some c->te.zero[j % te.size]?=some c:=fun j c=>h6 ▸ au te.zero I len j c;have Nj:Co g (List.replicate len te.zero).flatten (Builtin.zeroCells z.cells len):=⟨by rw[JX,Wu],fun j c u hj hu=>by
   have CK:=DO j c hj;have AF:=AE hj;rw[Wu]at AF;have HR:j % te.size<z.cells.size:=dU
   refine h8 _ _ _ _ CK ?_;simp only[Builtin.zeroCells,UU,h5,h6,WH,A9 AF,FV,AM]at hu;subst hu;simp[HR]⟩
  have bz:∀c∈(List.replicate len te.zero).flatten,c.scalar:=fun c hc=>by
   rw[ic]at hc;obtain⟨l,hl,hc⟩:=hc;rw[Zs]at hl;exact h9 c (hl.2 ▸ hc)
  obtain⟨news,QI⟩:∃news,news=(Builtin.zeroCells z.cells len).toList:=⟨_,rfl⟩
  have JA:news.length=len*te.size:=by rw[QI,WG,JX]
  obtain⟨BJ,HB⟩:∃BJ,BJ=(arr.toList.take off++news++arr.toList.drop (off+news.length)).toArray:=⟨_,rfl⟩
  have Au:=run_storeCells_at P l.block off t' news 0 arr g.w CV (by rw[JA];omega) (fun u hu=>by
   obtain⟨j,hj⟩:=MF hu;have AF:=AE hj;rw[JA,<-Wu]at AF;have hc:=AY AF;exact((Nj.2 j _ u hc (by rw[QI]at hj;simpa using hj)).Vy (bz _ (AK hc))).1)
  simp only[J4]at Au;rw[<-HB]at Au;have Aj:(Builtin.clear_ #[t] o.type #[a.eval x]).run P g.w=.ok (.tuple #[]) (g.w.setRow l.block BJ):=by
   obtain⟨k,rfl⟩:∃k,len=k+1:=⟨len-1,I⟩
   rw[eu];simp[Builtin.clear_,run_underlying hu,Go.zeroValue,typeInfo,h1,h4,<-QI,Au]
  have Ew:=ZV (cs':=As cs off (List.replicate len te.zero).flatten) Fz q1 CA BJ;have hle:=Le.Am hg Ew;have Bg:=Co.As ⟨hlen,BQ⟩ Nj (off:=off) (by rw[Wu];omega);rw[<-QI,<-HB]at Bg;refine⟨.tuple #[],g.Am id (some l) (.cells (As cs off (List.replicate len te.zero).flatten)) (g.w.setRow l.block BJ),?_,hle,Good.Am hg Ew ?_ ?_,?_,.Ab rfl A6⟩
  ·refine .inl ?_;rw[D4];simp[Aj,G.Am]
  ·refine⟨l,BJ,t',rfl,CA,?_,Bg.1,fun j c u a b=>(Bg.2 j c u a b).mono hle,fun c hc=>?_,?_⟩
   ·exact jt
   ·simp only[As,HY]at hc;rcases hc with hc|hc|hc
    ·exact Iw c (KF hc)
    ·exact bz c hc
    exact Iw c (N9 hc)
   have q:=JA;rw[HB];exact kB
  ·intro l1 h1 _;simp only[AM]at h1;subst h1;exact kH
  simp only[G.Am,Mode.post,hO]
end Go.Av
