/-
  Texts bound together by a program of mine: YtakdmelemfnmdaaAva, YtakdmelemfnmdaaAvb, YtakdmelemfnmdaaAvc, YtakdmelemfnmdaaAvd, YtakdmelemfnmdaaAve, YtakdmelemfnmdaaAvf, YtakdmelemfnmdaaAvg, YtakdmelemfnmdaaAvh, YtakdmelemfnmdaaAvi, YtakdmelemfnmdaaAvj, YtakdmelemfnmdaaAvk, YtakdmelemfnmdaaAvx, YtakdmelemfnmdaaAvy, YtakdmelemfnmdaaAvr.
-/
import Derived.Calls
import Derived.Orders
import Derived.Laws.AppendOwn
import Derived.Laws.OwnMore
import Derived.Laws.CopyRow
import Derived.Laws.Strings
import Derived.Lib.BufferMore
set_option linter.all false

namespace Go.Av
inductive pP where
 | sh
 | ex
 | nn
 | tok (id:Nat)
 | loc (a:Addr)
inductive KT where
 | str
 | int (k:IntKind)
def KT.ok:KT->Value->Prop
 | .str,.string _=>True
 | .int k,.int k' _=>k'=k
 | _,_=>False
inductive ae where
 | v (x:Value)
 | agg (cs:List ae)
 | aB (sz:Nat) (xs:List ae) (o:pP)
 | ip (oa:Option Addr) (cs:List ae)
 | mp (id off:Nat)
 | ms (id off len cap:Nat)
 | os (id len sz:Nat)
 | raw (sz n id:Nat)
 | mm (id:Nat)
 | im (kt:KT) (es:List (Value×ae))
 | fn (f:Fn) (first captured:List ae)
 | cK (vs:List ae)
instance:Inhabited ae:=⟨.v (.bool false)⟩
def ae.cells:ae->List ae
 | .agg cs=>cs
 | x=>[x]
def lV:Value->Prop
 | .int k n=>k.min<=n∧n<=k.max
 | .agg _=>False
 | .tuple _=>False
 | _=>True
def ae.scalar:ae->Prop
 | .agg _=>False
 | .cK _=>False
 | _=>True
inductive al where
 | cells (cs:List ae)
 | spare (n:Nat)
 | map (kt:KT) (es:List (Value×ae))
 | gone
def al.live:al->Prop
 | .gone=>False
 | _=>True
def al.aC:al->Prop
 | .spare _=>True
 | _=>False
structure Loc where
 block:Nat
 lo:Nat
 sz:Nat
structure G where
 w:World
 fr:Nat->Nat->Prop
 env:List (Option Loc)
 objs:List al
def G.cell(g:G)(b off:Nat):Option Value:=g.w.cell? ⟨b,off,none⟩
def mE(g:G)(b off:Nat):Prop :=
 ∃(id:Nat) (l:Loc) (o:al),g.env[id]?=some (some l)∧g.objs[id]?=some o∧o.live∧l.block=b∧l.lo<=off
def jJ(g:G)(b:Nat):Prop :=
 ∃(id:Nat) (l:Loc) (o:al),g.env[id]?=some (some l)∧g.objs[id]?=some o∧o.live∧l.block=b
def xG(g:G)(b off:Nat):Prop:=g.fr b off∨mE g b off
theorem mE.block{g:G}{b off:Nat}(h:mE g b off):jJ g b:=by
 obtain⟨id,l,o,h1,h2,h3,h4,_⟩:=h;exact⟨id,l,o,h1,h2,h3,h4⟩
def ao(xs:List ae):List ae:=xs.flatMap ae.cells
def H2(g:G)(o:pP)(a:Addr)(sz len cap:Nat):Prop :=
 match o with
 | .sh=>True
 | .nn=>True
 | .ex=>cap=len
 | .loc a'=>a=a'
 | .tok id=>id<g.objs.length∧∀m:Nat,g.objs[id]?=some (.spare m)->len<=m∧(len=m->cap=len ∨
   ∃(l:Loc) (arr:Array Value) (t:TypeId),g.env[id]?=some (some l)∧a=⟨l.block,0,none⟩∧l.lo=len*sz∧g.w.heap[l.block]?=some (.cells arr t (0,0))∧cap*sz<=arr.size)
inductive RV(g:G):ae->Value->Prop
 | v {x:Value} (h:lV x):RV g (.v x) x
 | agg {cs:List ae} {vs:Array Value} (hl:vs.size=cs.length) (ia:∀c∈cs,c.scalar)
   (h:∀(i:Nat) c u,cs[i]?=some c->vs[i]?=some u->RV g c u):RV g (.agg cs) (.agg vs)
 | nil {sz:Nat} {o:pP} (ho:∀id,o=.tok id->id<g.objs.length) (hn:o≠.nn):RV g (.aB sz [] o) (.slice none 0 0)
 | aB {sz:Nat} {xs:List ae} {o:pP} {a:Addr} {cap:Nat} (di:∀x∈xs,x.cells.length=sz) (ia:∀x∈xs,∀c∈x.cells,c.scalar)
   (ee:xs.length<=cap) (gu:xs.length<=2 ^ 62) (hs:xs≠[]->a.spot=none) (f:Nat->Value)
   (hm:∀(j:Nat) (c:ae),(ao xs)[j]?=some c->g.cell a.block (a.off+j)=some (f j)∧¬xG g a.block (a.off+j))
   (hr:∀(j:Nat) (c:ae),(ao xs)[j]?=some c->RV g c (f j)) (ho:H2 g o a sz xs.length cap):RV g (.aB sz xs o) (.slice (some a) xs.length cap)
 | ip {oa:Option Addr} {cs:List ae} {b off:Nat} (ha:oa=none∨oa=some ⟨b,off,none⟩) (ia:∀c∈cs,c.scalar) (f:Nat->Value)
   (hm:∀(j:Nat) (c:ae),cs[j]?=some c->g.cell b (off+j)=some (f j)∧¬xG g b (off+j))
   (hr:∀(j:Nat) (c:ae),cs[j]?=some c->RV g c (f j)):RV g (.ip oa cs) (.pointer (some ⟨b,off,none⟩))
 | mp {id off:Nat} {l:Loc} {o:al} (he:g.env[id]?=some (some l)) (ho:g.objs[id]?=some o) (hn:¬o.aC) :
   RV g (.mp id off) (.pointer (some ⟨l.block,off,none⟩))
 | ms {id off len cap:Nat} {l:Loc} {o:al} (he:g.env[id]?=some (some l)) (ho:g.objs[id]?=some o) (hn:¬o.aC) {gY:Nat} (hc:len<=cap) (Gt:cap<=gY) (gu:len<=2 ^ 62) :
   RV g (.ms id off len cap) (.slice (some ⟨l.block,off,none⟩) len gY)
 | os {id len sz:Nat} {l:Loc} {o:al} (he:g.env[id]?=some (some l)) (ho:g.objs[id]?=some o) (hn:¬o.aC) {cap:Nat} (hc:len<=cap) (hb:cap*sz<=l.sz) (gu:len<=2 ^ 62) :
   RV g (.os id len sz) (.slice (some ⟨l.block,0,none⟩) len cap)
 | raw {sz n id:Nat} {a:Addr} {cap:Nat} (hn:n<=cap) (ho:H2 g (.tok id) a sz 0 cap):RV g (.raw sz n id) (.slice (some a) n cap)
 | mm {id:Nat} {l:Loc} {o:al} (he:g.env[id]?=some (some l)) (ho:g.objs[id]?=some o) (hn:¬o.aC):RV g (.mm id) (.map (some l.block))
 | im {kt:KT} {es:List (Value×ae)} {r ox:Nat} {arr:Array MapEntry} (hh:g.w.heap[r]?=some (.map arr ox)) (hn:∀off,¬xG g r off) (hl:arr.size=es.length)
   (hk:∀(i:Nat) e (kx:Value×ae),arr[i]?=some e->es[i]?=some kx->e.key=kx.1) (PV:∀p∈es,kt.ok p.1)
   (hr:∀(i:Nat) e (kx:Value×ae),arr[i]?=some e->es[i]?=some kx->RV g kx.2 e.val):RV g (.im kt es) (.map (some r))
 | fn {f:Fn} {fs cs:List ae} {us vs:Array Value} (hl:us.size=fs.length) (UJ:vs.size=cs.length)
   (h:∀(i:Nat) c u,fs[i]?=some c->us[i]?=some u->RV g c u) (h':∀(i:Nat) c u,cs[i]?=some c->vs[i]?=some u->RV g c u):RV g (.fn f fs cs) (.func f us vs)
 | cK {cs:List ae} {vs:Array Value} (hl:vs.size=cs.length)
   (h:∀(i:Nat) c u,cs[i]?=some c->vs[i]?=some u->RV g c u):RV g (.cK cs) (.tuple vs)
structure Le(g g':G):Prop where
 os:g'.w.os=g.w.os
 tape:g'.w.tape=g.w.tape
 output:g'.w.output=g.w.output
 fr:g'.fr=g.fr
 size:g.w.heap.size<=g'.w.heap.size
 block:∀k,k<g.w.heap.size->¬jJ g k->g'.w.heap[k]?=g.w.heap[k]?∧¬jJ g' k
 cell:∀b off x,g.cell b off=some x->¬mE g b off->g'.cell b off=some x∧¬mE g' b off
 len:g.objs.length<=g'.objs.length
 spare:∀(id:Nat) (m:Nat),g.objs[id]?=some (.spare m)->(∃m':Nat,g'.objs[id]?=some (.spare m')∧m<=m')∨∃o':al,g'.objs[id]?=some o'∧¬o'.aC
 plain:∀(id:Nat) (o:al),g.objs[id]?=some o->¬o.aC->(∃o':al,g'.objs[id]?=some o'∧¬o'.aC)∧g'.env[id]?=g.env[id]?
 gone:∀id:Nat,g.objs[id]?=some .gone->g'.objs[id]?=some .gone
 tok:∀(id m:Nat),g.objs[id]?=some (.spare m)->g'.objs[id]?=some (.spare m)->g'.env[id]?=g.env[id]?∧∀l:Loc,g.env[id]?=some (some l)->g'.w.heap[l.block]?=g.w.heap[l.block]?
theorem Le.refl(g:G):Le g g where
 os:=rfl
 tape:=rfl
 output:=rfl
 fr:=rfl
 size:=Nat.le_refl _
 block:=fun _ _ h=>⟨rfl,h⟩
 cell:=fun _ _ _ h k=>⟨h,k⟩
 len:=Nat.le_refl _
 spare:=fun _ m h=>.inl ⟨m,h,Nat.le_refl _⟩
 plain:=fun _ o h k=>⟨⟨o,h,k⟩,rfl⟩
 gone:=fun _ h=>h
 tok:=fun _ _ _ _=>⟨rfl,fun _ _=>rfl⟩
theorem Le.trans{a b c:G}(h:Le a b)(k:Le b c):Le a c where
 os:=k.os.trans h.os
 tape:=k.tape.trans h.tape
 output:=k.output.trans h.output
 fr:=k.fr.trans h.fr
 size:=Nat.le_trans h.size k.size
 block:=fun i hi hn=>by
  obtain⟨h1,h2⟩:=h.block i hi hn;obtain⟨k1,k2⟩:=k.block i (Nat.lt_of_lt_of_le hi h.size) h2;exact⟨k1.trans h1,k2⟩
 cell:=fun b off x hx hn=>by
  obtain⟨h1,h2⟩:=h.cell b off x hx hn;exact k.cell b off x h1 h2
 len:=Nat.le_trans h.len k.len
 spare:=fun id m hm=>by
  rcases h.spare id m hm with⟨m',h1,h2⟩|⟨o',h1,h2⟩
  ·rcases k.spare id m' h1 with⟨BX,k1,k2⟩|k1
   ·exact .inl ⟨BX,k1,Nat.le_trans h2 k2⟩
   exact .inr k1
  exact .inr (k.plain id o' h1 h2).1
 plain:=fun id o ho hn=>by
  obtain⟨⟨o',h1,h2⟩,h3⟩:=h.plain id o ho hn;obtain⟨k1,k3⟩:=k.plain id o' h1 h2;exact⟨k1,k3.trans h3⟩
 gone:=fun id hg=>k.gone id (h.gone id hg)
 tok:=fun id m ha hc=>by
  rcases h.spare id m ha with⟨m',h1,h2⟩|⟨o',h1,h2⟩
  ·rcases k.spare id m' h1 with⟨BX,k1,k2⟩|⟨o',k1,k2⟩
   ·rw[k1]at hc;simp only[Option.some.injEq,al.spare.injEq]at hc;have:m'=m:=by omega
    subst this;subst hc;obtain⟨e1,e2⟩:=h.tok id _ ha h1;obtain⟨e3,e4⟩:=k.tok id _ h1 k1;refine⟨e3.trans e1,fun l hl=>?_⟩;exact(e4 l (e1.trans hl)).trans (e2 l hl)
   rw[k1]at hc;simp only[Option.some.injEq]at hc;exact absurd (hc ▸ trivial) k2
  obtain⟨⟨US,k1,k2⟩,_⟩:=k.plain id o' h1 h2;rw[k1]at hc;simp only[Option.some.injEq]at hc;exact absurd (hc ▸ trivial) k2
theorem Le.ownC{g g':G}(h:Le g g'){b off:Nat}{x:Value}(hx:g.cell b off=some x)(hn:¬xG g b off):g'.cell b off=some x∧¬xG g' b off:=by
 obtain⟨h1,h2⟩:=h.cell b off x hx fun hh=>hn (.inr hh);refine⟨h1,?_⟩;rintro(hf|hl)
 ·exact hn (.inl (h.fr ▸ hf))
 exact h2 hl
theorem I{α:Type}{l:List α}{i:Nat}{x:α}(h:l[i]?=some x):i<l.length:=by
 rcases Nat.lt_or_ge i l.length with h1|h1
 ·exact h1
 rw[List.getElem?_eq_none h1]at h;cases h
theorem aW{α:Type}{l:Array α}{i:Nat}{x:α}(h:l[i]?=some x):i<l.size:=by
 rcases Nat.lt_or_ge i l.size with h1|h1
 ·exact h1
 rw[Array.getElem?_eq_none h1]at h;cases h
theorem H2.mono{g g':G}(h:Le g g'){o:pP}{a:Addr}{sz len cap:Nat}(k:H2 g o a sz len cap):H2 g' o a sz len cap:=by
 cases o with
 | sh=>trivial
 | nn=>trivial
 | ex=>exact k
 | loc a=>exact k
 | tok id =>
  obtain⟨aZ,hk⟩:=k;refine⟨Nat.lt_of_lt_of_le aZ h.len,fun m' la=>?_⟩;have ho:g.objs[id]?=some g.objs[id]:=List.getElem?_eq_getElem aZ;cases jo:g.objs[id]with
  | spare m =>
   rw[jo]at ho;obtain⟨h1,h2⟩:=hk m ho;rcases h.spare id m ho with⟨BX,k1,k2⟩|⟨o',k1,k2⟩
   ·rw[k1]at la;simp only[Option.some.injEq,al.spare.injEq]at la;subst la;refine⟨Nat.le_trans h1 k2,fun e=>?_⟩;have hmm:m=BX:=by omega
    subst hmm;obtain⟨e1,e2⟩:=h.tok id m ho k1;rcases h2 (by omega)with e3|⟨l,arr,t,q1,q2,q3,q4,q5⟩
    ·exact .inl e3
    exact .inr ⟨l,arr,t,e1.trans q1,q2,q3,(e2 l q1).trans q4,q5⟩
   rw[k1]at la;simp only[Option.some.injEq]at la;exact absurd (la ▸ trivial) k2
  | gone =>
   rw[jo]at ho;rw[h.gone id ho]at la;simp at la
  | cells cs =>
   rw[jo]at ho;obtain⟨⟨o',q1,q2⟩,_⟩:=h.plain id _ ho (by simp[al.aC]);rw[q1]at la;simp only[Option.some.injEq]at la;subst la;simp[al.aC]at q2
  | map kt es =>
   rw[jo]at ho;obtain⟨⟨o',q1,q2⟩,_⟩:=h.plain id _ ho (by simp[al.aC]);rw[q1]at la;simp only[Option.some.injEq]at la;subst la;simp[al.aC]at q2
theorem RV.mono{g g':G}(h:Le g g'){x:ae}{u:Value}(k:RV g x u):RV g' x u:=by
 induction k with
 | v hx=>exact .v hx
 | agg hl ia _ ih=>exact .agg hl ia ih
 | nil ho hn=>exact .nil (fun id e=>Nat.lt_of_lt_of_le (ho id e) h.len) hn
 | aB di ia ee gu hs f hm _ ho ih=>exact .aB di ia ee gu hs f (fun j c hj=>h.ownC (hm j c hj).1 (hm j c hj).2) ih (ho.mono h)
 | ip ha ia f hm _ ih=>exact .ip ha ia f (fun j c hj=>h.ownC (hm j c hj).1 (hm j c hj).2) ih
 | mp he ho hn =>
  obtain⟨⟨o',q1,q2⟩,q3⟩:=h.plain _ _ ho hn;exact .mp (q3.trans he) q1 q2
 | ms he ho hn hc Gt gu =>
  obtain⟨⟨o',q1,q2⟩,q3⟩:=h.plain _ _ ho hn;exact .ms (q3.trans he) q1 q2 hc Gt gu
 | os he ho hn hc hb gu =>
  obtain⟨⟨o',q1,q2⟩,q3⟩:=h.plain _ _ ho hn;exact .os (q3.trans he) q1 q2 hc hb gu
 | raw hn ho=>exact .raw hn (ho.mono h)
 | mm he ho hn =>
  obtain⟨⟨o',q1,q2⟩,q3⟩:=h.plain _ _ ho hn;exact .mm (q3.trans he) q1 q2
 | im hh hn hl hk PV _ ih =>
  have aZ:=aW hh;rename_i kt es r ox arr _;have hb:¬jJ g r:=by
   rintro⟨id,l,o,h1,h2,h3,h4⟩;exact hn l.lo (.inr ⟨id,l,o,h1,h2,h3,h4,Nat.le_refl _⟩)
  obtain⟨q1,q2⟩:=h.block _ aZ hb;refine .im (q1.trans hh) ?_ hl hk PV ih;rintro off (hf|hf)
  ·exact hn off (.inl (h.fr ▸ hf))
  exact q2 hf.block
 | fn hl UJ _ _ ih Yd=>exact .fn hl UJ ih Yd
 | cK hl _ ih=>exact .cK hl ih
structure Good(g:G):Prop where
 frlt:∀b off,g.fr b off->b<g.w.heap.size
 frown:∀(id:Nat) (l:Loc) (o:al),g.env[id]?=some (some l)->g.objs[id]?=some o->o.live->∀off,¬g.fr l.block off
 len:g.env.length=g.objs.length
 loc:∀(id:Nat) (l:Loc) (o:al),g.env[id]?=some (some l)->g.objs[id]?=some o->o.live->l.block<g.w.heap.size
 apart:∀(id ux:Nat) (l l':Loc) (o o':al),g.env[id]?=some (some l)->g.objs[id]?=some o->o.live->g.env[ux]?=some (some l')->g.objs[ux]?=some o'->o'.live->l.block=l'.block->id=ux
 cells:∀(id:Nat) (cs:List ae),g.objs[id]?=some (.cells cs)->∃(l:Loc) (arr:Array Value) (t:TypeId),g.env[id]?=some (some l)∧l.lo=0∧g.w.heap[l.block]?=some (.cells arr t (0,0))∧cs.length<=arr.size ∧
  (∀(j:Nat) (c:ae) (u:Value),cs[j]?=some c->arr[j]?=some u->RV g c u)∧(∀c∈cs,c.scalar)∧l.sz<=arr.size
 spare:∀(id m:Nat) (l:Loc),g.objs[id]?=some (.spare m)->g.env[id]?=some (some l)->∃(arr:Array Value) (t:TypeId),g.w.heap[l.block]?=some (.cells arr t (0,0))
 map:∀(id:Nat) (kt:KT) (es:List (Value×ae)),g.objs[id]?=some (.map kt es)->∃(l:Loc) (arr:Array MapEntry) (ox:Nat),g.env[id]?=some (some l)∧l.lo=0∧g.w.heap[l.block]?=some (.map arr ox)∧arr.size=es.length∧(∀p∈es,kt.ok p.1) ∧
  ∀(i:Nat) (e:MapEntry) (kx:Value×ae),arr[i]?=some e->es[i]?=some kx->e.key=kx.1∧lV kx.1∧RV g kx.2 e.val
structure St where
 n:Nat
 bf:List (Nat×ae)
 objs:List al
def look:List (Nat×ae)->Nat->Option ae
 | [],_=>none
 | (k,x)::r,s=>if k=s then some x else look r s
def aY(d:Nat):List (Nat×ae)->List (Nat×ae)
 | []=>[]
 | (k,x)::r=>if k=d then aY d r else(k,x)::aY d r
def bq(d:Nat)(x:ae)(l:List (Nat×ae)):List (Nat×ae):=(d,x)::aY d l
theorem kY{d s:Nat}(h:d≠s):∀l:List (Nat×ae),look (aY d l) s=look l s
 | []=>rfl
 | (k,x)::r=>by
  have ih:=kY h r;unfold aY;split
  ·rename_i hk;subst hk;simp[look,h,ih]
  simp only[look,ih]
theorem oN{d:Nat}:∀l:List (Nat×ae),look (aY d l) d=none
 | []=>rfl
 | (k,x)::r=>by
  have ih:=oN (d:=d) r;unfold aY;split
  ·exact ih
  rename_i hk;simp[look,hk,ih]
theorem gi(d s:Nat)(x:ae)(l:List (Nat×ae)):look (bq d x l) s=if d=s then some x else look l s:=by
 unfold bq;simp only[look];split
 ·rfl
 rename_i h;exact kY h l
def St.get(σ:St)(s:Nat):Option ae:=look σ.bf s
structure Rel(base:G)(σ:St)(a:Act)(g:G):Prop where
 le:Le base g
 good:Good g
 objs:g.objs=σ.objs
 size:a.tmps.size=σ.n
 defers:a.defers=[]
 slot:∀(s:Nat) (x:ae),σ.get s=some x->∃u,a.tmps[s]?=some u∧RV g x u
theorem Rel.put{base:G}{σ:St}{a:Act}{g g':G}(h:Rel base σ a g)(hl:Le g g')(hg:Good g'){d:Nat}(hd:d<σ.n){r:ae}{u:Value}(hr:RV g' r u) :
  Rel base ⟨σ.n,bq d r σ.bf,g'.objs⟩ (a.put (some d) u) g' where
 le:=h.le.trans hl
 good:=hg
 objs:=rfl
 size:=by simp[Act.put,h.size]
 defers:=by simp[Act.put,h.defers]
 slot:=fun s x hx=>by
  simp only[St.get,gi]at hx;split at hx
  ·rename_i BQ;subst BQ;simp only[Option.some.injEq]at hx;subst hx;exact⟨u,by simp[Act.put,h.size,hd],hr⟩
  rename_i BQ;obtain⟨y,hy,hry⟩:=h.slot s x hx;exact⟨y,by simp[Act.put,Array.getElem?_setIfInBounds_ne BQ,hy],hry.mono hl⟩
theorem Rel.step{base:G}{σ:St}{a:Act}{g g':G}(h:Rel base σ a g)(hl:Le g g')(hg:Good g'):Rel base ⟨σ.n,σ.bf,g'.objs⟩ a g' where
 le:=h.le.trans hl
 good:=hg
 objs:=rfl
 size:=h.size
 defers:=h.defers
 slot:=fun s x hx=>by
  obtain⟨y,hy,hry⟩:=h.slot s x hx;exact⟨y,hy,hry.mono hl⟩
theorem Rel.forget{base:G}{σ:St}{a:Act}{g:G}(h:Rel base σ a g)(d:Nat)(u:Value):Rel base ⟨σ.n,aY d σ.bf,σ.objs⟩ (a.put (some d) u) g where
 le:=h.le
 good:=h.good
 objs:=h.objs
 size:=by simp[Act.put,h.size]
 defers:=by simp[Act.put,h.defers]
 slot:=fun s x hx=>by
  by_cases BQ:d=s
  ·subst BQ;simp[St.get,oN]at hx
  simp only[St.get,kY BQ]at hx;obtain⟨y,hy,hry⟩:=h.slot s x hx;exact⟨y,by simp[Act.put,Array.getElem?_setIfInBounds_ne BQ,hy],hry⟩
theorem Le.heap{g:G}{w':World}(h1:w'.heap=g.w.heap)(h2:w'.os=g.w.os)(h3:w'.tape=g.w.tape)(h4:w'.output=g.w.output):Le g ⟨w',g.fr,g.env,g.objs⟩ where
 os:=h2
 tape:=h3
 output:=h4
 fr:=rfl
 size:=by simp[h1]
 block:=fun k _ h=>⟨by simp[h1],h⟩
 cell:=fun b off x hx hn=>⟨by simpa[G.cell,World.cell?,h1]using hx,hn⟩
 len:=Nat.le_refl _
 spare:=fun _ m h=>.inl ⟨m,h,Nat.le_refl _⟩
 plain:=fun _ o h k=>⟨⟨o,h,k⟩,rfl⟩
 gone:=fun _ h=>h
 tok:=fun _ _ _ _=>⟨rfl,fun _ _=>by simp[h1]⟩
theorem Good.heap{g:G}{w':World}(hg:Good g)(h1:w'.heap=g.w.heap)(h2:w'.os=g.w.os)(h3:w'.tape=g.w.tape)(h4:w'.output=g.w.output):Good ⟨w',g.fr,g.env,g.objs⟩ where
 frlt:=fun b off h=>by simpa[h1]using hg.frlt b off h
 frown:=hg.frown
 len:=hg.len
 loc:=fun id l o a b c=>by simpa[h1]using hg.loc id l o a b c
 apart:=hg.apart
 cells:=fun id cs h=>by
  obtain⟨l,arr,t,e1,e0,e2,e3,e4,e5⟩:=hg.cells id cs h;exact⟨l,arr,t,e1,e0,by simpa[h1]using e2,e3,fun j c u a b=>(e4 j c u a b).mono (Le.heap h1 h2 h3 h4),e5⟩
 spare:=fun id m l a b=>by simpa[h1]using hg.spare id m l a b
 map:=fun id kt es h=>by
  obtain⟨l,arr,ox,e1,e0,e2,e3,e6,e4⟩:=hg.map id kt es h;exact⟨l,arr,ox,e1,e0,by simpa[h1]using e2,e3,e6,fun i e kx a b=>⟨(e4 i e kx a b).1,(e4 i e kx a b).2.1,(e4 i e kx a b).2.2.mono (Le.heap h1 h2 h3 h4)⟩⟩
theorem cB(w:World)(o:Obj){k:Nat}(h:k<w.heap.size):(w.alloc o).heap[k]?=w.heap[k]?:=by
 simp only[World.alloc];rw[Array.getElem?_push,if_neg (by omega)]
theorem cz(w:World)(o:Obj):(w.alloc o).heap[w.heap.size]?=some o:=by
 simp only[World.alloc];rw[Array.getElem?_push,if_pos rfl]
theorem nK{g:G}{b off:Nat}{x:Value}(h:g.cell b off=some x):b<g.w.heap.size:=by
 simp only[G.cell,World.cell?]at h;split at h
 ·rename_i hh;exact aW hh
 cases h
theorem iL{w w':World}{b:Nat}(h:w'.heap[b]?=w.heap[b]?)(off:Nat):w'.cell? ⟨b,off,none⟩=w.cell? ⟨b,off,none⟩:=by
 simp only[World.cell?,h]
def G.push(g:G)(o:Obj):G:=⟨g.w.alloc o,g.fr,g.env,g.objs⟩
theorem Le.push(g:G)(hg:Good g)(o:Obj):Le g (g.push o) where
 os:=rfl
 tape:=rfl
 output:=rfl
 fr:=rfl
 size:=by show g.w.heap.size<=(g.w.heap.push o).size;rw[Array.size_push];omega
 block:=fun k hk h=>⟨cB _ _ hk,h⟩
 cell:=fun b off x hx hn=>⟨by
  have:=nK hx;simpa[G.cell,G.push,iL (cB g.w o this)]using hx,hn⟩
 len:=Nat.le_refl _
 spare:=fun _ m h=>.inl ⟨m,h,Nat.le_refl _⟩
 plain:=fun _ o h k=>⟨⟨o,h,k⟩,rfl⟩
 gone:=fun _ h=>h
 tok:=fun id m h _=>⟨rfl,fun l hl=>cB _ _ (hg.loc id l _ hl h trivial)⟩
theorem Good.push{g:G}(hg:Good g)(o:Obj):Good (g.push o) where
 frlt:=fun b off h=>by
  have:=hg.frlt b off h;show b<(g.w.heap.push o).size;rw[Array.size_push];omega
 frown:=hg.frown
 len:=hg.len
 loc:=fun id l o' a b c=>by
  have:=hg.loc id l o' a b c;show l.block<(g.w.heap.push o).size;rw[Array.size_push];omega
 apart:=hg.apart
 cells:=fun id cs h=>by
  obtain⟨l,arr,t,e1,e0,e2,e3,e4,e5⟩:=hg.cells id cs h;exact⟨l,arr,t,e1,e0,(cB _ _ (aW e2)).trans e2,e3,fun j c u a b=>(e4 j c u a b).mono (Le.push g hg o),e5⟩
 spare:=fun id m l a b=>by
  obtain⟨arr,t,e⟩:=hg.spare id m l a b;exact⟨arr,t,(cB _ _ (aW e)).trans e⟩
 map:=fun id kt es h=>by
  obtain⟨l,arr,ox,e1,e0,e2,e3,e6,e4⟩:=hg.map id kt es h;exact⟨l,arr,ox,e1,e0,(cB _ _ (aW e2)).trans e2,e3,e6,fun i e kx a b=>⟨(e4 i e kx a b).1,(e4 i e kx a b).2.1,(e4 i e kx a b).2.2.mono (Le.push g hg o)⟩⟩
def G.add(g:G)(l:Option Loc)(o:al):G:=⟨g.w,g.fr,g.env++[l],g.objs++[o]⟩
theorem aK{α:Type}{l:List α}{x:α}{i:Nat}{y:α}(h:(l++[x])[i]?=some y):l[i]?=some y∨(i=l.length∧y=x):=by
 rw[List.getElem?_append]at h;split at h
 ·exact .inl h
 rename_i hh;have:i-l.length<1:=by
  rcases Nat.lt_or_ge (i-l.length) 1 with q|q
  ·exact q
  rw[List.getElem?_eq_none (by simpa using q)]at h;cases h
 have e:i=l.length:=by omega
 subst e;simp at h;exact .inr ⟨rfl,h.symm⟩
theorem cW{α:Type}{l:List α}{x:α}{i:Nat}{y:α}(h:l[i]?=some y):(l++[x])[i]?=some y:=by
 rw[List.getElem?_append,if_pos (I h)];exact h
theorem mE.add{g:G}(hg:Good g){l:Option Loc}{o:al}{b off:Nat}(h:mE (g.add l o) b off):mE g b off∨∃l',l=some l'∧o.live∧l'.block=b∧l'.lo<=off:=by
 obtain⟨id,l',o',h1,h2,h3,h4,h5⟩:=h;rcases aK h1 with q1|⟨q1,O8⟩
 ·rcases aK h2 with q2|⟨q2,MQ⟩
  ·exact .inl ⟨id,l',o',q1,q2,h3,h4,h5⟩
  have:=I q1;have:=hg.len;omega
 rcases aK h2 with q2|⟨q2,MQ⟩
 ·have:=I q2;have:=hg.len;omega
 subst MQ;exact .inr ⟨l',O8.symm,h3,h4,h5⟩
theorem jJ.add{g:G}(hg:Good g){l:Option Loc}{o:al}{b:Nat}(h:jJ (g.add l o) b):jJ g b∨∃l',l=some l'∧o.live∧l'.block=b:=by
 obtain⟨id,l',o',h1,h2,h3,h4⟩:=h;rcases mE.add hg ⟨id,l',o',h1,h2,h3,h4,Nat.le_refl _⟩with q|⟨q,q1,q2,q3,_⟩
 ·exact .inl q.block
 exact .inr ⟨q,q1,q2,q3⟩
def lh:Obj->Nat
 | .cells arr _=>arr.size
 | _=>0
def G.alloc(g:G)(ob:Obj)(lo:Nat)(o:al):G:=⟨g.w.alloc ob,g.fr,g.env++[some ⟨g.w.heap.size,lo,lh ob⟩],g.objs++[o]⟩
def G.mark(g:G)(o:al):G:=⟨g.w,g.fr,g.env++[none],g.objs++[o]⟩
theorem Le.H6{g g':G}(hg:Good g)(l:Option Loc)(o:al)(h:Le g g')(he:g'.env=g.env)(ho:g'.objs=g.objs)
  (hn:∀l',l=some l'->g.w.heap.size<=l'.block):Le g (g'.add l o) where
 os:=h.os
 tape:=h.tape
 output:=h.output
 fr:=h.fr
 size:=h.size
 block:=fun k hk hh=>⟨(h.block k hk hh).1,fun q=>by
  obtain⟨id,l',o',h1,h2,h3,h4⟩:=q;rw[show(g'.add l o).env=g.env++[l] by simp[G.add,he]]at h1;rw[show(g'.add l o).objs=g.objs++[o] by simp[G.add,ho]]at h2;rcases jJ.add (l:=l) (o:=o) (b:=k) hg ⟨id,l',o',h1,h2,h3,h4⟩with q|⟨l',q1,_,q3⟩
  ·exact hh q
  have:=hn l' q1;omega⟩
 cell:=fun b off x hx hh=>⟨(h.cell b off x hx hh).1,fun q=>by
  obtain⟨id,l',o',h1,h2,h3,h4⟩:=q;rw[show(g'.add l o).env=g.env++[l] by simp[G.add,he]]at h1;rw[show(g'.add l o).objs=g.objs++[o] by simp[G.add,ho]]at h2;have hk:=nK hx;rcases mE.add (l:=l) (o:=o) (b:=b) (off:=off) hg ⟨id,l',o',h1,h2,h3,h4⟩with q|⟨l',q1,_,q3,_⟩
  ·exact hh q
  have:=hn l' q1;omega⟩
 len:=by simp[G.add,ho]
 spare:=fun id m hm=>.inl ⟨m,by simp only[G.add,ho];exact cW hm,Nat.le_refl _⟩
 plain:=fun id o' iC k=>⟨⟨o',by simp only[G.add,ho];exact cW iC,k⟩,by
  have aZ:=I iC;simp only[G.add,he];rw[List.getElem?_append,if_pos (by have:=hg.len;omega)]⟩
 gone:=fun id hm=>by simp only[G.add,ho];exact cW hm
 tok:=fun id m hm _=>⟨by
  have aZ:=I hm;simp only[G.add,he];rw[List.getElem?_append,if_pos (by have:=hg.len;omega)],fun l hl=>(h.tok id m hm (by rw[ho];exact hm)).2 l hl⟩
theorem Le.alloc{g:G}(hg:Good g)(ob:Obj)(lo:Nat)(o:al):Le g (g.alloc ob lo o) :=
 Le.H6 (g':=g.push ob) hg (some ⟨g.w.heap.size,lo,lh ob⟩) o (Le.push g hg ob) rfl rfl (fun l' h=>by simp at h;subst h;exact Nat.le_refl _)
theorem Le.mark{g:G}(hg:Good g)(o:al):Le g (g.mark o) :=
 Le.H6 (g':=g) hg none o (Le.refl g) rfl rfl (fun l' h=>by simp at h)
def Fits(g':G)(ob:Obj)(o:al):Prop :=
 match o with
 | .cells cs=>∃(arr:Array Value) (t:TypeId),ob=.cells arr t (0,0)∧cs.length<=arr.size∧(∀(j:Nat) (c:ae) (u:Value),cs[j]?=some c->arr[j]?=some u->RV g' c u)∧∀c∈cs,c.scalar
 | .spare _=>∃(arr:Array Value) (t:TypeId),ob=.cells arr t (0,0)
 | .map kt es=>∃(arr:Array MapEntry) (ox:Nat),ob=.map arr ox∧arr.size=es.length∧(∀p∈es,kt.ok p.1) ∧
   ∀(i:Nat) (e:MapEntry) (kx:Value×ae),arr[i]?=some e->es[i]?=some kx->e.key=kx.1∧lV kx.1∧RV g' kx.2 e.val
 | .gone=>True
theorem Good.alloc{g:G}(hg:Good g)(ob:Obj)(lo:Nat)(o:al)(hZ:o.aC∨lo=0)(hf:Fits (g.alloc ob lo o) ob o):Good (g.alloc ob lo o) where
 frlt:=fun b off h=>by
  have:=hg.frlt b off h;show b<(g.w.heap.push ob).size;rw[Array.size_push];omega
 frown:=fun id l o' a b c off hf=>by
  rcases aK a with a|⟨a,a'⟩
  ·rcases aK b with b|⟨b,b'⟩
   ·exact hg.frown id l o' a b c off hf
   have:=I a;have:=hg.len;omega
  simp only[Option.some.injEq]at a';subst a';have eU:g.fr g.w.heap.size off:=hf;have:=hg.frlt _ _ eU;omega
 len:=by simp[G.alloc,hg.len]
 loc:=fun id l o' a b c=>by
  show l.block<(g.w.heap.push ob).size;rw[Array.size_push];rcases aK a with a|⟨a,a'⟩
  ·rcases aK b with b|⟨b,b'⟩
   ·have:=hg.loc id l o' a b c;omega
   have:=I a;have:=hg.len;omega
  simp only[Option.some.injEq]at a';subst a';show g.w.heap.size<_;omega
 apart:=fun id ux l l' o' US a b c a' b' c' hb=>by
  rcases aK a with a|⟨a1,a2⟩
  ·rcases aK a' with a'|⟨Rh,R5⟩
   ·rcases aK b with b|⟨b1,b2⟩
    ·rcases aK b' with b'|⟨W3,W4⟩
     ·exact hg.apart id ux l l' o' US a b c a' b' c' hb
     have:=I a';have:=hg.len;omega
    have:=I a;have:=hg.len;omega
   simp only[Option.some.injEq]at R5;subst R5;rcases aK b with b|⟨b1,b2⟩
   ·have:=hg.loc id l o' a b c;simp at hb;omega
   have:=I a;have:=hg.len;omega
  rcases aK a' with a'|⟨Rh,R5⟩
  ·simp only[Option.some.injEq]at a2;subst a2;rcases aK b' with b'|⟨W3,W4⟩
   ·have:=hg.loc ux l' US a' b' c';simp at hb;omega
   have:=I a';have:=hg.len;omega
  omega
 cells:=fun id cs h=>by
  rcases aK h with h|⟨hq,h'⟩
  ·obtain⟨l,arr,t,e1,e0,e2,e3,e4,e5⟩:=hg.cells id cs h;exact⟨l,arr,t,cW e1,e0,(cB _ _ (aW e2)).trans e2,e3,fun j c u a b=>(e4 j c u a b).mono (Le.alloc hg ob lo o),e5⟩
  subst h';obtain⟨arr,t,e1,e2,e3,e4⟩:=hf;refine⟨⟨g.w.heap.size,lo,lh ob⟩,arr,t,?_,?_,?_,e2,e3,e4,by rw[e1];exact Nat.le_refl _⟩
  ·subst hq;simp only[G.alloc];rw[<-hg.len];simp
  ·rcases hZ with q|q
   ·exact q.elim
   exact q
  rw[<-e1];exact cz _ _
 spare:=fun id m l a b=>by
  rcases aK a with a|⟨a,a'⟩
  ·rcases aK b with b|⟨b1,b2⟩
   ·obtain⟨arr,t,e⟩:=hg.spare id m l a b;exact⟨arr,t,(cB _ _ (aW e)).trans e⟩
   have:=I a;have:=hg.len;omega
  rcases aK b with b|⟨b1,b2⟩
  ·have:=I b;have:=hg.len;omega
  subst a';simp only[Option.some.injEq]at b2;subst b2;obtain⟨arr,t,e⟩:=hf;exact⟨arr,t,by rw[<-e];exact cz _ _⟩
 map:=fun id kt es h=>by
  rcases aK h with h|⟨hq,h'⟩
  ·obtain⟨l,arr,ox,e1,e0,e2,e3,e6,e4⟩:=hg.map id kt es h;exact⟨l,arr,ox,cW e1,e0,(cB _ _ (aW e2)).trans e2,e3,e6,fun i e kx a b=>⟨(e4 i e kx a b).1,(e4 i e kx a b).2.1,(e4 i e kx a b).2.2.mono (Le.alloc hg ob lo o)⟩⟩
  subst h';obtain⟨arr,ox,e1,e2,e3⟩:=hf;refine⟨⟨g.w.heap.size,lo,lh ob⟩,arr,ox,?_,?_,?_,e2,e3⟩
  ·subst hq;simp only[G.alloc];rw[<-hg.len];simp
  ·rcases hZ with q|q
   ·exact q.elim
   exact q
  rw[<-e1];exact cz _ _
theorem Good.mark{g:G}(hg:Good g)(m:Nat):Good (g.mark (.spare m)) where
 frlt:=hg.frlt
 frown:=fun id l o' a b c off hf=>by
  rcases aK a with a|⟨a,a'⟩
  ·rcases aK b with b|⟨b,b'⟩
   ·exact hg.frown id l o' a b c off hf
   have:=I a;have:=hg.len;omega
  cases a'
 len:=by simp[G.mark,hg.len]
 loc:=fun id l o' a b c=>by
  rcases aK a with a|⟨a,a'⟩
  ·rcases aK b with b|⟨b,b'⟩
   ·exact hg.loc id l o' a b c
   have:=I a;have:=hg.len;omega
  cases a'
 apart:=fun id ux l l' o' US a b c a' b' c' hb=>by
  rcases aK a with a|⟨a1,a2⟩
  ·rcases aK a' with a'|⟨Rh,R5⟩
   ·rcases aK b with b|⟨b1,b2⟩
    ·rcases aK b' with b'|⟨W3,W4⟩
     ·exact hg.apart id ux l l' o' US a b c a' b' c' hb
     have:=I a';have:=hg.len;omega
    have:=I a;have:=hg.len;omega
   cases R5
  cases a2
 cells:=fun id cs h=>by
  rcases aK h with h|⟨h,h'⟩
  ·obtain⟨l,arr,t,e1,e0,e2,e3,e4,e5⟩:=hg.cells id cs h;exact⟨l,arr,t,cW e1,e0,e2,e3,fun j c u a b=>(e4 j c u a b).mono (Le.mark hg _),e5⟩
  cases h'
 spare:=fun id m' l a b=>by
  rcases aK b with b|⟨b1,b2⟩
  ·rcases aK a with a|⟨a,a'⟩
   ·exact hg.spare id m' l a b
   have:=I b;have:=hg.len;omega
  cases b2
 map:=fun id kt es h=>by
  rcases aK h with h|⟨h,h'⟩
  ·obtain⟨l,arr,ox,e1,e0,e2,e3,e6,e4⟩:=hg.map id kt es h;exact⟨l,arr,ox,cW e1,e0,e2,e3,e6,fun i e kx a b=>⟨(e4 i e kx a b).1,(e4 i e kx a b).2.1,(e4 i e kx a b).2.2.mono (Le.mark hg _)⟩⟩
  cases h'
def G.bp(g:G)(id:Nat)(l':Option Loc)(o':al)(w':World):G:=⟨w',g.fr,g.env.set id l',g.objs.set id o'⟩
structure kB(g:G)(id:Nat)(o:al)(l':Option Loc)(o':al)(w':World):Prop where
 obj:g.objs[id]?=some o
 os:w'.os=g.w.os
 tape:w'.tape=g.w.tape
 output:w'.output=g.w.output
 size:g.w.heap.size<=w'.heap.size
 block:∀k,k<g.w.heap.size->(∀l:Loc,g.env[id]?=some (some l)->o.live->l.block≠k)->w'.heap[k]?=g.w.heap[k]?
 cell:∀b off x,g.cell b off=some x->(∀l:Loc,g.env[id]?=some (some l)->o.live->l.block=b->off<l.lo)->w'.cell? ⟨b,off,none⟩=some x
 place:∀l1:Loc,l'=some l1->o'.live->g.w.heap.size<=l1.block∨∃l:Loc,g.env[id]?=some (some l)∧o.live∧l.block=l1.block∧l.lo<=l1.lo
 spare:∀m,o=.spare m->(∃m',o'=.spare m'∧m<m')∨¬o'.aC
 plain:¬o.aC->¬o'.aC∧g.env[id]?=some l'
 gone:o≠.gone
theorem iq{g:G}(hg:Good g){id:Nat}{o:al}(h:g.objs[id]?=some o):id<g.env.length:=by
 have:=I h;have:=hg.len;omega
theorem mE.bp{g:G}{id:Nat}{o:al}{l':Option Loc}{o':al}{w':World}(hg:Good g)(ht:kB g id o l' o' w'){b off:Nat}(h:mE (g.bp id l' o' w') b off) :
  mE g b off∨g.w.heap.size<=b:=by
 obtain⟨i,l1,o1,h1,h2,h3,h4,h5⟩:=h;simp only[G.bp]at h1 h2;by_cases e:id=i
 ·subst e;rw[List.getElem?_set_self (iq hg ht.obj)]at h1;rw[List.getElem?_set_self (I ht.obj)]at h2;simp only[Option.some.injEq]at h1 h2;subst h2;rcases ht.place l1 h1 h3 with q|⟨l,q1,q2,q3,q4⟩
  ·exact .inr (h4 ▸ q)
  exact .inl ⟨id,l,o,q1,ht.obj,q2,q3.trans h4,Nat.le_trans q4 h5⟩
 rw[List.getElem?_set_ne e]at h1 h2;exact .inl ⟨i,l1,o1,h1,h2,h3,h4,h5⟩
theorem jJ.bp{g:G}{id:Nat}{o:al}{l':Option Loc}{o':al}{w':World}(hg:Good g)(ht:kB g id o l' o' w'){b:Nat}(h:jJ (g.bp id l' o' w') b) :
  jJ g b∨g.w.heap.size<=b:=by
 obtain⟨i,l1,o1,h1,h2,h3,h4⟩:=h;rcases mE.bp hg ht ⟨i,l1,o1,h1,h2,h3,h4,Nat.le_refl _⟩with q|q
 ·exact .inl q.block
 exact .inr q
theorem Le.bp{g:G}{id:Nat}{o:al}{l':Option Loc}{o':al}{w':World}(hg:Good g)(ht:kB g id o l' o' w'):Le g (g.bp id l' o' w') where
 os:=ht.os
 tape:=ht.tape
 output:=ht.output
 fr:=rfl
 size:=ht.size
 block:=fun k hk hn=>⟨ht.block k hk fun l hl kM e=>hn ⟨id,l,o,hl,ht.obj,kM,e⟩,fun hh=>by
  rcases jJ.bp hg ht hh with q|q
  ·exact hn q
  omega⟩
 cell:=fun b off x hx hn=>⟨ht.cell b off x hx fun l hl kM e=>by
   rcases Nat.lt_or_ge off l.lo with q|q
   ·exact q
   exact absurd ⟨id,l,o,hl,ht.obj,kM,e,q⟩ hn,fun hh=>by
  rcases mE.bp hg ht hh with q|q
  ·exact hn q
  have:=nK hx;omega⟩
 len:=by simp[G.bp]
 spare:=fun i m hm=>by
  by_cases e:id=i
  ·subst e;have la:=hm.symm.trans ht.obj;simp only[Option.some.injEq]at la;rcases ht.spare m la.symm with⟨m',q1,q2⟩|q1
   ·exact .inl ⟨m',by simp only[G.bp];rw[List.getElem?_set_self (I ht.obj),q1],by omega⟩
   exact .inr ⟨o',by simp only[G.bp];rw[List.getElem?_set_self (I ht.obj)],q1⟩
  exact .inl ⟨m,by simp only[G.bp];rw[List.getElem?_set_ne e];exact hm,Nat.le_refl _⟩
 plain:=fun i o1 ho hn=>by
  by_cases e:id=i
  ·subst e;have iC:=ho.symm.trans ht.obj;simp only[Option.some.injEq]at iC;subst iC;obtain⟨q1,q2⟩:=ht.plain hn;exact⟨⟨o',by simp only[G.bp];rw[List.getElem?_set_self (I ht.obj)],q1⟩,by simp only[G.bp];rw[List.getElem?_set_self (iq hg ht.obj),q2]⟩
  exact⟨⟨o1,by simp only[G.bp];rw[List.getElem?_set_ne e];exact ho,hn⟩,by simp only[G.bp];rw[List.getElem?_set_ne e]⟩
 gone:=fun i hi=>by
  by_cases e:id=i
  ·subst e;have:=hi.symm.trans ht.obj;simp only[Option.some.injEq]at this;exact absurd this.symm ht.gone
  simp only[G.bp];rw[List.getElem?_set_ne e];exact hi
 tok:=fun i m hm la=>by
  by_cases e:id=i
  ·subst e;have h1:=hm.symm.trans ht.obj;simp only[Option.some.injEq]at h1;simp only[G.bp]at la;rw[List.getElem?_set_self (I ht.obj)]at la;simp only[Option.some.injEq]at la;rcases ht.spare m h1.symm with⟨m',q1,q2⟩|q1
   ·rw[q1]at la;simp only[al.spare.injEq]at la;omega
   exact absurd (la ▸ trivial) q1
  refine⟨by simp only[G.bp];rw[List.getElem?_set_ne e],fun l hl=>ht.block _ (hg.loc i l _ hl hm trivial) fun l1 Rz kM eb=>?_⟩;exact e (hg.apart id i l1 l o _ Rz ht.obj kM hl hm trivial eb)
def Pe(g':G)(l':Option Loc)(o:al):Prop :=
 match o with
 | .cells cs=>∃(l:Loc) (arr:Array Value) (t:TypeId),l'=some l∧l.lo=0∧g'.w.heap[l.block]?=some (.cells arr t (0,0))∧cs.length<=arr.size ∧
   (∀(j:Nat) (c:ae) (u:Value),cs[j]?=some c->arr[j]?=some u->RV g' c u)∧(∀c∈cs,c.scalar)∧l.sz<=arr.size
 | .spare _=>∀l,l'=some l->∃(arr:Array Value) (t:TypeId),g'.w.heap[l.block]?=some (.cells arr t (0,0))
 | .map kt es=>∃(l:Loc) (arr:Array MapEntry) (ox:Nat),l'=some l∧l.lo=0∧g'.w.heap[l.block]?=some (.map arr ox)∧arr.size=es.length∧(∀p∈es,kt.ok p.1) ∧
   ∀(i:Nat) (e:MapEntry) (kx:Value×ae),arr[i]?=some e->es[i]?=some kx->e.key=kx.1∧lV kx.1∧RV g' kx.2 e.val
 | .gone=>True
theorem Good.bp{g:G}{id:Nat}{o:al}{l':Option Loc}{o':al}{w':World}(hg:Good g)(ht:kB g id o l' o' w')(hf:Pe (g.bp id l' o' w') l' o')
  (di:∀l1,l'=some l1->o'.live->l1.block<w'.heap.size):Good (g.bp id l' o' w'):=by
 have hle:=Le.bp hg ht;have Az:∀i l1,i≠id->(g.bp id l' o' w').env[i]?=some (some l1)->g.env[i]?=some (some l1):=fun i l1 bI h=>by
  simp only[G.bp]at h
  rwa [List.getElem?_set_ne (Ne.symm bI)]at h
 have jo:∀i o1,i≠id->(g.bp id l' o' w').objs[i]?=some o1->g.objs[i]?=some o1:=fun i l1 bI h=>by
  simp only[G.bp]at h
  rwa [List.getElem?_set_ne (Ne.symm bI)]at h
 have AA:∀l1,(g.bp id l' o' w').env[id]?=some l1->l'=l1:=fun l1 h=>by
  simp only[G.bp]at h;rw[List.getElem?_set_self (iq hg ht.obj)]at h;simpa using h
 have uv:∀o1,(g.bp id l' o' w').objs[id]?=some o1->o'=o1:=fun l1 h=>by
  simp only[G.bp]at h;rw[List.getElem?_set_self (I ht.obj)]at h;simpa using h
 have ye:∀i l1 o1,i≠id->g.env[i]?=some (some l1)->g.objs[i]?=some o1->o1.live->w'.heap[l1.block]?=g.w.heap[l1.block]?:=fun i l1 o1 bI h1 h2 h3 =>
  ht.block _ (hg.loc i l1 o1 h1 h2 h3) fun l2 C' kM eb=>bI (hg.apart id i l2 l1 o o1 C' ht.obj kM h1 h2 h3 eb).symm
 refine⟨fun b off h=>Nat.lt_of_lt_of_le (hg.frlt b off h) ht.size,?_,?_,?_,?_,?_,?_,?_⟩
 ·intro i l1 o1 h1 h2 h3 off SY;have l4:g.fr l1.block off:=SY;by_cases e:i=id
  ·subst e;have q1:=AA _ h1;have q2:=uv _ h2;subst q2;rcases ht.place l1 q1 h3 with q|⟨l,p1,p2,p3,_⟩
   ·have:=hg.frlt _ _ l4;omega
   exact hg.frown i l o p1 ht.obj p2 off (p3 ▸ l4)
  exact hg.frown i l1 o1 (Az i l1 e h1) (jo i o1 e h2) h3 off l4
 ·simp[G.bp,hg.len]
 ·intro i l1 o1 h1 h2 h3;by_cases e:i=id
  ·subst e;have:=AA _ h1;have:=uv _ h2;subst this;exact di l1 (by assumption) h3
  have:=hg.loc i l1 o1 (Az i l1 e h1) (jo i o1 e h2) h3;exact Nat.lt_of_lt_of_le this ht.size
 ·intro i j l1 l2 o1 o2 h1 h2 h3 k1 k2 k3 hb;by_cases e:i=id
  ·by_cases e':j=id
   ·omega
   subst e;have q1:=AA _ h1;have q2:=uv _ h2;subst q2;have r1:=Az j l2 e' k1;have r2:=jo j o2 e' k2;rcases ht.place l1 q1 h3 with q|⟨l,p1,p2,p3,_⟩
   ·have:=hg.loc j l2 o2 r1 r2 k3;omega
   exact hg.apart i j l l2 o o2 p1 ht.obj p2 r1 r2 k3 (p3.trans hb)
  by_cases e':j=id
  ·subst e';have q1:=AA _ k1;have q2:=uv _ k2;subst q2;have r1:=Az i l1 e h1;have r2:=jo i o1 e h2;rcases ht.place l2 q1 k3 with q|⟨l,p1,p2,p3,_⟩
   ·have:=hg.loc i l1 o1 r1 r2 h3;omega
   exact hg.apart i j l1 l o1 o r1 r2 h3 p1 ht.obj p2 (hb.trans p3.symm)
  exact hg.apart i j l1 l2 o1 o2 (Az i l1 e h1) (jo i o1 e h2) h3 (Az j l2 e' k1) (jo j o2 e' k2) k3 hb
 ·intro i cs h;by_cases e:i=id
  ·subst e;have q:=uv _ h;subst q;obtain⟨l,arr,t,p1,p2,p3,p4,p5,p6⟩:=hf;exact⟨l,arr,t,by simp only[G.bp];rw[List.getElem?_set_self (iq hg ht.obj),p1],p2,p3,p4,p5,p6⟩
  obtain⟨l,arr,t,p1,p2,p3,p4,p5,p6⟩:=hg.cells i cs (jo i _ e h);exact⟨l,arr,t,by simp only[G.bp];rw[List.getElem?_set_ne (Ne.symm e)];exact p1,p2,(ye i l _ e p1 (jo i _ e h) trivial).trans p3,p4,fun j c u a b=>(p5 j c u a b).mono hle,p6⟩
 ·intro i m l1 h h1;by_cases e:i=id
  ·subst e;have q:=uv _ h;subst q;exact hf l1 (AA _ h1)
  obtain⟨arr,t,p⟩:=hg.spare i m l1 (jo i _ e h) (Az i l1 e h1);exact⟨arr,t,(ye i l1 _ e (Az i l1 e h1) (jo i _ e h) trivial).trans p⟩
 intro i kt es h;by_cases e:i=id
 ·subst e;have q:=uv _ h;subst q;obtain⟨l,arr,ox,p1,p2,p3,p4,p6,p5⟩:=hf;exact⟨l,arr,ox,by simp only[G.bp];rw[List.getElem?_set_self (iq hg ht.obj),p1],p2,p3,p4,p6,p5⟩
 obtain⟨l,arr,ox,p1,p2,p3,p4,p6,p5⟩:=hg.map i kt es (jo i _ e h);exact⟨l,arr,ox,by simp only[G.bp];rw[List.getElem?_set_ne (Ne.symm e)];exact p1,p2,(ye i l _ e p1 (jo i _ e h) trivial).trans p3,p4,p6,fun j e kx a b=>⟨(p5 j e kx a b).1,(p5 j e kx a b).2.1,(p5 j e kx a b).2.2.mono hle⟩⟩
end Go.Av
namespace Go.Av
inductive TD where
 | other
 | struct (fs:List (Nat×TypeId))
 | slice (e:TypeId)
 | array (n:Nat) (e:TypeId)
 | map (k e:TypeId)
structure cc where
 size:Nat
 bytes:Nat
 zero:List ae
 desc:TD
def TD.agg:TD->Bool
 | .struct _ | .array _ _=>true
 | _=>false
def tV(d:TypeDesc):TD->Prop
 | .struct fs=>∃fields:Array Field,d=.struct fields∧fields.toList.map (fun f=>(f.offset,f.type))=fs
 | .slice e=>d=.slice e
 | .array n e=>d=.array n e
 | .map k e=>d=.map k e
 | .other=>(match d with | .struct _=>False | .array _ _=>False | _=>True)
structure Uq(P:Program)(t:TypeId)(ti:cc):Prop where
 info:∃(i:TypeInfo) (z:Value),P.info? t=some i∧i.size=ti.size∧i.bytes=ti.bytes∧i.zero=some z∧z.cells.size=ti.zero.length∧ti.zero.length=ti.size ∧
  ((ti.desc.agg=true->∃cs,z=.agg cs)∧(ti.desc.agg=false->z.cells = #[z]))∧(∀g:G,∀(j:Nat) (c:ae) (u:Value),ti.zero[j]?=some c->z.cells[j]?=some u->RV g c u)∧∀c∈ti.zero,c.scalar
 desc:∃d,P.underlying t=some d∧tV d ti.desc
abbrev ed:=TypeId->Option cc
def bY(P:Program)(aR:ed):Prop:=∀t ti,aR t=some ti->Uq P t ti
def Lm:IntKind->Int
 | .i8=>-128
 | .i16=>-32768
 | .i32=>-2147483648
 | .i64=>-9223372036854775808
 | _=>0
def GC:IntKind->Int
 | .i8=>127
 | .i16=>32767
 | .i32=>2147483647
 | .i64=>9223372036854775807
 | .u8=>255
 | .u16=>65535
 | .u32=>4294967295
 | .u64=>18446744073709551615
theorem Dp(k:IntKind):Lm k=k.min:=by cases k<;>rfl
theorem C9(k:IntKind):GC k=k.max:=by cases k<;>rfl
def tn:Value->Option ae
 | .int k n=>if Lm k<=n∧n<=GC k then some (.v (.int k n))else none
 | .agg _=>none
 | .tuple _=>none
 | x=>some (.v x)
def St.ev(σ:St):Operand->Option ae
 | .tmp t=>σ.get t
 | .const x=>tn x
 | .func f=>some (.fn (.func f) [] [])
 | .global _=>none
theorem Rel.eval{base:G}{σ:St}{a:Act}{g:G}(h:Rel base σ a g){x:Operand}{y:ae}(hx:σ.ev x=some y):RV g y (a.eval x):=by
 cases x with
 | tmp t =>
  obtain⟨u,h1,h2⟩:=h.slot t y hx;have:a.eval (.tmp t)=u:=by simp[Act.eval,Array.getD_eq_getD_getElem?,h1]
  rw[this];exact h2
 | const v =>
  simp only[St.ev]at hx;unfold tn at hx;split at hx
  ·split at hx
   ·rename_i hh;simp only[Option.some.injEq]at hx;subst hx;rw[Dp,C9]at hh;exact .v hh
   cases hx
  ·cases hx
  ·cases hx
  rename_i h1 h2 h3;simp only[Option.some.injEq]at hx;subst hx;refine .v ?_;unfold lV;split
  ·rename_i k n;exact absurd rfl (h1 k n)
  ·rename_i cs;exact absurd rfl (h2 cs)
  ·rename_i vs;exact absurd rfl (h3 vs)
  trivial
 | func f =>
  simp only[St.ev,Option.some.injEq]at hx;subst hx;exact .fn rfl rfl (by simp) (by simp)
 | global _=>cases hx
inductive Mode where
 | pure
 | read
 | rd (id:Nat)
 | write (O:List al)
 | wr (n:Nat) (l:List Nat) (O:List al)
 | new (id:Nat) (o:al)
def Mode.post(m:Mode)(O:List al):List al :=
 match m with
 | .write O'=>O'
 | .wr _ _ O'=>O'
 | .new id o=>O.set id o
 | _=>O
def Mode.agree(m:Mode)(O O0:List al):Prop :=
 match m with
 | .pure=>True
 | .rd id=>O[id]?=O0[id]?
 | .new id _=>O[id]?=O0[id]?
 | _=>O=O0
def Mode.ok(m:Mode)(O:List al):Prop :=
 match m with
 | .wr n l O'=>∀i,i<n->i ∉ l->O'[i]?=O[i]?
 | _=>True
theorem Mode.tp{m:Mode}{O O0:List al}(h:m=.pure∨O=O0):m.agree O O0:=by
 rcases h with h|h
 ·subst h;trivial
 subst h;cases m<;>first|trivial|rfl
def oD(d:Option Nat)(r:ae)(l:List (Nat×ae)):List (Nat×ae) :=
 match d with
 | some d=>bq d r l
 | none=>l
def Cert(P:Program)(o:Oper)(qV:St)(r:ae)(m:Mode):Prop :=
 m.ok qV.objs∧∀(base:G) (σ:St) (a:Act) (g:G),Rel base σ a g->σ.n=qV.n->(∀x∈o.op.operands,∀y,qV.ev x=some y->σ.ev x=some y)->m.agree σ.objs qV.objs ->
  ∀(K:Act->World->Prop) (Q:Exit->Act->World->Prop),(∀u g',Rel base ⟨σ.n,oD o.dst r σ.bf,m.post σ.objs⟩ (a.put o.dst u) g'->K (a.put o.dst u) g'.w)->o.wp P a g.w K Q
theorem Cert.tg{P:Program}{o:Oper}{qV:St}{r:ae}{m:Mode}(jG:m.ok qV.objs)(hd:∀d,o.dst=some d->d<qV.n)
  (h:∀(base:G) (σ:St) (a:Act) (g:G),Rel base σ a g->(∀x∈o.op.operands,∀y,qV.ev x=some y->RV g y (a.eval x))->m.agree g.objs qV.objs ->
   ∃u g',((execOp a.eval o).run P g.w=.ok (.value u) g'.w∨(o.dst=none∧(execOp a.eval o).run P g.w=.ok .skip g'.w))∧Le g g'∧Good g'∧g'.objs=m.post g.objs∧RV g' r u):Cert P o qV r m:=by
 refine⟨jG,?_⟩;intro base σ a g bE hn my hm K Q hK;obtain⟨u,g',bw,hle,c7,Tu,uw⟩:=h base σ a g bE (fun x hx y hy=>bE.eval (my x hx y hy)) (by rw[bE.objs];exact hm);have key:Rel base ⟨σ.n,oD o.dst r σ.bf,m.post σ.objs⟩ (a.put o.dst u) g':=by
  have e:g'.objs=m.post σ.objs:=by rw[Tu,bE.objs]
  cases jm:o.dst with
  | none =>
   have:=bE.step hle c7;rw[e]at this;exact this
  | some d =>
   have:=bE.put hle c7 (d:=d) (by rw[hn];exact hd d jm) uw;rw[e]at this;exact this
 unfold Oper.wp;rcases bw with bw|⟨BP,bw⟩
 ·rw[bw,Oper.upon_value];exact hK u g' key
 rw[bw,Oper.upon_skip];have:=hK u g' key;rw[BP]at this ⊢;exact this
def Mode.plain:Mode->Prop
 | .rd _=>False
 | .wr _ _ _=>False
 | .new _ _=>False
 | _=>True
theorem Mode.JW{m:Mode}(hp:m.plain){O O0:List al}(h:m.agree O O0):m=.pure∨O=O0:=by
 cases m<;>first|exact .inl rfl|exact .inr h|exact hp.elim
theorem Cert.ix{P:Program}{o:Oper}{qV:St}{r:ae}{m:Mode}(hd:∀d,o.dst=some d->d<qV.n)
  (h:∀(base:G) (σ:St) (a:Act) (g:G),Rel base σ a g->(∀x∈o.op.operands,∀y,qV.ev x=some y->RV g y (a.eval x))->(m=.pure∨g.objs=qV.objs) ->
   ∃u g',((execOp a.eval o).run P g.w=.ok (.value u) g'.w∨(o.dst=none∧(execOp a.eval o).run P g.w=.ok .skip g'.w))∧Le g g'∧Good g'∧g'.objs=m.post g.objs∧RV g' r u) (hp:m.plain:=by trivial):Cert P o qV r m :=
 Cert.tg (by cases m<;>first|trivial|exact hp.elim) hd fun base σ a g bE my hm=>h base σ a g bE my (m.JW hp hm)
theorem Cert.close{P:Program}{o:Oper}{qV:St}{r:ae}{O':List al}(h:Cert P o qV r (.write O')){n:Nat}{l:List Nat}(hk:∀i,i<n->i ∉ l->O'[i]?=qV.objs[i]?):Cert P o qV r (.wr n l O'):=⟨hk,h.2⟩
theorem Cert.bK{P:Program}{o:Oper}{qV:St}{r:ae}(m:Mode)(hm:m=.pure∨m=.read)(hd:∀d,o.dst=some d->d<qV.n)
  (h:∀(a:Act) (g:G),Good g->(∀x∈o.op.operands,∀y,qV.ev x=some y->RV g y (a.eval x))->(m=.pure∨g.objs=qV.objs) ->
   ∃u,(execOp a.eval o).run P g.w=.ok (.value u) g.w∧RV g r u):Cert P o qV r m :=
 Cert.ix (hp:=by rcases hm with hm|hm<;>subst hm<;>trivial) hd fun base σ a g bE my ho=>by
  obtain⟨u,h1,h2⟩:=h a g bE.good my ho;refine⟨u,g,.inl h1,Le.refl g,bE.good,?_,h2⟩;rcases hm with hm|hm<;>subst hm<;>rfl
theorem Cert.Qw{P:Program}{o:Oper}{qV:St}{r:ae}{id:Nat}(hd:∀d,o.dst=some d->d<qV.n)
  (h:∀(a:Act) (g:G),Good g->(∀x∈o.op.operands,∀y,qV.ev x=some y->RV g y (a.eval x))->g.objs[id]?=qV.objs[id]? ->
   ∃u,(execOp a.eval o).run P g.w=.ok (.value u) g.w∧RV g r u):Cert P o qV r (.rd id) :=
 Cert.tg trivial hd fun base σ a g bE my ho=>by
  obtain⟨u,h1,h2⟩:=h a g bE.good my ho;exact⟨u,g,.inl h1,Le.refl g,bE.good,rfl,h2⟩
theorem addr_add(b off j:Nat):(⟨b,off,none⟩:Addr).add j=⟨b,off+j,none⟩:=by
 unfold Addr.add;split
 ·rename_i h;subst h;rfl
 rfl
section
variable {P:Program} {t:TypeId} {ti:cc}
theorem Uq.sizeOf(h:Uq P t ti)(w:World):(Go.sizeOf t).run P w=.ok ti.size w:=by
 obtain⟨⟨i,z,h1,h2,_⟩,_⟩:=h;simp[Go.sizeOf,typeInfo,h1,h2]
theorem Uq.isAgg(h:Uq P t ti)(w:World):(Go.isAgg t).run P w=.ok ti.desc.agg w:=by
 obtain⟨_,d,h1,h2⟩:=h;simp only[Go.isAgg,Go.underlying,Sem.run_bind,run_program,Result.andThen_ok,h1];cases hd:ti.desc<;>rw[hd]at h2<;>simp only[tV]at h2
 ·cases d<;>simp_all [TD.agg]
 ·obtain⟨fs,h3,_⟩:=h2;subst h3;simp[TD.agg]
 ·subst h2;simp[TD.agg]
 ·subst h2;simp[TD.agg]
 subst h2;simp[TD.agg]
theorem Uq.zeroValue(h:Uq P t ti):∃z,(∀w,(Go.zeroValue t).run P w=.ok z w)∧z.cells.size=ti.zero.length∧ti.zero.length=ti.size∧(ti.desc.agg=true->∃cs,z=.agg cs) ∧
  (∀g:G,∀(j:Nat) (c:ae) (u:Value),ti.zero[j]?=some c->z.cells[j]?=some u->RV g c u)∧∀c∈ti.zero,c.scalar:=by
 obtain⟨⟨i,z,h1,h2,h3,h4,h5,h6,h7,h8,h9⟩,_⟩:=h;exact⟨z,fun w=>by simp[Go.zeroValue,typeInfo,h1,h4],h5,h6,h7.1,h8,h9⟩
theorem Uq.sd(h:Uq P t ti)(e9:ti.desc.agg=true)(w:World)(b off:Nat)(f:Nat->Value)(hc:∀j,j<ti.size->w.cell? ⟨b,off+j,none⟩=some (f j)) :
  (loadVar t ⟨b,off,none⟩).run P w=.ok (.agg ((List.range ti.size).map f).toArray) w:=by
 have hl:=run_loadCells (P:=P) w ⟨b,off,none⟩ ti.size f (fun j hj=>by rw[addr_add];exact hc j hj);simp[loadVar,h.isAgg,h.sizeOf,e9,hl]
theorem Uq.qy(h:Uq P t ti)(e9:ti.desc.agg=false)(w:World)(a:Addr)(u:Value)(hc:w.cell? a=some u):(loadVar t a).run P w=.ok u w:=by
 simp[loadVar,h.isAgg,e9,hc]
end
theorem mu(k:IntKind)(n:Int)(h1:k.min<=n)(h2:n<=k.max):k.wrap n=n:=by
 cases k<;>simp[IntKind.min,IntKind.max,IntKind.wrap,IntKind.bits,IntKind.signed]at *<;>omega
theorem RV.kO{g:G}{x:ae}{u:Value}(h:RV g x u)(hs:x.scalar):u.oneCell'=true∧u.cells = #[u]:=by
 cases h with
 | v hx =>
  cases u<;>simp[lV]at hx<;>simp[Value.oneCell',Value.cells]
 | agg=>exact hs.elim
 | cK=>exact hs.elim
 | nil=>simp[Value.oneCell',Value.cells]
 | aB=>simp[Value.oneCell',Value.cells]
 | ip=>simp[Value.oneCell',Value.cells]
 | mp=>simp[Value.oneCell',Value.cells]
 | ms=>simp[Value.oneCell',Value.cells]
 | os=>simp[Value.oneCell',Value.cells]
 | raw=>simp[Value.oneCell',Value.cells]
 | mm=>simp[Value.oneCell',Value.cells]
 | im=>simp[Value.oneCell',Value.cells]
 | fn=>simp[Value.oneCell',Value.cells]
theorem RV.cells{g:G}{x:ae}{u:Value}(h:RV g x u)(hs:∀c∈x.cells,c.scalar):u.cells.size=x.cells.length∧∀(j:Nat) (c:ae) (e:Value),x.cells[j]?=some c->u.cells[j]?=some e->RV g c e:=by
 by_cases hx:x.scalar
 ·have:=(h.kO hx).2;have hc:x.cells=[x]:=by
   cases x<;>simp[ae.scalar]at hx<;>rfl
  rw[this,hc];refine⟨rfl,fun j c e h1 h2=>?_⟩
  match j,h1,h2 with
  | 0,h1,h2 =>
   simp at h1 h2;subst h1;subst h2;exact h
 cases h with
 | agg hl ia hh=>exact⟨hl,hh⟩
 | cK=>exact absurd (hs _ (List.mem_singleton.2 rfl)) (by simp[ae.scalar])
 | _=>exact absurd trivial hx
theorem vV{α:Type}(l:List α)(n:Nat)(f:Nat->α)(hn:l.length=n)(h:∀j,j<n->l[j]?=some (f j)):(List.range n).map f=l:=by
 apply List.ext_getElem?;intro i;rcases Nat.lt_or_ge i n with hi|hi
 ·rw[h i hi];simp[hi]
 rw[List.getElem?_eq_none (by simpa using hi),List.getElem?_eq_none (by omega)]
theorem RV.ofRow{g:G}(cs:List ae)(f:Nat->Value)(ia:∀c∈cs,c.scalar)(hr:∀(j:Nat)(c:ae),cs[j]?=some c->RV g c (f j)):RV g (.agg cs) (.agg ((List.range cs.length).map f).toArray) :=
 .agg (by simp) ia fun i c u h1 h2=>by
  have hi:=I h1;simp[hi]at h2;subst h2;exact hr i c h1
theorem RV.bV{g:G}{x u:Value}(h:RV g (.v x) u):u=x∧lV x:=by
 cases h with
 | v h=>exact⟨rfl,h⟩
theorem RV.po{g:G}{oa:Option Addr}{cs:List ae}{u:Value}(h:RV g (.ip oa cs) u):∃(b off:Nat) (f:Nat->Value),u=.pointer (some ⟨b,off,none⟩)∧(oa=none∨oa=some ⟨b,off,none⟩)∧(∀c∈cs,c.scalar) ∧
  (∀(j:Nat) (c:ae),cs[j]?=some c->g.cell b (off+j)=some (f j)∧¬xG g b (off+j))∧∀(j:Nat) (c:ae),cs[j]?=some c->RV g c (f j):=by
 cases h with
 | ip ha ia f hm hr=>exact⟨_,_,f,rfl,ha,ia,hm,hr⟩
theorem RV.ng{g:G}{id off:Nat}{u:Value}(h:RV g (.mp id off) u):∃(l:Loc) (o:al),g.env[id]?=some (some l)∧g.objs[id]?=some o∧¬o.aC∧u=.pointer (some ⟨l.block,off,none⟩):=by
 cases h with
 | mp he ho hn=>exact⟨_,_,he,ho,hn,rfl⟩
theorem RV.rE{g:G}{id off len cap:Nat}{u:Value}(h:RV g (.ms id off len cap) u):∃(l:Loc) (o:al),g.env[id]?=some (some l)∧g.objs[id]?=some o∧¬o.aC∧len<=cap∧len<=2 ^ 62∧∃gY,cap<=gY∧u=.slice (some ⟨l.block,off,none⟩) len gY:=by
 cases h with
 | ms he ho hn hc Gt gu=>exact⟨_,_,he,ho,hn,hc,gu,_,Gt,rfl⟩
theorem RV.rG{g:G}{id len sz:Nat}{u:Value}(h:RV g (.os id len sz) u):∃(l:Loc) (o:al) (cap:Nat),g.env[id]?=some (some l)∧g.objs[id]?=some o∧¬o.aC∧len<=cap∧cap*sz<=l.sz∧len<=2 ^ 62∧u=.slice (some ⟨l.block,0,none⟩) len cap:=by
 cases h with
 | os he ho hn hc hb gu=>exact⟨_,_,_,he,ho,hn,hc,hb,gu,rfl⟩
theorem RV.UT{g:G}{sz n id:Nat}{u:Value}(h:RV g (.raw sz n id) u):∃(a:Addr) (cap:Nat),u=.slice (some a) n cap∧n<=cap∧H2 g (.tok id) a sz 0 cap:=by
 cases h with
 | raw hn ho=>exact⟨_,_,rfl,hn,ho⟩
theorem RV.Qu{g:G}{id:Nat}{u:Value}(h:RV g (.mm id) u):∃(l:Loc) (o:al),g.env[id]?=some (some l)∧g.objs[id]?=some o∧¬o.aC∧u=.map (some l.block):=by
 cases h with
 | mm he ho hn=>exact⟨_,_,he,ho,hn,rfl⟩
theorem RV.Lw{g:G}{cs:List ae}{u:Value}(h:RV g (.agg cs) u):∃vs:Array Value,u=.agg vs∧vs.size=cs.length∧(∀c∈cs,c.scalar)∧∀(i:Nat) (c:ae) (e:Value),cs[i]?=some c->vs[i]?=some e->RV g c e:=by
 cases h with
 | agg hl ia h=>exact⟨_,rfl,hl,ia,h⟩
theorem RV.UX{g:G}{cs:List ae}{u:Value}(h:RV g (.cK cs) u):∃vs:Array Value,u=.tuple vs∧vs.size=cs.length∧∀(i:Nat) (c:ae) (e:Value),cs[i]?=some c->vs[i]?=some e->RV g c e:=by
 cases h with
 | cK hl h=>exact⟨_,rfl,hl,h⟩
theorem RV.Pv{g:G}{f:Fn}{fs cs:List ae}{u:Value}(h:RV g (.fn f fs cs) u):∃us vs:Array Value,u=.func f us vs∧us.size=fs.length∧vs.size=cs.length ∧
  (∀(i:Nat) (c:ae) (e:Value),fs[i]?=some c->us[i]?=some e->RV g c e)∧∀(i:Nat) (c:ae) (e:Value),cs[i]?=some c->vs[i]?=some e->RV g c e:=by
 cases h with
 | fn hl UJ h h'=>exact⟨_,_,rfl,hl,UJ,h,h'⟩
theorem RV.WJ{g:G}{kt:KT}{es:List (Value×ae)}{u:Value}(h:RV g (.im kt es) u):∃(r ox:Nat) (arr:Array MapEntry),u=.map (some r)∧g.w.heap[r]?=some (.map arr ox)∧arr.size=es.length ∧
  (∀(i:Nat) (e:MapEntry) (kx:Value×ae),arr[i]?=some e->es[i]?=some kx->e.key=kx.1)∧(∀p∈es,kt.ok p.1)∧∀(i:Nat) (e:MapEntry) (kx:Value×ae),arr[i]?=some e->es[i]?=some kx->RV g kx.2 e.val:=by
 cases h with
 | im hh hn hl hk PV hr=>exact⟨_,_,_,rfl,hh,hl,hk,PV,hr⟩
theorem RV.fH{g:G}{sz:Nat}{xs:List ae}{o:pP}{u:Value}(h:RV g (.aB sz xs o) u) :
  (u=.slice none 0 0∧xs=[])∨∃(a:Addr) (cap:Nat) (f:Nat->Value),u=.slice (some a) xs.length cap∧(∀x∈xs,x.cells.length=sz)∧(∀x∈xs,∀c∈x.cells,c.scalar)∧xs.length<=cap∧xs.length<=2 ^ 62∧(xs≠[]->a.spot=none) ∧
   (∀(j:Nat) (c:ae),(ao xs)[j]?=some c->g.cell a.block (a.off+j)=some (f j)∧¬xG g a.block (a.off+j))∧(∀(j:Nat) (c:ae),(ao xs)[j]?=some c->RV g c (f j))∧H2 g o a sz xs.length cap:=by
 cases h with
 | nil=>exact .inl ⟨rfl,rfl⟩
 | aB di ia ee gu hs f hm hr ho=>exact .inr ⟨_,_,f,rfl,di,ia,ee,gu,hs,hm,hr,ho⟩
theorem RV.MG{g:G}{sz:Nat}{xs:List ae}{o:pP}{u:Value}(h:RV g (.aB sz xs o) u):xs.length<=2 ^ 62:=by
 rcases h.fH with⟨_,h⟩|⟨_,_,_,_,_,_,_,h,_⟩
 ·subst h;simp
 exact h
theorem RV.RO{g:G}{sz:Nat}{xs:List ae}{o:pP}{u:Value}(h:RV g (.aB sz xs o) u):RV g (.aB sz xs .sh) u:=by
 cases h with
 | nil=>exact .nil (fun id e=>by cases e) (by simp)
 | aB di ia ee gu hs f hm hr ho=>exact .aB di ia ee gu hs f hm hr trivial
theorem kG{sz:Nat}{xs:List ae}(di:∀x∈xs,x.cells.length=sz){i j:Nat}{x c:ae}(hx:xs[i]?=some x)(hc:x.cells[j]?=some c):(ao xs)[i*sz+j]?=some c:=by
 induction xs generalizing i with
 | nil=>simp at hx
 | cons y ys ih =>
  have hy:=di y (by simp);cases i with
  | zero =>
   simp at hx;subst hx;simp only[ao,List.flatMap_cons,Nat.zero_mul,Nat.zero_add];rw[List.getElem?_append,if_pos (I hc)];exact hc
  | succ i =>
   simp at hx;have:=ih (fun x hx=>di x (by simp[hx])) hx;simp only[ao,List.flatMap_cons]at this ⊢;rw[List.getElem?_append,if_neg (by rw[hy,Nat.succ_mul];omega),hy];rw[show(i+1)*sz+j-sz=i*sz+j by rw[Nat.succ_mul];omega];exact this
theorem ca{sz:Nat}{xs:List ae}(di:∀x∈xs,x.cells.length=sz):(ao xs).length=xs.length*sz:=by
 induction xs with
 | nil=>simp[ao]
 | cons y ys ih =>
  have hy:=di y (by simp);have:=ih (fun x hx=>di x (by simp[hx]));simp only[ao,List.flatMap_cons,List.length_append,List.length_cons]at this ⊢;rw[this,hy,Nat.succ_mul];omega
theorem F5{P:Program}{o:Oper}{σ:St}{x:Operand}{y:ae}(ho:o.op=.move x∨o.op=.assign x)(hd:∀d,o.dst=some d->d<σ.n)(hx:σ.ev x=some y):Cert P o σ y .pure :=
 Cert.bK .pure (.inl rfl) hd fun a g _ h _=>⟨a.eval x,by rcases ho with ho|ho<;>simp[execOp,ho],h x (by rcases ho with ho|ho<;>simp[ho,Op.operands]) y hx⟩
theorem Iw{P:Program}{o:Oper}{σ:St}(sz:Nat)(ho:o.op=.move (.const (.slice none 0 0))∨o.op=.assign (.const (.slice none 0 0)))(hd:∀d,o.dst=some d->d<σ.n):Cert P o σ (.aB sz [] .ex) .pure :=
 Cert.bK .pure (.inl rfl) hd fun a g _ _ _=>⟨.slice none 0 0,by rcases ho with ho|ho<;>simp[execOp,ho,Act.eval],.nil (fun id e=>by cases e) (by simp)⟩
theorem wC{P:Program}{o:Oper}{σ:St}{c x z:Operand}{b:Bool}{y:ae}(ho:o.op=.pick c x z)(hd:∀d,o.dst=some d->d<σ.n)(hc:σ.ev c=some (.v (.bool b)))
  (hx:b=true->σ.ev x=some y) (hz:b=false->σ.ev z=some y):Cert P o σ y .pure :=
 Cert.bK .pure (.inl rfl) hd fun a g _ h _=>by
  have e2:=(h c (by simp[ho,Op.operands]) _ hc).bV.1;cases b
  ·exact⟨a.eval z,by simp[execOp,ho,e2,asBool],h z (by simp[ho,Op.operands]) y (hz rfl)⟩
  exact⟨a.eval x,by simp[execOp,ho,e2,asBool],h x (by simp[ho,Op.operands]) y (hx rfl)⟩
theorem lI{α:Type}{l:List α}{n j:Nat}{c:α}(h:(l.take n)[j]?=some c):l[j]?=some c:=by
 rw[List.getElem?_take]at h;split at h
 ·exact h
 cases h
theorem xT{P:Program}{aR:ed}(hT:bY P aR){o:Oper}{σ:St}{t:TypeId}{x:Operand}{ti:cc}{oa:Option Addr}{cs:List ae}(ho:o.op=.load t x)(hd:∀d,o.dst=some d->d<σ.n)
  (ht:aR t=some ti) (hx:σ.ev x=some (.ip oa cs)) (e9:ti.desc.agg=true) (hs:ti.size<=cs.length):Cert P o σ (.agg (cs.take ti.size)) .pure :=
 Cert.bK .pure (.inl rfl) hd fun a g _ h _=>by
  obtain⟨b,off,f,e,_,ia,hm,hr⟩:=(h x (by simp[ho,Op.operands]) _ hx).po;have bw:=(hT t ti ht).sd e9 g.w b off f (fun j hj=>(hm j _ (List.getElem?_eq_getElem (by omega))).1);have hlen:(cs.take ti.size).length=ti.size:=by simp;omega
  refine⟨.agg ((List.range ti.size).map f).toArray,by simp[execOp,ho,e,Instr.loadAt,Instr.sureAddr,bw],?_⟩;have:=RV.ofRow (g:=g) (cs.take ti.size) f (fun c hc=>ia c (List.mem_of_mem_take hc)) (fun j c hj=>hr j c (lI hj));rw[hlen]at this;exact this
theorem vC{P:Program}{aR:ed}(hT:bY P aR){o:Oper}{σ:St}{t:TypeId}{x:Operand}{ti:cc}{oa:Option Addr}{cs:List ae}{c:ae}(ho:o.op=.load t x)(hd:∀d,o.dst=some d->d<σ.n)
  (ht:aR t=some ti) (hx:σ.ev x=some (.ip oa cs)) (e9:ti.desc.agg=false) (hs:cs[0]?=some c):Cert P o σ c .pure :=
 Cert.bK .pure (.inl rfl) hd fun a g _ h _=>by
  obtain⟨b,off,f,e,_,ia,hm,hr⟩:=(h x (by simp[ho,Op.operands]) _ hx).po;have bw:=(hT t ti ht).qy e9 g.w ⟨b,off,none⟩ (f 0) (hm 0 c hs).1;exact⟨f 0,by simp[execOp,ho,e,Instr.loadAt,Instr.sureAddr,bw],hr 0 c hs⟩
theorem Good.row{g:G}(hg:Good g){id:Nat}{cs:List ae}{l:Loc}(ho:g.objs[id]?=some (.cells cs))(he:g.env[id]?=some (some l)) :
  ∃(arr:Array Value) (t:TypeId),l.lo=0∧g.w.heap[l.block]?=some (.cells arr t (0,0))∧cs.length<=arr.size∧(∀(j:Nat) (c:ae) (u:Value),cs[j]?=some c->arr[j]?=some u->RV g c u)∧(∀c∈cs,c.scalar)∧l.sz<=arr.size:=by
 obtain⟨l',arr,t,h1,h2,h3,h4,h5,h6⟩:=hg.cells id cs ho;rw[he]at h1;simp only[Option.some.injEq]at h1;subst h1;exact⟨arr,t,h2,h3,h4,h5,h6⟩
theorem cell_of_row{w:World}{b:Nat}{arr:Array Value}{t:TypeId}{fz:Nat×Nat}(h:w.heap[b]?=some (.cells arr t fz))(off:Nat):w.cell? ⟨b,off,none⟩=arr[off]?:=by
 simp[World.cell?,h]
theorem xU{P:Program}{aR:ed}(hT:bY P aR){o:Oper}{σ:St}{t:TypeId}{x:Operand}{ti:cc}{id off:Nat}{cs:List ae}(ho:o.op=.load t x)(hd:∀d,o.dst=some d->d<σ.n)
  (ht:aR t=some ti) (hx:σ.ev x=some (.mp id off)) (vP:σ.objs[id]?=some (.cells cs)) (e9:ti.desc.agg=true) (hs:off+ti.size<=cs.length):Cert P o σ (.agg ((cs.drop off).take ti.size)) (.rd id) :=
 Cert.Qw hd fun a g hg h hO=>by
  obtain⟨l,o1,he,h1,_,e⟩:=(h x (by simp[ho,Op.operands]) _ hx).ng;obtain⟨arr,t',_,de,hlen,uw,ia,_⟩:=hg.row (by rw[hO];exact vP) he;obtain⟨f,hf⟩:∃f:Nat->Value,∀j,off+j<arr.size->arr[off+j]?=some (f j):=⟨fun j=>arr.getD (off+j) undef,fun j hj=>by simp[Array.getD_eq_getD_getElem?,hj]⟩
  have bw:=(hT t ti ht).sd e9 g.w l.block off f (fun j hj=>by
   rw[cell_of_row de];exact hf j (by omega))
  have hl:((cs.drop off).take ti.size).length=ti.size:=by simp;omega
  refine⟨.agg ((List.range ti.size).map f).toArray,by simp[execOp,ho,e,Instr.loadAt,Instr.sureAddr,bw],?_⟩;have:=RV.ofRow (g:=g) ((cs.drop off).take ti.size) f (fun c hc=>ia c (List.mem_of_mem_drop (List.mem_of_mem_take hc))) (fun j c hj=>by
   have gZ:=lI hj;rw[List.getElem?_drop]at gZ;have aZ:=I gZ;exact uw (off+j) c _ gZ (hf j (by omega)))
  rw[hl]at this;exact this
theorem vD{P:Program}{aR:ed}(hT:bY P aR){o:Oper}{σ:St}{t:TypeId}{x:Operand}{ti:cc}{id off:Nat}{cs:List ae}{c:ae}(ho:o.op=.load t x)(hd:∀d,o.dst=some d->d<σ.n)
  (ht:aR t=some ti) (hx:σ.ev x=some (.mp id off)) (vP:σ.objs[id]?=some (.cells cs)) (e9:ti.desc.agg=false) (hs:cs[off]?=some c):Cert P o σ c (.rd id) :=
 Cert.Qw hd fun a g hg h hO=>by
  obtain⟨l,o1,he,h1,_,e⟩:=(h x (by simp[ho,Op.operands]) _ hx).ng;obtain⟨arr,t',_,de,hlen,uw,ia,_⟩:=hg.row (by rw[hO];exact vP) he;have aZ:=I hs;have dd:g.w.cell? ⟨l.block,off,none⟩=some arr[off]:=by
   rw[cell_of_row de];simp[show off<arr.size by omega]
  have bw:=(hT t ti ht).qy e9 g.w ⟨l.block,off,none⟩ _ dd;exact⟨arr[off],by simp[execOp,ho,e,Instr.loadAt,Instr.sureAddr,bw],uw off c _ hs (by simp[show off<arr.size by omega])⟩
theorem nr{P:Program}{aR:ed}(hT:bY P aR){f:Field}{tf:cc}(hf:aR f.type=some tf)(hs:tf.size≠0)(w:World)(b off:Nat) :
  (fieldPlace ⟨b,off,none⟩ f).run P w=.ok ⟨b,off+f.offset,none⟩ w:=by
 have:=(hT _ _ hf).sizeOf w;simp[fieldPlace,this,hs,addr_add]
theorem mo{P:Program}{aR:ed}(hT:bY P aR){s:TypeId}{ti:cc}{fs:List (Nat×TypeId)}{k rF:Nat}{ft:TypeId}(ht:aR s=some ti)(aP:ti.desc=.struct fs)(hk:fs[k]?=some (rF,ft)) :
  ∃(fields:Array Field) (f:Field),P.underlying s=some (.struct fields)∧fields[k]?=some f∧f.offset=rF∧f.type=ft:=by
 obtain⟨_,d,h1,h2⟩:=hT s ti ht;rw[aP]at h2;obtain⟨fields,h3,h4⟩:=h2;subst h3;rw[<-h4]at hk;simp only[List.getElem?_map,Option.map_eq_some_iff,Prod.mk.injEq,Array.getElem?_toList]at hk;obtain⟨f,e1,e2,e3⟩:=hk;exact⟨fields,f,h1,e1,e2,e3⟩
theorem p8{P:Program}{aR:ed}(hT:bY P aR){o:Oper}{σ:St}{s:TypeId}{x:Operand}{k rF:Nat}{ft:TypeId}{ti tf:cc}{fs:List (Nat×TypeId)}{oa:Option Addr}{cs:List ae}
  (ho:o.op=.fieldAddr s x k) (hd:∀d,o.dst=some d->d<σ.n) (ht:aR s=some ti) (aP:ti.desc=.struct fs) (hk:fs[k]?=some (rF,ft)) (hf:aR ft=some tf) (hz:tf.size≠0)
  (hx:σ.ev x=some (.ip oa cs)):Cert P o σ (.ip (oa.map (·.add rF)) (cs.drop rF)) .pure :=
 Cert.bK .pure (.inl rfl) hd fun a g _ h _=>by
  obtain⟨b,off,f,e,ha,ia,hm,hr⟩:=(h x (by simp[ho,Op.operands]) _ hx).po;obtain⟨fields,fl,h1,h2,h3,h4⟩:=mo hT ht aP hk;subst h3;subst h4;refine⟨.pointer (some ⟨b,off+fl.offset,none⟩),by simp[execOp,ho,e,Instr.fieldAt,run_underlying h1,h2,Instr.sureAddr,nr hT hf hz],?_⟩;refine .ip ?_ (fun c hc=>ia c (List.mem_of_mem_drop hc)) (fun j=>f (fl.offset+j)) (fun j c hj=>?_) (fun j c hj=>?_)
  ·rcases ha with ha|ha<;>subst ha<;>simp[addr_add]
  ·rw[List.getElem?_drop]at hj;rw[Nat.add_assoc];exact hm _ c hj
  rw[List.getElem?_drop]at hj;exact hr _ c hj
theorem p9{P:Program}{aR:ed}(hT:bY P aR){o:Oper}{σ:St}{s:TypeId}{x:Operand}{k rF:Nat}{ft:TypeId}{ti tf:cc}{fs:List (Nat×TypeId)}{id off:Nat}
  (ho:o.op=.fieldAddr s x k) (hd:∀d,o.dst=some d->d<σ.n) (ht:aR s=some ti) (aP:ti.desc=.struct fs) (hk:fs[k]?=some (rF,ft)) (hf:aR ft=some tf) (hz:tf.size≠0)
  (hx:σ.ev x=some (.mp id off)):Cert P o σ (.mp id (off+rF)) .pure :=
 Cert.bK .pure (.inl rfl) hd fun a g _ h _=>by
  obtain⟨l,o1,he,h1,hn,e⟩:=(h x (by simp[ho,Op.operands]) _ hx).ng;obtain⟨fields,fl,h2,h3,h4,h5⟩:=mo hT ht aP hk;subst h4;subst h5;exact⟨.pointer (some ⟨l.block,off+fl.offset,none⟩),by simp[execOp,ho,e,Instr.fieldAt,run_underlying h2,h3,Instr.sureAddr,nr hT hf hz],.mp he h1 hn⟩
theorem bO{P:Program}{aR:ed}(hT:bY P aR){t e:TypeId}{ti:cc}(ht:aR t=some ti)(aP:ti.desc=.slice e):P.underlying t=some (.slice e):=by
 obtain⟨_,d,h1,h2⟩:=hT t ti ht;rw[aP]at h2;simp only[tV]at h2;rw[h1,h2]
def qB:pP->Nat->Option Addr
 | .sh,_=>none
 | .ex,_=>none
 | .nn,_=>none
 | .tok _,_=>none
 | .loc a,k=>some ⟨a.block,a.off+k,none⟩
theorem pc{P:Program}{aR:ed}(hT:bY P aR){o:Oper}{σ:St}{t e:TypeId}{x i:Operand}{ti te:cc}{sz:Nat}{xs:List ae}{ow:pP}{k:IntKind}{n:Int}{y:ae}
  (ho:o.op=.indexAddr t x i) (hd:∀d,o.dst=some d->d<σ.n) (ht:aR t=some ti) (aP:ti.desc=.slice e) (he:aR e=some te) (di:te.size=sz)
  (hx:σ.ev x=some (.aB sz xs ow)) (hi:σ.ev i=some (.v (.int k n))) (h0:0<=n) (hy:xs[n.toNat]?=some y):Cert P o σ (.ip (qB ow (n.toNat*te.size)) y.cells) .pure :=
 Cert.bK .pure (.inl rfl) hd fun a g _ h _=>by
  have ei:=(h i (by simp[ho,Op.operands]) _ hi).bV.1;have hu:=bO hT ht aP;have aZ:=I hy;rcases(h x (by simp[ho,Op.operands]) _ hx).fH with⟨_,e0⟩|⟨ad,cap,f,eu,m7,ia,_,gu,hs,hm,hr,yj⟩
  ·subst e0;simp at aZ
  have oL:=hs (by intro e;subst e;simp at aZ);obtain⟨b,off,sp⟩:=ad;simp only at oL;subst oL;subst di;have iO:y∈xs:=List.mem_of_getElem? hy;refine⟨.pointer (some ⟨b,off+n.toNat*te.size,none⟩),?_,?_⟩
  ·have jF:n<(xs.length:Int):=by omega
   simp[execOp,ho,ei,eu,Instr.indexAt,asIntOf,run_underlying hu,h0,jF,(hT e te he).sizeOf,addr_add]
  have Sw:qB ow (n.toNat*te.size)=none∨qB ow (n.toNat*te.size)=some ⟨b,off+n.toNat*te.size,none⟩:=by
   cases ow with
   | loc a' =>
    have e:(⟨b,off,none⟩:Addr)=a':=yj;subst e;exact .inr rfl
   | _=>exact .inl rfl
  refine .ip Sw (ia y iO) (fun j=>f (n.toNat*te.size+j)) (fun j c hj=>?_) (fun j c hj=>?_)
  ·rw[Nat.add_assoc];exact hm _ c (kG m7 hy hj)
  exact hr _ c (kG m7 hy hj)
theorem qa{P:Program}{aR:ed}(hT:bY P aR){o:Oper}{σ:St}{t e:TypeId}{x i:Operand}{ti te:cc}{id off len cap:Nat}{k:IntKind}{n:Int}
  (ho:o.op=.indexAddr t x i) (hd:∀d,o.dst=some d->d<σ.n) (ht:aR t=some ti) (aP:ti.desc=.slice e) (he:aR e=some te)
  (hx:σ.ev x=some (.ms id off len cap)) (hi:σ.ev i=some (.v (.int k n))) (h0:0<=n) (hn:n<len):Cert P o σ (.mp id (off+n.toNat*te.size)) .pure :=
 Cert.bK .pure (.inl rfl) hd fun a g _ h _=>by
  have ei:=(h i (by simp[ho,Op.operands]) _ hi).bV.1;have hu:=bO hT ht aP;obtain⟨l,o1,h1,h2,h3,_,_,_,_,eu⟩:=(h x (by simp[ho,Op.operands]) _ hx).rE;exact⟨.pointer (some ⟨l.block,off+n.toNat*te.size,none⟩),by simp[execOp,ho,ei,eu,Instr.indexAt,asIntOf,run_underlying hu,h0,hn,(hT e te he).sizeOf,addr_add],.mp h1 h2 h3⟩
end Go.Av
namespace Go.Av
theorem tM{P:Program}{aR:ed}(hT:bY P aR){o:Oper}{σ:St}{s:TypeId}{x:Operand}{k rF:Nat}{ft:TypeId}{ti tf:cc}{fs:List (Nat×TypeId)}{cs:List ae}{r:ae}
  (ho:o.op=.field s x k) (hd:∀d,o.dst=some d->d<σ.n) (ht:aR s=some ti) (aP:ti.desc=.struct fs) (hk:fs[k]?=some (rF,ft)) (hf:aR ft=some tf)
  (hx:σ.ev x=some (.agg cs)) (hr:if tf.desc.agg then r=.agg ((cs.drop rF).take tf.size)else cs[rF]?=some r):Cert P o σ r .pure :=
 Cert.bK .pure (.inl rfl) hd fun a g _ h _=>by
  obtain⟨vs,e,hl,ia,hh⟩:=(h x (by simp[ho,Op.operands]) _ hx).Lw;obtain⟨fields,fl,h1,h2,h3,h4⟩:=mo hT ht aP hk;subst h3;subst h4;have my:=(hT _ _ hf).isAgg g.w;have di:=(hT _ _ hf).sizeOf g.w;split at hr
  ·rename_i e9;subst hr;refine⟨.agg (vs.extract fl.offset (fl.offset+tf.size)),by simp[execOp,ho,e,Instr.field,run_underlying h1,h2,asAgg,part,my,e9,di],?_⟩;refine .agg ?_ (fun c hc=>ia c (List.mem_of_mem_drop (List.mem_of_mem_take hc))) (fun i c u hi hu=>?_)
   ·simp[hl];omega
   have gI:=lI hi;rw[List.getElem?_drop]at gI;refine hh (fl.offset+i) c u gI ?_;have:i<tf.size:=by
    have:=I hi;simp at this;omega
   rw[Array.getElem?_extract]at hu;split at hu
   ·exact hu
   cases hu
  rename_i e9;have aZ:fl.offset<vs.size:=by
   rw[hl];exact I hr
  exact⟨vs[fl.offset],by simp[execOp,ho,e,Instr.field,run_underlying h1,h2,asAgg,part,my,e9,aZ],hh _ _ _ hr (by simp[aZ])⟩
theorem xS{P:Program}{o:Oper}{σ:St}{x:Operand}{k:Nat}{cs:List ae}{r:ae}
  (ho:o.op=.extract x k) (hd:∀d,o.dst=some d->d<σ.n) (hx:σ.ev x=some (.cK cs)) (hr:cs[k]?=some r):Cert P o σ r .pure :=
 Cert.bK .pure (.inl rfl) hd fun a g _ h _=>by
  obtain⟨vs,e,hl,hh⟩:=(h x (by simp[ho,Op.operands]) _ hx).UX;have aZ:k<vs.size:=by
   rw[hl];exact I hr
  exact⟨vs[k],by simp[execOp,ho,e,Instr.extract,aZ],hh _ _ _ hr (by simp[aZ])⟩
theorem cD{P:Program}(op:BinOp)(t:TypeId)(x y:Operand)(a b:Value)(w:World)(h1:a≠.nilIface)(h2:∀cs,a≠.agg cs):(eqGuard op t x y a b).run P w=.ok () w:=by
 cases op<;>first|rfl|(cases a<;>first|rfl|exact absurd rfl h1|exact absurd rfl (h2 _))
def j':BinOp->Int->Int->Option Bool
 | .eql,a,b=>some (decide (a=b))
 | .neq,a,b=>some (!decide (a=b))
 | .lss,a,b=>some (decide (a<b))
 | .leq,a,b=>some (decide (a<=b))
 | .gtr,a,b=>some (decide (b<a))
 | .geq,a,b=>some (decide (b<=a))
 | _,_,_=>none
theorem zK{P:Program}{o:Oper}{σ:St}{op:BinOp}{t t':TypeId}{x y:Operand}{k:IntKind}{m n:Int}{r:Bool}
  (ho:o.op=.binOp op t x y t') (hd:∀d,o.dst=some d->d<σ.n) (hx:σ.ev x=some (.v (.int k m))) (hy:σ.ev y=some (.v (.int k n))) (hr:j' op m n=some r):Cert P o σ (.v (.bool r)) .pure :=
 Cert.bK .pure (.inl rfl) hd fun a g _ h _=>by
  have ex:=(h x (by simp[ho,Op.operands]) _ hx).bV.1;have ey:=(h y (by simp[ho,Op.operands]) _ hy).bV.1;have hg:=cD (P:=P) op t x y (.int k m) (.int k n) g.w (by simp) (by simp);refine⟨.bool r,?_,.v trivial⟩;have hb:(binOp op t (.int k m) (.int k n)).run P g.w=.ok (.bool r) g.w:=by
   cases op<;>first|(cases hr;done)|(obtain rfl:=Option.some.inj hr;simp[binOp,Op.intCmp];try (rw[Bool.eq_iff_iff];simp))
  simp[execOp,ho,ex,ey,hg,hb]
def bitsOf(k:IntKind)(f:BitVec k.bits->BitVec k.bits->BitVec k.bits)(a b:Int):Int:=k.wrap (f (BitVec.ofInt k.bits a) (BitVec.ofInt k.bits b)).toNat
def dU(k:IntKind):BinOp->Int->Int->Option Int
 | .add,a,b=>some (a+b)
 | .sub,a,b=>some (a-b)
 | .mul,a,b=>some (a*b)
 | .quo,a,b=>if b=0 then none else some (a.tdiv b)
 | .rem,a,b=>if b=0 then none else some (a.tmod b)
 | .and,a,b=>some (bitsOf k (fun x y=>x&&& y) a b)
 | .or,a,b=>some (bitsOf k (fun x y=>x ||| y) a b)
 | .xor,a,b=>some (bitsOf k (fun x y=>x ^^^ y) a b)
 | .andNot,a,b=>some (bitsOf k (fun x y=>x&&& ~~~y) a b)
 | _,_,_=>none
theorem vy{P:Program}{o:Oper}{σ:St}{op:BinOp}{t t':TypeId}{x y:Operand}{k:IntKind}{m n r:Int}
  (ho:o.op=.binOp op t x y t') (hd:∀d,o.dst=some d->d<σ.n) (hx:σ.ev x=some (.v (.int k m))) (hy:σ.ev y=some (.v (.int k n))) (hr:dU k op m n=some r) (h1:k.min<=r) (h2:r<=k.max) :
  Cert P o σ (.v (.int k r)) .pure :=
 Cert.bK .pure (.inl rfl) hd fun a g _ h _=>by
  have ex:=(h x (by simp[ho,Op.operands]) _ hx).bV.1;have ey:=(h y (by simp[ho,Op.operands]) _ hy).bV.1;have hg:=cD (P:=P) op t x y (.int k m) (.int k n) g.w (by simp) (by simp);have hw:=mu k r h1 h2;refine⟨.int k r,?_,.v ⟨h1,h2⟩⟩;have hb:(binOp op t (.int k m) (.int k n)).run P g.w=.ok (.int k r) g.w:=by
   cases op with
   | add | sub | mul=>simp[dU]at hr;subst hr;simp[binOp,Op.intArith,hw]
   | quo | rem =>
    simp only[dU]at hr;split at hr
    ·cases hr
    rename_i AI;simp only[Option.some.injEq]at hr;subst hr;simp[binOp,Op.intDiv,AI,hw]
   | and | or | xor | andNot=>simp[dU]at hr;subst hr;simp[binOp,Op.intBits,bitsOf]
   | _=>simp[dU]at hr
  simp[execOp,ho,ex,ey,hg,hb]
def dq:BinOp->Bool
 | .add=>false
 | .sub=>false
 | .mul=>false
 | .quo=>false
 | .rem=>false
 | .and=>false
 | .or=>false
 | .xor=>false
 | .shl=>true
 | .shr=>true
 | .andNot=>false
 | .eql=>false
 | .neq=>false
 | .lss=>false
 | .leq=>false
 | .gtr=>false
 | .geq=>false
def eI(k:IntKind):BinOp->Int->Int->Int
 | .shl,a,n=>k.wrap (a*2 ^ (min n.toNat k.bits))
 | _,a,n=>a.fdiv (2 ^ (min n.toNat k.bits))
theorem vF{P:Program}{o:Oper}{σ:St}{op:BinOp}{t t':TypeId}{x y:Operand}{k k':IntKind}{m n:Int}
  (ho:o.op=.binOp op t x y t') (hd:∀d,o.dst=some d->d<σ.n) (hx:σ.ev x=some (.v (.int k m))) (hy:σ.ev y=some (.v (.int k' n))) (hs:dq op=true) (hn:0<=n) (h1:k.min<=eI k op m n) (h2:eI k op m n<=k.max) :
  Cert P o σ (.v (.int k (eI k op m n))) .pure :=
 Cert.bK .pure (.inl rfl) hd fun a g _ h _=>by
  have ex:=(h x (by simp[ho,Op.operands]) _ hx).bV.1;have ey:=(h y (by simp[ho,Op.operands]) _ hy).bV.1;have hg:=cD (P:=P) op t x y (.int k m) (.int k' n) g.w (by simp) (by simp);have To:¬n<0:=by omega
  refine⟨.int k (eI k op m n),?_,.v ⟨h1,h2⟩⟩;have hb:(binOp op t (.int k m) (.int k' n)).run P g.w=.ok (.int k (eI k op m n)) g.w:=by
   cases op with
   | shl | shr=>simp[binOp,Op.shift,To,eI]
   | _=>simp[dq]at hs
  simp[execOp,ho,ex,ey,hg,hb]
theorem Ie(a b:ByteArray):(a.toList == b.toList)=decide (a=b):=by
 rw[Bool.eq_iff_iff];simp only[beq_iff_eq,decide_eq_true_eq];refine⟨fun h=>?_,fun h=>by rw[h]⟩;rw[ByteArray.toList_eq,ByteArray.toList_eq]at h;exact ByteArray.ext (Array.toList_inj.1 h)
theorem vB{P:Program}{o:Oper}{σ:St}{op:BinOp}{t t':TypeId}{x y:Operand}{m n:ByteArray}{r:Bool}
  (ho:o.op=.binOp op t x y t') (hd:∀d,o.dst=some d->d<σ.n) (hx:σ.ev x=some (.v (.string m))) (hy:σ.ev y=some (.v (.string n)))
  (hr:(op=.eql∧r=decide (m=n))∨(op=.neq∧r=!decide (m=n))):Cert P o σ (.v (.bool r)) .pure :=
 Cert.bK .pure (.inl rfl) hd fun a g _ h _=>by
  have ex:=(h x (by simp[ho,Op.operands]) _ hx).bV.1;have ey:=(h y (by simp[ho,Op.operands]) _ hy).bV.1;have hg:=cD (P:=P) op t x y (.string m) (.string n) g.w (by simp) (by simp);refine⟨.bool r,?_,.v trivial⟩;have hb:(binOp op t (.string m) (.string n)).run P g.w=.ok (.bool r) g.w:=by
   have PD:=Ie m n;rcases hr with⟨e1,e2⟩|⟨e1,e2⟩<;>subst e1<;>subst e2
   ·simp only[binOp,Op.stringOp,Sem.run_pure,PD]
   simp only[binOp,Op.stringOp,Sem.run_pure,PD]
  simp[execOp,ho,ex,ey,hg,hb]
theorem zN{P:Program}{o:Oper}{σ:St}{op:BinOp}{t t':TypeId}{x y:Operand}{m n r:Bool}
  (ho:o.op=.binOp op t x y t') (hd:∀d,o.dst=some d->d<σ.n) (ht:P.underlying t=some .bool) (hx:σ.ev x=some (.v (.bool m))) (hy:σ.ev y=some (.v (.bool n)))
  (hr:(op=.eql∧r=(m == n))∨(op=.neq∧r=!(m == n))):Cert P o σ (.v (.bool r)) .pure :=
 Cert.bK .pure (.inl rfl) hd fun a g _ h _=>by
  have ex:=(h x (by simp[ho,Op.operands]) _ hx).bV.1;have ey:=(h y (by simp[ho,Op.operands]) _ hy).bV.1;have hg:=cD (P:=P) op t x y (.bool m) (.bool n) g.w (by simp) (by simp);refine⟨.bool r,?_,.v trivial⟩;have he:(Op.equal t (.bool m) (.bool n)).run P g.w=.ok (m == n) g.w:=by
   have e:∃d,Op.equal t (.bool m) (.bool n)=Op.equalIn (d+1) t (.bool m) (.bool n):=⟨9999,rfl⟩
   obtain⟨d,e⟩:=e;rw[e];simp only[Op.equalIn,Sem.run_bind,run_underlying ht,Result.andThen_ok,Sem.run_pure]
  rcases hr with⟨e1,e2⟩|⟨e1,e2⟩<;>subst e1<;>subst e2<;>simp[execOp,ho,ex,ey,hg,binOp,he]
theorem Ix{P:Program}{o:Oper}{σ:St}{t:TypeId}{x:Operand}{m:Bool}
  (ho:o.op=.unOp .not t x) (hd:∀d,o.dst=some d->d<σ.n) (hx:σ.ev x=some (.v (.bool m))):Cert P o σ (.v (.bool !m)) .pure :=
 Cert.bK .pure (.inl rfl) hd fun a g _ h _=>by
  have ex:=(h x (by simp[ho,Op.operands]) _ hx).bV.1;exact⟨.bool !m,by simp[execOp,ho,ex,Op.unary],.v trivial⟩
theorem Iv{P:Program}{o:Oper}{σ:St}{t:TypeId}{x:Operand}{k:IntKind}{m:Int}
  (ho:o.op=.unOp .neg t x) (hd:∀d,o.dst=some d->d<σ.n) (hx:σ.ev x=some (.v (.int k m))) (h1:k.min<=-m) (h2:-m<=k.max):Cert P o σ (.v (.int k (-m))) .pure :=
 Cert.bK .pure (.inl rfl) hd fun a g _ h _=>by
  have ex:=(h x (by simp[ho,Op.operands]) _ hx).bV.1;have hw:=mu k (-m) h1 h2;exact⟨.int k (-m),by simp[execOp,ho,ex,Op.unary,Op.intArith,hw],.v ⟨h1,h2⟩⟩
theorem cC{P:Program}{o:Oper}{b:Builtin}{args:Array Operand}{qW:Array TypeId}(ho:o.op=.call ⟨.builtin b,args,qW⟩)(a:Act)(w:World) :
  (execOp a.eval o).run P w=(builtin b qW o.type (args.map fun | .const _=>true|_=>false) (args.map a.eval)).run P w:=by
 simp[execOp,ho,resolve,invoke];rfl
theorem It{P:Program}{aR:ed}(hT:bY P aR){o:Oper}{σ:St}{t e:TypeId}{x:Operand}{ti:cc}{n:Nat}{y:ae}
  (ho:o.op=.call ⟨.builtin .len,#[x],#[t]⟩) (hd:∀d,o.dst=some d->d<σ.n) (ht:aR t=some ti) (aP:ti.desc=.slice e) (hx:σ.ev x=some y)
  (hy:(∃sz xs ow,y=.aB sz xs ow∧n=xs.length)∨(∃id off cap,y=.ms id off n cap)∨∃id sz,y=.os id n sz):Cert P o σ (.v (.int .i64 n)) .pure :=
 Cert.bK .pure (.inl rfl) hd fun a g _ h _=>by
  have hu:=bO hT ht aP;have gJ:=h x (by simp[ho,Op.operands,Call.operands]) _ hx;have key:∃ad cap,a.eval x=.slice ad n cap∧n<=2 ^ 62:=by
   rcases hy with⟨sz,xs,ow,e1,e2⟩|⟨id,off,cap,e1⟩|⟨id,sz,e1⟩
   ·subst e1;subst e2;rcases gJ.fH with⟨q1,q2⟩|⟨ad,cap,_,q1,_,_,_,q2,_⟩
    ·subst q2;exact⟨_,_,q1,by simp⟩
    exact⟨_,_,q1,q2⟩
   ·subst e1;obtain⟨l,_,_,_,_,_,q2,_,_,q1⟩:=gJ.rE;exact⟨_,_,q1,q2⟩
   subst e1;obtain⟨l,_,_,_,_,_,_,_,q2,q1⟩:=gJ.rG;exact⟨_,_,q1,q2⟩
  obtain⟨ad,cap,q1,q2⟩:=key;refine⟨.int .i64 n,?_,.v ?_⟩
  ·rw[cC ho];simp[builtin,Builtin.len_,q1,run_underlying hu,goInt]
  simp[lV,IntKind.min,IntKind.max,IntKind.bits,IntKind.signed];omega
theorem run_sliceBound{P:Program}(k:IntKind)(n:Int)(y:Nat)(c:BoundsCode)(w:World)(h0:0<=n)(h1:n<=y):(Instr.sliceBound (.int k n) y c).run P w=.ok n.toNat w:=by
 simp[Instr.sliceBound,asIntOf,h0,h1]
theorem Et{sz:Nat}{xs:List ae}(di:∀x∈xs,x.cells.length=sz)(lo hi j:Nat)(c:ae)(h:(ao ((xs.take hi).drop lo))[j]?=some c):(ao xs)[lo*sz+j]?=some c:=by
 induction xs generalizing lo hi j with
 | nil=>simp[ao]at h
 | cons y ys ih =>
  have hy:=di y (by simp);have Yd:=ih (fun x hx=>di x (by simp[hx]));cases hi with
  | zero=>simp[ao]at h
  | succ hi =>
   cases lo with
   | zero =>
    simp only[List.take_succ_cons,List.drop_zero,ao,List.flatMap_cons,Nat.zero_mul,Nat.zero_add]at h ⊢;rw[List.getElem?_append]at h ⊢;split at h
    ·rename_i hj;rw[if_pos hj];exact h
    rename_i hj;rw[if_neg hj];have:=Yd 0 hi (j-y.cells.length) (by simpa[ao]using h);simpa[ao]using this
   | succ lo =>
    simp only[List.take_succ_cons,List.drop_succ_cons]at h;have:=Yd lo hi j h;simp only[ao,List.flatMap_cons]at this ⊢;rw[List.getElem?_append,if_neg (by rw[hy,Nat.succ_mul];omega),hy,show(lo+1)*sz+j-sz=lo*sz+j by rw[Nat.succ_mul];omega];exact this
def mR(σ:St)(p:Option Operand)(CH n:Nat):Prop:=(p=none∧n=CH)∨∃q k,p=some q∧σ.ev q=some (.v (.int k (n:Int)))
theorem CA{P:Program}{aR:ed}(hT:bY P aR){o:Oper}{σ:St}{t e:TypeId}{x:Operand}{ti te:cc}{sz:Nat}{xs:List ae}{ow:pP}{lo hi:Option Operand}{l h:Nat}
  (ho:o.op=.slice t x lo hi none) (hd:∀d,o.dst=some d->d<σ.n) (ht:aR t=some ti) (aP:ti.desc=.slice e) (he:aR e=some te) (di:te.size=sz) (hx:σ.ev x=some (.aB sz xs ow))
  (hZ:mR σ lo 0 l) (oB:mR σ hi xs.length h) (h1:l<=h) (h2:h<=xs.length):Cert P o σ (.aB sz ((xs.take h).drop l) .sh) .pure :=
 Cert.bK .pure (.inl rfl) hd fun a g _ hh _=>by
  have hu:=bO hT ht aP;have gJ:=hh x (by cases lo<;>cases hi<;>simp[ho,Op.operands]) _ hx;have hl:(lo=none∧l=0)∨∃q k,lo=some q∧a.eval q=.int k (l:Int):=by
   rcases hZ with q|⟨q,k,e1,e2⟩
   ·exact .inl q
   exact .inr ⟨q,k,e1,(hh q (by subst e1;cases hi<;>simp[ho,Op.operands]) _ e2).bV.1⟩
  have gI:(hi=none∧h=xs.length)∨∃q k,hi=some q∧a.eval q=.int k (h:Int):=by
   rcases oB with q|⟨q,k,e1,e2⟩
   ·exact .inl q
   exact .inr ⟨q,k,e1,(hh q (by subst e1;cases lo<;>simp[ho,Op.operands]) _ e2).bV.1⟩
  have cR:execOp a.eval o=(do pure (.value (<-Instr.sliceAt t (a.eval x) (lo.map a.eval) (hi.map a.eval) none))):=by
   simp[execOp,ho]
  clear hZ oB ho;have bounds:∀cap:Nat,xs.length<=cap->(Instr.sliceBounds true xs.length cap (lo.map a.eval) (hi.map a.eval) none).run P g.w=.ok (l,h,cap) g.w:=by
   intro cap ee;rcases hl with⟨e1,e2⟩|⟨p,k,e1,hk⟩
   ·rcases gI with⟨e3,e4⟩|⟨q,k',e3,mN⟩
    ·subst e1 e2 e3 e4;simp[Instr.sliceBounds]
    subst e1 e2 e3;have:=run_sliceBound (P:=P) k' h cap .sliceAcap g.w (by omega) (by omega);simp[Instr.sliceBounds,mN,this]
   rcases gI with⟨e3,e4⟩|⟨q,k',e3,mN⟩
   ·subst e1 e3 e4;have:=run_sliceBound (P:=P) k l xs.length .sliceB g.w (by omega) (by omega);simp[Instr.sliceBounds,hk,this]
   subst e1 e3;have e1:=run_sliceBound (P:=P) k' h cap .sliceAcap g.w (by omega) (by omega);have e2:=run_sliceBound (P:=P) k l h .sliceB g.w (by omega) (by omega);simp[Instr.sliceBounds,hk,mN,e1,e2]
  have kc:=(hT e te he).sizeOf g.w;rcases gJ.fH with⟨q1,q2⟩|⟨ad,cap,f,q1,m7,ia,ee,gu,hs,hm,hr,_⟩
  ·subst q2;have b:=bounds 0 (by simp);simp at h2;subst h2;have:l=0:=by omega
   subst this;refine⟨.slice none 0 0,?_,.nil (fun id e=>by cases e) (by simp)⟩;rw[cR];simp only[List.length_nil]at b;simp[Instr.sliceAt,run_underlying hu,Instr.slice,q1,kc,b]
  obtain⟨b0,T8,sp⟩:=ad;have hlen:((xs.take h).drop l).length=h-l:=by simp;omega
  subst di;by_cases gA:cap=l
  ·-- the cut is empty and keeps the address
   have e1:l=xs.length:=by omega
   have e2:h=xs.length:=by omega
   subst gA;subst e2;have b:=bounds cap ee;refine⟨.slice (some ⟨b0,T8,sp⟩) (xs.length-cap) (cap-cap),?_,?_⟩
   ·rw[cR];simp[Instr.sliceAt,run_underlying hu,Instr.slice,q1,b,kc]
   have Mu:(xs.take xs.length).drop cap=[]:=by simp;omega
   rw[Mu];have h0:xs.length-cap=0:=by omega
   rw[h0];exact .aB (by simp) (by simp) (by simp) (by simp) (by simp) f (by simp[ao]) (by simp[ao]) trivial
  have b:=bounds cap ee;refine⟨.slice (some ((⟨b0,T8,sp⟩:Addr).add (l*te.size))) (h-l) (cap-l),?_,?_⟩
  ·rw[cR];simp[Instr.sliceAt,run_underlying hu,Instr.slice,q1,b,kc,gA]
  rw[<-hlen];have iO:∀y,y∈(xs.take h).drop l->y∈xs:=fun y hy=>List.mem_of_mem_take (List.mem_of_mem_drop hy);by_cases bI:xs=[]
  ·subst bI;simp only[List.take_nil,List.drop_nil];exact .aB (by simp) (by simp) (by simp) (by simp) (by simp) f (by simp[ao]) (by simp[ao]) trivial
  have qY:=hs bI;simp only at qY;subst qY;rw[addr_add];refine .aB (fun y hy=>m7 y (iO y hy)) (fun y hy=>ia y (iO y hy)) (by rw[hlen];omega) (by rw[hlen];omega) (fun _=>rfl) (fun j=>f (l*te.size+j)) (fun j c hj=>?_) (fun j c hj=>?_) trivial
  ·have:=hm _ c (Et m7 l h j c hj);simpa[Nat.add_assoc]using this
  exact hr _ c (Et m7 l h j c hj)
def ae.bo:ae->ae
 | .aB sz xs _=>.aB sz xs .sh
 | x=>x
def ae.share:ae->ae
 | .aB sz xs _=>.aB sz xs .sh
 | .agg cs=>.agg (cs.map ae.bo)
 | x=>x
theorem RV.bo{g:G}{x:ae}{u:Value}(h:RV g x u):RV g x.bo u:=by
 unfold ae.bo;split
 ·exact h.RO
 exact h
theorem ae.fc{x:ae}(h:x.scalar):x.bo.scalar:=by
 cases x<;>first|exact h|trivial
theorem RV.share{g:G}{x:ae}{u:Value}(h:RV g x u):RV g x.share u:=by
 unfold ae.share;split
 ·exact h.RO
 ·obtain⟨vs,e,hl,ia,hh⟩:=h.Lw;subst e;refine .agg (by simpa using hl) (fun c hc=>?_) (fun i c w h1 h2=>?_)
  ·rw[List.mem_map]at hc;obtain⟨c',h1,h2⟩:=hc;subst h2;exact ae.fc (ia c' h1)
  rw[List.getElem?_map,Option.map_eq_some_iff]at h1;obtain⟨c',h3,h4⟩:=h1;subst h4;exact(hh i c' w h3 h2).bo
 exact h
def lM(g:G)(cs:List ae)(arr:Array Value):Prop:=arr.size=cs.length∧∀(j:Nat) (c:ae) (u:Value),cs[j]?=some c->arr[j]?=some u->RV g c u
theorem lM.mono{g g':G}(h:Le g g'){cs:List ae}{arr:Array Value}(k:lM g cs arr):lM g' cs arr:=⟨k.1,fun j c u a b=>(k.2 j c u a b).mono h⟩
theorem lM.agg{g:G}{cs:List ae}{arr:Array Value}(k:lM g cs arr)(ia:∀c∈cs,c.scalar):RV g (.agg cs) (.agg arr):=.agg k.1 ia k.2
theorem RV.Ik{g:G}{x:ae}{u:Value}(h:RV g x u)(hs:∀c∈x.cells,c.scalar):lM g x.cells u.cells:=h.cells hs
def ae.flat:ae->Prop
 | .cK _=>False
 | _=>True
theorem RV.jR{g:G}{x:ae}{u:Value}(h:RV g x u)(hx:x.flat):∀c∈x.cells,c.scalar:=by
 cases h with
 | agg hl ia hh=>exact ia
 | cK=>exact hx.elim
 | _=>intro c hc;simp only[ae.cells,List.mem_singleton]at hc;subst hc;trivial
def bk(cs:List ae)(off:Nat)(xs:List ae):List ae:=cs.take off++(xs++cs.drop (off+xs.length))
theorem gF{cs:List ae}{off:Nat}{xs:List ae}(h:off+xs.length<=cs.length):(bk cs off xs).length=cs.length:=by
 simp[bk];omega
theorem iV{cs:List ae}{off:Nat}{xs:List ae}(h:off+xs.length<=cs.length)(k:Nat) :
  (bk cs off xs)[k]?=if off<=k∧k<off+xs.length then xs[k-off]? else cs[k]?:=by
 simp only[bk];rw[List.getElem?_append,List.getElem?_append,List.getElem?_take,List.getElem?_drop];have hl:(cs.take off).length=off:=by simp;omega
 rw[hl];by_cases h1:k<off
 ·rw[if_pos h1,if_pos h1,if_neg (by omega)]
 rw[if_neg h1];by_cases h2:k-off<xs.length
 ·rw[if_pos h2,if_pos (by omega)]
 rw[if_neg h2,if_neg (by omega)];congr 1;omega
theorem wO(off:Nat):∀(vs:List Value) (n:Nat) (arr:Array Value),off+n+vs.length<=arr.size->∀k,((vs.zipIdx n).foldl (fun cs p=>cs.setIfInBounds (off+p.2) p.1) arr).size=arr.size ∧
  ((vs.zipIdx n).foldl (fun cs p=>cs.setIfInBounds (off+p.2) p.1) arr)[k]?=if off+n<=k∧k<off+n+vs.length then vs[k-(off+n)]? else arr[k]?
 | [],n,arr,_,k=>by
  refine⟨rfl,?_⟩;rw[if_neg (by simp only[List.length_nil];omega)];rfl
 | v::vs,n,arr,h,k=>by
  simp only[List.length_cons]at h;obtain⟨h1,h2⟩:=wO off vs (n+1) (arr.setIfInBounds (off+n) v) (by rw[Array.size_setIfInBounds];omega) k;simp only[List.zipIdx_cons,List.foldl_cons];refine⟨h1.trans (by simp),?_⟩;rw[h2];simp only[List.length_cons];by_cases e1:off+(n+1)<=k∧k<off+(n+1)+vs.length
  ·rw[if_pos e1,if_pos (by omega),show k-(off+n)=(k-(off+(n+1)))+1 by omega];simp
  rw[if_neg e1];by_cases e2:k=off+n
  ·subst e2;rw[if_pos (by omega),Nat.sub_self];rw[Array.getElem?_setIfInBounds_self_of_lt (by omega)];rfl
  rw[if_neg (by omega),Array.getElem?_setIfInBounds_ne (by omega)]
def iu(place:Nat->Option (Nat×Nat)):List ae->List (Nat×ae)->Option (List ae)
 | cs,[]=>some cs
 | cs,(i,x)::r =>
  match place i with
  | none=>none
  | some (off,size)=>if x.cells.length=size∧off+size<=cs.length then iu place (bk cs off x.cells) r else none
inductive B2(g:G):List (Nat×ae)->List (Nat×Value)->Prop
 | nil:B2 g [] []
 | cons {i:Nat} {x:ae} {u:Value} {ps:List (Nat×ae)} {vs:List (Nat×Value)} (h:RV g x u) (hf:x.flat) (r:B2 g ps vs):B2 g ((i,x)::ps) ((i,u)::vs)
theorem nR{g:G}(place:Nat->Option (Nat×Nat)){ps:List (Nat×ae)}{vs:List (Nat×Value)}(hp:B2 g ps vs):∀{cs cs':List ae} {arr:Array Value},lM g cs arr->iu place cs ps=some cs' ->
  ∃cg,Instr.fill place arr vs=some cg∧lM g cs' cg∧((∀c∈cs,c.scalar)->∀c∈cs',c.scalar):=by
 induction hp with
 | nil =>
  intro cs cs' arr h e;simp only[iu,Option.some.injEq]at e;subst e;exact⟨arr,rfl,h,fun h=>h⟩
 | cons hx hf r ih =>
  rename_i i x u ps vs;intro cs cs' arr h e;simp only[iu]at e;cases s7:place i with
  | none=>simp[s7]at e
  | some p =>
   obtain⟨off,size⟩:=p;simp only[s7]at e;split at e
   ·rename_i hc;obtain⟨sK,Zb⟩:=hc;have gn:=hx.jR hf;obtain⟨q1,q2⟩:=hx.Ik gn;have di:off+0+u.cells.toList.length<=arr.size:=by
     simp only[Array.length_toList,q1,sK,h.1];omega
    have gh:=wO off u.cells.toList 0 arr di;have yi:lM g (bk cs off x.cells) (u.cells.zipIdx.foldl (fun cs p=>cs.setIfInBounds (off+p.2) p.1) arr):=by
     have wT:u.cells.zipIdx.foldl (fun cs p=>cs.setIfInBounds (off+p.2) p.1) arr=(u.cells.toList.zipIdx 0).foldl (fun cs p=>cs.setIfInBounds (off+p.2) p.1) arr:=by
      rw[<-Array.foldl_toList];congr 1;simp[Array.toList_zipIdx]
     rw[wT];refine⟨?_,fun j c w hj hw=>?_⟩
     ·rw[(gh 0).1,gF (by omega),h.1]
     rw[(gh j).2]at hw;rw[iV (by omega)]at hj;simp only[Nat.add_zero,Array.length_toList,q1]at hw;by_cases r6:off<=j∧j<off+x.cells.length
     ·rw[if_pos r6]at hj hw;exact q2 _ c w hj (by simpa using hw)
     rw[if_neg r6]at hj hw;exact h.2 j c w hj hw
    obtain⟨cg,e1,e2,e3⟩:=ih yi e;refine⟨cg,?_,e2,fun cA=>e3 fun c hc=>?_⟩
    ·simp only[Instr.fill,s7];rw[if_neg (by simp[q1,sK,h.1];omega)];exact e1
    simp only[bk,List.mem_append]at hc;rcases hc with hc|hc|hc
    ·exact cA c (List.mem_of_mem_take hc)
    ·exact gn c hc
    exact cA c (List.mem_of_mem_drop hc)
   cases e
def St.eA(σ:St):List (Nat×Operand)->Option (List (Nat×ae))
 | []=>some []
 | (i,x)::r =>
  match σ.ev x,σ.eA r with
  | some y,some ys=>some ((i,y)::ys)
  | _,_=>none
theorem jl{σ:St}{a:Act}{g:G}:∀{parts:List (Nat×Operand)} {ps:List (Nat×ae)},(∀x∈parts.map (·.2),∀y,σ.ev x=some y->RV g y (a.eval x))->σ.eA parts=some ps->(∀p∈ps,p.2.flat) ->
  B2 g ps (parts.map fun p=>(p.1,a.eval p.2))
 | [],ps,_,h,_=>by
  simp only[St.eA,Option.some.injEq]at h;subst h;exact .nil
 | (i,x)::r,ps,my,h,hf=>by
  simp only[St.eA]at h;cases hx:σ.ev x with
  | none=>simp[hx]at h
  | some y =>
   cases hr:σ.eA r with
   | none=>simp[hx,hr]at h
   | some ys =>
    simp only[hx,hr,Option.some.injEq]at h;subst h;exact .cons (my x (by simp) y hx) (hf (i,y) (List.mem_cons_self)) (jl (fun z hz=>my z (by simp only[List.map_cons,List.mem_cons];exact .inr hz)) hr fun p hp=>hf p (List.mem_cons_of_mem _ hp))
def iz(aR:ed):List (Nat×TypeId)->Option (List (Nat×Nat))
 | []=>some []
 | (off,t)::r =>
  match aR t,iz aR r with
  | some ti,some ps=>some ((off,ti.size)::ps)
  | _,_=>none
theorem sl{P:Program}{aR:ed}(hT:bY P aR):∀{fields:List Field} {ps:List (Nat×Nat)},iz aR (fields.map fun f=>(f.offset,f.type))=some ps ->
  fields.mapM (fun f=>(P.info? f.type).map fun i=>(f.offset,i.size))=some ps
 | [],ps,h=>by
  simp only[List.map_nil,iz,Option.some.injEq]at h;subst h;rfl
 | f::r,ps,h=>by
  simp only[List.map_cons,iz]at h;cases ht:aR f.type with
  | none=>simp[ht]at h
  | some ti =>
   cases hr:iz aR (r.map fun f=>(f.offset,f.type))with
   | none=>simp[ht,hr]at h
   | some qs =>
    simp only[ht,hr,Option.some.injEq]at h;subst h;obtain⟨⟨i,z,h1,h2,_⟩,_⟩:=hT _ _ ht;have ih:=sl hT hr;simp only[List.mapM_cons,h1,Option.map_some,ih];simp[h2]
theorem Cv{P:Program}{aR:ed}(hT:bY P aR){o:Oper}{σ:St}{t:TypeId}{parts:Array (Nat×Operand)}{ti:cc}{fs:List (Nat×TypeId)}{yA:List (Nat×Nat)}{ps:List (Nat×ae)}{cs:List ae}
  (ho:o.op=.build t parts) (hd:∀d,o.dst=some d->d<σ.n) (ht:aR t=some ti) (aP:ti.desc=.struct fs) (s7:iz aR fs=some yA) (y8:σ.eA parts.toList=some ps) (gp:∀p∈ps,p.2.flat)
  (gn:iu (fun i=>yA[i]?) ti.zero ps=some cs):Cert P o σ (.agg cs) .pure :=
 Cert.bK .pure (.inl rfl) hd fun a g _ h _=>by
  have bE:=jl (a:=a) (g:=g) (fun x hx y hy=>h x (by simpa[ho,Op.operands]using hx) y hy) y8 gp;obtain⟨⟨i,z,h1,h2,h3,h4,h5,h6,h7,h8,h9⟩,d,wQ,Vb⟩:=hT t ti ht;rw[aP]at Vb;obtain⟨fields,e1,e2⟩:=Vb;subst e1;obtain⟨cg,q1,q2,q3⟩:=nR (fun i=>yA[i]?) bE (cs:=ti.zero) (arr:=z.cells) ⟨h5,h8 g⟩ gn;have hp:=sl hT (fields:=fields.toList) (ps:=yA) (by rw[e2];exact s7);have hb:P.built t (parts.map fun(i,x)=>(i,a.eval x)).toList=some cg:=by
   unfold Program.built;simp only[h1,wQ,h4,hp];rw[Array.toList_map];simpa using q1
  have bw:=run_build g.w t _ cg hb;exact⟨.agg cg,by simp[execOp,ho,bw],q2.agg (q3 h9)⟩
theorem RV.newRow{g:G}(hg:Good g){xs:List ae}{sz:Nat}{arr:Array Value}{t:TypeId}(di:∀x∈xs,x.cells.length=sz)(ia:∀x∈xs,∀c∈x.cells,c.scalar)(gu:xs.length<=2 ^ 62)
  (hr:lM g (ao xs) arr):RV (g.push (.cells arr t)) (.aB sz xs .ex) (.slice (some ⟨g.w.heap.size,0,none⟩) xs.length xs.length):=by
 have hle:=Le.push g hg (.cells arr t);have gf:=hg.push (.cells arr t);refine .aB di ia (Nat.le_refl _) gu (fun _=>rfl) (fun j=>arr.getD j undef) (fun j c hj=>?_) (fun j c hj=>?_) rfl
 ·have aZ:=I hj;rw[<-hr.1]at aZ;refine⟨?_,?_⟩
  ·simp only[G.cell,G.push,Nat.zero_add];rw[cell_of_row (cz _ _)];simp[Array.getD_eq_getD_getElem?,aZ]
  rintro(hf|⟨id,l,o,h1,h2,h3,h4,_⟩)
  ·have eU:g.fr g.w.heap.size (0+j):=hf;have:=hg.frlt _ _ eU;omega
  have:=hg.loc id l o h1 h2 h3;have h4':l.block=g.w.heap.size:=h4;omega
 have aZ:=I hj;rw[<-hr.1]at aZ;exact(hr.2 j c _ hj (by simp[Array.getD_eq_getD_getElem?,aZ])).mono hle
theorem rp{sz:Nat}:∀(ys:List ae) (k:Nat) (cs cs':List ae),iu (fun i=>some (i*sz,sz)) cs ((ys.zipIdx k).map fun p=>(p.2,p.1))=some cs'->(k+ys.length)*sz<=cs.length ->
  cs'=cs.take (k*sz)++(ao ys++cs.drop ((k+ys.length)*sz))∧∀y∈ys,y.cells.length=sz
 | [],k,cs,cs',h,hl=>by
  simp only[List.zipIdx_nil,List.map_nil,iu,Option.some.injEq]at h;subst h;simp[ao]
 | y::ys,k,cs,cs',h,hl=>by
  simp only[List.zipIdx_cons,List.map_cons,iu]at h;split at h
  ·rename_i hc;obtain⟨sK,Zb⟩:=hc;have UJ:(k+1+ys.length)*sz<=(bk cs (k*sz) y.cells).length:=by
    rw[gF (by omega)];simp only[List.length_cons]at hl;rw[show k+1+ys.length=k+(ys.length+1) by omega];exact hl
   obtain⟨e1,e2⟩:=rp ys (k+1) _ cs' h UJ;refine⟨?_,fun z hz=>?_⟩
   ·rw[e1];apply List.ext_getElem?;intro j;simp only[List.length_cons]at hl ⊢;have Lb:(k+1)*sz=k*sz+sz:=Nat.succ_mul k sz;have qY:(bk cs (k*sz) y.cells).take ((k+1)*sz)=cs.take (k*sz)++y.cells:=by
     simp only[bk];rw[Lb,List.take_append];have hlen:(cs.take (k*sz)).length=k*sz:=by simp;omega
     have TT:(cs.take (k*sz)).take (k*sz+sz)=cs.take (k*sz):=List.take_of_length_le (by omega);rw[hlen,TT,show k*sz+sz-k*sz=sz by omega,List.take_append,List.take_of_length_le (Nat.le_of_eq sK),sK,Nat.sub_self];simp
    have Zh:(bk cs (k*sz) y.cells).drop ((k+1+ys.length)*sz)=cs.drop ((k+(ys.length+1))*sz):=by
     simp only[bk];have hlen:(cs.take (k*sz)).length=k*sz:=by simp;omega
     have hmul:(k+1+ys.length)*sz=k*sz+sz+ys.length*sz:=by rw[Nat.add_mul,Lb]
     have Tn:(k+(ys.length+1))*sz=k*sz+sz+ys.length*sz:=by rw[Nat.add_mul,Nat.succ_mul];omega
     have lK:(cs.take (k*sz)).drop (k*sz+sz+ys.length*sz)=[]:=List.drop_of_length_le (by rw[hlen];omega);have kq:y.cells.drop (k*sz+sz+ys.length*sz-k*sz)=[]:=List.drop_of_length_le (by omega);rw[hmul,Tn,List.drop_append,lK,hlen,List.nil_append,List.drop_append,kq,List.nil_append,List.drop_drop,sK];congr 1;omega
    rw[qY,Zh];simp[ao,List.append_assoc]
   rcases List.mem_cons.1 hz with hz|hz
   ·subst hz;exact sK
   exact e2 z hz
  cases h
def fW:Nat->List (Nat×ae)->Option (List ae)
 | _,[]=>some []
 | k,(i,x)::r =>
  if i=k then
   match fW (k+1) r with
   | some xs=>some (x::xs)
   | none=>none
  else none
theorem nu:∀{ps:List (Nat×ae)} {k:Nat} {xs:List ae},fW k ps=some xs->ps=(xs.zipIdx k).map fun p=>(p.2,p.1)
 | [],k,xs,h=>by
  simp only[fW,Option.some.injEq]at h;subst h;rfl
 | (i,x)::r,k,xs,h=>by
  simp only[fW]at h;split at h
  ·rename_i hi;subst hi;cases hr:fW (i+1) r with
   | none=>simp[hr]at h
   | some ys =>
    simp only[hr,Option.some.injEq]at h;subst h;simp[nu hr]
  cases h
theorem ae.kH(x:ae):x.share.cells=x.cells.map ae.bo:=by
 cases x<;>rfl
theorem lM.dE{g:G}{cs:List ae}{arr:Array Value}(h:lM g cs arr):lM g (cs.map ae.bo) arr :=
 ⟨by simpa using h.1,fun j c u h1 h2=>by
  rw[List.getElem?_map,Option.map_eq_some_iff]at h1;obtain⟨c',h3,h4⟩:=h1;subst h4;exact(h.2 j c' u h3 h2).bo⟩
theorem ik(xs:List ae):ao (xs.map ae.share)=(ao xs).map ae.bo:=by
 induction xs with
 | nil=>rfl
 | cons y ys ih =>
  simp only[ao,List.map_cons,List.flatMap_cons,List.map_append,ae.kH]at ih ⊢;rw[ih]
theorem sD{P:Program}{aR:ed}(hT:bY P aR){o:Oper}{σ:St}{t e:TypeId}{len:Nat}{parts:Array (Nat×Operand)}{ti te:cc}{ps:List (Nat×ae)}{xs:List ae}
  (ho:o.op=.buildSlice t len parts) (hd:∀d,o.dst=some d->d<σ.n) (ht:aR t=some ti) (aP:ti.desc=.slice e) (he:aR e=some te) (pj:0<te.size) (y8:σ.eA parts.toList=some ps) (gp:∀p∈ps,p.2.flat)
  (Jm:fW 0 ps=some xs) (hlen:xs.length=len) (di:∀x∈xs,x.cells.length=te.size) (TN:len*te.size<=2 ^ 24):Cert P o σ (.aB te.size (xs.map ae.share) .ex) .pure :=
 Cert.ix hd fun base fF a g bE h _=>by
  have hg:=bE.good;have lr:=jl (a:=a) (g:=g) (fun x hx y hy=>h x (by simpa[ho,Op.operands]using hx) y hy) y8 gp;have hu:=bO hT ht aP;obtain⟨⟨i,z,h1,h2,h3,h4,h5,h6,h7,h8,h9⟩,_⟩:=hT e te he;have mI:=nu Jm;have ia:∀x∈xs,∀c∈x.cells,c.scalar:=by
   have aux:∀{ps:List (Nat×ae)} {vs:List (Nat×Value)},B2 g ps vs->∀p∈ps,∀c∈p.2.cells,c.scalar:=by
    intro ps vs hr;induction hr with
    | nil=>intro p hp;cases hp
    | cons hx hf r ih =>
     intro p hp;rcases List.mem_cons.1 hp with hp|hp
     ·subst hp;exact hx.jR hf
     exact ih p hp
   intro x hx c hc;have iO:∃k,(k,x)∈ps:=by
    obtain⟨k,hk⟩:=List.getElem?_of_mem hx;refine⟨0+k,?_⟩;rw[mI,List.mem_map];refine⟨(x,0+k),?_,rfl⟩;rw[List.mem_iff_getElem?];exact⟨k,by simp[hk]⟩
   obtain⟨k,hk⟩:=iO;exact aux lr _ hk c hc
  by_cases hz:len=0
  ·subst hz;have GO:xs=[]:=List.length_eq_zero_iff.1 hlen;subst GO;have Wi:ps=[]:=by rw[mI];rfl
   subst Wi;have Tz:parts.toList=[]:=by
    cases hp:parts.toList with
    | nil=>rfl
    | cons p r =>
     obtain⟨i,x⟩:=p;rw[hp]at y8;simp only[St.eA]at y8;cases hx:σ.ev x with
     | none=>simp[hx]at y8
     | some y =>
      cases hr:σ.eA r with
      | none=>simp[hx,hr]at y8
      | some ys=>simp[hx,hr]at y8
   have Qa:parts = #[]:=Array.toList_eq_nil_iff.1 Tz;subst Qa;refine⟨.slice (some ⟨g.w.heap.size,0,none⟩) 0 0,g.push (.cells #[] e),.inl ?_,Le.push g hg _,hg.push _,rfl,?_⟩
   ·have er:Array.range 0 = #[]:=rfl;simp[execOp,ho,Instr.buildSlice,run_underlying hu,Go.sizeOf,typeInfo,h1,Instr.fill,Go.newRow,G.push,er]
   exact RV.newRow (xs:=[]) hg (by simp) (by simp) (by simp) ⟨by simp[ao],by simp[ao]⟩
  have bI:¬len*i.size=0:=by
   rw[h2];intro e0;rcases Nat.mul_eq_zero.1 e0 with q|q<;>omega
  obtain⟨zs,yn⟩:∃zs:Array Value,zs=(Array.range (len*i.size)).map (z.cells[· % z.cells.size]!):=⟨_,rfl⟩
  have Dg:zs.size=len*te.size:=by rw[yn];simp[h2]
  obtain⟨zc,WH,wX,ta⟩:∃zc:List ae,(∀c∈zc,c.scalar)∧lM g zc zs∧zc.length=len*te.size:=by
   refine⟨(List.range (len*te.size)).map fun j=>te.zero.getD (j % te.size) (.v (.bool false)),fun c hc=>?_,⟨by simp[Dg],fun j c u hj PU=>?_⟩,by simp⟩
   ·rw[List.mem_map]at hc;obtain⟨j,_,e⟩:=hc;subst e;have aZ:j % te.size<te.zero.length:=by rw[h6];exact Nat.mod_lt _ pj
    rw[List.getD_eq_getElem?_getD,List.getElem?_eq_getElem aZ];exact h9 _ (List.getElem_mem aZ)
   have gZ:=I hj;simp only[List.length_map,List.length_range]at gZ;rw[List.getElem?_map,List.getElem?_range gZ]at hj;simp only[Option.map_some,Option.some.injEq]at hj;subst hj;have aZ:j % te.size<te.zero.length:=by rw[h6];exact Nat.mod_lt _ pj
   have jF:j % te.size<z.cells.size:=by rw[h5];exact aZ
   rw[yn]at PU;simp only[Array.getElem?_map,h2,Array.getElem?_range,if_pos gZ,Option.map_some,Option.some.injEq]at PU;subst PU;rw[List.getD_eq_getElem?_getD,List.getElem?_eq_getElem aZ];refine h8 g (j % te.size) _ _ (List.getElem?_eq_getElem aZ) ?_;rw[h5,h6];simp[jF]
  have I':∃cs',iu (fun i=>some (i*te.size,te.size)) zc ps=some cs':=by
   have aux:∀(ys:List ae) (k:Nat) (cs:List ae),(∀y∈ys,y.cells.length=te.size)->(k+ys.length)*te.size<=cs.length->∃cs',iu (fun i=>some (i*te.size,te.size)) cs ((ys.zipIdx k).map fun p=>(p.2,p.1))=some cs':=by
    intro ys;induction ys with
    | nil=>intro k cs _ _;exact⟨cs,rfl⟩
    | cons y ys ih =>
     intro k cs hy hl;simp only[List.zipIdx_cons,List.map_cons,iu];simp only[List.length_cons]at hl;have Lb:(k+1)*te.size=k*te.size+te.size:=Nat.succ_mul k te.size;have EP:(k+1)*te.size<=(k+(ys.length+1))*te.size:=Nat.mul_le_mul_right _ (by omega);have hc:y.cells.length=te.size∧k*te.size+te.size<=cs.length:=⟨hy y (by simp),by omega⟩
     rw[if_pos hc];refine ih (k+1) _ (fun z hz=>hy z (List.mem_cons_of_mem _ hz)) ?_;rw[gF (by omega),show k+1+ys.length=k+(ys.length+1) by omega];exact hl
   rw[mI];exact aux xs 0 zc di (by rw[ta,hlen,Nat.zero_add];exact Nat.le_refl _)
  obtain⟨cs',C5⟩:=I';obtain⟨cg,q1,q2,_⟩:=nR (fun i=>some (i*te.size,te.size)) lr wX C5;obtain⟨e1,_⟩:=rp xs 0 zc cs' (by rw[<-mI];exact C5) (by rw[ta,hlen,Nat.zero_add];exact Nat.le_refl _);have e2:cs'=ao xs:=by
   rw[e1];simp only[Nat.zero_mul,List.take_zero,List.nil_append,Nat.zero_add];rw[List.drop_of_length_le (by rw[ta,hlen];omega),List.append_nil]
  subst e2;have bw:(Instr.buildSlice t len (parts.map fun(i,x)=>(i,a.eval x))).run P g.w=.ok (.slice (some ⟨g.w.heap.size,0,none⟩) len len) (g.w.alloc (.cells cg e)):=by
   have Ar:¬len*i.size > 2 ^ 24:=by rw[h2];omega
   rw[yn,<-h2]at q1;have O8:Instr.fill (fun WI=>some (WI*i.size,i.size)) ((Array.range (len*i.size)).map (z.cells[· % z.cells.size]!)) (parts.map fun(i,x)=>(i,a.eval x)).toList=some cg:=by
    rw[Array.toList_map];exact q1
   simp only[Instr.buildSlice,run_underlying hu,Go.sizeOf,typeInfo,Go.zeroValue,Sem.run_bind,run_program,Result.andThen_ok,h1,Sem.run_pure,Go.newRow];rw[if_neg Ar,if_neg bI];simp only[Sem.run_bind,Sem.run_pure,Result.andThen_ok,run_program,h1,h4,O8,run_newObj];rfl
  refine⟨.slice (some ⟨g.w.heap.size,0,none⟩) len len,g.push (.cells cg e),.inl (by simp[execOp,ho,bw,G.push]),Le.push g hg _,hg.push _,rfl,?_⟩;have:=RV.newRow (xs:=xs.map ae.share) (sz:=te.size) (arr:=cg) (t:=e) hg (fun x hx=>by
   rw[List.mem_map]at hx;obtain⟨y,h1,h2⟩:=hx;subst h2;rw[ae.kH,List.length_map];exact di y h1) (fun x hx c hc=>by
   rw[List.mem_map]at hx;obtain⟨y,h1,h2⟩:=hx;subst h2;rw[ae.kH,List.mem_map]at hc;obtain⟨c',h3,h4⟩:=hc;subst h4;exact ae.fc (ia y h1 c' h3)) (by
    simp only[List.length_map,hlen];have:len<=len*te.size:=Nat.le_mul_of_pos_right _ pj;omega) (by rw[ik];exact q2.dE)
  rw[List.length_map,hlen]at this;exact this
end Go.Av
namespace Go.Av
theorem eG{g:G}{o:al}:(g.objs++[o])[g.objs.length]?=some o:=by simp
theorem ir{g:G}(hg:Good g){l:Option Loc}:(g.env++[l])[g.objs.length]?=some l:=by
 rw[<-hg.len];simp
theorem Is{P:Program}{o:Oper}{σ:St}{t:TypeId}{x:Operand}{y:ae}(ho:o.op=.box t x)(hd:∀d,o.dst=some d->d<σ.n)(hx:σ.ev x=some y)(hf:y.flat) :
  Cert P o σ (.mp σ.objs.length 0) (.write (σ.objs++[.cells y.cells])) :=
 Cert.ix hd fun base fF a g bE h iC=>by
  have hO:g.objs=σ.objs:=iC.resolve_left (by simp);have hg:=bE.good;have gJ:=h x (by simp[ho,Op.operands]) _ hx;have ia:=gJ.jR hf;have uw:=gJ.Ik ia;have hle:=Le.alloc hg (.cells (a.eval x).cells t) 0 (.cells y.cells);refine⟨.pointer (some ⟨g.w.heap.size,0,none⟩),g.alloc (.cells (a.eval x).cells t) 0 (.cells y.cells),.inl ?_,hle,Good.alloc hg _ 0 _ (.inr rfl) ⟨_,t,rfl,by rw[uw.1];exact Nat.le_refl _,(uw.mono hle).2,ia⟩,?_,?_⟩
  ·simp[execOp,ho,Instr.box,Go.newVar,Go.newRow,G.alloc]
  ·simp[G.alloc,hO,Mode.post]
  rw[<-hO];exact .mp (l:=⟨g.w.heap.size,0,_⟩) (ir hg) eG (by simp[al.aC])
theorem Cu{P:Program}{aR:ed}(hT:bY P aR){o:Oper}{σ:St}{t:TypeId}{ti:cc}(ho:o.op=.alloc t)(hd:∀d,o.dst=some d->d<σ.n)(ht:aR t=some ti) :
  Cert P o σ (.mp σ.objs.length 0) (.write (σ.objs++[.cells ti.zero])) :=
 Cert.ix hd fun base fF a g bE h iC=>by
  have hO:g.objs=σ.objs:=iC.resolve_left (by simp);have hg:=bE.good;obtain⟨z,hz,h5,_,_,h8,h9⟩:=(hT t ti ht).zeroValue;have hle:=Le.alloc hg (.cells z.cells t) 0 (.cells ti.zero);refine⟨.pointer (some ⟨g.w.heap.size,0,none⟩),g.alloc (.cells z.cells t) 0 (.cells ti.zero),.inl ?_,hle,Good.alloc hg _ 0 _ (.inr rfl) ⟨_,t,rfl,by rw[h5];exact Nat.le_refl _,fun j c u a b=>h8 _ j c u a b,h9⟩,?_,?_⟩
  ·simp[execOp,ho,Instr.alloc,hz,Go.newVar,Go.newRow,G.alloc]
  ·simp[G.alloc,hO,Mode.post]
  rw[<-hO];exact .mp (l:=⟨g.w.heap.size,0,_⟩) (ir hg) eG (by simp[al.aC])
theorem xV{P:Program}{o:Oper}{σ:St}{t:TypeId}(kt:KT)(ho:o.op=.makeMap t none)(hd:∀d,o.dst=some d->d<σ.n) :
  Cert P o σ (.mm σ.objs.length) (.write (σ.objs++[.map kt []])) :=
 Cert.ix hd fun base fF a g bE h iC=>by
  have hO:g.objs=σ.objs:=iC.resolve_left (by simp);have hg:=bE.good;have hle:=Le.alloc hg (.map #[] 0) 0 (.map kt []);refine⟨.map (some g.w.heap.size),g.alloc (.map #[] 0) 0 (.map kt []),.inl ?_,hle,Good.alloc hg _ 0 _ (.inr rfl) ⟨#[],0,rfl,rfl,by simp,by simp⟩,?_,?_⟩
  ·simp[execOp,ho,Instr.makeMap,G.alloc]
  ·simp[G.alloc,hO,Mode.post]
  rw[<-hO];exact .mm (l:=⟨g.w.heap.size,0,_⟩) (ir hg) eG (by simp[al.aC])
theorem og(z:List ae)(hz:0<z.length):∀(m j:Nat) (c:ae),(List.replicate m z).flatten[j]?=some c->z[j % z.length]?=some c
 | 0,j,c=>by simp
 | m+1,j,c=>by
  intro hj;rw[List.replicate_succ,List.flatten_cons,List.getElem?_append]at hj;split at hj
  ·rename_i aZ;rw[Nat.mod_eq_of_lt aZ];exact hj
  rename_i qX;have:=og z hz m _ c hj;rw[Nat.mod_eq_sub_mod (by omega)];exact this
theorem tP{P:Program}{aR:ed}(hT:bY P aR){o:Oper}{σ:St}{t e:TypeId}{x y:Operand}{ti te:cc}{k k':IntKind}{n:Int}
  (ho:o.op=.makeSlice t x y) (hd:∀d,o.dst=some d->d<σ.n) (ht:aR t=some ti) (aP:ti.desc=.slice e) (he:aR e=some te) (hx:σ.ev x=some (.v (.int k n))) (hy:σ.ev y=some (.v (.int k' n)))
  (h0:0<=n) (hb:te.bytes*n.toNat<=2 ^ 48) (Om:n.toNat<=2 ^ 62) (hs:0<te.size) :
  Cert P o σ (.ms σ.objs.length 0 n.toNat n.toNat) (.write (σ.objs++[.cells (List.replicate n.toNat te.zero).flatten])) :=
 Cert.ix hd fun base fF a g bE h iC=>by
  have hO:g.objs=σ.objs:=iC.resolve_left (by simp);have hg:=bE.good;have ex:=(h x (by simp[ho,Op.operands]) _ hx).bV.1;have ey:=(h y (by simp[ho,Op.operands]) _ hy).bV.1;have hu:=bO hT ht aP;obtain⟨⟨i,z,h1,h2,h3,h4,h5,h6,h7,h8,h9⟩,_⟩:=hT e te he;obtain⟨m,rfl⟩:=Int.eq_ofNat_of_zero_le h0;simp only[Int.toNat_natCast]at *;have Mf:(i.bytes:Int)*(m:Int)<=281474976710656:=by
   rw[h3,<-Int.natCast_mul];omega
  have bw:=run_make (P:=P) g.w t e i z hu h1 h4 k k' m m (by omega) (Int.le_refl _) Mf (by omega);simp only[Int.toNat_natCast]at bw;have hlen:(List.replicate m te.zero).flatten.length=m*te.size:=by simp[h6]
  have fQ:∀(j:Nat) (c:ae),(List.replicate m te.zero).flatten[j]?=some c->te.zero[j % te.size]?=some c:=fun j c=>h6 ▸ og te.zero (by omega) m j c;have hle:=Le.alloc hg (.cells (madeCells z.cells (m*i.size)) e) 0 (.cells (List.replicate m te.zero).flatten);refine⟨.slice (some ⟨g.w.heap.size,0,none⟩) m m,g.alloc (.cells (madeCells z.cells (m*i.size)) e) 0 (.cells (List.replicate m te.zero).flatten),.inl ?_,hle,Good.alloc hg _ 0 _ (.inr rfl) ⟨_,e,rfl,?_,?_,?_⟩,?_,?_⟩
  ·simp[execOp,ho,ex,ey,bw,G.alloc]
  ·rw[hlen,size_madeCells,h2];exact Nat.le_refl _
  ·intro j c u hj nW;have gZ:=fQ j c hj;have aZ:=I hj;rw[hlen]at aZ;have jF:j % te.size<z.cells.size:=by rw[h5];exact I gZ
   refine h8 _ _ _ _ gZ ?_;simp only[madeCells,Array.getElem?_map,h2,Array.getElem?_range,if_pos aZ,Option.map_some,Option.some.injEq]at nW;subst nW;rw[h5,h6];simp[jF]
  ·intro c hc;rw[List.mem_flatten]at hc;obtain⟨l,hl,hc⟩:=hc;rw[List.mem_replicate]at hl;exact h9 c (hl.2 ▸ hc)
  ·simp[G.alloc,hO,Mode.post]
  rw[<-hO];exact .ms (l:=⟨g.w.heap.size,0,_⟩) (ir hg) eG (by simp[al.aC]) (Nat.le_refl _) (Nat.le_refl _) Om
theorem lM.bk{g:G}{cs xs:List ae}{arr vs:Array Value}(h:cs.length<=arr.size∧∀(j:Nat)(c:ae)(u:Value),cs[j]?=some c->arr[j]?=some u->RV g c u)(k:lM g xs vs){off:Nat}(ho:off+xs.length<=cs.length) :
  (bk cs off xs).length<=(arr.toList.take off++vs.toList++arr.toList.drop (off+vs.toList.length)).toArray.size ∧
  ∀(j:Nat) (c:ae) (u:Value),(bk cs off xs)[j]?=some c->(arr.toList.take off++vs.toList++arr.toList.drop (off+vs.toList.length)).toArray[j]?=some u->RV g c u:=by
 obtain⟨h1,h2⟩:=h;obtain⟨k1,k2⟩:=k;have hl:(arr.toList.take off).length=off:=by simp;omega
 refine⟨?_,fun j c u hj hu=>?_⟩
 ·rw[gF ho];simp[k1];omega
 rw[iV ho]at hj;have nW:(arr.toList.take off++vs.toList++arr.toList.drop (off+vs.toList.length))[j]?=some u:=by simpa using hu
 rw[List.append_assoc,List.getElem?_append,hl,List.getElem?_append,Array.length_toList,k1]at nW;by_cases e1:j<off
 ·rw[if_pos e1]at nW;rw[if_neg (by omega)]at hj;rw[List.getElem?_take,if_pos e1]at nW;exact h2 j c u hj (by simpa using nW)
 rw[if_neg e1]at nW;by_cases e2:j-off<xs.length
 ·rw[if_pos e2]at nW;rw[if_pos (by omega)]at hj;exact k2 _ c u hj (by simpa using nW)
 rw[if_neg e2]at nW;rw[if_neg (by omega)]at hj;rw[List.getElem?_drop]at nW;refine h2 j c u hj ?_;rw[show off+xs.length+(j-off-xs.length)=j by omega]at nW;simpa using nW
theorem setRow_other(w:World)(b k:Nat)(cs:Array Value)(h:k≠b):(w.setRow b cs).heap[k]?=w.heap[k]?:=by
 simp only[World.setRow,Array.getElem?_modify];rw[if_neg (by omega)]
theorem setRow_size(w:World)(b:Nat)(cs:Array Value):(w.setRow b cs).heap.size=w.heap.size:=by
 simp[World.setRow]
theorem kP{g:G}{id:Nat}{cs cs':List ae}{l:Loc}(ho:g.objs[id]?=some (.cells cs))(he:g.env[id]?=some (some l))(hZ:l.lo=0)(cg:Array Value):kB g id (.cells cs) (some l) (.cells cs') (g.w.setRow l.block cg) where
 obj:=ho
 os:=rfl
 tape:=rfl
 output:=rfl
 size:=by rw[setRow_size];exact Nat.le_refl _
 block:=fun k _ hk=>setRow_other _ _ _ _ (fun e=>hk l he trivial e.symm)
 cell:=fun b off x hx hb=>by
  by_cases e:b=l.block
  ·have:=hb l he trivial e.symm;omega
  rw[iL (setRow_other g.w l.block b cg e)];exact hx
 place:=fun l1 h1 _=>by
  simp only[Option.some.injEq]at h1;subst h1;exact .inr ⟨l,he,trivial,rfl,Nat.le_refl _⟩
 spare:=fun m h=>by cases h
 plain:=fun _=>⟨by simp[al.aC],he⟩
 gone:=by simp
theorem CB{P:Program}{aR:ed}(hT:bY P aR){o:Oper}{σ:St}{t:TypeId}{x y:Operand}{ti:cc}{id off:Nat}{cs:List ae}{v:ae}(ho:o.op=.store t x y)(jm:o.dst=none)
  (ht:aR t=some ti) (hx:σ.ev x=some (.mp id off)) (vP:σ.objs[id]?=some (.cells cs)) (hy:σ.ev y=some v) (hf:v.flat) (di:v.cells.length=ti.size) (hs:off+ti.size<=cs.length) :
  Cert P o σ (.v (.bool false)) (.write (σ.objs.set id (.cells (bk cs off v.cells)))) :=
 Cert.ix (by simp[jm]) fun base fF a g bE h iC=>by
  have hO:g.objs=σ.objs:=iC.resolve_left (by simp);have hg:=bE.good;obtain⟨l,o1,he,h1,_,ex⟩:=(h x (by simp[ho,Op.operands]) _ hx).ng;have BW:=h y (by simp[ho,Op.operands]) _ hy;have ia:=BW.jR hf;have uw:=BW.Ik ia;have lq:g.objs[id]?=some (.cells cs):=by rw[hO];exact vP
  obtain⟨arr,t',hZ,de,hlen,gn,mG,Da⟩:=hg.row lq he;obtain⟨cg,gT⟩:∃cg,cg=(arr.toList.take off++(a.eval y).cells.toList++arr.toList.drop (off+(a.eval y).cells.toList.length)).toArray:=⟨_,rfl⟩
  have dz:=run_storeCells_at P l.block off t' (a.eval y).cells.toList 0 arr g.w de (by simp[uw.1];omega) (fun u hu=>by
   obtain⟨j,hj⟩:=List.getElem?_of_mem hu;have gZ:(a.eval y).cells[j]?=some u:=by simpa using hj
   have aZ:=aW gZ;rw[uw.1]at aZ;have hc:=List.getElem?_eq_getElem aZ;exact((uw.2 j _ u hc gZ).kO (ia _ (List.mem_of_getElem? hc))).1)
  simp only[Nat.add_zero]at dz;rw[<-gT]at dz;have eC:=kP (cs':=bk cs off v.cells) lq he hZ cg;have hle:=Le.bp hg eC;have qY:=lM.bk ⟨hlen,gn⟩ uw (off:=off) (by omega);rw[<-gT]at qY;refine⟨.bool false,g.bp id (some l) (.cells (bk cs off v.cells)) (g.w.setRow l.block cg),.inr ⟨jm,?_⟩,hle,Good.bp hg eC ?_ ?_,?_,.v trivial⟩
  ·have Dd:((a.eval y).cells.size≠ti.size)=False:=by simp[uw.1,di]
   simp[execOp,ho,ex,Instr.storeAt,Instr.sureAddr,Go.storeVar,(hT t ti ht).sizeOf,uw.1,di,dz,G.bp]
  ·refine⟨l,cg,t',rfl,hZ,?_,qY.1,fun j c u a b=>(qY.2 j c u a b).mono hle,fun c hc=>?_,?_⟩
   ·exact setRow_heap g.w l.block arr cg t' (0,0) de
   ·simp only[bk,List.mem_append]at hc;rcases hc with hc|hc|hc
    ·exact mG c (List.mem_of_mem_take hc)
    ·exact ia c hc
    exact mG c (List.mem_of_mem_drop hc)
   have q:=uw.1;rw[gT];simp only[List.size_toArray,List.length_append,List.length_take,List.length_drop,Array.length_toList];omega
  ·intro l1 h1 _;simp only[Option.some.injEq]at h1;subst h1;rw[setRow_size];exact aW de
  simp only[G.bp,Mode.post,hO]
section
variable {P:Program}
theorem gE(w w':World)(t ty e:TypeId)(i:TypeInfo)(ht:P.underlying t=some (.slice e))(hi:P.info? e=some i)(a:Addr)(mL uZ n:Nat)(x:Value)(news:List Value)
  (EW:∀w,(Builtin.lenOf x).run P w=.ok n w) (EX:(Builtin.firstCells i.size n x).run P w=.ok news.toArray w) (mA:mL+n<=uZ) (dz:(storeCells (a.add (mL*i.size)) news).run P w=.ok () w') :
  (Builtin.append_ #[t,t] ty #[.slice (some a) mL uZ,x]).run P w=.ok (.slice (some a) (mL+n) uZ) w':=by
 simp[Builtin.append_,run_underlying ht,Go.sizeOf,typeInfo,hi,EW,mA,EX,dz]
theorem fV(w:World)(t ty e:TypeId)(i:TypeInfo)(z:Value)(ht:P.underlying t=some (.slice e))(hi:P.info? e=some i)(hz:i.zero=some z)(s:Option Addr)(mL uZ n:Nat)(x:Value)(gv news:List Value)
  (EW:∀w,(Builtin.lenOf x).run P w=.ok n w) (EX:(Builtin.firstCells i.size n x).run P w.drew=.ok news.toArray w.drew) (hs:(Builtin.firstCells i.size mL (.slice s mL uZ)).run P w.drew=.ok gv.toArray w.drew)
  (mA:uZ<mL+n) (Yz:mL+n<=2 ^ 62) (bt:(mL+n)*i.bytes<=2 ^ 47) :
  (Builtin.append_ #[t,t] ty #[.slice s mL uZ,x]).run P w =
   .ok (.slice (some ⟨w.heap.size,0,none⟩) (mL+n) (grownCap w (mL+n) uZ e)) (w.drew.alloc (.cells (gv.toArray++news.toArray++Builtin.zeroCells z.cells (grownCap w (mL+n) uZ e-(mL+n))) e)):=by
 have hn:¬(mL+n<=uZ):=by omega
 have Vf:¬(9223372036854775807<((mL:Int)+(n:Int))):=by omega
 have W8:¬(281474976710656<Builtin.nextslicecap (mL+n) uZ*i.bytes):=by
  have h1:=nextslicecap_le mA;have h2:=Nat.mul_le_mul_right i.bytes h1;rw[Nat.mul_assoc]at h2;omega
 simp[Builtin.append_,run_underlying ht,Go.sizeOf,typeInfo,Go.zeroValue,hi,hz,EW,hn,Vf,W8,Question.forced,EX,hs,Go.newRow,grownCap];congr 2;apply Array.ext';simp[List.append_assoc]
end
theorem RV.fR{P:Program}{g:G}{sz:Nat}{xs:List ae}{o:pP}{u:Value}(h:RV g (.aB sz xs o) u):∃(ad:Option Addr) (cap:Nat) (vs:List Value),u=.slice ad xs.length cap∧(∀w,(Builtin.lenOf u).run P w=.ok xs.length w) ∧
  (∀w:World,w.heap=g.w.heap->(Builtin.firstCells sz xs.length u).run P w=.ok vs.toArray w)∧lM g (ao xs) vs.toArray∧(∀x∈xs,x.cells.length=sz)∧(∀c∈ao xs,c.scalar)∧vs.length=xs.length*sz:=by
 rcases h.fH with⟨e1,e2⟩|⟨a,cap,f,e1,di,ia,_,_,hs,hm,hr,_⟩
 ·subst e1 e2;exact⟨none,0,[],rfl,fun w=>rfl,fun w _=>by simp[Builtin.firstCells],⟨by simp[ao],by simp[ao]⟩,by simp,by simp[ao],by simp⟩
 subst e1;have hl:=ca di;refine⟨some a,cap,(List.range (xs.length*sz)).map f,rfl,fun w=>rfl,fun w hw=>?_,⟨by simp[hl],fun j c u hj hu=>?_⟩,di,fun c hc=>?_,by simp⟩
 ·simp only[Builtin.firstCells];refine run_loadCells w a (xs.length*sz) f fun j hj=>?_;have gZ:j<(ao xs).length:=by omega
  have bI:xs≠[]:=by
   intro e;subst e;simp[ao]at gZ
  have:=(hm j _ (List.getElem?_eq_getElem gZ)).1;obtain⟨b,off,sp⟩:=a;have qY:=hs bI;simp only at qY;subst qY;rw[addr_add];simp only[World.cell?,hw];exact this
 ·have aZ:=I hj;rw[hl]at aZ;have nW:((List.range (xs.length*sz)).map f)[j]?=some u:=by simpa using hu
  rw[List.getElem?_map,List.getElem?_range aZ]at nW;simp only[Option.map_some,Option.some.injEq]at nW;subst nW;exact hr j c hj
 simp only[ao,List.mem_flatMap]at hc;obtain⟨x,hx,hc⟩:=hc;exact ia x hx c hc
theorem cP(xs ys:List ae):ao (xs++ys)=ao xs++ao ys:=by simp[ao]
theorem lM.append{g:G}{cs ds:List ae}{us vs:List Value}(h:lM g cs us.toArray)(k:lM g ds vs.toArray):lM g (cs++ds) (us++vs).toArray:=by
 obtain⟨h1,h2⟩:=h;obtain⟨k1,k2⟩:=k;simp only[List.size_toArray]at h1 k1;refine⟨by simp[h1,k1],fun j c u hj hu=>?_⟩;have nW:(us++vs)[j]?=some u:=by simpa using hu
 rw[List.getElem?_append]at hj nW;by_cases e:j<cs.length
 ·rw[if_pos e]at hj;rw[if_pos (by omega)]at nW;exact h2 j c u hj (by simpa using nW)
 rw[if_neg e]at hj;rw[if_neg (by omega),h1]at nW;exact k2 _ c u hj (by simpa using nW)
theorem RV.yE{g:G}{zs:List ae}{sz cap:Nat}{l:Loc}{arr:Array Value}{t:TypeId}{id:Nat}(hg:Good g)(di:∀x∈zs,x.cells.length=sz)(ia:∀c∈ao zs,c.scalar)(gu:zs.length<=2 ^ 62)(ee:zs.length<=cap)
  (he:g.env[id]?=some (some l)) (l5:g.objs[id]?=some (.spare zs.length)) (hZ:l.lo=zs.length*sz) (de:g.w.heap[l.block]?=some (.cells arr t (0,0))) (hc:cap*sz<=arr.size) (dp:∀off,¬g.fr l.block off)
  (hr:∀(j:Nat) (c:ae) (u:Value),(ao zs)[j]?=some c->arr[j]?=some u->RV g c u):RV g (.aB sz zs (.tok id)) (.slice (some ⟨l.block,0,none⟩) zs.length cap):=by
 have hl:=ca di;have hle:zs.length*sz<=cap*sz:=Nat.mul_le_mul_right _ ee;refine .aB di (fun x hx c hc=>ia c (by simp only[ao,List.mem_flatMap];exact⟨x,hx,hc⟩)) ee gu (fun _=>rfl) (fun j=>arr.getD j undef) (fun j c hj=>?_) (fun j c hj=>?_) ⟨I l5,fun m hm=>?_⟩
 ·have aZ:=I hj;rw[hl]at aZ;refine⟨?_,?_⟩
  ·simp only[G.cell,Nat.zero_add];rw[cell_of_row de];simp[Array.getD_eq_getD_getElem?,show j<arr.size by omega]
  rintro(hf|⟨ux,l',o',h1,h2,h3,h4,h5⟩)
  ·exact dp _ hf
  have hb:l'.block=l.block:=h4;have:=hg.apart ux id l' l o' _ h1 h2 h3 he l5 trivial hb;subst this;rw[he]at h1;simp only[Option.some.injEq]at h1;subst h1;simp only[Nat.zero_add]at h5;omega
 ·have aZ:=I hj;rw[hl]at aZ;exact hr j c _ hj (by simp[Array.getD_eq_getD_getElem?,show j<arr.size by omega])
 rw[l5]at hm;simp only[Option.some.injEq,al.spare.injEq]at hm;subst hm;exact⟨Nat.le_refl _,fun _=>.inr ⟨l,arr,t,he,rfl,hZ,de,hc⟩⟩
theorem lM.kl{g:G}{ys:List ae}{vs:List Value}(h:lM g (ao ys) vs.toArray):lM g (ao (ys.map ae.share)) vs.toArray:=by
 rw[ik];exact h.dE
theorem dY{ys:List ae}{sz:Nat}(h:∀x∈ys,x.cells.length=sz):∀x∈ys.map ae.share,x.cells.length=sz:=fun x hx=>by
 rw[List.mem_map]at hx;obtain⟨y,h1,h2⟩:=hx;subst h2;rw[ae.kH,List.length_map];exact h y h1
theorem dT{ys:List ae}(h:∀c∈ao ys,c.scalar):∀c∈ao (ys.map ae.share),c.scalar:=fun c hc=>by
 rw[ik,List.mem_map]at hc;obtain⟨c',h1,h2⟩:=hc;subst h2;exact ae.fc (h c' h1)
theorem dQ{gv news rest:Array Value}{j:Nat}{u:Value}(h:(gv++news++rest)[j]?=some u)(hj:j<gv.size+news.size):(gv++news)[j]?=some u:=by
 rw[Array.getElem?_append]at h;rw[if_pos (by simpa using hj)]at h;exact h
theorem tH{P:Program}{aR:ed}(hT:bY P aR){o:Oper}{σ:St}{t e:TypeId}{x y:Operand}{ti te:cc}{sz:Nat}{xs ys:List ae}{ow:pP}
  (ho:o.op=.call ⟨.builtin .append,#[x,y],#[t,t]⟩) (hd:∀d,o.dst=some d->d<σ.n) (ht:aR t=some ti) (aP:ti.desc=.slice e) (he:aR e=some te) (di:te.size=sz) (hx:σ.ev x=some (.aB sz xs .ex)) (hy:σ.ev y=some (.aB sz ys ow))
  (hlen:xs.length+ys.length<=2 ^ 62) (hb:(xs.length+ys.length)*te.bytes<=2 ^ 47) :
  Cert P o σ (.aB sz (xs++ys.map ae.share) (.tok σ.objs.length)) (.write (σ.objs++[.spare (xs.length+ys.length)])) :=
 Cert.ix hd fun base fF a g bE h iC=>by
  have hO:g.objs=σ.objs:=iC.resolve_left (by simp);have hg:=bE.good;have hu:=bO hT ht aP;subst di;have gJ:=h x (by simp[ho,Op.operands,Call.operands]) _ hx;have BW:=h y (by simp[ho,Op.operands,Call.operands]) _ hy;obtain⟨BN,kT,gv,ex,EW,EX,MC,Jr,Lk,EY⟩:=gJ.fR (P:=P);obtain⟨R6,Ij,news,ey,AM,AN,AO,HV,E1,s9⟩:=BW.fR (P:=P);obtain⟨⟨i,z,h1,h2,h3,h4,h5,h6,h7,h8,h9⟩,_⟩:=hT e te he;have qt:kT=xs.length:=by
   rcases gJ.fH with⟨q1,q2⟩|⟨ad,cap,f,q1,_,_,_,_,_,_,_,q2⟩
   ·rw[ex]at q1;cases q2;simp at q1;simp[q1]
   rw[ex]at q1;simp only[Value.slice.injEq]at q1;rw[q1.2.2];exact q2
  subst qt;have cR:=cC (P:=P) ho a g.w;simp only[builtin,List.map_toArray,List.map_cons,List.map_nil]at cR;by_cases hn:ys.length=0
  ·have WD:ys=[]:=List.length_eq_zero_iff.1 hn;subst WD;have r7:news=[]:=by
    have:news.length=0:=by simpa using s9
    exact List.length_eq_zero_iff.1 this
   subst r7;have bw:(Builtin.append_ #[t,t] o.type #[a.eval x,a.eval y]).run P g.w=.ok (a.eval x) g.w:=by
    rw[ex];cases BN with
    | none =>
     have Df:xs=[]:=by
      rcases gJ.fH with⟨_,q2⟩|⟨ad,cap,f,q1,_⟩
      ·exact q2
      rw[ex]at q1;simp at q1
     subst Df;have q:=AN g.w rfl;simp only[List.length_nil]at q;simp[Builtin.append_,run_underlying hu,Go.sizeOf,typeInfo,h1,AM,h2,q]
    | some ad =>
     have:=gE (P:=P) g.w g.w t o.type e i hu h1 ad xs.length xs.length 0 (a.eval y) [] (fun w=>by simpa using AM w) (by rw[h2];simpa using AN g.w rfl) (by omega) (by simp[storeCells]);simpa using this
   refine⟨a.eval x,g.mark (.spare (xs.length+0)),.inl (by rw[cR];simp[bw,G.mark]),Le.mark hg _,Good.mark hg _,by simp[G.mark,hO,Mode.post],?_⟩;simp only[List.map_nil,List.append_nil];have Js:=gJ.mono (Le.mark hg (.spare (xs.length+0)));cases nW:a.eval x with
   | slice ad len cap =>
    rw[nW]at Js;cases Js with
    | nil=>exact .nil (fun id e=>by simp only[pP.tok.injEq]at e;subst e;simp[G.mark,hO]) (by simp)
    | aB di ia ee gu hs f hm hr Wa =>
     refine .aB di ia ee gu hs f hm hr ⟨by simp[G.mark,hO],fun m la=>?_⟩;have:(g.mark (.spare (xs.length+0))).objs[σ.objs.length]?=some (.spare (xs.length+0)):=by
      rw[<-hO];exact eG
     rw[this]at la;simp only[Option.some.injEq,al.spare.injEq]at la;exact⟨by omega,fun _=>.inl Wa⟩
   | _=>rw[ex]at nW;cases nW
  have bw:=fV (P:=P) g.w t o.type e i z hu h1 h4 BN xs.length xs.length ys.length (a.eval y) gv news AM (by rw[h2];exact AN g.w.drew rfl) (by rw[h2,<-ex];exact EX g.w.drew rfl) (by omega) hlen (by rw[h3];exact hb);rw[<-ex]at bw;obtain⟨cap,ee⟩:∃cap,cap=grownCap g.w (xs.length+ys.length) xs.length e:=⟨_,rfl⟩
  obtain⟨rest,eQ⟩:∃rest,rest=Builtin.zeroCells z.cells (cap-(xs.length+ys.length)):=⟨_,rfl⟩
  have qX:=grownCap_ge g.w (xs.length+ys.length) xs.length e;rw[<-ee]at bw qX;rw[<-eQ]at bw;have wV:rest.size=(cap-(xs.length+ys.length))*te.size:=by rw[eQ,size_zeroCells,h5,h6]
  obtain⟨arr,fP⟩:∃arr,arr=gv.toArray++news.toArray++rest:=⟨_,rfl⟩
  rw[<-fP]at bw;have mM:=hg.heap (w':=g.w.drew) rfl rfl rfl rfl;have m6:=Le.heap (g:=g) (w':=g.w.drew) rfl rfl rfl rfl;obtain⟨g1,ln⟩:∃g1:G,g1=⟨g.w.drew,g.fr,g.env,g.objs⟩:=⟨_,rfl⟩
  rw[<-ln]at mM m6;have sR:g1.w=g.w.drew:=by rw[ln]
  have nV:g1.objs=σ.objs:=by rw[ln];exact hO
  have jo:Fits (g1.alloc (.cells arr e) ((xs.length+ys.length)*te.size) (.spare (xs.length+ys.length))) (.cells arr e) (.spare (xs.length+ys.length)):=⟨arr,e,rfl⟩
  have c7:=Good.alloc mM (.cells arr e) ((xs.length+ys.length)*te.size) (.spare (xs.length+ys.length)) (.inl trivial) jo;have hle:=m6.trans (Le.alloc mM (.cells arr e) ((xs.length+ys.length)*te.size) (.spare (xs.length+ys.length)));refine⟨.slice (some ⟨g.w.heap.size,0,none⟩) (xs.length+ys.length) cap,_,.inl ?_,hle,c7,?_,?_⟩
  ·rw[cR];simp[bw,G.alloc,sR]
  ·simp[G.alloc,nV,Mode.post]
  have gB:(xs++ys.map ae.share).length=xs.length+ys.length:=by simp
  have jE:=MC.append AO.kl;rw[<-cP]at jE;have gA:(ao (xs++ys.map ae.share)).length=(xs.length+ys.length)*te.size:=by
   rw[ca (sz:=te.size) (fun x hx=>by
    rcases List.mem_append.1 hx with q|q
    ·exact Jr x q
    exact dY HV x q),gB]
  have:=RV.yE (g:=g1.alloc (.cells arr e) ((xs.length+ys.length)*te.size) (.spare (xs.length+ys.length))) (zs:=xs++ys.map ae.share) (sz:=te.size) (cap:=cap) (l:=⟨g.w.heap.size,(xs.length+ys.length)*te.size,arr.size⟩) (arr:=arr) (t:=e) (id:=σ.objs.length) c7
   (fun x hx=>by
    rcases List.mem_append.1 hx with q|q
    ·exact Jr x q
    exact dY HV x q)
   (fun c hc=>by
    rw[cP]at hc;rcases List.mem_append.1 hc with q|q
    ·exact Lk c q
    exact dT E1 c q)
   (by rw[gB];exact hlen) (by rw[gB];exact qX) (by
    have:=ir mM (l:=some ⟨g1.w.heap.size,(xs.length+ys.length)*te.size,lh (.cells arr e)⟩);rw[nV]at this;simp only[G.alloc];rw[this,sR];rfl) (by rw[gB,<-nV];exact eG) (by rw[gB]) (by
    have:=cz g1.w (.cells arr e);rw[sR]at this;simp only[G.alloc,sR];exact this) (by
    rw[fP];simp only[Array.size_append,List.size_toArray,EY,s9,wV,<-Nat.add_mul];rw[show xs.length+ys.length+(cap-(xs.length+ys.length))=cap by omega];exact Nat.le_refl _) (fun off hf=>by
    have eU:g.fr g.w.heap.size off:=by rw[ln]at hf;exact hf
    have:=hg.frlt _ _ eU;omega) (fun j c u hj hu=>by
    have aZ:=I hj;rw[gA]at aZ;rw[fP]at hu;have vT:=dQ hu (by simp only[List.size_toArray,EY,s9,<-Nat.add_mul];exact aZ);exact(jE.2 j c u hj (by simpa using vT)).mono hle)
  rw[gB]at this;exact this
theorem sC{P:Program}{aR:ed}(hT:bY P aR){o:Oper}{σ:St}{t e:TypeId}{x y:Operand}{ti te:cc}{sz:Nat}{xs ys:List ae}{ow:pP}{id:Nat}
  (ho:o.op=.call ⟨.builtin .append,#[x,y],#[t,t]⟩) (hd:∀d,o.dst=some d->d<σ.n) (ht:aR t=some ti) (aP:ti.desc=.slice e) (he:aR e=some te) (di:te.size=sz) (hx:σ.ev x=some (.aB sz xs (.tok id))) (hy:σ.ev y=some (.aB sz ys ow))
  (l5:σ.objs[id]?=some (.spare xs.length)) (hlen:xs.length+ys.length<=2 ^ 62) (hb:(xs.length+ys.length)*te.bytes<=2 ^ 47) :
  Cert P o σ (.aB sz (xs++ys.map ae.share) (.tok id)) (.write (σ.objs.set id (.spare (xs.length+ys.length)))) :=
 Cert.ix hd fun base fF a g bE h iC=>by
  have hO:g.objs=σ.objs:=iC.resolve_left (by simp);have hg:=bE.good;have hu:=bO hT ht aP;subst di;have gJ:=h x (by simp[ho,Op.operands,Call.operands]) _ hx;have BW:=h y (by simp[ho,Op.operands,Call.operands]) _ hy;obtain⟨BN,kT,gv,ex,EW,EX,MC,Jr,Lk,EY⟩:=gJ.fR (P:=P);obtain⟨R6,Ij,news,ey,AM,AN,AO,HV,E1,s9⟩:=BW.fR (P:=P);obtain⟨⟨i,z,h1,h2,h3,h4,h5,h6,h7,h8,h9⟩,_⟩:=hT e te he;have gq:g.objs[id]?=some (.spare xs.length):=by rw[hO];exact l5
  have cR:=cC (P:=P) ho a g.w;simp only[builtin,List.map_toArray,List.map_cons,List.map_nil]at cR;have gh:∀m,m=xs.length->g.objs.set id (.spare m)=g.objs:=fun m hm=>by
   subst hm;apply List.ext_getElem?;intro k;by_cases e:id=k
   ·subst e;rw[List.getElem?_set_self (I gq),gq]
   rw[List.getElem?_set_ne e]
  have gB:(xs++ys.map ae.share).length=xs.length+ys.length:=by simp
  have Dg:∀x∈xs++ys.map ae.share,x.cells.length=te.size:=fun x hx=>by
   rcases List.mem_append.1 hx with q|q
   ·exact Jr x q
   exact dY HV x q
  have Jt:∀c∈ao (xs++ys.map ae.share),c.scalar:=fun c hc=>by
   rw[cP]at hc;rcases List.mem_append.1 hc with q|q
   ·exact Lk c q
   exact dT E1 c q
  have gA:(ao (xs++ys.map ae.share)).length=(xs.length+ys.length)*te.size:=by
   rw[ca Dg,gB]
  have jE:=MC.append AO.kl;rw[<-cP]at jE;by_cases hn:ys.length=0
  ·have WD:ys=[]:=List.length_eq_zero_iff.1 hn;subst WD;have r7:news=[]:=by
    have:news.length=0:=by simpa using s9
    exact List.length_eq_zero_iff.1 this
   subst r7;have ee:xs.length<=kT:=by
    rcases gJ.fH with⟨_,q2⟩|⟨ad,cap,f,q1,_,_,q2,_⟩
    ·simp[q2]
    rw[ex]at q1;simp only[Value.slice.injEq]at q1;rw[q1.2.2];exact q2
   have bw:(Builtin.append_ #[t,t] o.type #[a.eval x,a.eval y]).run P g.w=.ok (a.eval x) g.w:=by
    rw[ex];cases BN with
    | none =>
     have Df:xs=[]∧kT=0:=by
      rcases gJ.fH with⟨q1,q2⟩|⟨ad,cap,f,q1,_⟩
      ·rw[ex]at q1;simp only[Value.slice.injEq]at q1;exact⟨q2,q1.2.2⟩
      rw[ex]at q1;simp at q1
     obtain⟨e1,e2⟩:=Df;subst e1;subst e2;have q:=AN g.w rfl;simp only[List.length_nil]at q;simp[Builtin.append_,run_underlying hu,Go.sizeOf,typeInfo,h1,AM,h2,q]
    | some ad =>
     have:=gE (P:=P) g.w g.w t o.type e i hu h1 ad xs.length kT 0 (a.eval y) [] (fun w=>by simpa using AM w) (by rw[h2];simpa using AN g.w rfl) (by omega) (by simp[storeCells]);simpa using this
   refine⟨a.eval x,g,.inl (by rw[cR];simp[bw]),Le.refl g,hg,?_,?_⟩
   ·simp only[Mode.post,<-hO];exact(gh _ (by simp)).symm
   simpa using gJ
  have hm:xs.length<xs.length+ys.length:=by omega
  by_cases mA:xs.length+ys.length<=kT
  ·-- in place
   obtain⟨l,arr,t',q1,q2,q3,q4,q5⟩:∃(l:Loc) (arr:Array Value) (t':TypeId),g.env[id]?=some (some l)∧BN=some ⟨l.block,0,none⟩∧l.lo=xs.length*te.size∧g.w.heap[l.block]?=some (.cells arr t' (0,0))∧kT*te.size<=arr.size:=by
    rcases gJ.fH with⟨q1,q2⟩|⟨ad,cap,f,q1,_,_,_,_,_,_,_,q2⟩
    ·rw[ex]at q1;simp only[Value.slice.injEq]at q1;omega
    rw[ex]at q1;simp only[Value.slice.injEq]at q1;obtain⟨e1,_,e3⟩:=q1;subst e1;subst e3;rcases(q2.2 _ gq).2 rfl with q|⟨l,arr,t',q1,q2,q3,q4,q5⟩
    ·omega
    exact⟨l,arr,t',q1,by rw[q2],q3,q4,q5⟩
   subst q2;have bt:xs.length*te.size+0+news.length<=arr.size:=by
    rw[s9,Nat.add_zero,<-Nat.add_mul];exact Nat.le_trans (Nat.mul_le_mul_right _ mA) q5
   have AJ:∀v∈news,v.oneCell'=true:=fun v hv=>by
    obtain⟨j,hj⟩:=List.getElem?_of_mem hv;have aZ:=I hj;have hs:=AO.1;simp only[List.size_toArray]at hs;rw[hs]at aZ;have hc:=List.getElem?_eq_getElem aZ;exact((AO.2 j _ v hc (by simpa using hj)).kO (E1 _ (List.mem_of_getElem? hc))).1
   have dz:=run_storeCells_at P l.block (xs.length*te.size) t' news 0 arr g.w q4 bt AJ;simp only[Nat.add_zero]at dz;obtain⟨cg,gT⟩:∃cg,cg=(arr.toList.take (xs.length*te.size)++news++arr.toList.drop (xs.length*te.size+news.length)).toArray:=⟨_,rfl⟩
   rw[<-gT]at dz;have m7:cg.size=arr.size:=by
    rw[gT];simp;omega
   have Mr:∀j,j<xs.length*te.size->cg[j]?=arr[j]?:=fun j hj=>by
    rw[gT];simp only[List.append_assoc,List.getElem?_toArray];rw[List.getElem?_append,if_pos (by simp;omega),List.getElem?_take,if_pos hj];simp
   have yi:∀j u,cg[j]?=some u->xs.length*te.size<=j->j<(xs.length+ys.length)*te.size->news[j-xs.length*te.size]?=some u:=fun j u hj h1 h2=>by
    rw[gT]at hj;simp only[List.append_assoc,List.getElem?_toArray]at hj;have PX:(arr.toList.take (xs.length*te.size)).length=xs.length*te.size:=by simp;omega
    rw[List.getElem?_append,PX,if_neg (by omega),List.getElem?_append,if_pos (by rw[s9];rw[Nat.add_mul]at h2;omega)]at hj;exact hj
   have bw:=gE (P:=P) g.w (g.w.setRow l.block cg) t o.type e i hu h1 ⟨l.block,0,none⟩ xs.length kT ys.length (a.eval y) news AM (by rw[h2];exact AN g.w rfl) mA (by rw[h2,addr_add,Nat.zero_add];exact dz);rw[<-ex]at bw;have eC:kB g id (.spare xs.length) (some ⟨l.block,(xs.length+ys.length)*te.size,0⟩) (.spare (xs.length+ys.length)) (g.w.setRow l.block cg):={
    obj:=gq
    os:=rfl
    tape:=rfl
    output:=rfl
    size:=by rw[setRow_size];exact Nat.le_refl _
    block:=fun k _ hk=>setRow_other _ _ _ _ (fun e=>hk l q1 trivial e.symm)
    cell:=fun b off x hx hb=>by
     by_cases e:b=l.block
     ·subst e;have aZ:=hb l q1 trivial rfl;rw[q3]at aZ;rw[cell_of_row (setRow_heap g.w l.block arr cg t' (0,0) q4),Mr off aZ];simp only[G.cell]at hx;rw[cell_of_row q4]at hx;exact hx
     rw[iL (setRow_other g.w l.block b cg e)];exact hx
    place:=fun l1 h1 _=>by
     simp only[Option.some.injEq]at h1;subst h1;exact .inr ⟨l,q1,trivial,rfl,by rw[q3];exact Nat.mul_le_mul_right _ (by omega)⟩
    spare:=fun m h=>by
     simp only[al.spare.injEq]at h;subst h;exact .inl ⟨_,rfl,hm⟩
    plain:=fun h=>absurd trivial h
    gone:=by simp }
   have hle:=Le.bp hg eC;have c7:=Good.bp hg eC (fun l1 h1=>by
    simp only[Option.some.injEq]at h1;subst h1;exact⟨cg,t',setRow_heap g.w l.block arr cg t' (0,0) q4⟩) (fun l1 h1 _=>by
    simp only[Option.some.injEq]at h1;subst h1;rw[setRow_size];exact aW q4)
   refine⟨.slice (some ⟨l.block,0,none⟩) (xs.length+ys.length) kT,_,.inl ?_,hle,c7,by simp only[G.bp,Mode.post,hO],?_⟩
   ·rw[cR];simp[bw,G.bp]
   have:=RV.yE (g:=g.bp id (some ⟨l.block,(xs.length+ys.length)*te.size,0⟩) (.spare (xs.length+ys.length)) (g.w.setRow l.block cg)) (zs:=xs++ys.map ae.share) (sz:=te.size) (cap:=kT)
    (l:=⟨l.block,(xs.length+ys.length)*te.size,0⟩) (arr:=cg) (t:=t') (id:=id) c7 Dg Jt (by rw[gB];exact hlen) (by rw[gB];exact mA)
    (by simp only[G.bp];rw[List.getElem?_set_self (iq hg gq)]) (by rw[gB];simp only[G.bp];rw[List.getElem?_set_self (I gq)]) (by rw[gB])
    (setRow_heap g.w l.block arr cg t' (0,0) q4) (by rw[m7];exact q5) (fun off hf=>?_) (fun j c u hj hu=>?_)
   ·rw[gB]at this;exact this
   ·have eU:g.fr l.block off:=hf;exact absurd eU (hg.frown id l _ q1 gq trivial off)
   have aZ:=I hj;rw[gA]at aZ;refine(jE.2 j c u hj ?_).mono hle;have ES:gv.length=xs.length*te.size:=EY;simp only[List.getElem?_toArray];rw[List.getElem?_append];by_cases e:j<gv.length
   ·rw[if_pos e];have gZ:(ao xs)[j]?=some c:=by
     rw[cP,List.getElem?_append,if_pos (by rw[ca Jr];omega)]at hj;exact hj
    rw[Mr j (by omega)]at hu;have GA:=EX g.w rfl;rw[ex]at GA;simp only[Builtin.firstCells]at GA;have Te:=run_loadCells (P:=P) g.w ⟨l.block,0,none⟩ (xs.length*te.size) (fun k=>arr.getD k undef) (fun k hk=>by
     rw[addr_add,cell_of_row q4,Nat.zero_add];simp[Array.getD_eq_getD_getElem?,show k<arr.size by omega])
    rw[Te]at GA;simp only[Result.ok.injEq,and_true]at GA;have holds:gv=(List.range (xs.length*te.size)).map (fun k=>arr.getD k undef):=by
     have:=congrArg Array.toList GA;simpa using this.symm
    rw[holds,List.getElem?_map,List.getElem?_range (by omega)];simp only[Option.map_some,Option.some.injEq];have La:j<arr.size:=by omega
    simp only[Array.getElem?_eq_getElem La,Option.some.injEq]at hu;simp[Array.getD_eq_getD_getElem?,La,hu]
   rw[if_neg e,ES];exact yi j u hu (by omega) aZ
  -- a new row
  have bw:=fV (P:=P) g.w t o.type e i z hu h1 h4 BN xs.length kT ys.length (a.eval y) gv news AM (by rw[h2];exact AN g.w.drew rfl) (by rw[h2,<-ex];exact EX g.w.drew rfl) (by omega) hlen (by rw[h3];exact hb);rw[<-ex]at bw;obtain⟨cap,ee⟩:∃cap,cap=grownCap g.w (xs.length+ys.length) kT e:=⟨_,rfl⟩
  obtain⟨rest,eQ⟩:∃rest,rest=Builtin.zeroCells z.cells (cap-(xs.length+ys.length)):=⟨_,rfl⟩
  have qX:=grownCap_ge g.w (xs.length+ys.length) kT e;rw[<-ee]at bw qX;rw[<-eQ]at bw;have wV:rest.size=(cap-(xs.length+ys.length))*te.size:=by rw[eQ,size_zeroCells,h5,h6]
  obtain⟨arr,fP⟩:∃arr,arr=gv.toArray++news.toArray++rest:=⟨_,rfl⟩
  rw[<-fP]at bw;have eC:kB g id (.spare xs.length) (some ⟨g.w.heap.size,(xs.length+ys.length)*te.size,0⟩) (.spare (xs.length+ys.length)) (g.w.drew.alloc (.cells arr e)):={
   obj:=gq
   os:=rfl
   tape:=rfl
   output:=rfl
   size:=by show g.w.heap.size<=(g.w.heap.push _).size;rw[Array.size_push];omega
   block:=fun k hk _=>cB g.w.drew _ hk
   cell:=fun b off x hx _=>by
    have:=nK hx;rw[iL (cB g.w.drew (.cells arr e) this)];exact hx
   place:=fun l1 h1 _=>by
    simp only[Option.some.injEq]at h1;subst h1;exact .inl (Nat.le_refl _)
   spare:=fun m h=>by
    simp only[al.spare.injEq]at h;subst h;exact .inl ⟨_,rfl,hm⟩
   plain:=fun h=>absurd trivial h
   gone:=by simp }
  have hle:=Le.bp hg eC;have c7:=Good.bp hg eC (fun l1 h1=>by
   simp only[Option.some.injEq]at h1;subst h1;exact⟨arr,e,cz g.w.drew _⟩) (fun l1 h1 _=>by
   simp only[Option.some.injEq]at h1;subst h1;exact aW (cz g.w.drew (.cells arr e)))
  refine⟨.slice (some ⟨g.w.heap.size,0,none⟩) (xs.length+ys.length) cap,_,.inl ?_,hle,c7,by simp only[G.bp,Mode.post,hO],?_⟩
  ·rw[cR];simp[bw,G.bp]
  have:=RV.yE (g:=g.bp id (some ⟨g.w.heap.size,(xs.length+ys.length)*te.size,0⟩) (.spare (xs.length+ys.length)) (g.w.drew.alloc (.cells arr e))) (zs:=xs++ys.map ae.share) (sz:=te.size) (cap:=cap)
   (l:=⟨g.w.heap.size,(xs.length+ys.length)*te.size,0⟩) (arr:=arr) (t:=e) (id:=id) c7 Dg Jt (by rw[gB];exact hlen) (by rw[gB];exact qX)
   (by simp only[G.bp];rw[List.getElem?_set_self (iq hg gq)]) (by rw[gB];simp only[G.bp];rw[List.getElem?_set_self (I gq)]) (by rw[gB])
   (cz g.w.drew _) (by
    rw[fP];simp only[Array.size_append,List.size_toArray,EY,s9,wV,<-Nat.add_mul];rw[show xs.length+ys.length+(cap-(xs.length+ys.length))=cap by omega];exact Nat.le_refl _) (fun off hf=>by
    have eU:g.fr g.w.heap.size off:=hf;have:=hg.frlt _ _ eU;omega) (fun j c u hj hu=>by
    have aZ:=I hj;rw[gA]at aZ;rw[fP]at hu;have vT:=dQ hu (by simp only[List.size_toArray,EY,s9,<-Nat.add_mul];exact aZ);exact(jE.2 j c u hj (by simpa using vT)).mono hle)
  rw[gB]at this;exact this
end Go.Av
namespace Go.Av
def mw:Value->Value->Bool
 | .string a,.string b=>decide (a=b)
 | .int _ a,.int _ b=>decide (a=b)
 | _,_=>false
def jM:List (Value×ae)->Value->Option ae
 | [],_=>none
 | (k,x)::r,key=>if mw k key then some x else jM r key
def mf:List (Value×ae)->Value->ae->List (Value×ae)
 | [],key,y=>[(key,y)]
 | (k,x)::r,key,y=>if mw k key then(key,y)::r else(k,x)::mf r key y
def KT.desc:KT->TypeDesc->Prop
 | .str,d=>d=.string
 | .int k,d=>d=.int k
theorem bytes_beq(s t:ByteArray):(s == t)=decide (s=t):=by
 obtain⟨a⟩:=s;obtain⟨b⟩:=t;have e:((⟨a⟩:ByteArray) == ⟨b⟩)=(a == b):=rfl;rw[e,Bool.eq_iff_iff];simp
theorem DX{kt:KT}{d:TypeDesc}(hd:kt.desc d){a b:Value}(ha:kt.ok a)(hb:kt.ok b):Instr.sameNow d a b=some (mw b a):=by
 cases kt with
 | str =>
  simp only[KT.desc]at hd;subst hd;cases a<;>simp only[KT.ok]at ha;cases b<;>simp only[KT.ok]at hb;rename_i s t;simp only[Instr.sameNow,mw,Option.some.injEq,bytes_beq];rw[Bool.eq_iff_iff];simp only[decide_eq_true_eq];exact⟨Eq.symm,Eq.symm⟩
 | int k =>
  simp only[KT.desc]at hd;subst hd;cases a<;>simp only[KT.ok]at ha;cases b<;>simp only[KT.ok]at hb;rename_i s t;subst ha;subst hb;simp only[Instr.sameNow,mw,if_true,Option.some.injEq];rw[Bool.eq_iff_iff];simp only[beq_iff_eq,decide_eq_true_eq];exact⟨Eq.symm,Eq.symm⟩
theorem findNow_spec{kt:KT}{d:TypeDesc}(hd:kt.desc d){key:Value}(hk:kt.ok key):∀(arr:List MapEntry) (es:List (Value×ae)) (i:Nat),arr.length=es.length ->
  (∀(j:Nat) (e:MapEntry) (kx:Value×ae),arr[j]?=some e->es[j]?=some kx->e.key=kx.1)->(∀p∈es,kt.ok p.1) ->
  ∃r,Instr.findNow d key arr i=some r ∧
   ((r=none∧jM es key=none∧∀y,mf es key y=es++[(key,y)]) ∨
    ∃(j:Nat) (e:MapEntry) (x:ae) (k0:Value),r=some (i+j,e.val)∧arr[j]?=some e∧es[j]?=some (k0,x)∧mw k0 key=true∧jM es key=some x∧∀y,mf es key y=es.set j (key,y))
 | [],[],i,_,_,_=>⟨none,rfl,.inl ⟨rfl,rfl,fun _=>rfl⟩⟩
 | [],_::_,i,hl,_,_=>by simp at hl
 | _::_,[],i,hl,_,_=>by simp at hl
 | e::arr,(k0,x)::es,i,hl,GD,jG=>by
  have he:e.key=k0:=GD 0 e (k0,x) rfl rfl;have HQ:kt.ok k0:=jG (k0,x) (by simp);have hs:=DX hd hk (he ▸ HQ:kt.ok e.key);simp only[Instr.findNow,hs];cases hq:mw e.key key with
  | true =>
   refine⟨some (i,e.val),by rfl,.inr ⟨0,e,x,k0,by simp,rfl,rfl,he ▸ hq,?_,fun y=>?_⟩⟩
   ·rw[he]at hq;simp[jM,hq]
   rw[he]at hq;simp[mf,hq]
  | false =>
   rw[he]at hq;obtain⟨r,h1,h2⟩:=findNow_spec hd hk arr es (i+1) (by simpa using hl) (fun j e' kx a b=>GD (j+1) e' kx (by simpa using a) (by simpa using b)) (fun p hp=>jG p (by simp[hp]));refine⟨r,h1,?_⟩;rcases h2 with⟨q1,q2,q3⟩|⟨j,e',x',k',q1,q2,q3,q4,q5,q6⟩
   ·exact .inl ⟨q1,by simp[jM,hq,q2],fun y=>by simp[mf,hq,q3]⟩
   refine .inr ⟨j+1,e',x',k',?_,by simpa using q2,by simpa using q3,q4,by simp[jM,hq,q5],fun y=>by simp[mf,hq,q6]⟩;rw[q1];simp only[Option.some.injEq,Prod.mk.injEq,and_true];omega
theorem nc{P:Program}{aR:ed}(hT:bY P aR){t k e:TypeId}{ti:cc}(ht:aR t=some ti)(aP:ti.desc=.map k e):P.underlying t=some (.map k e):=by
 obtain⟨_,d,h1,h2⟩:=hT t ti ht;rw[aP]at h2;simp only[tV]at h2;rw[h1,h2]
theorem run_checkKey{P:Program}{kt:KT}{k:TypeId}{d:TypeDesc}(hu:P.underlying k=some d)(hd:kt.desc d){key:Value}(w:World)(b:Bool)(n:Nat):(Instr.checkKey b (n+1) k key).run P w=.ok () w:=by
 cases kt<;>simp only[KT.desc]at hd<;>subst hd<;>simp[Instr.checkKey,run_underlying hu]
def zeroOf(ti:cc):ae:=if ti.desc.agg then .agg ti.zero else ti.zero.getD 0 (.v (.bool false))
theorem nH{P:Program}{t:TypeId}{ti:cc}(h:Uq P t ti)(hs:ti.desc.agg=true∨ti.size=1):∃z,(∀w,(Go.zeroValue t).run P w=.ok z w)∧∀g,RV g (zeroOf ti) z:=by
 obtain⟨⟨i,z,h1,h2,h3,h4,h5,h6,h7,h8,h9⟩,_⟩:=h;refine⟨z,fun w=>by simp[Go.zeroValue,typeInfo,h1,h4],fun g=>?_⟩;unfold zeroOf;split
 ·rename_i e9;obtain⟨cs,e⟩:=h7.1 e9;subst e;exact .agg h5 h9 (h8 g)
 rename_i e9;have di:ti.zero.length=1:=by
  rcases hs with q|q
  ·exact absurd q e9
  omega
 match hz:ti.zero,di with
 | [c],_ =>
  have sK:z.cells.size=1:=by rw[h5,hz];rfl
  have ia:c.scalar:=h9 c (by rw[hz];simp);have hr:=h8 g 0 c (z.cells[0]) (by rw[hz];rfl) (by simp[sK]);have Qr:=h7.2 (by simpa using e9);have WH:z.cells[0]=z:=by simp[Qr]
  rw[WH]at hr;exact hr
theorem y4{P:Program}{t:TypeId}{ti:cc}(h:Uq P t ti)(hs:ti.desc.agg=true∨ti.size=1):(zeroOf ti).cells=ti.zero∧ti.zero.length=ti.size∧∀c∈ti.zero,c.scalar:=by
 obtain⟨⟨i,z,h1,h2,h3,h4,h5,h6,h7,h8,h9⟩,_⟩:=h;refine⟨?_,h6,h9⟩;unfold zeroOf;split
 ·rfl
 rename_i e9;have di:ti.zero.length=1:=by
  rcases hs with q|q
  ·exact absurd q e9
  omega
 match hz:ti.zero,di with
 | [c],_ =>
  have ia:c.scalar:=h9 c (by rw[hz];simp);simp only[List.getD_cons_zero];cases c<;>first|rfl|exact ia.elim
theorem RV.MH{g:G}{sz:Nat}{xs:List ae}{o:pP}{u:Value}(h:RV g (.aB sz xs o) u):RV g (.aB sz (xs.map ae.share) o) u:=by
 cases h with
 | nil ho hn=>exact .nil ho hn
 | aB di ia ee gu hs f hm hr ho =>
  have key:∀(j:Nat) (c:ae),(ao (xs.map ae.share))[j]?=some c->∃c',(ao xs)[j]?=some c'∧c'.bo=c:=fun j c hj=>by
   rw[ik,List.getElem?_map,Option.map_eq_some_iff]at hj;exact hj
  have hl:(xs.map ae.share).length=xs.length:=List.length_map _;rw[<-hl]at ee gu ho ⊢;refine .aB (dY di) (fun x hx c hc=>?_) ee gu (fun bI=>hs fun e=>bI (by rw[e];rfl)) f (fun j c hj=>?_) (fun j c hj=>?_) ho
  ·exact dT (fun c hc=>by
    simp only[ao,List.mem_flatMap]at hc;obtain⟨x,hx,hc⟩:=hc;exact ia x hx c hc) c (by
    simp only[ao,List.mem_flatMap];exact⟨x,hx,hc⟩)
  ·obtain⟨c',Gt,_⟩:=key j c hj;exact hm j c' Gt
  obtain⟨c',Gt,rfl⟩:=key j c hj;exact(hr j c' Gt).bo
theorem sF{P:Program}{aR:ed}(hT:bY P aR){o:Oper}{σ:St}{t e:TypeId}{x y:Operand}{ti te:cc}{k k':IntKind}{n:Int}
  (ho:o.op=.makeSlice t x y) (hd:∀d,o.dst=some d->d<σ.n) (ht:aR t=some ti) (aP:ti.desc=.slice e) (he:aR e=some te) (hx:σ.ev x=some (.v (.int k n))) (hy:σ.ev y=some (.v (.int k' n)))
  (h0:0<=n) (hb:te.bytes*n.toNat<=2 ^ 48) (Om:n.toNat<=2 ^ 62) (hs:0<te.size) (AJ:te.desc.agg=true∨te.size=1) :
  Cert P o σ (.aB te.size (List.replicate n.toNat (zeroOf te).share) .ex) .pure :=
 Cert.ix hd fun base fF a g bE h _=>by
  have hg:=bE.good;have ex:=(h x (by simp[ho,Op.operands]) _ hx).bV.1;have ey:=(h y (by simp[ho,Op.operands]) _ hy).bV.1;have hu:=bO hT ht aP;obtain⟨c1,c2,c3⟩:=y4 (hT e te he) AJ;obtain⟨⟨i,z,h1,h2,h3,h4,h5,h6,h7,h8,h9⟩,_⟩:=hT e te he;obtain⟨m,rfl⟩:=Int.eq_ofNat_of_zero_le h0;simp only[Int.toNat_natCast]at *;have Mf:(i.bytes:Int)*(m:Int)<=281474976710656:=by
   rw[h3,<-Int.natCast_mul];omega
  have bw:=run_make (P:=P) g.w t e i z hu h1 h4 k k' m m (by omega) (Int.le_refl _) Mf (by omega);simp only[Int.toNat_natCast]at bw;have SG:ao (List.replicate m (zeroOf te))=(List.replicate m te.zero).flatten:=by
   rw[ao,List.flatMap_replicate,c1]
  have hlen:(List.replicate m te.zero).flatten.length=m*te.size:=by simp[h6]
  have fQ:∀(j:Nat) (c:ae),(List.replicate m te.zero).flatten[j]?=some c->te.zero[j % te.size]?=some c:=fun j c=>h6 ▸ og te.zero (by omega) m j c;have hle:=Le.push g hg (.cells (madeCells z.cells (m*i.size)) e);have yi:=cz g.w (.cells (madeCells z.cells (m*i.size)) e (0,0));have Jq:RV (g.push (.cells (madeCells z.cells (m*i.size)) e)) (.aB te.size (List.replicate m (zeroOf te)) .ex) (.slice (some ⟨g.w.heap.size,0,none⟩) m m):=by
   have key:=@RV.aB (g.push (.cells (madeCells z.cells (m*i.size)) e)) te.size (List.replicate m (zeroOf te)) .ex ⟨g.w.heap.size,0,none⟩ m (fun x hx=>by
    rw[(List.mem_replicate.1 hx).2,c1,c2]) (fun x hx c hc=>by
    rw[(List.mem_replicate.1 hx).2,c1]at hc;exact c3 c hc) (by simp) (by simpa using Om) (fun _=>rfl) (fun j=>(madeCells z.cells (m*i.size)).getD j undef) (fun j c hj=>by
     rw[SG]at hj;have aZ:=I hj;rw[hlen]at aZ;refine⟨?_,?_⟩
     ·show(g.w.alloc _).cell? _=_;rw[cell_of_row yi,Nat.zero_add];have di:j<(madeCells z.cells (m*i.size)).size:=by rw[size_madeCells,h2];exact aZ
      simp[Array.getD_eq_getD_getElem?,di]
     ·rintro(hf|⟨id,l,o',q1,q2,q3,q4,_⟩)
      ·have:=hg.frlt _ _ hf;simp at this
      have:=hg.loc id l o' q1 q2 q3;simp only at q4;omega) (fun j c hj=>by
     rw[SG]at hj;have gZ:=fQ j c hj;have aZ:=I hj;rw[hlen]at aZ;have jF:j % te.size<z.cells.size:=by rw[h5];exact I gZ
     refine h8 _ _ _ _ gZ ?_;have di:j<(madeCells z.cells (m*i.size)).size:=by rw[size_madeCells,h2];exact aZ
     have:(madeCells z.cells (m*i.size))[j]?=some (z.cells[j % te.size]'jF):=by
      simp only[madeCells,Array.getElem?_map,h2,Array.getElem?_range,if_pos aZ,Option.map_some,Option.some.injEq];rw[h5,h6];simp[Array.getD_eq_getD_getElem?,jF]
     rw[Array.getD_eq_getD_getElem?,this,Option.getD_some];exact Array.getElem?_eq_getElem jF) (by simp[H2])
   simpa using key
  refine⟨.slice (some ⟨g.w.heap.size,0,none⟩) m m,g.push (.cells (madeCells z.cells (m*i.size)) e),.inl ?_,hle,Good.push hg _,rfl,by simpa using Jq.MH⟩;simp[execOp,ho,ex,ey,bw,G.push]
theorem uX{P:Program}{kt:KT}{t k e:TypeId}{d:TypeDesc}(hu:P.underlying t=some (.map k e))(hk:P.underlying k=some d)(hd:kt.desc d){g:G}{r ox:Nat}{arr:Array MapEntry}{es:List (Value×ae)}{z:Value}{zx:ae}
  (hh:g.w.heap[r]?=some (.map arr ox)) (hl:arr.size=es.length) (GD:∀(i:Nat) (e:MapEntry) (kx:Value×ae),arr[i]?=some e->es[i]?=some kx->e.key=kx.1) (jG:∀p∈es,kt.ok p.1)
  (hr:∀(i:Nat) (e:MapEntry) (kx:Value×ae),arr[i]?=some e->es[i]?=some kx->RV g kx.2 e.val) {key:Value} (gU:kt.ok key) (hz:(Go.zeroValue e).run P g.w=.ok z g.w) (Z5:RV g zx z) (ok:Bool) :
  ∃u,(Instr.lookup t (.map (some r)) key ok).run P g.w=.ok (if ok then .tuple #[u,.bool (jM es key).isSome]else u) g.w∧RV g ((jM es key).getD zx) u:=by
 obtain⟨fr,h1,h2⟩:=findNow_spec hd gU arr.toList es 0 (by simpa using hl) (fun j e kx a b=>GD j e kx (by simpa using a) b) jG;have C4:∀b,(Instr.checkKey b 10000 k key).run P g.w=.ok () g.w:=fun b=>run_checkKey hk hd g.w b 9999;have fQ:(getObj r).run P g.w=.ok (.map arr ox) g.w:=by
  simp[Go.getObj,Sem.run,hh]
 have AB:(Instr.findKey k key arr.toList).run P g.w=.ok fr g.w:=by
  simp[Instr.findKey,run_underlying hk,h1]
 rcases h2 with⟨q1,q2,_⟩|⟨j,e',x,k0,q1,q2,q3,_,q5,_⟩
 ·subst q1;refine⟨z,?_,by rw[q2];exact Z5⟩;simp only[Instr.lookup,Sem.run_bind,run_underlying hu,Result.andThen_ok,fQ,Sem.run_pure,C4,AB,hz,q2];cases ok<;>rfl
 subst q1;refine⟨e'.val,?_,by rw[q5];exact hr j e' (k0,x) (by simpa using q2) q3⟩;simp only[Instr.lookup,Sem.run_bind,run_underlying hu,Result.andThen_ok,fQ,Sem.run_pure,C4,AB,q5];cases ok<;>rfl
def kN(ok:Bool)(x:Option ae)(z:ae):ae:=if ok then .cK [x.getD z,.v (.bool x.isSome)]else x.getD z
theorem l8{g:G}{ok:Bool}{x:Option ae}{z:ae}{u:Value}(h:RV g (x.getD z) u):RV g (kN ok x z) (if ok then .tuple #[u,.bool x.isSome]else u):=by
 cases ok
 ·exact h
 refine .cK rfl (fun i c v h1 h2=>?_)
 match i,h1,h2 with
 | 0,h1,h2 =>
  simp at h1 h2;subst h1;subst h2;exact h
 | 1,h1,h2 =>
  simp at h1 h2;subst h1;subst h2;exact .v trivial
theorem tN{P:Program}{aR:ed}(hT:bY P aR){o:Oper}{σ:St}{t k e:TypeId}{x y:Operand}{ok:Bool}{ti te:cc}{kt:KT}{es:List (Value×ae)}{key:Value}{d:TypeDesc}
  (ho:o.op=.lookup t x y ok) (hd:∀d,o.dst=some d->d<σ.n) (ht:aR t=some ti) (aP:ti.desc=.map k e) (hk:P.underlying k=some d) (BS:kt.desc d) (he:aR e=some te) (di:te.desc.agg=true∨te.size=1)
  (hx:σ.ev x=some (.im kt es)) (hy:σ.ev y=some (.v key)) (gU:kt.ok key):Cert P o σ (kN ok (jM es key) (zeroOf te)) .pure :=
 Cert.bK .pure (.inl rfl) hd fun a g _ h _=>by
  obtain⟨r,ox,arr,ex,hh,hl,GD,jG,hr⟩:=(h x (by simp[ho,Op.operands]) _ hx).WJ;have ey:=(h y (by simp[ho,Op.operands]) _ hy).bV.1;obtain⟨z,hz,wX⟩:=nH (hT e te he) di;obtain⟨u,h1,h2⟩:=uX (nc hT ht aP) hk BS hh hl GD jG hr gU (hz g.w) (wX g) ok;exact⟨_,by simp only[execOp,ho,ex,ey,Sem.run_bind,h1,Result.andThen_ok,Sem.run_pure],l8 h2⟩
theorem tO{P:Program}{aR:ed}(hT:bY P aR){o:Oper}{σ:St}{t k e:TypeId}{x y:Operand}{ok:Bool}{ti te:cc}{kt:KT}{es:List (Value×ae)}{id:Nat}{key:Value}{d:TypeDesc}
  (ho:o.op=.lookup t x y ok) (hd:∀d,o.dst=some d->d<σ.n) (ht:aR t=some ti) (aP:ti.desc=.map k e) (hk:P.underlying k=some d) (BS:kt.desc d) (he:aR e=some te) (di:te.desc.agg=true∨te.size=1)
  (hx:σ.ev x=some (.mm id)) (vP:σ.objs[id]?=some (.map kt es)) (hy:σ.ev y=some (.v key)) (gU:kt.ok key):Cert P o σ (kN ok (jM es key) (zeroOf te)) (.rd id) :=
 Cert.Qw hd fun a g hg h hO=>by
  obtain⟨l,o1,um,h1,_,ex⟩:=(h x (by simp[ho,Op.operands]) _ hx).Qu;have ey:=(h y (by simp[ho,Op.operands]) _ hy).bV.1;obtain⟨l',arr,ox,e1,_,hh,hl,jG,hr⟩:=hg.map id kt es (by rw[hO];exact vP);rw[um]at e1;simp only[Option.some.injEq]at e1;subst e1;obtain⟨z,hz,wX⟩:=nH (hT e te he) di;obtain⟨u,h1,h2⟩:=uX (nc hT ht aP) hk BS hh hl (fun i e kx a b=>(hr i e kx a b).1) jG (fun i e kx a b=>(hr i e kx a b).2.2) gU (hz g.w) (wX g) ok;exact⟨_,by simp only[execOp,ho,ex,ey,Sem.run_bind,h1,Result.andThen_ok,Sem.run_pure],l8 h2⟩
theorem sE{P:Program}{aR:ed}(hT:bY P aR){o:Oper}{σ:St}{t k e:TypeId}{x y:Operand}{ok:Bool}{ti te:cc}{kt:KT}{key:Value}{d:TypeDesc}
  (ho:o.op=.lookup t x y ok) (hd:∀d,o.dst=some d->d<σ.n) (ht:aR t=some ti) (aP:ti.desc=.map k e) (hk:P.underlying k=some d) (BS:kt.desc d) (he:aR e=some te) (di:te.desc.agg=true∨te.size=1)
  (hx:σ.ev x=some (.v (.map none))) (hy:σ.ev y=some (.v key)):Cert P o σ (kN ok none (zeroOf te)) .pure :=
 Cert.bK .pure (.inl rfl) hd fun a g _ h _=>by
  have ex:=(h x (by simp[ho,Op.operands]) _ hx).bV.1;have ey:=(h y (by simp[ho,Op.operands]) _ hy).bV.1;obtain⟨z,hz,wX⟩:=nH (hT e te he) di;have C4:∀b,(Instr.checkKey b 10000 k key).run P g.w=.ok () g.w:=fun b=>run_checkKey hk BS g.w b 9999;have h1:(Instr.lookup t (.map none) key ok).run P g.w=.ok (if ok then .tuple #[z,.bool (none:Option ae).isSome]else z) g.w:=by
   simp only[Instr.lookup,Sem.run_bind,run_underlying (nc hT ht aP),Result.andThen_ok,Sem.run_pure,C4,Instr.findKey,run_underlying hk,Instr.findNow,hz g.w];cases ok<;>rfl
  exact⟨_,by simp only[execOp,ho,ex,ey,Sem.run_bind,h1,Result.andThen_ok,Sem.run_pure],l8 (wX g)⟩
theorem IS{kt:KT}{a b:Value}(ha:kt.ok a)(hb:kt.ok b)(h:mw a b=true):a=b:=by
 cases kt with
 | str =>
  cases a<;>simp only[KT.ok]at ha;cases b<;>simp only[KT.ok]at hb;simp only[mw,decide_eq_true_eq]at h;rw[h]
 | int k =>
  cases a<;>simp only[KT.ok]at ha;cases b<;>simp only[KT.ok]at hb;simp only[mw,decide_eq_true_eq]at h;rw[h,ha,hb]
theorem sameBits_self{kt:KT}{a:Value}(ha:kt.ok a)(n:Nat):Instr.sameBits n a a=true:=by
 cases kt with
 | str =>
  cases a<;>simp only[KT.ok]at ha;cases n<;>simp[Instr.sameBits,bytes_beq]
 | int k =>
  cases a<;>simp only[KT.ok]at ha;cases n<;>simp[Instr.sameBits]
theorem MP{kt:KT}{es:List (Value×ae)}{key:Value}{y:ae}(h:∀p∈es,kt.ok p.1)(hk:kt.ok key):∀p∈mf es key y,kt.ok p.1:=by
 induction es with
 | nil=>simp[mf,hk]
 | cons q r ih =>
  obtain⟨k,x⟩:=q;simp only[mf];split
  ·intro p hp;rcases List.mem_cons.1 hp with e|e
   ·subst e;exact hk
   exact h p (by simp[e])
  intro p hp;rcases List.mem_cons.1 hp with e|e
  ·subst e;exact h _ (by simp)
  exact ih (fun p hp=>h p (by simp[hp])) p e
theorem mT{P:Program}{aR:ed}(hT:bY P aR){o:Oper}{σ:St}{t k e:TypeId}{x y v:Operand}{ti:cc}{kt:KT}{es:List (Value×ae)}{id:Nat}{key:Value}{d:TypeDesc}{val:ae}
  (ho:o.op=.mapUpdate t x y v∨o.op=.insert t x y v) (jm:o.dst=none) (ht:aR t=some ti) (aP:ti.desc=.map k e) (hk:P.underlying k=some d) (BS:kt.desc d)
  (hx:σ.ev x=some (.mm id)) (vP:σ.objs[id]?=some (.map kt es)) (hy:σ.ev y=some (.v key)) (gU:kt.ok key) (hv:σ.ev v=some val) :
  Cert P o σ (.v (.bool false)) (.write (σ.objs.set id (.map kt (mf es key val)))) :=
 Cert.ix (by simp[jm]) fun base fF a g bE h iC=>by
  have I1:g.objs=σ.objs:=iC.resolve_left (by simp);have hg:=bE.good;obtain⟨l,o1,um,h1,_,ex⟩:=(h x (by rcases ho with ho|ho<;>simp[ho,Op.operands]) _ hx).Qu;have VK:=(h y (by rcases ho with ho|ho<;>simp[ho,Op.operands]) _ hy).bV;have ey:=VK.1;have Jp:=h v (by rcases ho with ho|ho<;>simp[ho,Op.operands]) _ hv;have lq:g.objs[id]?=some (.map kt es):=by rw[I1];exact vP
  obtain⟨l',arr,ox,e1,hZ,hh,hl,jG,hr⟩:=hg.map id kt es lq;rw[um]at e1;simp only[Option.some.injEq]at e1;subst e1;obtain⟨fr,f1,f2⟩:=findNow_spec BS gU arr.toList es 0 (by simpa using hl) (fun j e kx a b=>(hr j e kx (by simpa using a) b).1) jG;have C4:∀b,(Instr.checkKey b 10000 k key).run P g.w=.ok () g.w:=fun b=>run_checkKey hk BS g.w b 9999;have fQ:(getObj l.block).run P g.w=.ok (.map arr ox) g.w:=by
   simp[Go.getObj,Sem.run,hh]
  have AB:(Instr.findKey k key arr.toList).run P g.w=.ok fr g.w:=by
   simp[Instr.findKey,run_underlying hk,f1]
  have gh:∀o',(setObj l.block o').run P g.w=.ok () { g.w with heap:=g.w.heap.setIfInBounds l.block o' }:=fun o'=>by
   simp[Go.setObj,Sem.run,hh]
  have aZ:=aW hh;have WK:∃cg F7,(Instr.mapUpdate t (.map (some l.block)) key (a.eval v)).run P g.w=.ok () { g.w with heap:=g.w.heap.setIfInBounds l.block (.map cg F7) }∧cg.size=(mf es key val).length ∧
    ∀(i:Nat) (e:MapEntry) (kx:Value×ae),cg[i]?=some e->(mf es key val)[i]?=some kx->e.key=kx.1∧lV kx.1∧RV g kx.2 e.val:=by
   rcases f2 with⟨q1,q2,q3⟩|⟨j,e',x',k0,q1,q2,q3,q4,q5,q6⟩
   ·subst q1;refine⟨arr.push { key,val:=a.eval v,born:=ox },ox+1,?_,by rw[q3];simp[hl],fun i e kx a1 a2=>?_⟩
    ·simp only[Instr.mapUpdate,Sem.run_bind,run_underlying (nc hT ht aP),Result.andThen_ok,fQ,C4,AB,gh]
    rw[q3]at a2;rcases aK a2 with b|⟨b1,b2⟩
    ·have hi:=I b;rw[Array.getElem?_push,if_neg (by omega)]at a1;exact hr i e kx a1 b
    subst b2;rw[Array.getElem?_push,if_pos (by omega)]at a1;simp only[Option.some.injEq]at a1;subst a1;exact⟨rfl,VK.2,Jp⟩
   subst q1;have HQ:k0=key:=IS (jG (k0,x') (List.mem_of_getElem? q3)) gU q4;have MQ:arr[j]?=some e':=by simpa using q2
   have Zk:e'.key=key:=(hr j e' (k0,x') MQ q3).1.trans HQ;refine⟨arr.modify j fun e=>{ e with key,val:=a.eval v },ox,?_,by rw[q6];simp[hl],fun i e kx a1 a2=>?_⟩
   ·have TP:∀w,(Instr.keyThatStays key key).run P w=.ok key w:=fun w=>by simp[Instr.keyThatStays,sameBits_self gU]
    simp only[Instr.mapUpdate,Sem.run_bind,run_underlying (nc hT ht aP),Result.andThen_ok,fQ,C4,AB,Nat.zero_add,MQ,Option.map_some,Option.getD_some,Zk,TP,gh]
   rw[q6]at a2;rw[Array.getElem?_modify]at a1;by_cases e:j=i
   ·subst e;rw[if_pos rfl,MQ]at a1;rw[List.getElem?_set_self (by rw[<-hl];exact aW MQ)]at a2;simp only[Option.map_some,Option.some.injEq]at a1 a2;subst a1;subst a2;exact⟨rfl,VK.2,Jp⟩
   rw[if_neg e]at a1;rw[List.getElem?_set_ne e]at a2;exact hr i _ kx a1 a2
  obtain⟨cg,F7,bw,m7,PL⟩:=WK;have Jk:∀k,k≠l.block->(g.w.heap.setIfInBounds l.block (.map cg F7))[k]?=g.w.heap[k]?:=fun k hk=>Array.getElem?_setIfInBounds_ne (fun e=>hk e.symm);have eC:kB g id (.map kt es) (some l) (.map kt (mf es key val)) { g.w with heap:=g.w.heap.setIfInBounds l.block (.map cg F7) }:={
   obj:=lq
   os:=rfl
   tape:=rfl
   output:=rfl
   size:=by simp
   block:=fun k _ hk=>Jk k (fun e=>hk l um trivial e.symm)
   cell:=fun b off x hx _=>by
    by_cases e:b=l.block
    ·subst e;simp only[G.cell,World.cell?,hh]at hx;cases hx
    simp only[World.cell?,Jk b e];exact hx
   place:=fun l1 h1 _=>by
    simp only[Option.some.injEq]at h1;subst h1;exact .inr ⟨l,um,trivial,rfl,Nat.le_refl _⟩
   spare:=fun m h=>by cases h
   plain:=fun _=>⟨by simp[al.aC],um⟩
   gone:=by simp }
  have hle:=Le.bp hg eC;refine⟨.bool false,g.bp id (some l) (.map kt (mf es key val)) { g.w with heap:=g.w.heap.setIfInBounds l.block (.map cg F7) },.inr ⟨jm,?_⟩,hle,Good.bp hg eC ?_ ?_,by simp only[G.bp,Mode.post,I1],.v trivial⟩
  ·rcases ho with ho|ho<;>simp only[execOp,ho,ex,ey,Sem.run_bind,bw,Result.andThen_ok,Sem.run_pure,G.bp]
  ·refine⟨l,cg,F7,rfl,hZ,?_,m7,MP jG gU,fun i e kx a b=>⟨(PL i e kx a b).1,(PL i e kx a b).2.1,(PL i e kx a b).2.2.mono hle⟩⟩;simp only[G.bp];rw[Array.getElem?_setIfInBounds_self_of_lt aZ]
  intro l1 h1 _;simp only[Option.some.injEq]at h1;subst h1;simpa using aZ
def St.Aa(σ:St):List Operand->Option (List ae)
 | []=>some []
 | x::r =>
  match σ.ev x,σ.Aa r with
  | some y,some ys=>some (y::ys)
  | _,_=>none
theorem qi{σ:St}{a:Act}{g:G}:∀{xs:List Operand} {ys:List ae},(∀x∈xs,∀y,σ.ev x=some y->RV g y (a.eval x))->σ.Aa xs=some ys->lM g ys (xs.map a.eval).toArray
 | [],ys,_,h=>by
  simp only[St.Aa,Option.some.injEq]at h;subst h;exact⟨rfl,by simp⟩
 | x::r,ys,my,h=>by
  simp only[St.Aa]at h;cases hx:σ.ev x with
  | none=>simp[hx]at h
  | some y =>
   cases hr:σ.Aa r with
   | none=>simp[hx,hr]at h
   | some zs =>
    simp only[hx,hr,Option.some.injEq]at h;subst h;obtain⟨h1,h2⟩:=qi (g:=g) (a:=a) (fun z hz=>my z (List.mem_cons_of_mem _ hz)) hr;refine⟨by simpa using h1,fun j c u a1 a2=>?_⟩;cases j with
    | zero =>
     simp at a1 a2;subst a1;subst a2;exact my x (List.mem_cons_self) y hx
    | succ j=>exact h2 j c u (by simpa using a1) (by simpa using a2)
theorem vE{P:Program}{o:Oper}{σ:St}{f:Fn}{first captured:Array Operand}{fs cs:List ae}(ho:o.op=.makeFunc f first captured)(hd:∀d,o.dst=some d->d<σ.n)
  (hf:σ.Aa first.toList=some fs) (hc:σ.Aa captured.toList=some cs):Cert P o σ (.fn f fs cs) .pure :=
 Cert.bK .pure (.inl rfl) hd fun a g _ h _=>by
  have m1:∀x∈first.toList,x∈o.op.operands:=fun x hx=>by
   rw[ho];simp only[Op.operands,Array.mem_append];exact .inl (Array.mem_toList_iff.1 hx)
  have m2:∀x∈captured.toList,x∈o.op.operands:=fun x hx=>by
   rw[ho];simp only[Op.operands,Array.mem_append];exact .inr (Array.mem_toList_iff.1 hx)
  have h1:=qi (g:=g) (a:=a) (fun x hx y hy=>h x (m1 x hx) y hy) hf;have h2:=qi (g:=g) (a:=a) (fun x hx y hy=>h x (m2 x hx) y hy) hc;refine⟨.func f (first.map a.eval) (captured.map a.eval),by simp[execOp,ho,Instr.makeFunc],?_⟩;have e1:first.map a.eval=(first.toList.map a.eval).toArray:=Array.ext' (by rw[Array.toList_map])
  have e2:captured.map a.eval=(captured.toList.map a.eval).toArray:=Array.ext' (by rw[Array.toList_map]);rw[e1,e2];exact .fn h1.1 h2.1 h1.2 h2.2
mutual
def ae.upto(n:Nat):ae->Prop
 | .v _=>True
 | .agg cs=>au n cs
 | .aB _ xs o=>au n xs∧(match o with | .tok id=>id<n | _=>True)
 | .ip _ cs=>au n cs
 | .mp id _=>id<n
 | .ms id _ _ _=>id<n
 | .os id _ _=>id<n
 | .raw _ _ id=>id<n
 | .mm id=>id<n
 | .im _ es=>nz n es
 | .fn _ fs cs=>au n fs∧au n cs
 | .cK cs=>au n cs
def au(n:Nat):List ae->Prop
 | []=>True
 | x::r=>x.upto n∧au n r
def nz(n:Nat):List (Value×ae)->Prop
 | []=>True
 | x::r=>Ul n x∧nz n r
def Ul(n:Nat):Value×ae->Prop
 | (_,x)=>x.upto n
end
theorem bZ{n:Nat}{l:List ae}:au n l↔∀x∈l,x.upto n:=by
 induction l with
 | nil=>simp[au]
 | cons x r ih=>simp[au,ih]
theorem uptoE_iff{n:Nat}{l:List (Value×ae)}:nz n l↔∀x∈l,x.2.upto n:=by
 induction l with
 | nil=>simp[nz]
 | cons x r ih =>
  obtain⟨k,x⟩:=x;simp[nz,Ul,ih]
def G.ny(g:G)(n:Nat):G:=⟨g.w,g.fr,g.env.take n,g.objs.take n⟩
theorem take_some{α:Type}{l:List α}{n i:Nat}{x:α}(h:(l.take n)[i]?=some x):l[i]?=some x∧i<n:=by
 rw[List.getElem?_take]at h;split at h
 ·rename_i hh;exact⟨h,hh⟩
 cases h
theorem mE.ny{g:G}{n b off:Nat}(h:mE (g.ny n) b off):mE g b off:=by
 obtain⟨id,l,o,h1,h2,h3,h4,h5⟩:=h;exact⟨id,l,o,(take_some h1).1,(take_some h2).1,h3,h4,h5⟩
theorem xG.ny{g:G}{n b off:Nat}(h:xG (g.ny n) b off):xG g b off:=h.imp id mE.ny
theorem jJ.ny{g:G}{n b:Nat}(h:jJ (g.ny n) b):jJ g b:=by
 obtain⟨id,l,o,h1,h2,h3,h4⟩:=h;exact⟨id,l,o,(take_some h1).1,(take_some h2).1,h3,h4⟩
theorem RV.ny{g:G}{n:Nat}{x:ae}{u:Value}(h:RV g x u)(hn:n<=g.objs.length)(hb:x.upto n):RV (g.ny n) x u:=by
 have fQ:∀(id:Nat),id<n->(g.ny n).objs[id]?=g.objs[id]?:=fun id l5=>by
  simp only[G.ny];rw[List.getElem?_take,if_pos l5]
 have hgete:∀(id:Nat),id<n->(g.ny n).env[id]?=g.env[id]?:=fun id l5=>by
  simp only[G.ny];rw[List.getElem?_take,if_pos l5]
 induction h with
 | v hx=>exact .v hx
 | agg hl ia _ ih =>
  simp only[ae.upto,bZ]at hb;exact .agg hl ia fun i c u a b=>ih i c u a b (hb c (List.mem_of_getElem? a))
 | nil ho P3 =>
  simp only[ae.upto]at hb;refine .nil (fun id e=>?_) P3;subst e;have:=hb.2;simp only[G.ny,List.length_take];omega
 | aB di ia ee gu hs f hm hr ho ih =>
  rename_i sz xs o a cap;simp only[ae.upto,bZ]at hb;refine .aB di ia ee gu hs f (fun j c hj=>⟨(hm j c hj).1,fun q=>(hm j c hj).2 q.ny⟩) (fun j c hj=>ih j c hj ?_) ?_
  ·have hc:=List.mem_of_getElem? hj;simp only[ao,List.mem_flatMap]at hc;obtain⟨x,hx,hc⟩:=hc;have:=hb.1 x hx;cases x with
   | agg cs =>
    simp only[ae.upto,bZ]at this;exact this c hc
   | _=>simp only[ae.cells,List.mem_singleton]at hc;subst hc;exact this
  cases o with
  | sh=>trivial
  | nn=>trivial
  | ex=>exact ho
  | loc a=>exact ho
  | tok id =>
   have l5:=hb.2;simp only at l5;obtain⟨q1,q2⟩:=ho;refine⟨by simp only[G.ny,List.length_take];omega,fun m la=>?_⟩;rw[fQ id l5]at la;obtain⟨r1,r2⟩:=q2 m la;refine⟨r1,fun e=>(r2 e).imp (fun h=>h) ?_⟩;rintro⟨l,arr,t,p1,p2,p3,p4,p5⟩;exact⟨l,arr,t,(hgete id l5).trans p1,p2,p3,p4,p5⟩
 | ip ha ia f hm hr ih =>
  simp only[ae.upto,bZ]at hb;exact .ip ha ia f (fun j c hj=>⟨(hm j c hj).1,fun q=>(hm j c hj).2 q.ny⟩) fun j c hj=>ih j c hj (hb c (List.mem_of_getElem? hj))
 | mp he ho To=>exact .mp ((hgete _ hb).trans he) ((fQ _ hb).trans ho) To
 | ms he ho To hc Gt gu=>exact .ms ((hgete _ hb).trans he) ((fQ _ hb).trans ho) To hc Gt gu
 | os he ho To hc Gt gu=>exact .os ((hgete _ hb).trans he) ((fQ _ hb).trans ho) To hc Gt gu
 | raw P3 ho =>
  rename_i sz n0 id a cap;have l5:id<n:=hb;obtain⟨q1,q2⟩:=ho;refine .raw P3 ⟨by simp only[G.ny,List.length_take];omega,fun m la=>?_⟩;rw[fQ id l5]at la;obtain⟨r1,r2⟩:=q2 m la;refine⟨r1,fun e=>(r2 e).imp (fun h=>h) ?_⟩;rintro⟨l,arr,t,p1,p2,p3,p4,p5⟩;exact⟨l,arr,t,(hgete id l5).trans p1,p2,p3,p4,p5⟩
 | mm he ho To=>exact .mm ((hgete _ hb).trans he) ((fQ _ hb).trans ho) To
 | im hh To hl hk PV _ ih =>
  simp only[ae.upto,uptoE_iff]at hb;exact .im hh (fun off q=>To off q.ny) hl hk PV fun i e kx a b=>ih i e kx a b (hb kx (List.mem_of_getElem? b))
 | fn hl UJ _ _ ih Yd =>
  simp only[ae.upto,bZ]at hb;exact .fn hl UJ (fun i c u a b=>ih i c u a b (hb.1 c (List.mem_of_getElem? a))) fun i c u a b=>Yd i c u a b (hb.2 c (List.mem_of_getElem? a))
 | cK hl _ ih =>
  simp only[ae.upto,bZ]at hb;exact .cK hl fun i c u a b=>ih i c u a b (hb c (List.mem_of_getElem? a))
def al.upto(n:Nat):al->Prop
 | .cells cs=>au n cs
 | .map _ es=>nz n es
 | _=>True
theorem Good.ny{g:G}(hg:Good g){n:Nat}(hn:n<=g.objs.length)(hb:∀o∈g.objs.take n,o.upto n):Good (g.ny n) where
 frlt:=hg.frlt
 frown:=fun id l o h1 h2 h3=>hg.frown id l o (take_some h1).1 (take_some h2).1 h3
 len:=by simp only[G.ny,List.length_take,hg.len]
 loc:=fun id l o h1 h2 h3=>hg.loc id l o (take_some h1).1 (take_some h2).1 h3
 apart:=fun id ux l l' o o' h1 h2 h3 h4 h5 h6 h7=>hg.apart id ux l l' o o' (take_some h1).1 (take_some h2).1 h3 (take_some h4).1 (take_some h5).1 h6 h7
 cells:=fun id cs h=>by
  obtain⟨l,arr,t,e1,e0,e2,e3,e4,e5⟩:=hg.cells id cs (take_some h).1;have Xs:=hb _ (List.mem_of_getElem? h);simp only[al.upto,bZ]at Xs;exact⟨l,arr,t,by simp only[G.ny];rw[List.getElem?_take,if_pos (take_some h).2,e1],e0,e2,e3,fun j c u a b=>(e4 j c u a b).ny hn (Xs c (List.mem_of_getElem? a)),e5⟩
 spare:=fun id m l h1 h2=>hg.spare id m l (take_some h1).1 (take_some h2).1
 map:=fun id kt es h=>by
  obtain⟨l,arr,ox,e1,e0,e2,e3,e6,e4⟩:=hg.map id kt es (take_some h).1;have Xs:=hb _ (List.mem_of_getElem? h);simp only[al.upto,uptoE_iff]at Xs;exact⟨l,arr,ox,by simp only[G.ny];rw[List.getElem?_take,if_pos (take_some h).2,e1],e0,e2,e3,e6,fun i e kx a b=>⟨(e4 i e kx a b).1,(e4 i e kx a b).2.1,(e4 i e kx a b).2.2.ny hn (Xs kx (List.mem_of_getElem? b))⟩⟩
theorem Le.ny{g0 g:G}(h:Le g0 g){n:Nat}(hn:g0.objs.length<=n):Le g0 (g.ny n) where
 os:=h.os
 tape:=h.tape
 output:=h.output
 fr:=h.fr
 size:=h.size
 block:=fun k hk hh=>⟨(h.block k hk hh).1,fun q=>(h.block k hk hh).2 q.ny⟩
 cell:=fun b off x hx hh=>⟨(h.cell b off x hx hh).1,fun q=>(h.cell b off x hx hh).2 q.ny⟩
 len:=by
  have:=h.len;simp only[G.ny,List.length_take];omega
 spare:=fun id m hm=>by
  have aZ:=I hm;have e:(g.ny n).objs[id]?=g.objs[id]?:=by
   simp only[G.ny];rw[List.getElem?_take,if_pos (by omega)]
  rw[e];exact h.spare id m hm
 plain:=fun id o ho hs=>by
  have aZ:=I ho;have e:(g.ny n).objs[id]?=g.objs[id]?:=by
   simp only[G.ny];rw[List.getElem?_take,if_pos (by omega)]
  have e':(g.ny n).env[id]?=g.env[id]?:=by
   simp only[G.ny];rw[List.getElem?_take,if_pos (by omega)]
  rw[e,e'];exact h.plain id o ho hs
 gone:=fun id ho=>by
  have aZ:=I ho;have e:(g.ny n).objs[id]?=g.objs[id]?:=by
   simp only[G.ny];rw[List.getElem?_take,if_pos (by omega)]
  rw[e];exact h.gone id ho
 tok:=fun id m hm la=>by
  have aZ:=I hm;have e:(g.ny n).objs[id]?=g.objs[id]?:=by
   simp only[G.ny];rw[List.getElem?_take,if_pos (by omega)]
  have e':(g.ny n).env[id]?=g.env[id]?:=by
   simp only[G.ny];rw[List.getElem?_take,if_pos (by omega)]
  rw[e]at la;rw[e'];exact h.tok id m hm la
def Enters (P : Program) (f : FuncId) : Prop := ∃ fn, P.funcs[f]? = some fn ∧ (fn.name == "runtime.NumGoroutine") = false ∧ fn.body.isNone = false
def ba(P:Program)(f:FuncId)(O:List al)(args:List ae)(R:ae->List al->Prop):Prop :=
 Enters P f∧∀(g:G) (vs:Array Value),Good g->g.objs=O->lM g args vs->Calls P f vs g.w fun e w'=>∃g' v r,e=.returned v∧g'.w=w'∧Le g g'∧Good g'∧RV g' r v∧R r g'.objs
def bh(P:Program)(f:FuncId)(args:List ae)(r:ae):Prop:=ba P f [] args fun r' O'=>r'=r∧O'=[]
def G.bare(g:G):G:=⟨g.w,xG g,[],[]⟩
theorem bare_own{g:G}{b off:Nat}:xG g.bare b off↔xG g b off:=by
 constructor
 ·rintro(h|⟨id,l,o,h1,_⟩)
  ·exact h
  simp[G.bare]at h1
 exact .inl
theorem RV.bare{g:G}{x:ae}{u:Value}(h:RV g x u)(hb:x.upto 0):RV g.bare x u:=by
 induction h with
 | v hx=>exact .v hx
 | agg hl ia _ ih =>
  simp only[ae.upto,bZ]at hb;exact .agg hl ia fun i c u a b=>ih i c u a b (hb c (List.mem_of_getElem? a))
 | nil ho P3 =>
  simp only[ae.upto]at hb;refine .nil (fun id e=>?_) P3;subst e;have:=hb.2;simp only at this;omega
 | aB di ia ee gu hs f hm hr ho ih =>
  rename_i sz xs o a cap;simp only[ae.upto,bZ]at hb;refine .aB di ia ee gu hs f (fun j c hj=>⟨(hm j c hj).1,fun q=>(hm j c hj).2 (bare_own.1 q)⟩) (fun j c hj=>ih j c hj ?_) ?_
  ·have hc:=List.mem_of_getElem? hj;simp only[ao,List.mem_flatMap]at hc;obtain⟨x,hx,hc⟩:=hc;have:=hb.1 x hx;cases x with
   | agg cs =>
    simp only[ae.upto,bZ]at this;exact this c hc
   | _=>simp only[ae.cells,List.mem_singleton]at hc;subst hc;exact this
  cases o with
  | sh=>trivial
  | nn=>trivial
  | ex=>exact ho
  | loc a=>exact ho
  | tok id =>
   have l5:=hb.2;simp only at l5;omega
 | ip ha ia f hm hr ih =>
  simp only[ae.upto,bZ]at hb;exact .ip ha ia f (fun j c hj=>⟨(hm j c hj).1,fun q=>(hm j c hj).2 (bare_own.1 q)⟩) fun j c hj=>ih j c hj (hb c (List.mem_of_getElem? hj))
 | mp he ho To=>simp only[ae.upto]at hb;omega
 | ms he ho To hc Gt gu=>simp only[ae.upto]at hb;omega
 | os he ho To hc Gt gu=>simp only[ae.upto]at hb;omega
 | raw P3 ho=>simp only[ae.upto]at hb;omega
 | mm he ho To=>simp only[ae.upto]at hb;omega
 | im hh To hl hk PV _ ih =>
  simp only[ae.upto,uptoE_iff]at hb;exact .im hh (fun off q=>To off (bare_own.1 q)) hl hk PV fun i e kx a b=>ih i e kx a b (hb kx (List.mem_of_getElem? b))
 | fn hl UJ _ _ ih Yd =>
  simp only[ae.upto,bZ]at hb;exact .fn hl UJ (fun i c u a b=>ih i c u a b (hb.1 c (List.mem_of_getElem? a))) fun i c u a b=>Yd i c u a b (hb.2 c (List.mem_of_getElem? a))
 | cK hl _ ih =>
  simp only[ae.upto,bZ]at hb;exact .cK hl fun i c u a b=>ih i c u a b (hb c (List.mem_of_getElem? a))
theorem Good.bare{g:G}(hg:Good g):Good g.bare where
 frlt:=fun b off h=>by
  rcases h with h|⟨id,l,o,h1,h2,h3,h4,_⟩
  ·exact hg.frlt b off h
  exact h4 ▸ hg.loc id l o h1 h2 h3
 frown:=fun id l o h1=>by simp[G.bare]at h1
 len:=rfl
 loc:=fun id l o h1=>by simp[G.bare]at h1
 apart:=fun id ux l l' o o' h1=>by simp[G.bare]at h1
 cells:=fun id cs h1=>by simp[G.bare]at h1
 spare:=fun id m l h1=>by simp[G.bare]at h1
 map:=fun id kt es h1=>by simp[G.bare]at h1
def G.back(g g':G):G:=⟨g'.w,g.fr,g.env,g.objs⟩
theorem yt{g:G}(he:g.env=[]){b:Nat}:¬jJ g b:=by
 rintro⟨id,l,o,h1,_⟩;simp[he]at h1
theorem Le.back{g g':G}(hg:Good g)(h:Le g.bare g'):Le g (g.back g') where
 os:=h.os
 tape:=h.tape
 output:=h.output
 fr:=rfl
 size:=h.size
 block:=fun k hk hh=>⟨(h.block k hk (yt rfl)).1,hh⟩
 cell:=fun b off x hx hh=>⟨(h.cell b off x hx (fun q=>yt rfl q.block)).1,hh⟩
 len:=Nat.le_refl _
 spare:=fun id m hm=>.inl ⟨m,hm,Nat.le_refl _⟩
 plain:=fun id o ho hs=>⟨⟨o,ho,hs⟩,rfl⟩
 gone:=fun id ho=>ho
 tok:=fun id m hm la=>⟨rfl,fun l hl=>(h.block _ (hg.loc id l _ hl hm trivial) (yt rfl)).1⟩
theorem Good.back{g g':G}(hg:Good g)(h:Le g.bare g'):Good (g.back g'):=by
 have hle:=Le.back hg h;have ye:∀k,k<g.w.heap.size->g'.w.heap[k]?=g.w.heap[k]?:=fun k hk=>(h.block k hk (yt rfl)).1;exact {
  frlt:=fun b off hf=>Nat.lt_of_lt_of_le (hg.frlt b off hf) h.size
  frown:=hg.frown
  len:=hg.len
  loc:=fun id l o h1 h2 h3=>Nat.lt_of_lt_of_le (hg.loc id l o h1 h2 h3) h.size
  apart:=hg.apart
  cells:=fun id cs h1=>by
   obtain⟨l,arr,t,e1,e0,e2,e3,e4,e5⟩:=hg.cells id cs h1;exact⟨l,arr,t,e1,e0,(ye _ (aW e2)).trans e2,e3,fun j c u a b=>(e4 j c u a b).mono hle,e5⟩
  spare:=fun id m l h1 h2=>by
   obtain⟨arr,t,e⟩:=hg.spare id m l h1 h2;exact⟨arr,t,(ye _ (aW e)).trans e⟩
  map:=fun id kt es h1=>by
   obtain⟨l,arr,ox,e1,e0,e2,e3,e6,e4⟩:=hg.map id kt es h1;exact⟨l,arr,ox,e1,e0,(ye _ (aW e2)).trans e2,e3,e6,fun i e kx a b=>⟨(e4 i e kx a b).1,(e4 i e kx a b).2.1,(e4 i e kx a b).2.2.mono hle⟩⟩ }
theorem RV.back{g g':G}{x:ae}{u:Value}(dp:g'.fr=xG g)(Rs:g'.env=[])(vP:g'.objs=[])(h:RV g' x u):RV (g.back g') x u:=by
 have yj:∀b off,xG (g.back g') b off->xG g' b off:=fun b off q=>by
  refine .inl ?_;rw[dp];exact q
 induction h with
 | v hx=>exact .v hx
 | agg hl ia _ ih=>exact .agg hl ia ih
 | nil ho P3 =>
  refine .nil (fun id e=>?_) P3;have:=ho id e;simp[vP]at this
 | aB di ia ee gu hs f hm hr ho ih =>
  rename_i sz xs o a cap;refine .aB di ia ee gu hs f (fun j c hj=>⟨(hm j c hj).1,fun q=>(hm j c hj).2 (yj _ _ q)⟩) ih ?_;cases o with
  | sh=>trivial
  | nn=>trivial
  | ex=>exact ho
  | loc a=>exact ho
  | tok id =>
   have:=ho.1;simp[vP]at this
 | ip ha ia f hm hr ih=>exact .ip ha ia f (fun j c hj=>⟨(hm j c hj).1,fun q=>(hm j c hj).2 (yj _ _ q)⟩) ih
 | mp he ho To=>simp[Rs]at he
 | ms he ho To hc Gt gu=>simp[Rs]at he
 | os he ho To hc Gt gu=>simp[Rs]at he
 | raw P3 ho =>
  have:=ho.1;simp[vP]at this
 | mm he ho To=>simp[Rs]at he
 | im hh To hl hk PV _ ih=>exact .im hh (fun off q=>To off (yj _ _ q)) hl hk PV ih
 | fn hl UJ _ _ ih Yd=>exact .fn hl UJ ih Yd
 | cK hl _ ih=>exact .cK hl ih
theorem bh.use{P:Program}{f:FuncId}{args:List ae}{r:ae}(h:bh P f args r)(hb:au 0 args)(O:List al):ba P f O args fun r' O'=>r'=r∧O'=O:=by
 refine⟨h.1,?_⟩;intro g vs hg ho ha;have HN:lM g.bare args vs:=⟨ha.1,fun j c u a b=>(ha.2 j c u a b).bare (bZ.1 hb c (List.mem_of_getElem? a))⟩
 refine(h.2 g.bare vs hg.bare rfl HN).mono ?_;rintro e w' ⟨g',v,r',h1,h2,h3,h4,h5,h6,h7⟩;subst h6;have Rs:g'.env=[]:=by
  have:=h4.len;rw[h7]at this;exact List.length_eq_zero_iff.1 this
 exact⟨g.back g',v,r',h1,h2,Le.back hg h3,Good.back hg h3,h5.back h3.fr Rs h7,rfl,ho⟩
inductive Kind where
 | pure
 | read
 | rd (id:Nat)
 | write
 | wr (n:Nat) (l:List Nat)
 | new (id:Nat)
 deriving DecidableEq
def RX(k:Kind)(F:List al->List al):Prop :=
 match k with
 | .write=>∀O O',F O=F O'
 | .wr _ _=>∀O O',F O=F O'
 | .new id=>∃o,∀O,F O=O.set id o
 | _=>∀O,F O=O
def Mode.kind:Mode->Kind
 | .pure=>.pure
 | .read=>.read
 | .rd id=>.rd id
 | .write _=>.write
 | .wr n l _=>.wr n l
 | .new id _=>.new id
def tZ(n:Nat)(d:Option Nat)(l:List (Nat×ae)):List (Nat×ae) :=
 match d with
 | some d=>if d<n then bq d (.cK []) l else aY d l
 | none=>l
structure pQ(σ τ:St):Prop where
 n:σ.n=τ.n
 objs:σ.objs=τ.objs
 get:∀s,σ.get s=τ.get s
theorem pQ.refl(σ:St):pQ σ σ:=⟨rfl,rfl,fun _=>rfl⟩
theorem pQ.symm{σ τ:St}(h:pQ σ τ):pQ τ σ:=⟨h.n.symm,h.objs.symm,fun s=>(h.get s).symm⟩
theorem pQ.trans{σ τ ρ:St}(h:pQ σ τ)(k:pQ τ ρ):pQ σ ρ:=⟨h.n.trans k.n,h.objs.trans k.objs,fun s=>(h.get s).trans (k.get s)⟩
theorem pQ.ev{σ τ:St}(h:pQ σ τ)(x:Operand):σ.ev x=τ.ev x:=by
 cases x with
 | tmp t=>exact h.get t
 | _=>rfl
theorem pQ.rel{σ τ:St}(h:pQ σ τ){base:G}{a:Act}{g:G}(k:Rel base σ a g):Rel base τ a g where
 le:=k.le
 good:=k.good
 objs:=k.objs.trans h.objs
 size:=k.size.trans h.n
 defers:=k.defers
 slot:=fun s x hx=>k.slot s x ((h.get s).trans hx)
def St.put(σ:St)(d:Option Nat)(r:ae)(O:List al):St:=⟨σ.n,oD d r σ.bf,O⟩
def St.skip(σ:St)(d:Option Nat):St:=⟨σ.n,tZ σ.n d σ.bf,σ.objs⟩
theorem sZ(σ:St)(d:Option Nat)(r:ae)(O:List al)(s:Nat):(σ.put d r O).get s=if d=some s then some r else σ.get s:=by
 cases d with
 | none=>simp[St.put,St.get,oD]
 | some d =>
  simp only[St.put,St.get,oD,gi];by_cases e:d=s
  ·simp[e]
  simp[e]
theorem qo(σ:St)(d:Option Nat)(s:Nat):(σ.skip d).get s=if d=some s then(if s<σ.n then some (.cK [])else none)else σ.get s:=by
 cases d with
 | none=>simp[St.skip,St.get,tZ]
 | some d =>
  simp only[St.skip,St.get,tZ];by_cases e:d=s
  ·subst e;by_cases h:d<σ.n
   ·simp[h,gi]
   simp[h,oN]
  by_cases h:d<σ.n
  ·simp[e,h,gi]
  simp[e,h,kY e]
theorem Rel.skip{base:G}{σ:St}{a:Act}{g:G}(h:Rel base σ a g)(d:Nat):Rel base (σ.skip (some d)) (a.put (some d) undef) g:=by
 by_cases hd:d<σ.n
 ·have:=h.put (Le.refl g) h.good hd (r:=.cK []) (u:=undef) (.cK rfl (by simp));rw[show σ.skip (some d)=⟨σ.n,bq d (.cK []) σ.bf,g.objs⟩ by simp[St.skip,tZ,hd,h.objs]];exact this
 have:=h.forget d undef;rw[show σ.skip (some d)=⟨σ.n,aY d σ.bf,σ.objs⟩ by simp[St.skip,tZ,hd]];exact this
theorem pQ.put{σ τ:St}(h:pQ σ τ)(d:Option Nat)(r:ae)(O:List al):pQ (σ.put d r O) (τ.put d r O) :=
 ⟨h.n,rfl,fun s=>by rw[sZ,sZ,h.get]⟩
theorem pQ.skip{σ τ:St}(h:pQ σ τ)(d:Option Nat):pQ (σ.skip d) (τ.skip d) :=
 ⟨h.n,h.objs,fun s=>by rw[qo,qo,h.get,h.n]⟩
def cQ(ops:Array Oper)(o:Oper)(σ:St):Option Bool :=
 match o.guard with
 | none=>some true
 | some (j,want) =>
  match (ops[j]?).bind (·.dst)with
  | some t =>
   match σ.get t with
   | some (.v (.bool b))=>some (b == want)
   | some (.cK [])=>some false
   | _=>none
  | none=>none
theorem fv{ops:Array Oper}{o:Oper}{σ:St}{base:G}{a:Act}{g:G}{b:Bool}(h:Rel base σ a g)(hw:cQ ops o σ=some b):Region.wanted o (yielded ops a.tmps)=b:=by
 unfold cQ at hw;unfold Region.wanted;cases hg:o.guard with
 | none =>
  simp only[hg,Option.some.injEq]at hw;exact hw
 | some p =>
  obtain⟨j,want⟩:=p;simp only[hg]at hw;cases ht:(ops[j]?).bind (·.dst)with
  | none=>simp[ht]at hw
  | some t =>
   simp only[ht]at hw;split at hw
   ·rename_i c hc;simp only[Option.some.injEq]at hw;obtain⟨u,h1,h2⟩:=h.slot t _ hc;have:=h2.bV.1;subst this;have hy:yielded ops a.tmps j=some c:=by
     unfold yielded;simp[ht,h1]
    simp only[hy];rw[<-hw];cases c<;>cases want<;>rfl
   ·rename_i hc;simp only[Option.some.injEq]at hw;obtain⟨u,h1,h2⟩:=h.slot t _ hc;cases h2 with
    | cK hl _ =>
     rename_i vs;have hy:yielded ops a.tmps j=none:=by
      unfold yielded;simp[ht,h1]
     simp only[hy];rw[<-hw];rfl
   cases hw
theorem wq{ops:Array Oper}{o:Oper}{σ τ:St}(h:∀j want t,o.guard=some (j,want)->(ops[j]?).bind (·.dst)=some t->σ.get t=τ.get t):cQ ops o σ=cQ ops o τ:=by
 unfold cQ;cases hg:o.guard with
 | none=>rfl
 | some p =>
  obtain⟨j,want⟩:=p;simp only;cases ht:(ops[j]?).bind (·.dst)with
  | none=>rfl
  | some t =>
   simp only;rw[h j want t hg ht]
theorem Cert.congr{P:Program}{o:Oper}{σ τ:St}{r:ae}{m:Mode}(h:Cert P o σ r m)(hn:σ.n=τ.n)(y8:∀x∈o.op.operands,σ.ev x=τ.ev x)(ho:m.agree τ.objs σ.objs):Cert P o τ r m:=by
 refine⟨?_,?_⟩
 ·have:=h.1;cases m with
  | wr n l O' =>
   intro i hi hl;rw[this i hi hl,show τ.objs=σ.objs from ho]
  | _=>trivial
 intro base ρ a g bE h1 h2 h3;refine h.2 base ρ a g bE (h1.trans hn.symm) (fun x hx y hy=>h2 x hx y ((y8 x hx).symm.trans hy)) ?_;cases m with
 | pure=>trivial
 | rd id=>exact Eq.trans h3 ho
 | new id _=>exact Eq.trans h3 ho
 | _=>exact Eq.trans h3 ho
def oU(P:Program)(ops:Array Oper)(i:Nat)(k:Kind)(σ fF:St):Prop :=
 ∃o,ops[i]?=some o ∧
  ((cQ ops o σ=some true∧∃r m,Cert P o σ r m∧m.kind=k∧fF=σ.put o.dst r (m.post σ.objs)) ∨
   (cQ ops o σ=some false∧k=.pure∧fF=σ.skip o.dst))
def fj(P:Program)(ops:Array Oper):List (Nat×Kind)->St->St->Prop
 | [],σ,τ=>pQ σ τ
 | (i,k)::r,σ,τ=>∃fF,oU P ops i k σ fF∧fj P ops r fF τ
theorem oU.same{P:Program}{ops:Array Oper}{i:Nat}{k:Kind}{σ fF τ:St}(h:oU P ops i k σ fF)(hs:pQ σ τ):∃RT,oU P ops i k τ RT∧pQ fF RT:=by
 obtain⟨o,ho,h⟩:=h;rcases h with⟨h1,r,m,h2,h3,h4⟩|⟨h1,h2,h3⟩
 ·refine⟨τ.put o.dst r (m.post τ.objs),⟨o,ho,.inl ⟨?_,r,m,h2.congr hs.n (fun x _=>hs.ev x) (Mode.tp (.inr hs.objs.symm)),h3,rfl⟩⟩,?_⟩
  ·rw[<-h1];exact wq fun _ _ t _ _=>(hs.get t).symm
  subst h4;rw[hs.objs];exact hs.put _ _ _
 refine⟨τ.skip o.dst,⟨o,ho,.inr ⟨?_,h2,rfl⟩⟩,?_⟩
 ·rw[<-h1];exact wq fun _ _ t _ _=>(hs.get t).symm
 subst h3;exact hs.skip _
theorem fj.same{P:Program}{ops:Array Oper}:∀{l:List (Nat×Kind)} {σ τ ρ:St},fj P ops l σ ρ->pQ σ τ->fj P ops l τ ρ
 | [],_,_,_,h,hs=>hs.symm.trans h
 | (i,k)::r,σ,τ,ρ,h,hs=>by
  obtain⟨fF,h1,h2⟩:=h;obtain⟨RT,h3,h4⟩:=h1.same hs;exact⟨RT,h3,h2.same h4⟩
def bM(k k':Kind):Bool :=
 match k,k' with
 | .pure,_=>true
 | _,.pure=>true
 | .read,.read=>true
 | .rd _,.read=>true
 | .read,.rd _=>true
 | .rd _,.rd _=>true
 | .rd id,.wr n l=>decide (id<n)&&!l.contains id
 | .wr n l,.rd id=>decide (id<n)&&!l.contains id
 | .new i,.new j=>!decide (i=j)
 | .new i,.rd j=>!decide (i=j)
 | .rd i,.new j=>!decide (i=j)
 | _,_=>false
def Kind.agree(k:Kind)(O O0:List al):Prop :=
 match k with
 | .pure=>True
 | .rd id=>O[id]?=O0[id]?
 | .new id=>O[id]?=O0[id]?
 | _=>O=O0
theorem Mode.B7{m:Mode}{O O0:List al}(h:m.kind.agree O O0):m.agree O O0:=by
 cases m<;>exact h
theorem vW{ops:Array Oper}{o:Oper}{t:Nat}(h:(.tmp t:Operand)∈o.op.operands):t∈o.looksAt ops :=
 List.mem_append_left _ (List.mem_filterMap.2 ⟨.tmp t,Array.mem_toList_iff.2 h,rfl⟩)
theorem AQ{ops:Array Oper}{o:Oper}{j:Nat}{want:Bool}{t:Nat}(h:o.guard=some (j,want))(ht:(ops[j]?).bind (·.dst)=some t):t∈o.looksAt ops:=by
 refine List.mem_append_right _ ?_;simp[h,ht]
structure R1(P:Program)(ops:Array Oper)(o:Oper)(k:Kind)(F:List al->List al)(σ fF:St):Prop where
 n:fF.n=σ.n
 get:∀s,o.dst≠some s->fF.get s=σ.get s
 Se:RX k F
 objs:fF.objs=F σ.objs
 rz:∀n l,k=.wr n l->∀i,i<n->i ∉ l->(F σ.objs)[i]?=σ.objs[i]?
 move:∀τ:St,τ.n=σ.n->(∀t∈o.looksAt ops,τ.get t=σ.get t)->k.agree τ.objs σ.objs ->
  ∃RT,(cQ ops o τ=some true∧(∃r m,Cert P o τ r m∧m.kind=k∧RT=τ.put o.dst r (m.post τ.objs))∨cQ ops o τ=some false∧k=.pure∧RT=τ.skip o.dst) ∧
   (∀s,o.dst=some s->RT.get s=fF.get s)∧(∀s,o.dst≠some s->RT.get s=τ.get s)∧RT.n=τ.n∧RT.objs=F τ.objs
theorem Pc{P:Program}{ops:Array Oper}{o:Oper}{k:Kind}{σ fF:St}
  (h:(cQ ops o σ=some true∧∃r m,Cert P o σ r m∧m.kind=k∧fF=σ.put o.dst r (m.post σ.objs))∨(cQ ops o σ=some false∧k=.pure∧fF=σ.skip o.dst)):∃F,R1 P ops o k F σ fF:=by
 have y8:∀τ:St,(∀t∈o.looksAt ops,τ.get t=σ.get t)->∀x∈o.op.operands,σ.ev x=τ.ev x:=fun τ ht x hx=>by
  cases x with
  | tmp t=>exact(ht t (vW hx)).symm
  | _=>rfl
 have OU:∀τ:St,(∀t∈o.looksAt ops,τ.get t=σ.get t)->cQ ops o τ=cQ ops o σ:=fun τ ht=>wq fun j w t hg hd=>ht t (AQ hg hd);rcases h with⟨h1,r,m,h2,h3,h4⟩|⟨h1,h2,h3⟩
 ·subst h4;subst h3;have Mn:RX m.kind m.post:=by
   cases m with
   | new id o=>exact⟨o,fun _=>rfl⟩
   | write O=>exact fun _ _=>rfl
   | wr n l O=>exact fun _ _=>rfl
   | _=>exact fun _=>rfl
  refine⟨m.post,rfl,fun s hs=>by rw[sZ,if_neg hs],Mn,rfl,fun n l hk i hi hl=>?_,fun τ hn ht ho=>⟨τ.put o.dst r (m.post τ.objs),.inl ⟨(OU τ ht).trans h1,r,m,?_,rfl,rfl⟩,?_,?_,rfl,rfl⟩⟩
  ·cases m with
   | wr n' l' O' =>
    simp only[Mode.kind,Kind.wr.injEq]at hk;obtain⟨rfl,rfl⟩:=hk;exact h2.1 i hi hl
   | _=>simp[Mode.kind]at hk
  ·exact h2.congr hn.symm (y8 τ ht) (Mode.B7 ho)
  ·intro s hs;rw[sZ,sZ,if_pos hs,if_pos hs]
  intro s hs;rw[sZ,if_neg hs]
 subst h3;subst h2;refine⟨id,rfl,fun s hs=>by rw[qo,if_neg hs],fun _=>rfl,rfl,fun n l hk=>(by cases hk),fun τ hn ht ho=>⟨τ.skip o.dst,.inr ⟨(OU τ ht).trans h1,rfl,rfl⟩,?_,?_,rfl,rfl⟩⟩
 ·intro s hs;rw[qo,qo,if_pos hs,if_pos hs,hn]
 intro s hs;rw[qo,if_neg hs]
theorem B8{k:Kind}{O O':List al}(h:k.agree O O'):k.agree O' O:=by
 cases k<;>first|trivial|exact Eq.symm h
theorem wx{kj ki:Kind}{F:List al->List al}{O:List al}(hk:bM kj ki=true)(hF:RX kj F)(S':∀n l,kj=.wr n l->∀i,i<n->i ∉ l->(F O)[i]?=O[i]?):ki.agree O (F O):=by
 cases ki with
 | pure=>trivial
 | rd id =>
  show O[id]?=(F O)[id]?;cases kj with
  | write=>simp[bM]at hk
  | wr n l =>
   simp only[bM,Bool.and_eq_true,decide_eq_true_eq,Bool.not_eq_true',List.contains_eq_mem,decide_eq_false_iff_not]at hk;exact(S' n l rfl id hk.1 hk.2).symm
  | new j =>
   obtain⟨o,hF⟩:=hF;simp only[bM,Bool.not_eq_true',decide_eq_false_iff_not]at hk;rw[hF,List.getElem?_set_ne hk]
  | _=>rw[hF O]
 | new id =>
  show O[id]?=(F O)[id]?;cases kj with
  | new j =>
   obtain⟨o,hF⟩:=hF;simp only[bM,Bool.not_eq_true',decide_eq_false_iff_not]at hk;rw[hF,List.getElem?_set_ne hk]
  | pure=>rw[hF O]
  | rd j=>rw[hF O]
  | _=>simp[bM]at hk
 | read=>cases kj<;>first | exact(hF O).symm | simp[bM]at hk
 | write=>cases kj<;>first | exact(hF O).symm | simp[bM]at hk
 | wr n l=>cases kj<;>first | exact(hF O).symm | simp[bM]at hk
theorem Cb{k k':Kind}(h:bM k k'=true):bM k' k=true:=by
 cases k<;>cases k'<;>first|exact h|(simp only[bM,Bool.not_eq_true',decide_eq_false_iff_not]at h ⊢;exact fun e=>h e.symm)
theorem IK{kj ki:Kind}{Fj Fi:List al->List al}(hk:bM kj ki=true)(hj:RX kj Fj)(hi:RX ki Fi)(O:List al):Fi (Fj O)=Fj (Fi O):=by
 cases kj with
 | new j =>
  obtain⟨oj,hj⟩:=hj;cases ki with
  | new i =>
   obtain⟨oi,hi⟩:=hi;simp only[bM,Bool.not_eq_true',decide_eq_false_iff_not]at hk;rw[hj,hi,hj,hi,List.set_comm _ _ hk]
  | pure=>rw[hi,hi]
  | rd _=>rw[hi,hi]
  | _=>simp[bM]at hk
 | pure=>rw[hj,hj]
 | read=>rw[hj,hj]
 | rd _=>rw[hj,hj]
 | write=>cases ki<;>first | (rw[hi,hi];done) | simp[bM]at hk
 | wr _ _=>cases ki<;>first | (rw[hi,hi];done) | simp[bM]at hk
theorem swap{P:Program}{ops:Array Oper}{i j:Nat}{oi oj:Oper}{ki kj:Kind}{σ WW WX:St}(hi:ops[i]?=some oi)(hj:ops[j]?=some oj)(Mc:oj.apart ops oi=true)(hk:bM kj ki=true)
  (h1:oU P ops j kj σ WW) (h2:oU P ops i ki WW WX):∃Q9 RU,oU P ops i ki σ Q9∧oU P ops j kj Q9 RU∧pQ WX RU:=by
 obtain⟨a1,a2,a3⟩:=Oper.apart_spec Mc;obtain⟨oj',gZ,h1⟩:=h1;rw[hj]at gZ;simp only[Option.some.injEq]at gZ;subst gZ;obtain⟨oi',gI,h2⟩:=h2;rw[hi]at gI;simp only[Option.some.injEq]at gI;subst gI;obtain⟨Fj,s1⟩:=Pc h1;obtain⟨Fi,s2⟩:=Pc h2;have SL:∀s,oj.dst=some s->oi.dst≠some s:=fun s hs e=>a2 s hs e;have my:=wx hk s1.Se s1.rz;rw[<-s1.objs]at my;obtain⟨Q9,t1,t2,t3,t4,t5⟩:=s2.move σ s1.n.symm (fun t ht=>(s1.get t (fun e=>a1 t e ht)).symm) my;obtain⟨RU,u1,u2,u3,u4,u5⟩:=s1.move Q9 t4 (fun t ht=>t3 t (fun e=>a3 t e ht)) (by
  rw[t5];refine B8 (wx (Cb hk) s2.Se fun n l e i hi hl=>?_);subst e;have h4:=s2.rz n l rfl i hi hl;rw[s1.objs]at h4;have YJ:∀O,Fj O=O:=by
   have he:=s1.Se;clear s1 h1 my;cases kj with
   | pure=>exact he
   | rd _=>exact he
   | _=>simp[bM]at hk
  rw[YJ]at h4;exact h4)
 refine⟨Q9,RU,⟨oi,hi,t1⟩,⟨oj,hj,u1⟩,⟨?_,?_,fun s=>?_⟩⟩
 ·rw[s2.n,s1.n,u4,t4]
 ·rw[s2.objs,s1.objs,u5,t5];exact IK hk s1.Se s2.Se _
 by_cases ei:oi.dst=some s
 ·have ej:oj.dst≠some s:=fun e=>SL s e ei;rw[u3 s ej,t2 s ei]
 rw[s2.get s ei];by_cases ej:oj.dst=some s
 ·rw[u2 s ej]
 rw[u3 s ej,t3 s ei,s1.get s ej]
def indep(ops:Array Oper)(j i:Nat)(kj ki:Kind):Bool :=
 match ops[j]?,ops[i]? with
 | some oj,some oi=>oj.apart ops oi&&bM kj ki
 | _,_=>false
theorem fj.front{P:Program}{ops:Array Oper}{i:Nat}{ki:Kind}{l2:List (Nat×Kind)}:∀{l1:List (Nat×Kind)} {σ ρ:St},fj P ops (l1++(i,ki)::l2) σ ρ->(∀p∈l1,indep ops p.1 i p.2 ki=true)->fj P ops ((i,ki)::(l1++l2)) σ ρ
 | [],_,_,h,_=>h
 | (j,kj)::l1,σ,ρ,h,Mp=>by
  obtain⟨WW,h1,h2⟩:=h;obtain⟨WX,h3,h4⟩:=fj.front h2 (fun p hp=>Mp p (by simp[hp]));have sO:=Mp (j,kj) (by simp);simp only[indep]at sO;have RB:∃oi,ops[i]?=some oi:=by
   obtain⟨oi,RB,_⟩:=h3;exact⟨oi,RB⟩
  have Ji:∃oj,ops[j]?=some oj:=by
   obtain⟨oj,Ji,_⟩:=h1;exact⟨oj,Ji⟩
  obtain⟨oi,RB⟩:=RB;obtain⟨oj,Ji⟩:=Ji;simp only[RB,Ji,Bool.and_eq_true]at sO;obtain⟨Q9,RU,q1,q2,q3⟩:=swap RB Ji sO.1 sO.2 h1 h3;exact⟨Q9,q1,RU,q2,h4.same q3⟩
def pC(ops:Array Oper):Nat->Nat->Nat->Bool
 | 0,_,_=>false
 | n+1,j,i =>
  match ops[i]? with
  | some o=>o.after.toList.any fun e=>Region.binds .any e&&(e.on == j || pC ops n j e.on)
  | none=>false
def Oe(ops:Array Oper):Bool :=
 (List.range ops.size).all fun i =>
  match ops[i]? with
  | some o=>o.after.toList.all fun e=>!Region.binds .any e || decide (e.on<i)
  | none=>true
def nk(ops:Array Oper)(ks:List Kind):Bool :=
 Oe ops&&(ks.length == ops.size) &&
 (List.range ops.size).all fun i=>(List.range i).all fun j=>pC ops ops.size j i ||indep ops j i (ks.getD j .write) (ks.getD i .write)
def xW(ops:Array Oper)(bx:Array Bool):Prop :=
 ∀i o,ops[i]?=some o->bx.getD i false=true->∀e∈o.after.toList,Region.binds .any e=true->bx.getD e.on false=true
theorem qI{ops:Array Oper}{bx:Array Bool}(hc:xW ops bx):∀(n j i:Nat) (o:Oper),ops[i]?=some o->(∀e∈o.after.toList,Region.binds .any e=true->bx.getD e.on false=true)->pC ops n j i=true->bx.getD j false=true
 | 0,j,i,o,_,_,h=>by simp[pC]at h
 | n+1,j,i,o,ho,cA,h=>by
  simp only[pC,ho,List.any_eq_true,Bool.and_eq_true,Bool.or_eq_true,beq_iff_eq]at h;obtain⟨e,he,hb,h⟩:=h;have XY:=cA e he hb;rcases h with h|h
  ·rw[<-h];exact XY
  cases Ld:ops[e.on]? with
  | none =>
   cases n with
   | zero=>simp[pC]at h
   | succ n=>simp[pC,Ld]at h
  | some o'=>exact qI hc n j e.on o' Ld (fun e' vM Mf=>hc e.on o' Ld XY e' vM Mf) h
theorem pr{ops:Array Oper}{bx:Array Bool}{i:Nat}:i∈Region.ready .any ops bx↔i<ops.size∧bx.getD i true=false∧∃o,ops[i]?=some o∧∀e∈o.after.toList,Region.binds .any e=true->bx.getD e.on false=true:=by
 unfold Region.ready;rw[List.mem_filter,List.mem_range];constructor
 ·rintro⟨h1,h2⟩;rw[Bool.and_eq_true]at h2;obtain⟨h2,h3⟩:=h2;refine⟨h1,by simpa using h2,?_⟩;cases ho:ops[i]? with
  | none=>simp[ho]at h3
  | some o =>
   refine⟨o,rfl,fun e he hb=>?_⟩;simp only[ho,Option.map_some,Option.getD_some]at h3;have:=Array.all_eq_true_iff_forall_mem.1 h3 e (Array.mem_toList_iff.1 he);simpa[hb]using this
 rintro⟨h1,h2,o,ho,h3⟩;refine⟨h1,?_⟩;rw[Bool.and_eq_true];refine⟨by simpa using h2,?_⟩;simp only[ho,Option.map_some,Option.getD_some];refine Array.all_eq_true_iff_forall_mem.2 fun e he=>?_;by_cases hb:Region.binds .any e=true
 ·simp only[hb,Bool.not_true,Bool.false_or];exact h3 e (Array.mem_toList_iff.2 he) hb
 simp[hb]
theorem range_split{n i:Nat}(h:i<n):List.range n=List.range i++i::(List.range n).drop (i+1):=by
 apply List.ext_getElem?;intro j;rw[List.getElem?_append];simp only[List.length_range];by_cases h1:j<i
 ·rw[if_pos h1,List.getElem?_range h1,List.getElem?_range (by omega)]
 rw[if_neg h1];by_cases h2:j=i
 ·subst h2;simp[h]
 obtain⟨m,hm⟩:∃m,j-i=m+1:=⟨j-i-1,by omega⟩
 rw[hm,List.getElem?_cons_succ,List.getElem?_drop];congr 1;omega
theorem ua{n i j:Nat}(h:j∈(List.range n).drop (i+1)):i<j∧j<n:=by
 obtain⟨k,hk⟩:=List.getElem?_of_mem h;rw[List.getElem?_drop]at hk;have:=I hk;simp only[List.length_range]at this;rw[List.getElem?_range this]at hk;simp only[Option.some.injEq]at hk;omega
def gx(ks:List Kind)(n:Nat)(bx:Array Bool):List (Nat×Kind) :=
 ((List.range n).filter fun i=>!bx.getD i true).map fun i=>(i,ks.getD i .write)
theorem Ea(ks:List Kind){n:Nat}{bx:Array Bool}(di:bx.size=n){i:Nat}(hi:i<n)(hl:bx.getD i true=false) :
  ∃l1 l2,gx ks n bx=l1++(i,ks.getD i .write)::l2∧gx ks n (bx.setIfInBounds i true)=l1++l2∧∀p∈l1,p.1<i∧bx.getD p.1 true=false∧p.2=ks.getD p.1 .write:=by
 refine⟨((List.range i).filter fun j=>!bx.getD j true).map fun j=>(j,ks.getD j .write),(((List.range n).drop (i+1)).filter fun j=>!bx.getD j true).map fun j=>(j,ks.getD j .write),?_,?_,?_⟩
 ·unfold gx;rw[range_split hi];rw[List.filter_append,List.map_append,List.filter_cons];simp only[hl,Bool.not_false,if_true,List.map_cons];rw[<-range_split hi]
 ·unfold gx;rw[range_split hi];rw[List.filter_append,List.map_append,List.filter_cons];have XI:(bx.setIfInBounds i true).getD i true=true:=by
   simp[Array.getD_eq_getD_getElem?,Array.getElem?_setIfInBounds_self_of_lt (by omega:i<bx.size)]
  simp only[XI,Bool.not_true,Bool.false_eq_true,if_false];rw[<-range_split hi];have bI:∀j,j≠i->(bx.setIfInBounds i true).getD j true=bx.getD j true:=fun j hj=>by
   simp[Array.getD_eq_getD_getElem?,Array.getElem?_setIfInBounds_ne (fun e=>hj e.symm)]
  congr 2
  ·apply List.filter_congr;intro j hj;rw[List.mem_range]at hj;rw[bI j (by omega)]
  apply List.filter_congr;intro j hj;have:=ua hj;rw[bI j (by omega)]
 intro p hp;rw[List.mem_map]at hp;obtain⟨j,hj,e⟩:=hp;subst e;rw[List.mem_filter,List.mem_range]at hj;exact⟨hj.1,by simpa using hj.2,rfl⟩
theorem wP{bx:Array Bool}{i:Nat}(h:i<bx.size):bx.getD i true=bx.getD i false:=by
 simp[Array.getD_eq_getD_getElem?,h]
theorem BK{P:Program}{ops:Array Oper}{ks:List Kind}(hB:nk ops ks=true){base:G}{ρ:St}{Q:Exit->Act->World->Prop}(hQ:∀a g,Rel base ρ a g->Q .normal a g.w) :
  ∀(fuel:Nat) (bx:Array Bool) (σ:St) (a:Act) (g:G),bx.size=ops.size->xW ops bx->(gx ks ops.size bx).length<=fuel->fj P ops (gx ks ops.size bx) σ ρ->Rel base σ a g ->
   wpAny P .any ops Q fuel bx a g.w:=by
 simp only[nk,Bool.and_eq_true,List.all_eq_true,Bool.or_eq_true]at hB;obtain⟨⟨Ot,_⟩,Mp⟩:=hB;have PC:∀i o,ops[i]?=some o->∀e∈o.after.toList,Region.binds .any e=true->e.on<i:=by
  intro i o ho e he hb;simp only[Oe,List.all_eq_true]at Ot;have aZ:i<ops.size:=aW ho;have:=Ot i (List.mem_range.2 aZ);simp only[ho,List.all_eq_true,Bool.or_eq_true,decide_eq_true_eq]at this;have:=this e he;simpa[hb]using this
 have PK:∀bx:Array Bool,bx.size=ops.size->Region.ready .any ops bx=[]->gx ks ops.size bx=[]:=by
  intro bx di hr;refine Classical.byContradiction fun bI=>?_;have hex:∃i,i<ops.size∧bx.getD i true=false:=by
   cases ht:gx ks ops.size bx with
   | nil=>exact absurd ht bI
   | cons p r =>
    have hm:p∈gx ks ops.size bx:=by rw[ht];simp
    simp only[gx,List.mem_map,List.mem_filter,List.mem_range]at hm;obtain⟨i,⟨h1,h2⟩,_⟩:=hm;exact⟨i,h1,by simpa using h2⟩
  have V5:∃i,i<ops.size∧bx.getD i true=false∧∀j,j<i->bx.getD j true=true:=by
   obtain⟨i,h1,h2⟩:=hex;induction i using Nat.strongRecOn with
   | _ i ih =>
    by_cases h:∃j,j<i∧bx.getD j true=false
    ·obtain⟨j,h3,h4⟩:=h;exact ih j h3 (by omega) h4
    refine⟨i,h1,h2,fun j hj=>?_⟩;cases hc:bx.getD j true with
    | true=>rfl
    | false=>exact absurd ⟨j,hj,hc⟩ h
  obtain⟨i,h1,h2,h3⟩:=V5;have hi:i∈Region.ready .any ops bx:=by
   refine pr.2 ⟨h1,h2,ops[i],Array.getElem?_eq_getElem h1,fun e he hb=>?_⟩;have aZ:=PC i _ (Array.getElem?_eq_getElem h1) e he hb;rw[<-wP (by omega)];exact h3 _ aZ
  rw[hr]at hi;cases hi
 intro fuel;induction fuel with
 | zero =>
  intro bx σ a g di hc hlen oI bE;have ht:gx ks ops.size bx=[]:=List.length_eq_zero_iff.1 (by omega);rw[ht]at oI;refine⟨?_,hQ a g (pQ.rel oI bE)⟩;cases hr:Region.ready .any ops bx with
  | nil=>rfl
  | cons i r =>
   have hi:i∈Region.ready .any ops bx:=by rw[hr];simp
   obtain⟨h1,h2,_⟩:=pr.1 hi;have:(i,ks.getD i .write)∈gx ks ops.size bx:=by
    simp only[gx,List.mem_map,List.mem_filter,List.mem_range];exact⟨i,⟨h1,by rw[h2];rfl⟩,rfl⟩
   rw[ht]at this;cases this
 | succ fuel ih =>
  intro bx σ a g di hc hlen oI bE;refine⟨fun hr=>?_,fun i hi=>?_⟩
  ·have ht:=PK bx di hr;rw[ht]at oI;exact hQ a g (pQ.rel oI bE)
  obtain⟨h1,h2,o,ho,h3⟩:=pr.1 hi;obtain⟨l1,l2,e1,e2,e3⟩:=Ea ks di h1 h2;rw[e1]at oI;have Vz:=fj.front oI (fun p hp=>by
   obtain⟨q1,q2,q3⟩:=e3 p hp;have:=Mp i (List.mem_range.2 h1) p.1 (List.mem_range.2 q1);rcases this with this|this
   ·have:=qI hc _ _ _ o ho h3 this;rw[<-wP (by omega),q2]at this;cases this
   rw[q3];exact this)
  obtain⟨fF,⟨o',iC,bJ⟩,eQ⟩:=Vz;rw[ho]at iC;simp only[Option.some.injEq]at iC;subst iC;rw[<-e2]at eQ;have m7:(bx.setIfInBounds i true).size=ops.size:=by simpa using di
  have Gt:xW ops (bx.setIfInBounds i true):=by
   intro j oj Ji AF e he hb;have EP:∀k,bx.getD k false=true->(bx.setIfInBounds i true).getD k false=true:=fun k hk=>getD_set_true hk;by_cases UI:j=i
   ·subst UI;rw[ho]at Ji;simp only[Option.some.injEq]at Ji;subst Ji;exact EP _ (h3 e he hb)
   rw[getD_set_ne false (fun e=>UI e.symm)]at AF;exact EP _ (hc j oj Ji AF e he hb)
  have gB:(gx ks ops.size (bx.setIfInBounds i true)).length<=fuel:=by
   rw[e1]at hlen;rw[e2];simp only[List.length_append,List.length_cons]at hlen ⊢;omega
  unfold wpOp;simp only[ho];rcases bJ with⟨hw,r,m,Au,hk,Ju⟩|⟨hw,_,Ju⟩
  ·rw[if_pos (fv bE hw)];refine .inl (Au.2 base σ a g bE rfl (fun x _ y hy=>hy) (Mode.tp (.inr rfl)) _ _ fun u g' oK=>?_);subst Ju;exact ih _ _ _ _ m7 Gt gB eQ oK
  rw[if_neg (by rw[fv bE hw];simp)];subst Ju;refine ih _ _ _ g m7 Gt gB eQ ?_;cases jm:o.dst with
  | none=>exact bE
  | some d=>exact bE.skip d
theorem mD{P:Program}(hm:P.follows .mixedOrders=true){ops:Array Oper}{ks:List Kind}(hB:nk ops ks=true){id:Nat}{base:G}{σ ρ:St}{a:Act}{g:G}{Q:Exit->Act->World->Prop}
  (oI:fj P ops ((List.range ops.size).map fun i=>(i,ks.getD i .write)) σ ρ) (bE:Rel base σ a g) (hQ:∀a g,Rel base ρ a g->Q .normal a g.w):(Code.region id ops true).wp P Q a g.w:=by
 refine wp_region_any hm ?_;have OR:gx ks ops.size (Array.replicate ops.size false)=(List.range ops.size).map fun i=>(i,ks.getD i .write):=by
  unfold gx;congr 1;rw[List.filter_eq_self];intro i hi;rw[List.mem_range]at hi;simp[Array.getD_eq_getD_getElem?,hi]
 have gf:=bE.good.heap (w':={ g.w with drawn:=g.w.drawn+1 }) rfl rfl rfl rfl;have V2:=Le.heap (g:=g) (w':={ g.w with drawn:=g.w.drawn+1 }) rfl rfl rfl rfl;have oK:=bE.step V2 gf;have jo:(⟨σ.n,σ.bf,g.objs⟩:St)=σ:=by rw[bE.objs]
 rw[jo]at oK;refine BK hB hQ ops.size (Array.replicate ops.size false) σ a _ (by simp) ?_ ?_ (by rw[OR];exact oI) oK
 ·intro i o ho hl;have aZ:i<ops.size:=aW ho;simp[Array.getD_eq_getD_getElem?,aZ]at hl
 rw[OR];simp
theorem nG{P:Program}{ops:Array Oper}{base:G}{ρ:St}{Q:Exit->Act->World->Prop}(hQ:∀a g,Rel base ρ a g->Q .normal a g.w) :
  ∀(l:List (Nat×Kind)) (σ:St) (a:Act) (g:G),fj P ops l σ ρ->Rel base σ a g->wpOps P ops Q (l.map (·.1)) a g.w
 | [],σ,a,g,oI,bE=>hQ a g (pQ.rel oI bE)
 | (i,k)::r,σ,a,g,oI,bE=>by
  obtain⟨fF,⟨o,ho,bJ⟩,eQ⟩:=oI;simp only[List.map_cons,wpOps,ho];rcases bJ with⟨hw,r',m,Au,hk,Ju⟩|⟨hw,_,Ju⟩
  ·rw[if_pos (fv bE hw)];refine .inl (Au.2 base σ a g bE rfl (fun x _ y hy=>hy) (Mode.tp (.inr rfl)) _ _ fun u g' oK=>?_);subst Ju;exact nG hQ r _ _ _ eQ oK
  rw[if_neg (by rw[fv bE hw];simp)];subst Ju;refine nG hQ r _ _ g eQ ?_;cases jm:o.dst with
  | none=>exact bE
  | some d=>exact bE.skip d
theorem k9{P:Program}{ops:Array Oper}{ks:List Kind}{id:Nat}{base:G}{σ ρ:St}{a:Act}{g:G}{Q:Exit->Act->World->Prop}
  (oI:fj P ops ((List.range ops.size).map fun i=>(i,ks.getD i .write)) σ ρ) (bE:Rel base σ a g) (hQ:∀a g,Rel base ρ a g->Q .normal a g.w):(Code.region id ops false).wp P Q a g.w:=by
 refine wp_region ?_;have:=nG (Q:=Q) hQ _ σ a g oI bE;rw[List.map_map]at this;rw[show((List.range ops.size).map ((fun x:Nat×Kind=>x.1) ∘ fun i=>(i,ks.getD i .write)))=List.range ops.size by
  conv=>rhs;rw[<-List.map_id (List.range ops.size)]
  rfl]at this
 exact this
inductive dP where
 | norm
 | ret
 | exit (id:Nat)
def Pf(base:G)(Q:dP->St->Prop):Exit->Act->World->Prop
 | .normal,a,w=>∃g σ,g.w=w∧Rel base σ a g∧Q .norm σ
 | .ret,a,w=>∃g σ,g.w=w∧Rel base σ a g∧Q .ret σ
 | .exit id,a,w=>∃g σ,g.w=w∧Rel base σ a g∧Q (.exit id) σ
 | _,_,_=>False
def cu(P:Program)(kb:Nat)(c:Code)(Q:dP->St->Prop)(σ:St):Prop :=
 ∀(base:G) (a:Act) (g:G),base.objs.length<=kb->Rel base σ a g->c.wp P (Pf base Q) a g.w
theorem cu.mono{P:Program}{kb:Nat}{c:Code}{Q Q':dP->St->Prop}{σ:St}(h:cu P kb c Q σ)(hq:∀e σ,Q e σ->Q' e σ):cu P kb c Q' σ:=fun base a g hb hr =>
 wp_mono (h base a g hb hr) fun e a w hp=>by
  cases e with
  | normal=>obtain⟨g,σ,h1,h2,h3⟩:=hp;exact⟨g,σ,h1,h2,hq _ _ h3⟩
  | ret=>obtain⟨g,σ,h1,h2,h3⟩:=hp;exact⟨g,σ,h1,h2,hq _ _ h3⟩
  | exit id=>obtain⟨g,σ,h1,h2,h3⟩:=hp;exact⟨g,σ,h1,h2,hq _ _ h3⟩
  | goto l=>exact hp
  | panic c=>exact hp
  | outgrown=>exact hp
theorem cu.weaken{P:Program}{kb:Nat}{c:Code}{Q:dP->St->Prop}{σ τ:St}(h:cu P kb c Q τ)(hw:∀base a g,base.objs.length<=kb->Rel base σ a g->∃g',g'.w=g.w∧Rel base τ a g'):cu P kb c Q σ:=fun base a g hb hr=>by
 obtain⟨g',h1,h2⟩:=hw base a g hb hr;rw[<-h1];exact h base a g' hb h2
def bG(P:Program)(kb:Nat)(b:Code)(Q:dP->St->Prop):dP->St->Prop
 | .norm,σ=>cu P kb b Q σ
 | e,σ=>Q e σ
theorem aH{P:Program}{kb:Nat}{x y:Code}{Q:dP->St->Prop}{σ:St}(h:cu P kb x (bG P kb y Q) σ):cu P kb (.seq x y) Q σ:=fun base a g hb hr =>
 wp_seq (wp_mono (h base a g hb hr) fun e a w hp=>by
  cases e with
  | normal =>
   obtain⟨g,σ,h1,h2,h3⟩:=hp;subst h1;exact h3 base a g hb h2
  | ret=>exact hp
  | exit id=>exact hp
  | goto l=>exact hp
  | panic c=>exact hp
  | outgrown=>exact hp)
theorem a6{P:Program}{kb:Nat}{Q:dP->St->Prop}{σ:St}(h:Q .norm σ):cu P kb .skip Q σ:=fun base _ g _ hr=>wp_skip ⟨g,σ,rfl,hr,h⟩
theorem aq{P:Program}{kb:Nat}{Q:dP->St->Prop}{σ:St}(h:Q .ret σ):cu P kb .ret Q σ:=fun base _ g _ hr=>wp_ret ⟨g,σ,rfl,hr,h⟩
theorem aG{P:Program}{kb:Nat}{Q:dP->St->Prop}{σ:St}{id:Nat}(h:Q (.exit id) σ):cu P kb (.exit id) Q σ:=fun base _ g _ hr=>wp_exit ⟨g,σ,rfl,hr,h⟩
def bC(id:Nat)(Q:dP->St->Prop):dP->St->Prop
 | .exit ux,σ=>if ux=id then Q .norm σ else Q (.exit ux) σ
 | e,σ=>Q e σ
theorem ai{P:Program}{kb:Nat}{id:Nat}{c:Code}{Q:dP->St->Prop}{σ:St}(h:cu P kb c (bC id Q) σ):cu P kb (.block id c) Q σ:=fun base a g hb hr =>
 wp_block (wp_mono (h base a g hb hr) fun e a w hp=>by
  cases e with
  | normal=>exact hp
  | ret=>exact hp
  | exit ux =>
   obtain⟨g,σ,h1,h2,h3⟩:=hp;simp only[bC]at h3;simp only[Exit.inBlock];split
   ·rename_i e;rw[if_pos e]at h3;exact⟨g,σ,h1,h2,h3⟩
   rename_i e;rw[if_neg e]at h3;exact⟨g,σ,h1,h2,h3⟩
  | goto l=>exact hp
  | panic c=>exact hp
  | outgrown=>exact hp)
theorem mP{P:Program}{kb:Nat}{c:Operand}{x y:Code}{Q:dP->St->Prop}{σ:St}{b:Bool}(hc:σ.ev c=some (.v (.bool b)))(ht:b=true->cu P kb x Q σ)(hf:b=false->cu P kb y Q σ):cu P kb (.cond c x y) Q σ:=fun base a g hb hr=>by
 have Gt:=(hr.eval hc).bV.1;cases b
 ·exact wp_cond_false Gt (hf rfl base a g hb hr)
 exact wp_cond_true Gt (ht rfl base a g hb hr)
def Sub(O:List al)(x y:ae):Prop:=∀(g:G) (u:Value),g.objs=O->RV g x u->RV g y u
theorem Sub.refl{O:List al}(x:ae):Sub O x x:=fun _ _ _ h=>h
theorem Sub.of_eq{O:List al}{x y:ae}(h:x=y):Sub O x y:=h ▸ Sub.refl x
theorem Sub.nil{O:List al}{sz:Nat}{xs:List ae}{o:pP}(h:xs=[])(ho:∀id,o≠.tok id)(hn:o≠.nn):Sub O (.v (.slice none 0 0)) (.aB sz xs o):=fun g u _ k=>by
 have:=k.bV.1;subst this;subst h;exact .nil (fun id e=>absurd e (ho id)) hn
def fL(σ:St):List (Nat×ae)->Prop
 | []=>True
 | (s,y)::r=>(∃x,σ.get s=some x∧Sub σ.objs x y)∧fL σ r
theorem xx{σ:St}{base:G}{a:Act}{g:G}(hr:Rel base σ a g):∀{l:List (Nat×ae)},fL σ l->∀s y,look l s=some y->∃u,a.tmps[s]?=some u∧RV g y u
 | [],_,s,y,h=>by cases h
 | (k,z)::l,h,s,y,hl=>by
  obtain⟨⟨x,h1,h2⟩,h3⟩:=h;simp only[look]at hl;split at hl
  ·rename_i e;subst e;simp only[Option.some.injEq]at hl;subst hl;obtain⟨u,h4,h5⟩:=hr.slot k x h1;exact⟨u,h4,h2 g u hr.objs h5⟩
  exact xx hr h3 s y hl
structure bd(σ τ:St):Prop where
 n:σ.n=τ.n
 objs:σ.objs=τ.objs
 aab:fL σ τ.bf
theorem bd.rel{σ τ:St}(h:bd σ τ){base:G}{a:Act}{g:G}(hr:Rel base σ a g):Rel base τ a g where
 le:=hr.le
 good:=hr.good
 objs:=hr.objs.trans h.objs
 size:=hr.size.trans h.n
 defers:=hr.defers
 slot:=fun s y hy=>xx hr h.aab s y hy
theorem cu.cover{P:Program}{kb:Nat}{c:Code}{Q:dP->St->Prop}{σ τ:St}(h:cu P kb c Q τ)(hc:bd σ τ):cu P kb c Q σ:=fun base a g hb hr=>h base a g hb (hc.rel hr)
def fC{ι:Type}(L:ι->St)(μ:ι->Nat)(i:ι)(Q:dP->St->Prop):dP->St->Prop
 | .norm,σ=>∃j,μ j<μ i∧bd σ (L j)
 | e,σ=>Q e σ
theorem aO{P:Program}{kb:Nat}{c:Code}{Q:dP->St->Prop}{σ:St}{ι:Type}(L:ι->St)(μ:ι->Nat)(i0:ι)(h0:bd σ (L i0))(round:∀i,cu P kb c (fC L μ i Q) (L i)):cu P kb (.loop c) Q σ:=by
 intro base a g hb hr b k cs;have key:∀n i a g,μ i=n->Rel base (L i) a g->∃e a' w',Pf base Q e a' w'∧Arrives P (lone (b.at a (.code c::.inLoop c::k)) cs g.w) b k cs e a' w':=by
  intro n;induction n using Nat.strongRecOn with
  | _ n ih =>
   intro i a g hn hr;obtain⟨e,Ph,Un,hq,fP⟩:=round i base a g hb hr b (.inLoop c::k) cs;cases e with
   | normal =>
    obtain⟨I0,FT,h1,h2,j,h3,h4⟩:=hq;subst h1;obtain⟨U9,U6,WU,TH,Me⟩:=ih (μ j) (hn ▸ h3) j Ph I0 rfl (h4.rel h2);exact⟨U9,U6,WU,TH,.of_steps (Steps.trans fP (.one step_inLoop)) Me⟩
   | exit id =>
    obtain⟨I0,FT,h1,h2,h3⟩:=hq;exact⟨.exit id,Ph,Un,⟨I0,FT,h1,h2,h3⟩,.pass (x:=.inLoop c) rfl (fun _ _=>.inl (by simp)) fP⟩
   | goto l=>exact hq.elim
   | ret =>
    obtain⟨I0,FT,h1,h2,h3⟩:=hq;exact⟨.ret,Ph,Un,⟨I0,FT,h1,h2,h3⟩,.pass (x:=.inLoop c) rfl (fun _ _=>.inl (by simp)) fP⟩
   | panic ch=>exact hq.elim
   | outgrown=>exact hq.elim
 obtain⟨e,a',w',hq,fP⟩:=key _ i0 a g rfl (h0.rel hr);exact⟨e,a',w',hq,.of_steps (.one step_loop) fP⟩
theorem Eo{P:Program}{kb:Nat}{c:Code}{Q:dP->St->Prop}{n:Nat}{bf:List (Nat×ae)}{O:List al}(s:Nat){sz:Nat}{xs:List ae}(hs:look bf s=some (.aB sz xs .ex))
  (h:cu P kb c Q ⟨n,bq s (.aB sz xs (.tok O.length)) bf,O++[.spare xs.length]⟩):cu P kb c Q ⟨n,bf,O⟩ :=
 h.weaken fun base a g hb hr=>by
  have hO:g.objs=O:=hr.objs;refine⟨g.mark (.spare xs.length),rfl,?_⟩;have hle:=Le.mark hr.good (.spare xs.length);refine { le:=hr.le.trans hle,good:=Good.mark hr.good _,objs:=by simp[G.mark,hO],size:=hr.size,defers:=hr.defers,slot:=fun k x hx=>?_ };simp only[St.get,gi]at hx;split at hx
  ·rename_i e;subst e;simp only[Option.some.injEq]at hx;subst hx;obtain⟨u,h1,h2⟩:=hr.slot s _ hs;refine⟨u,h1,?_⟩;have h3:=h2.mono hle;cases h3 with
   | nil=>exact .nil (fun id e=>by simp only[pP.tok.injEq]at e;subst e;simp[G.mark,hO]) (by simp)
   | aB di ia ee gu hs f hm hr ho =>
    refine .aB di ia ee gu hs f hm hr ⟨by simp[G.mark,hO],fun m la=>?_⟩;have:(g.mark (.spare xs.length)).objs[O.length]?=some (.spare xs.length):=by
     rw[<-hO];exact eG
    rw[this]at la;simp only[Option.some.injEq,al.spare.injEq]at la;exact⟨by omega,fun _=>.inl ho⟩
  obtain⟨u,h1,h2⟩:=hr.slot k x hx;exact⟨u,h1,h2.mono hle⟩
theorem re{P:Program}{kb:Nat}{c:Code}{Q:dP->St->Prop}{n:Nat}{bf:List (Nat×ae)}{O:List al}(k:Nat)(hk:k<=O.length)(Jd:kb<=k)(cw:List (Nat×ae))(hb:∀o∈O.take k,o.upto k)(hs:fL ⟨n,bf,O⟩ cw)
  (pN:∀s x,look cw s=some x->x.upto k) (h:cu P kb c Q ⟨n,cw,O.take k⟩):cu P kb c Q ⟨n,bf,O⟩:=by
 intro base a g SA hr;have hO:g.objs=O:=hr.objs;have wU:Rel base ⟨n,cw,O.take k⟩ a (g.ny k):={
  le:=hr.le.ny (by omega)
  good:=hr.good.ny (by rw[hO];exact hk) (by rw[hO];exact hb)
  objs:=by simp only[G.ny,hO]
  size:=hr.size
  defers:=hr.defers
  slot:=fun s x hx=>by
   obtain⟨u,h1,h2⟩:=xx hr hs s x hx;exact⟨u,h1,h2.ny (by rw[hO];exact hk) (pN s x hx)⟩ }
 exact h base a (g.ny k) SA wU
theorem xw{P:Program}{o:Oper}{x:Operand}{args:Array Operand}{qW:Array TypeId}(ho:o.op=.call ⟨.value x,args,qW⟩){a:Act}{w:World}{f:FuncId}{us vs:Array Value}(hx:a.eval x=.func (.func f) us vs)(hf:Enters P f) :
  (execOp a.eval o).run P w=.ok (.enter f (us++args.map a.eval++vs)) w:=by
 obtain⟨fn,h1,h2,h3⟩:=hf;simp only[execOp,ho,resolve,hx,Deferred.ofValue,Sem.run_bind,Sem.run_pure,Result.andThen_ok,invoke,callFunc,run_program,h1,h2,h3];rfl
theorem lM.lO{g:G}{cs ds:List ae}{us vs:Array Value}(h:lM g cs us)(k:lM g ds vs):lM g (cs++ds) (us++vs):=by
 have:=lM.append (us:=us.toList) (vs:=vs.toList) (by simpa using h) (by simpa using k);have e:(us.toList++vs.toList).toArray=us++vs:=Array.ext' (by simp);rw[<-e];exact this
theorem rk{P:Program}{o:Oper}{σ:St}{x:Operand}{args:Array Operand}{qW:Array TypeId}{f:FuncId}{fs cs dA:List ae}{r:ae}(m:Mode)
  (ho:o.op=.call ⟨.value x,args,qW⟩) (hd:∀d,o.dst=some d->d<σ.n) (hx:σ.ev x=some (.fn (.func f) fs cs)) (ha:σ.Aa args.toList=some dA) {args':List ae} (en:∀g u,lM g (fs++dA++cs) u->lM g args' u)
  (dM:∀O,(m=.pure∨O=σ.objs)->ba P f O args' fun r' O'=>r'=r∧O'=m.post O) (Rs:Enters P f) (hp:m.plain:=by trivial):Cert P o σ r m:=by
 refine⟨by cases m<;>first|trivial|exact hp.elim,?_⟩;intro base τ a g bE hn my hm K Q hK;have wW:σ.ev x=some (.fn (.func f) fs cs):=hx;have h1:=bE.eval (my x (by simp[ho,Op.operands,Call.operands]) _ hx);obtain⟨us,vs,e1,l1,l2,r1,r2⟩:=h1.Pv;have h2:=qi (σ:=σ) (a:=a) (g:=g) (xs:=args.toList) (fun z hz y hy=>bE.eval (my z (by
  rw[ho];simp only[Op.operands,Call.operands,Array.mem_append];exact .inr (Array.mem_toList_iff.1 hz)) y hy)) ha
 have K6:lM g dA (args.map a.eval):=by
  have e:args.map a.eval=(args.toList.map a.eval).toArray:=Array.ext' (by rw[Array.toList_map]);rw[e];exact h2
 have cA:=en g _ ((lM.lO (lM.lO ⟨l1,r1⟩ K6) ⟨l2,r2⟩));have bw:=xw (P:=P) (w:=g.w) ho e1 Rs;unfold Oper.wp;rw[bw,Oper.upon_enter];refine((dM g.objs (by
  rcases m.JW hp hm with hm|hm
  ·exact .inl hm
  exact .inr (bE.objs.trans hm))).2 g _ bE.good rfl cA).mono ?_
 rintro e w' ⟨g',v,r',q1,q2,q3,q4,q5,q6,q7⟩;subst q1;subst q2;subst q6;refine hK v g' ?_;have e:g'.objs=m.post τ.objs:=by rw[q7,bE.objs]
 cases jm:o.dst with
 | none =>
  have:=bE.step q3 q4;rw[e]at this;exact this
 | some d =>
  have:=bE.put q3 q4 (d:=d) (by rw[hn];exact hd d jm) q5;rw[e]at this;exact this
theorem lM.share{g:G}{cs:List ae}{u:Array Value}(h:lM g cs u):lM g (cs.map ae.share) u :=
 ⟨by simpa using h.1,fun j c v a b=>by
  rw[List.getElem?_map,Option.map_eq_some_iff]at a;obtain⟨c',h1,h2⟩:=a;subst h2;exact(h.2 j c' v h1 b).share⟩
theorem Cy{P:Program}{o:Oper}{σ:St}{x:Operand}{args:Array Operand}{qW:Array TypeId}{f:FuncId}{fs cs dA:List ae}{r:ae}
  (ho:o.op=.call ⟨.value x,args,qW⟩) (hd:∀d,o.dst=some d->d<σ.n) (hx:σ.ev x=some (.fn (.func f) fs cs)) (ha:σ.Aa args.toList=some dA)
  (dM:bh P f ((fs++dA++cs).map ae.share) r) (br:au 0 ((fs++dA++cs).map ae.share)):Cert P o σ r .pure :=
 rk .pure ho hd hx ha (args':=(fs++dA++cs).map ae.share) (fun _ _ h=>h.share) (fun O _=>dM.use br O) dM.1
theorem tL{P:Program}{o:Oper}{σ:St}{x:Operand}{args:Array Operand}{qW:Array TypeId}{f:FuncId}{fs cs dA:List ae}{r:ae}{O':List al}
  (ho:o.op=.call ⟨.value x,args,qW⟩) (hd:∀d,o.dst=some d->d<σ.n) (hx:σ.ev x=some (.fn (.func f) fs cs)) (ha:σ.Aa args.toList=some dA)
  (dM:ba P f σ.objs (fs++dA++cs) fun r' O1=>r'=r∧O1=O'):Cert P o σ r (.write O') :=
 rk (.write O') ho hd hx ha (args':=fs++dA++cs) (fun _ _ h=>h) (fun O hO=>by
  have:O=σ.objs:=hO.resolve_left (by simp);subst this;exact dM) dM.1
theorem Cz{P:Program}{o:Oper}{σ:St}{x:Operand}{args:Array Operand}{qW:Array TypeId}{f:FuncId}{fs cs dA:List ae}{r:ae}
  (ho:o.op=.call ⟨.value x,args,qW⟩) (hd:∀d,o.dst=some d->d<σ.n) (hx:σ.ev x=some (.fn (.func f) fs cs)) (ha:σ.Aa args.toList=some dA)
  (dM:ba P f σ.objs (fs++dA++cs) fun r' O1=>r'=r∧O1=σ.objs):Cert P o σ r .read :=
 rk .read ho hd hx ha (args':=fs++dA++cs) (fun _ _ h=>h) (fun O hO=>by
  have:O=σ.objs:=hO.resolve_left (by simp);subst this;exact dM) dM.1
theorem pF{g:G}{id:Nat}{o:al}{l':Option Loc}(ho:g.objs[id]?=some o)(he:g.env[id]?=some l')(hp:¬o.aC)(hl:o.live):kB g id o l' .gone g.w where
 obj:=ho
 os:=rfl
 tape:=rfl
 output:=rfl
 size:=Nat.le_refl _
 block:=fun _ _ _=>rfl
 cell:=fun b off x hx _=>hx
 place:=fun _ _ h=>h.elim
 spare:=fun m h=>by subst h;exact absurd trivial hp
 plain:=fun _=>⟨by simp[al.aC],he⟩
 gone:=fun h=>by subst h;exact hl
def G.freeze(g:G)(id:Nat)(l':Option Loc):G:=g.bp id l' .gone g.w
def bT(O:List al)(id:Nat)(x y:ae):Prop :=
 ∀(g:G) (u:Value) (l':Option Loc),Good g->g.objs=O->g.env[id]?=some l'->Le g (g.freeze id l')->RV g x u->RV (g.freeze id l') y u
theorem bT.refl{O:List al}{id:Nat}(x:ae):bT O id x x:=fun _ _ _ _ _ _ hle h=>h.mono hle
theorem pg{g:G}(hg:Good g){id:Nat}{l:Loc}{o:al}(he:g.env[id]?=some (some l))(ho:g.objs[id]?=some o)(hl:o.live)(off:Nat):¬xG (g.freeze id (some l)) l.block off:=by
 have aZ:=I ho;rintro(hf|⟨ux,l',o',h1,h2,h3,h4,_⟩)
 ·exact hg.frown id l o he ho hl off hf
 simp only[G.freeze,G.bp]at h1 h2;by_cases e:ux=id
 ·subst e;rw[List.getElem?_set_self (by omega)]at h2;simp only[Option.some.injEq]at h2;subst h2;exact h3
 rw[List.getElem?_set_ne (Ne.symm e)]at h1 h2;exact e (hg.apart ux id l' l o' o h1 h2 h3 he ho hl h4)
theorem bT.mp{O:List al}{id off:Nat}{cs ds:List ae}(l5:O[id]?=some (.cells cs))(hd:(cs.drop off).map ae.bo=ds):bT O id (.mp id off) (.ip none ds):=fun g u l' hg hO he hle h=>by
 obtain⟨l,o1,h1,h2,_,eu⟩:=h.ng;subst eu;rw[he]at h1;simp only[Option.some.injEq]at h1;subst h1;have gq:g.objs[id]?=some (.cells cs):=by rw[hO];exact l5
 obtain⟨arr,t',hZ,de,hlen,gn,mG,_⟩:=hg.row gq he;subst hd;refine .ip (.inl rfl) (fun c hc=>by
  obtain⟨c',h1,h2⟩:=List.mem_map.1 hc;subst h2;exact ae.fc (mG c' (List.mem_of_mem_drop h1))) (fun j=>arr.getD (off+j) undef) (fun j c hj=>?_) (fun j c hj=>?_)
 ·rw[List.getElem?_map,Option.map_eq_some_iff]at hj;obtain⟨c',hj,_⟩:=hj;rw[List.getElem?_drop]at hj;have aZ:=I hj;refine⟨?_,pg hg he gq trivial _⟩;show g.w.cell? _=_;rw[cell_of_row de];simp[Array.getD_eq_getD_getElem?,show off+j<arr.size by omega]
 rw[List.getElem?_map,Option.map_eq_some_iff]at hj;obtain⟨c',hj,e⟩:=hj;subst e;rw[List.getElem?_drop]at hj;have aZ:=I hj;exact((gn _ c' _ hj (by simp[Array.getD_eq_getD_getElem?,show off+j<arr.size by omega])).mono hle).bo
theorem bT.ms{O:List al}{id off len cap sz:Nat}{cs xs:List ae}(l5:O[id]?=some (.cells cs))(di:∀x∈xs,x.cells.length=sz)(hlen:xs.length=len)(hd:((cs.drop off).take (len*sz)).map ae.bo=ao xs):bT O id (.ms id off len cap) (.aB sz xs .sh):=fun g u l' hg hO he hle h=>by
 obtain⟨l,o1,h1,h2,_,Lc,gu,gY,ee,eu⟩:=h.rE;subst eu;rw[he]at h1;simp only[Option.some.injEq]at h1;subst h1;have gq:g.objs[id]?=some (.cells cs):=by rw[hO];exact l5
 obtain⟨arr,t',hZ,de,jK,gn,mG,_⟩:=hg.row gq he;subst hlen;have key:∀(j:Nat) (c:ae),(ao xs)[j]?=some c->∃c',cs[off+j]?=some c'∧c'.bo=c:=fun j c hj=>by
  rw[<-hd,List.getElem?_map,Option.map_eq_some_iff]at hj;obtain⟨c',hj,e⟩:=hj;have:=lI hj;rw[List.getElem?_drop]at this;exact⟨c',this,e⟩
 refine .aB di (fun x hx c hc=>?_) (Nat.le_trans Lc ee) gu (fun _=>rfl) (fun j=>arr.getD (off+j) undef) (fun j c hj=>?_) (fun j c hj=>?_) trivial
 ·have iO:c∈ao xs:=by
   simp only[ao,List.mem_flatMap];exact⟨x,hx,hc⟩
  obtain⟨j,hj⟩:=List.getElem?_of_mem iO;obtain⟨c',gZ,e⟩:=key j c hj;subst e;exact ae.fc (mG c' (List.mem_of_getElem? gZ))
 ·obtain⟨c',gZ,e⟩:=key j c hj;have aZ:=I gZ;refine⟨?_,pg hg he gq trivial _⟩;show g.w.cell? _=_;simp only;rw[cell_of_row de];simp[Array.getD_eq_getD_getElem?,show off+j<arr.size by omega]
 obtain⟨c',gZ,e⟩:=key j c hj;have aZ:=I gZ;subst e;exact((gn _ c' _ gZ (by simp[Array.getD_eq_getD_getElem?,show off+j<arr.size by omega])).mono hle).bo
theorem bT.mm{O:List al}{id:Nat}{kt:KT}{es:List (Value×ae)}(l5:O[id]?=some (.map kt es)):bT O id (.mm id) (.im kt es):=fun g u l' hg hO he hle h=>by
 obtain⟨l,o1,h1,h2,_,eu⟩:=h.Qu;subst eu;rw[he]at h1;simp only[Option.some.injEq]at h1;subst h1;have gq:g.objs[id]?=some (.map kt es):=by rw[hO];exact l5
 obtain⟨l2,arr,ox,e1,e2,e3,e4,e5,e6⟩:=hg.map id kt es gq;rw[he]at e1;simp only[Option.some.injEq]at e1;subst e1;exact .im (r:=l.block) (ox:=ox) (arr:=arr) e3 (fun off=>pg hg he gq trivial off) e4 (fun i e kx a b=>(e6 i e kx a b).1) e5 (fun i e kx a b=>(e6 i e kx a b).2.2.mono hle)
theorem Ch{P:Program}{kb:Nat}{c:Code}{Q:dP->St->Prop}{n:Nat}{bf:List (Nat×ae)}{O:List al}(id:Nat){o:al}(l5:O[id]?=some o)(hp:¬o.aC)(kM:o.live)(cw:List (Nat×ae))
  (hs:∀s y,look cw s=some y->∃x,look bf s=some x∧bT O id x y) (h:cu P kb c Q ⟨n,cw,O.set id .gone⟩):cu P kb c Q ⟨n,bf,O⟩ :=
 h.weaken fun base a g hb hr=>by
  have hO:g.objs=O:=hr.objs;have gq:g.objs[id]?=some o:=by rw[hO];exact l5
  have aZ:=iq hr.good gq;have he:g.env[id]?=some g.env[id]:=List.getElem?_eq_getElem aZ;have ht:=pF gq he hp kM;have hle:=Le.bp hr.good ht;refine⟨g.freeze id g.env[id],rfl,{ le:=hr.le.trans hle,good:=Good.bp hr.good ht trivial (fun _ _ h=>h.elim),objs:=by simp[G.freeze,G.bp,hO],size:=hr.size,defers:=hr.defers,slot:=fun s y hy=>?_ }⟩;obtain⟨x,h1,h2⟩:=hs s y hy;obtain⟨u,h3,h4⟩:=hr.slot s x h1;exact⟨u,h3,h2 g u _ hr.good hO he hle h4⟩
theorem aA{P:Program}{kb:Nat}{c:Code}{Q:dP->St->Prop}{n:Nat}{bf:List (Nat×ae)}{O:List al}(s id:Nat){o:al}{x:ae}(y:ae)(l5:O[id]?=some o)(hp:¬o.aC)(kM:o.live)(hx:look bf s=some x)(hf:bT O id x y)
  (h:cu P kb c Q ⟨n,bq s y bf,O.set id .gone⟩):cu P kb c Q ⟨n,bf,O⟩ :=
 Ch id l5 hp kM (bq s y bf) (fun k z hz=>by
  rw[gi]at hz;split at hz
  ·rename_i e;subst e;simp only[Option.some.injEq]at hz;subst hz;exact⟨x,hx,hf⟩
  exact⟨z,hz,.refl z⟩) h
theorem kR{P:Program}{kb:Nat}{c:Code}{Q:dP->St->Prop}{n:Nat}{bf:List (Nat×ae)}{O:List al}(id:Nat){o:al}(l5:O[id]?=some o)(hp:¬o.aC)(kM:o.live)(cw:List (Nat×ae))
  (hs:∀s y,look cw s=some y->∃x,look bf s=some x∧bT O id x y) (k:Nat) (hk:k≠id) (cs ds:List ae) (jG:O[k]?=some (.cells cs)) (hl:cs.length=ds.length) (ia:∀d∈ds,d.scalar)
  (gn:∀(j:Nat) (c d:ae),cs[j]?=some c->ds[j]?=some d->bT O id c d) (h:cu P kb c Q ⟨n,cw,(O.set id .gone).set k (.cells ds)⟩):cu P kb c Q ⟨n,bf,O⟩ :=
 h.weaken fun base a g hb hr=>by
  have hO:g.objs=O:=hr.objs;have gq:g.objs[id]?=some o:=by rw[hO];exact l5
  have aZ:=iq hr.good gq;have he:g.env[id]?=some g.env[id]:=List.getElem?_eq_getElem aZ;have ht:=pF gq he hp kM;have hle:=Le.bp hr.good ht;have c7:=Good.bp hr.good ht trivial (fun _ _ h=>h.elim);obtain⟨l,arr,t,e1,e2,e3,e4,e5,e6⟩:=hr.good.cells k cs (by rw[hO];exact jG);have Mw:(g.freeze id g.env[id]).objs[k]?=some (.cells cs):=by
   simp only[G.freeze,G.bp];rw[List.getElem?_set_ne (Ne.symm hk),hO];exact jG
  have SU:(g.freeze id g.env[id]).env[k]?=some (some l):=by
   simp only[G.freeze,G.bp];rw[List.getElem?_set_ne (Ne.symm hk)];exact e1
  have TU:kB (g.freeze id g.env[id]) k (.cells cs) (some l) (.cells ds) g.w:={
   obj:=Mw
   os:=rfl
   tape:=rfl
   output:=rfl
   size:=Nat.le_refl _
   block:=fun _ _ _=>rfl
   cell:=fun b off x hx _=>hx
   place:=fun l1 h1 _=>by
    simp only[Option.some.injEq]at h1;subst h1;exact .inr ⟨l,SU,trivial,rfl,Nat.le_refl _⟩
   spare:=fun m h=>by cases h
   plain:=fun _=>⟨by simp[al.aC],SU⟩
   gone:=by simp }
  have AE:=Le.bp c7 TU;have C8:=Good.bp c7 TU ⟨l,arr,t,rfl,e2,e3,by omega,fun j d u hd hu=>by
   have aZ:=I hd;have hc:cs[j]?=some cs[j]:=List.getElem?_eq_getElem (by omega);exact(gn j _ d hc hd g u _ hr.good hO he hle (e5 j _ u hc hu)).mono AE,ia,e6.2⟩ (fun l1 h1 _=>by
    simp only[Option.some.injEq]at h1;subst h1;exact aW e3)
  refine⟨(g.freeze id g.env[id]).bp k (some l) (.cells ds) g.w,rfl,{ le:=(hr.le.trans hle).trans AE,good:=C8,objs:=by simp[G.freeze,G.bp,hO],size:=hr.size,defers:=hr.defers,slot:=fun s y hy=>?_ }⟩;obtain⟨x,h1,h2⟩:=hs s y hy;obtain⟨u,h3,h4⟩:=hr.slot s x h1;exact⟨u,h3,(h2 g u _ hr.good hO he hle h4).mono AE⟩
theorem mi{P:Program}(w:World){t e:TypeId}(a:Addr)(n c:Nat)(ht:P.underlying t=some (.slice e)) :
  (binOp .neq t (.slice (some a) n c) (.slice none 0 0)).run P w=.ok (.bool true) w:=by
 have h:∀d:Nat,(Op.equalIn (d+1) t (.slice (some a) n c) (.slice none 0 0)).run P w=.ok false w:=fun d=>by
  simp[Op.equalIn,run_underlying ht]
 simp only[binOp];simp[Op.equal,Op.maxDepth,h 9999]
theorem mK{P:Program}(w:World){t e:TypeId}(n c:Nat)(ht:P.underlying t=some (.slice e)) :
  (binOp .neq t (.slice none n c) (.slice none 0 0)).run P w=.ok (.bool false) w:=by
 have h:∀d:Nat,(Op.equalIn (d+1) t (.slice none n c) (.slice none 0 0)).run P w=.ok true w:=fun d=>by
  simp[Op.equalIn,run_underlying ht]
 simp only[binOp];simp[Op.equal,Op.maxDepth,h 9999]
theorem yG{P:Program}(w:World){op:BinOp}{t e:TypeId}{u:Value}{b r:Bool}(ht:P.underlying t=some (.slice e))(hu:(∃n c,u=.slice none n c∧b=true)∨(∃a n c,u=.slice (some a) n c∧b=false))
  (hr:(op=.eql∧r=b)∨(op=.neq∧r=!b)):(binOp op t u (.slice none 0 0)).run P w=.ok (.bool r) w:=by
 rcases hu with⟨n,c,e1,e2⟩|⟨a,n,c,e1,e2⟩<;>rcases hr with⟨e3,e4⟩|⟨e3,e4⟩<;>subst e1<;>subst e2<;>subst e3<;>subst e4
 ·exact Go.Lib.run_eql_slice_nil_nil w n c ht
 ·exact mK w n c ht
 ·exact Go.Lib.run_eql_slice_some_nil w a n c ht
 exact mi w a n c ht
theorem zP{P:Program}{aR:ed}(hT:bY P aR){o:Oper}{σ:St}{t t' e:TypeId}{x:Operand}{ti:cc}{y:ae}{b r:Bool}{op:BinOp}
  (ho:o.op=.binOp op t x (.const (.slice none 0 0)) t') (hd:∀d,o.dst=some d->d<σ.n) (ht:aR t=some ti) (aP:ti.desc=.slice e) (hx:σ.ev x=some y)
  (hy:(y=.v (.slice none 0 0)∧b=true)∨(∃sz xs,y=.aB sz xs .nn∧b=false)∨(∃id off len cap,y=.ms id off len cap∧b=false)) (hr:(op=.eql∧r=b)∨(op=.neq∧r=!b)):Cert P o σ (.v (.bool r)) .pure :=
 Cert.bK .pure (.inl rfl) hd fun a g _ h _=>by
  have hu:=bO hT ht aP;have gJ:=h x (by simp[ho,Op.operands]) _ hx;refine⟨.bool r,?_,.v trivial⟩;have pN:(∃n c,a.eval x=.slice none n c∧b=true)∨(∃ad n c,a.eval x=.slice (some ad) n c∧b=false):=by
   rcases hy with⟨e1,e2⟩|⟨sz,xs,e1,e2⟩|⟨id,off,len,cap,e1,e2⟩
   ·subst e1;exact .inl ⟨_,_,gJ.bV.1,e2⟩
   ·subst e1;cases hv:a.eval x with
    | slice ad len cap =>
     rw[hv]at gJ;cases gJ with
     | nil ho hn=>exact absurd rfl hn
     | aB di ia ee gu hs f hm hr ho=>exact .inr ⟨_,_,_,rfl,e2⟩
    | _=>rw[hv]at gJ;cases gJ
   subst e1;obtain⟨l,o1,_,_,_,_,_,gY,_,eu⟩:=gJ.rE;exact .inr ⟨_,_,_,eu,e2⟩
  have bw:=yG (P:=P) g.w hu pN hr;have Mz:∃ad n c,a.eval x=.slice ad n c:=by
   rcases pN with⟨_,_,e,_⟩|⟨_,_,_,e,_⟩
   ·exact⟨_,_,_,e⟩
   exact⟨_,_,_,e⟩
  obtain⟨ad,n,c,Mz⟩:=Mz;have hg:=cD (P:=P) op t x (.const (.slice none 0 0)) (.slice ad n c) (.slice none 0 0) g.w (by simp) (by simp);rw[Mz]at bw;have hc:a.eval (.const (.slice none 0 0))=.slice none 0 0:=rfl;simp[execOp,ho,Mz,hc,hg,bw]
theorem Cw{P:Program}{aR:ed}(hT:bY P aR){o:Oper}{σ:St}{t e:TypeId}{x:Operand}{ti:cc}{sz:Nat}{xs:List ae}
  (ho:o.op=.call ⟨.builtin .cap,#[x],#[t]⟩) (hd:∀d,o.dst=some d->d<σ.n) (ht:aR t=some ti) (aP:ti.desc=.slice e) (hx:σ.ev x=some (.aB sz xs .ex)):Cert P o σ (.v (.int .i64 xs.length)) .pure :=
 Cert.bK .pure (.inl rfl) hd fun a g _ h _=>by
  have hu:=bO hT ht aP;have gJ:=h x (by simp[ho,Op.operands,Call.operands]) _ hx;have gu:=gJ.MG;have key:∃ad,a.eval x=.slice ad xs.length xs.length:=by
   rcases gJ.fH with⟨q1,q2⟩|⟨ad,cap,_,q1,_,_,_,_,_,_,_,q2⟩
   ·subst q2;exact⟨_,q1⟩
   have q3:cap=xs.length:=q2;subst q3;exact⟨_,q1⟩
  obtain⟨ad,q1⟩:=key;refine⟨.int .i64 xs.length,?_,.v ?_⟩
  ·rw[cC ho];simp[builtin,Builtin.cap_,q1,run_underlying hu,goInt]
  simp[lV,IntKind.min,IntKind.max,IntKind.bits,IntKind.signed];omega
theorem oH{P:Program}{o:Oper}{σ:St}{x:Operand}{y:ae}(ho:o.op=.nilCheck x)(hd:∀d,o.dst=some d->d<σ.n)(hx:σ.ev x=some y)
  (hy:(∃id off,y=.mp id off)∨∃oa cs,y=.ip oa cs):Cert P o σ y .pure :=
 Cert.bK .pure (.inl rfl) hd fun a g _ h _=>by
  have gJ:=h x (by simp[ho,Op.operands]) _ hx;have key:∃ad,a.eval x=.pointer (some ad):=by
   rcases hy with⟨id,off,e⟩|⟨oa,cs,e⟩
   ·subst e;obtain⟨l,o1,_,_,_,eu⟩:=gJ.ng;exact⟨_,eu⟩
   subst e;obtain⟨b,off,f,eu,_⟩:=gJ.po;exact⟨_,eu⟩
  obtain⟨ad,e⟩:=key;exact⟨a.eval x,by simp[execOp,ho,e],gJ⟩
theorem sG{P:Program}{aR:ed}(hT:bY P aR){o:Oper}{σ:St}{t e:TypeId}{x:Operand}{ti te:cc}{sz:Nat}{xs:List ae}{ow:pP}{lo hi:Option Operand}
  (ho:o.op=.slice t x lo hi none) (hd:∀d,o.dst=some d->d<σ.n) (ht:aR t=some ti) (aP:ti.desc=.slice e) (he:aR e=some te) (hx:σ.ev x=some (.aB sz xs ow))
  (hZ:mR σ lo 0 0) (oB:mR σ hi xs.length xs.length):Cert P o σ (.aB sz xs ow) .pure :=
 Cert.bK .pure (.inl rfl) hd fun a g _ hh _=>by
  have hu:=bO hT ht aP;have gJ:=hh x (by cases lo<;>cases hi<;>simp[ho,Op.operands]) _ hx;have hl:(lo=none)∨∃q k,lo=some q∧a.eval q=.int k (0:Int):=by
   rcases hZ with q|⟨q,k,e1,e2⟩
   ·exact .inl q.1
   exact .inr ⟨q,k,e1,(hh q (by subst e1;cases hi<;>simp[ho,Op.operands]) _ e2).bV.1⟩
  have gI:(hi=none)∨∃q k,hi=some q∧a.eval q=.int k (xs.length:Int):=by
   rcases oB with q|⟨q,k,e1,e2⟩
   ·exact .inl q.1
   exact .inr ⟨q,k,e1,(hh q (by subst e1;cases lo<;>simp[ho,Op.operands]) _ e2).bV.1⟩
  have cR:execOp a.eval o=(do pure (.value (<-Instr.sliceAt t (a.eval x) (lo.map a.eval) (hi.map a.eval) none))):=by
   simp[execOp,ho]
  clear hZ oB ho;have bounds:∀cap:Nat,xs.length<=cap->(Instr.sliceBounds true xs.length cap (lo.map a.eval) (hi.map a.eval) none).run P g.w=.ok (0,xs.length,cap) g.w:=by
   intro cap ee;rcases hl with e1|⟨p,k,e1,hk⟩
   ·rcases gI with e3|⟨q,k',e3,mN⟩
    ·subst e1 e3;simp[Instr.sliceBounds]
    subst e1 e3;have:=run_sliceBound (P:=P) k' xs.length cap .sliceAcap g.w (by omega) (by omega);simp[Instr.sliceBounds,mN,this]
   rcases gI with e3|⟨q,k',e3,mN⟩
   ·subst e1 e3;have:=run_sliceBound (P:=P) k 0 xs.length .sliceB g.w (by omega) (by omega);simp[Instr.sliceBounds,hk,this]
   subst e1 e3;have e1:=run_sliceBound (P:=P) k' xs.length cap .sliceAcap g.w (by omega) (by omega);have e2:=run_sliceBound (P:=P) k 0 xs.length .sliceB g.w (by omega) (by omega);simp[Instr.sliceBounds,hk,mN,e1,e2]
  have kc:=(hT e te he).sizeOf g.w;refine⟨a.eval x,?_,gJ⟩;rw[cR];rcases gJ.fH with⟨q1,q2⟩|⟨ad,cap,f,q1,m7,ia,ee,gu,hs,hm,hr,_⟩
  ·subst q2;have b:=bounds 0 (by simp);simp only[List.length_nil]at b;simp[Instr.sliceAt,run_underlying hu,Instr.slice,q1,kc,b]
  have b:=bounds cap ee;by_cases K7:cap=0
  ·subst K7;simp[Instr.sliceAt,run_underlying hu,Instr.slice,q1,kc,b,Addr.add]
  simp[Instr.sliceAt,run_underlying hu,Instr.slice,q1,kc,b,K7,Addr.add]
theorem vG{P:Program}{aR:ed}(hT:bY P aR){o:Oper}{σ:St}{t e:TypeId}{x:Operand}{ti te:cc}{id off len cap:Nat}{lo hi:Option Operand}{l h:Nat}
  (ho:o.op=.slice t x lo hi none) (hd:∀d,o.dst=some d->d<σ.n) (ht:aR t=some ti) (aP:ti.desc=.slice e) (he:aR e=some te) (hx:σ.ev x=some (.ms id off len cap))
  (hZ:mR σ lo 0 l) (oB:mR σ hi len h) (h1:l<=h) (h2:h<=cap) (h3:l<cap) (Om:h<=2 ^ 62):Cert P o σ (.ms id (off+l*te.size) (h-l) (cap-l)) .pure :=
 Cert.bK .pure (.inl rfl) hd fun a g _ hh _=>by
  have hu:=bO hT ht aP;have gJ:=hh x (by cases lo<;>cases hi<;>simp[ho,Op.operands]) _ hx;have hl:(lo=none∧l=0)∨∃q k,lo=some q∧a.eval q=.int k (l:Int):=by
   rcases hZ with q|⟨q,k,e1,e2⟩
   ·exact .inl q
   exact .inr ⟨q,k,e1,(hh q (by subst e1;cases hi<;>simp[ho,Op.operands]) _ e2).bV.1⟩
  have gI:(hi=none∧h=len)∨∃q k,hi=some q∧a.eval q=.int k (h:Int):=by
   rcases oB with q|⟨q,k,e1,e2⟩
   ·exact .inl q
   exact .inr ⟨q,k,e1,(hh q (by subst e1;cases lo<;>simp[ho,Op.operands]) _ e2).bV.1⟩
  have cR:execOp a.eval o=(do pure (.value (<-Instr.sliceAt t (a.eval x) (lo.map a.eval) (hi.map a.eval) none))):=by
   simp[execOp,ho]
  clear hZ oB ho;obtain⟨lc,o1,q1,q2,q3,Lc,gu,gY,ee,eu⟩:=gJ.rE;have bounds:(Instr.sliceBounds true len gY (lo.map a.eval) (hi.map a.eval) none).run P g.w=.ok (l,h,gY) g.w:=by
   rcases hl with⟨e1,e2⟩|⟨p,k,e1,hk⟩
   ·rcases gI with⟨e3,e4⟩|⟨q,k',e3,mN⟩
    ·subst e1 e2 e3 e4;simp[Instr.sliceBounds]
    subst e1 e2 e3;have:=run_sliceBound (P:=P) k' h gY .sliceAcap g.w (by omega) (by omega);simp[Instr.sliceBounds,mN,this]
   rcases gI with⟨e3,e4⟩|⟨q,k',e3,mN⟩
   ·subst e1 e3 e4;have:=run_sliceBound (P:=P) k l h .sliceB g.w (by omega) (by omega);simp[Instr.sliceBounds,hk,this]
   subst e1 e3;have e1:=run_sliceBound (P:=P) k' h gY .sliceAcap g.w (by omega) (by omega);have e2:=run_sliceBound (P:=P) k l h .sliceB g.w (by omega) (by omega);simp[Instr.sliceBounds,hk,mN,e1,e2]
  have kc:=(hT e te he).sizeOf g.w;refine⟨.slice (some ((⟨lc.block,off,none⟩:Addr).add (l*te.size))) (h-l) (gY-l),?_,?_⟩
  ·rw[cR];simp[Instr.sliceAt,run_underlying hu,Instr.slice,eu,bounds,kc,show gY≠l by omega]
  rw[addr_add];exact .ms q1 q2 q3 (by omega) (by omega) (by omega)
theorem tQ{P:Program}{aR:ed}(hT:bY P aR){o:Oper}{σ:St}{t e:TypeId}{x:Operand}{ti te:cc}{id sz len:Nat}{lo hi:Option Operand} 
  (ho:o.op=.slice t x lo hi none) (hd:∀d,o.dst=some d->d<σ.n) (ht:aR t=some ti) (aP:ti.desc=.slice e) (he:aR e=some te) (hx:σ.ev x=some (.raw sz len id))
  (hZ:mR σ lo 0 0) (oB:mR σ hi len 0) (h3:0<len):Cert P o σ (.aB sz [] (.tok id)) .pure :=
 Cert.bK .pure (.inl rfl) hd fun a g _ hh _=>by
  have hu:=bO hT ht aP;have gJ:=hh x (by cases lo<;>cases hi<;>simp[ho,Op.operands]) _ hx;have hl:(lo=none∧(0:Nat)=0)∨∃q k,lo=some q∧a.eval q=.int k ((0:Nat):Int):=by
   rcases hZ with q|⟨q,k,e1,e2⟩
   ·exact .inl q
   exact .inr ⟨q,k,e1,(hh q (by subst e1;cases hi<;>simp[ho,Op.operands]) _ e2).bV.1⟩
  have gI:(hi=none∧(0:Nat)=len)∨∃q k,hi=some q∧a.eval q=.int k ((0:Nat):Int):=by
   rcases oB with q|⟨q,k,e1,e2⟩
   ·exact .inl q
   exact .inr ⟨q,k,e1,(hh q (by subst e1;cases lo<;>simp[ho,Op.operands]) _ e2).bV.1⟩
  have cR:execOp a.eval o=(do pure (.value (<-Instr.sliceAt t (a.eval x) (lo.map a.eval) (hi.map a.eval) none))):=by
   simp[execOp,ho]
  clear hZ oB ho;obtain⟨ad,gY,eu,ee,Wa⟩:=gJ.UT;have bounds:(Instr.sliceBounds true len gY (lo.map a.eval) (hi.map a.eval) none).run P g.w=.ok (0,0,gY) g.w:=by
   rcases hl with⟨e1,e2⟩|⟨p,k,e1,hk⟩
   ·rcases gI with⟨e3,e4⟩|⟨q,k',e3,mN⟩
    ·omega
    subst e1 e3;have:=run_sliceBound (P:=P) k' 0 gY .sliceAcap g.w (by omega) (by omega);simp[Instr.sliceBounds,mN,this]
   rcases gI with⟨e3,e4⟩|⟨q,k',e3,mN⟩
   ·omega
   subst e1 e3;have e1:=run_sliceBound (P:=P) k' 0 gY .sliceAcap g.w (by omega) (by omega);have e2:=run_sliceBound (P:=P) k 0 0 .sliceB g.w (by omega) (by omega);simp[Instr.sliceBounds,hk,mN,e1,e2]
  have kc:=(hT e te he).sizeOf g.w;refine⟨.slice (some (ad.add (0*te.size))) (0-0) (gY-0),?_,?_⟩
  ·rw[cR];simp[Instr.sliceAt,run_underlying hu,Instr.slice,eu,bounds,kc,show gY≠0 by omega]
  rw[Nat.zero_mul,show ad.add 0=ad by cases ad;rfl];exact .aB (xs:=[]) (by simp) (by simp) (Nat.zero_le _) (Nat.zero_le _) (by simp) (fun _=>undef) (by simp[ao]) (by simp[ao]) Wa
theorem sA{P:Program}{aR:ed}(hT:bY P aR){o:Oper}{σ:St}{t e:TypeId}{x y:Operand}{ti te:cc}{sz:Nat}{xs ys:List ae}{ow:pP}
  (ho:o.op=.call ⟨.builtin .append,#[x,y],#[t,t]⟩) (hd:∀d,o.dst=some d->d<σ.n) (ht:aR t=some ti) (aP:ti.desc=.slice e) (he:aR e=some te) (di:te.size=sz) (hx:σ.ev x=some (.aB sz xs .ex)) (hy:σ.ev y=some (.aB sz ys ow))
  (hn:ys.length≠0) (hlen:xs.length+ys.length<=2 ^ 62) (hb:(xs.length+ys.length)*te.bytes<=2 ^ 47) :
  Cert P o σ (.ms σ.objs.length 0 (xs.length+ys.length) (xs.length+ys.length)) (.write (σ.objs++[.cells (ao (xs++ys.map ae.share))])) :=
 Cert.ix hd fun base fF a g bE h iC=>by
  have hO:g.objs=σ.objs:=iC.resolve_left (by simp);have hg:=bE.good;have hu:=bO hT ht aP;subst di;have gJ:=h x (by simp[ho,Op.operands,Call.operands]) _ hx;have BW:=h y (by simp[ho,Op.operands,Call.operands]) _ hy;obtain⟨BN,kT,gv,ex,EW,EX,MC,Jr,Lk,EY⟩:=gJ.fR (P:=P);obtain⟨R6,Ij,news,ey,AM,AN,AO,HV,E1,s9⟩:=BW.fR (P:=P);obtain⟨⟨i,z,h1,h2,h3,h4,h5,h6,h7,h8,h9⟩,_⟩:=hT e te he;have qt:kT=xs.length:=by
   rcases gJ.fH with⟨q1,q2⟩|⟨ad,cap,f,q1,_,_,_,_,_,_,_,q2⟩
   ·rw[ex]at q1;cases q2;simp at q1;simp[q1]
   rw[ex]at q1;simp only[Value.slice.injEq]at q1;rw[q1.2.2];exact q2
  subst qt;have cR:=cC (P:=P) ho a g.w;simp only[builtin,List.map_toArray,List.map_cons,List.map_nil]at cR;have bw:=fV (P:=P) g.w t o.type e i z hu h1 h4 BN xs.length xs.length ys.length (a.eval y) gv news AM (by rw[h2];exact AN g.w.drew rfl) (by rw[h2,<-ex];exact EX g.w.drew rfl) (by omega) hlen (by rw[h3];exact hb);rw[<-ex]at bw;obtain⟨cap,ee⟩:∃cap,cap=grownCap g.w (xs.length+ys.length) xs.length e:=⟨_,rfl⟩
  obtain⟨rest,eQ⟩:∃rest,rest=Builtin.zeroCells z.cells (cap-(xs.length+ys.length)):=⟨_,rfl⟩
  have qX:=grownCap_ge g.w (xs.length+ys.length) xs.length e;rw[<-ee]at bw qX;rw[<-eQ]at bw;obtain⟨arr,fP⟩:∃arr,arr=gv.toArray++news.toArray++rest:=⟨_,rfl⟩
  rw[<-fP]at bw;have mM:=hg.heap (w':=g.w.drew) rfl rfl rfl rfl;have m6:=Le.heap (g:=g) (w':=g.w.drew) rfl rfl rfl rfl;obtain⟨g1,ln⟩:∃g1:G,g1=⟨g.w.drew,g.fr,g.env,g.objs⟩:=⟨_,rfl⟩
  rw[<-ln]at mM m6;have sR:g1.w=g.w.drew:=by rw[ln]
  have nV:g1.objs=σ.objs:=by rw[ln];exact hO
  have jE:=MC.append AO.kl;rw[<-cP]at jE;have gA:(ao (xs++ys.map ae.share)).length=(xs.length+ys.length)*te.size:=by
   rw[ca (sz:=te.size) (fun x hx=>by
    rcases List.mem_append.1 hx with q|q
    ·exact Jr x q
    exact dY HV x q)]
   simp
  have vK:(ao (xs++ys.map ae.share)).length<=arr.size:=by
   rw[gA,fP];simp only[Array.size_append,List.size_toArray,EY,s9,<-Nat.add_mul];omega
  have hle:=m6.trans (Le.alloc mM (.cells arr e) 0 (.cells (ao (xs++ys.map ae.share))));have jo:Fits (g1.alloc (.cells arr e) 0 (.cells (ao (xs++ys.map ae.share)))) (.cells arr e) (.cells (ao (xs++ys.map ae.share))):=by
   refine⟨arr,e,rfl,vK,fun j c u hj hu=>?_,fun c hc=>?_⟩
   ·have aZ:=I hj;rw[gA]at aZ;rw[fP]at hu;have vT:=dQ hu (by simp only[List.size_toArray,EY,s9,<-Nat.add_mul];exact aZ);exact(jE.2 j c u hj (by simpa using vT)).mono hle
   rw[cP]at hc;rcases List.mem_append.1 hc with q|q
   ·exact Lk c q
   exact dT E1 c q
  have c7:=Good.alloc mM (.cells arr e) 0 (.cells (ao (xs++ys.map ae.share))) (.inr rfl) jo;refine⟨.slice (some ⟨g.w.heap.size,0,none⟩) (xs.length+ys.length) cap,_,.inl ?_,hle,c7,?_,?_⟩
  ·rw[cR];simp[bw,G.alloc,sR]
  ·simp[G.alloc,nV,Mode.post]
  rw[<-nV];have e1:(g.w.heap.size)=g1.w.heap.size:=by rw[sR];rfl
  rw[e1];exact .ms (l:=⟨g1.w.heap.size,0,_⟩) (ir mM) eG (by simp[al.aC]) (Nat.le_refl _) qX hlen
theorem mB{P:Program}(w:World)(t t' ty e:TypeId)(i:TypeInfo)(z:Value)(ht:P.underlying t=some (.slice e))(TS:P.underlying t'=some (.int .i64))(hi:P.info? e=some i)(hz:i.zero=some z)(s:Option Addr)(n:Nat)
  (hs:(Builtin.firstCells i.size 0 (.slice s 0 0)).run P w.drew=.ok #[] w.drew) (hn:0<n) (Yz:n<=2 ^ 62) (bt:n*i.bytes<=2 ^ 47) (di:0<i.size) :
  (Builtin.append_ #[t,t'] ty #[.slice s 0 0,.int .i64 n]).run P w =
   .ok (.slice (some ⟨w.heap.size,0,none⟩) n (grownCap w n 0 e)) (w.drew.alloc (.cells (Builtin.zeroCells z.cells n++Builtin.zeroCells z.cells (grownCap w n 0 e-n)) e)):=by
 have hw:IntKind.i64.wrap (n:Int)=n:=mu .i64 n (by simp[IntKind.min,IntKind.bits,IntKind.signed]<;>omega) (by simp[IntKind.max,IntKind.bits,IntKind.signed]<;>omega);have h0:¬((n:Int)<0):=by omega
 have W8:¬((2:Int) ^ 48<(n:Int)*(i.bytes:Int)):=by
  rw[<-Int.natCast_mul];omega
 have Ts:¬(n<=0):=by omega
 have bI:¬(n*i.size=0):=by
  have:=Nat.mul_pos hn di;omega
 have h1:¬(9223372036854775807<(n:Int)):=by omega
 have ee:Builtin.nextslicecap n 0=n:=by
  unfold Builtin.nextslicecap;rw[if_pos (by omega)]
 have ha:∀w:World,(asInt (.int .i64 (n:Int))).run P w=.ok (n:Int) w:=fun _=>rfl;have Ve:¬(281474976710656<(n:Int)*(i.bytes:Int)):=by
  rw[<-Int.natCast_mul];omega
 have Sl:¬(281474976710656<n*i.bytes):=by omega
 have AI:¬(n=0):=by omega
 simp[Builtin.append_,run_underlying ht,run_underlying TS,Go.sizeOf,typeInfo,hi,ha,hw,AI,Ve,Sl,ee,Question.forced,hs,Go.zeroValue,hz,Go.newRow,grownCap,h1];rw[if_neg h0,if_neg bI]
theorem rj{P:Program}{aR:ed}(hT:bY P aR){o:Oper}{σ:St}{t t' e:TypeId}{x y:Operand}{ti te:cc}{sz:Nat}{n:Int}
  (ho:o.op=.call ⟨.builtin .append,#[x,y],#[t,t']⟩) (hd:∀d,o.dst=some d->d<σ.n) (ht:aR t=some ti) (aP:ti.desc=.slice e) (he:aR e=some te) (TS:P.underlying t'=some (.int .i64)) (hx:σ.ev x=some (.aB sz [] .ex)) (hy:σ.ev y=some (.v (.int .i64 n)))
  (hn:0<n) (hlen:n.toNat<=2 ^ 62) (hb:n.toNat*te.bytes<=2 ^ 47) (di:0<te.size) :
  Cert P o σ (.ms σ.objs.length 0 n.toNat n.toNat) (.write (σ.objs++[.cells (List.replicate n.toNat te.zero).flatten])) :=
 Cert.ix hd fun base fF a g bE h iC=>by
  have hO:g.objs=σ.objs:=iC.resolve_left (by simp);have hg:=bE.good;have hu:=bO hT ht aP;have gJ:=h x (by simp[ho,Op.operands,Call.operands]) _ hx;have ey:=(h y (by simp[ho,Op.operands,Call.operands]) _ hy).bV.1;obtain⟨BN,kT,gv,ex,EW,EX,MC,Jr,Lk,EY⟩:=gJ.fR (P:=P);obtain⟨⟨i,z,h1,h2,h3,h4,h5,h6,h7,h8,h9⟩,_⟩:=hT e te he;obtain⟨m,rfl⟩:=Int.eq_ofNat_of_zero_le (show 0<=n by omega);simp only[Int.toNat_natCast]at *;have qt:kT=0:=by
   rcases gJ.fH with⟨q1,q2⟩|⟨ad,cap,f,q1,_,_,_,_,_,_,_,q2⟩
   ·rw[ex]at q1;simp at q1;exact q1.2
   rw[ex]at q1;simp only[Value.slice.injEq]at q1;rw[q1.2.2];exact q2
  subst qt;simp only[List.length_nil]at ex;have cR:=cC (P:=P) ho a g.w;simp only[builtin,List.map_toArray,List.map_cons,List.map_nil]at cR;have bw:=mB (P:=P) g.w t t' o.type e i z hu TS h1 h4 BN m (by cases BN<;>simp[Builtin.firstCells,loadCells,loadCellsFrom]) (by omega) hlen (by rw[h3];exact hb) (by omega);rw[<-ex]at bw;obtain⟨cap,ee⟩:∃cap,cap=grownCap g.w m 0 e:=⟨_,rfl⟩
  have qX:=grownCap_ge g.w m 0 e;rw[<-ee]at bw qX;obtain⟨rest,eQ⟩:∃rest,rest=Builtin.zeroCells z.cells (cap-m):=⟨_,rfl⟩
  rw[<-eQ]at bw;obtain⟨arr,fP⟩:∃arr,arr=Builtin.zeroCells z.cells m++rest:=⟨_,rfl⟩
  rw[<-fP]at bw;have mM:=hg.heap (w':=g.w.drew) rfl rfl rfl rfl;have m6:=Le.heap (g:=g) (w':=g.w.drew) rfl rfl rfl rfl;obtain⟨g1,ln⟩:∃g1:G,g1=⟨g.w.drew,g.fr,g.env,g.objs⟩:=⟨_,rfl⟩
  rw[<-ln]at mM m6;have sR:g1.w=g.w.drew:=by rw[ln]
  have nV:g1.objs=σ.objs:=by rw[ln];exact hO
  have uo:(List.replicate m te.zero).flatten.length=m*te.size:=by simp[h6]
  have fQ:∀(j:Nat) (c:ae),(List.replicate m te.zero).flatten[j]?=some c->te.zero[j % te.size]?=some c:=fun j c=>h6 ▸ og te.zero (by omega) m j c;have hle:=m6.trans (Le.alloc mM (.cells arr e) 0 (.cells (List.replicate m te.zero).flatten));have yn:(Builtin.zeroCells z.cells m).size=m*te.size:=by rw[size_zeroCells,h5,h6]
  have jo:Fits (g1.alloc (.cells arr e) 0 (.cells (List.replicate m te.zero).flatten)) (.cells arr e) (.cells (List.replicate m te.zero).flatten):=by
   refine⟨arr,e,rfl,by rw[uo,fP,Array.size_append,yn];omega,fun j c u hj hu=>?_,fun c hc=>?_⟩
   ·have gZ:=fQ j c hj;have aZ:=I hj;rw[uo]at aZ;rw[fP,Array.getElem?_append,if_pos (by rw[yn];exact aZ)]at hu;have jF:j % te.size<z.cells.size:=by rw[h5];exact I gZ
    refine h8 _ _ _ _ gZ ?_;simp only[Builtin.zeroCells,Array.getElem?_map,h5,h6,Array.getElem?_range,if_pos aZ,Option.map_some,Option.some.injEq]at hu;subst hu;simp[jF]
   rw[List.mem_flatten]at hc;obtain⟨l,hl,hc⟩:=hc;rw[List.mem_replicate]at hl;exact h9 c (hl.2 ▸ hc)
  have c7:=Good.alloc mM (.cells arr e) 0 (.cells (List.replicate m te.zero).flatten) (.inr rfl) jo;refine⟨.slice (some ⟨g.w.heap.size,0,none⟩) m cap,_,.inl ?_,hle,c7,?_,?_⟩
  ·rw[cR,ey];simp[bw,G.alloc,sR]
  ·simp[G.alloc,nV,Mode.post]
  rw[<-nV];have e1:(g.w.heap.size)=g1.w.heap.size:=by rw[sR];rfl
  rw[e1];exact .ms (l:=⟨g1.w.heap.size,0,_⟩) (ir mM) eG (by simp[al.aC]) (Nat.le_refl _) (by omega) hlen
theorem sB{P:Program}{aR:ed}(hT:bY P aR){o:Oper}{σ:St}{t t' e:TypeId}{x y:Operand}{ti te:cc}{sz:Nat}{n:Int}
  (ho:o.op=.call ⟨.builtin .append,#[x,y],#[t,t']⟩) (hd:∀d,o.dst=some d->d<σ.n) (ht:aR t=some ti) (aP:ti.desc=.slice e) (he:aR e=some te) (TS:P.underlying t'=some (.int .i64)) (hx:σ.ev x=some (.aB sz [] .ex)) (hy:σ.ev y=some (.v (.int .i64 n)))
  (hn:0<n) (hlen:n.toNat<=2 ^ 62) (hb:n.toNat*te.bytes<=2 ^ 47) (di:0<te.size) :
  Cert P o σ (.raw te.size n.toNat σ.objs.length) (.write (σ.objs++[.spare 0])) :=
 Cert.ix hd fun base fF a g bE h iC=>by
  have hO:g.objs=σ.objs:=iC.resolve_left (by simp);have hg:=bE.good;have hu:=bO hT ht aP;have gJ:=h x (by simp[ho,Op.operands,Call.operands]) _ hx;have ey:=(h y (by simp[ho,Op.operands,Call.operands]) _ hy).bV.1;obtain⟨BN,kT,gv,ex,EW,EX,MC,Jr,Lk,EY⟩:=gJ.fR (P:=P);obtain⟨⟨i,z,h1,h2,h3,h4,h5,h6,h7,h8,h9⟩,_⟩:=hT e te he;obtain⟨m,rfl⟩:=Int.eq_ofNat_of_zero_le (show 0<=n by omega);simp only[Int.toNat_natCast]at *;have qt:kT=0:=by
   rcases gJ.fH with⟨q1,q2⟩|⟨ad,cap,f,q1,_,_,_,_,_,_,_,q2⟩
   ·rw[ex]at q1;simp at q1;exact q1.2
   rw[ex]at q1;simp only[Value.slice.injEq]at q1;rw[q1.2.2];exact q2
  subst qt;simp only[List.length_nil]at ex;have cR:=cC (P:=P) ho a g.w;simp only[builtin,List.map_toArray,List.map_cons,List.map_nil]at cR;have bw:=mB (P:=P) g.w t t' o.type e i z hu TS h1 h4 BN m (by cases BN<;>simp[Builtin.firstCells,loadCells,loadCellsFrom]) (by omega) hlen (by rw[h3];exact hb) (by omega);rw[<-ex]at bw;obtain⟨cap,ee⟩:∃cap,cap=grownCap g.w m 0 e:=⟨_,rfl⟩
  have qX:=grownCap_ge g.w m 0 e;rw[<-ee]at bw qX;obtain⟨rest,eQ⟩:∃rest,rest=Builtin.zeroCells z.cells (cap-m):=⟨_,rfl⟩
  rw[<-eQ]at bw;obtain⟨arr,fP⟩:∃arr,arr=Builtin.zeroCells z.cells m++rest:=⟨_,rfl⟩
  rw[<-fP]at bw;have mM:=hg.heap (w':=g.w.drew) rfl rfl rfl rfl;have m6:=Le.heap (g:=g) (w':=g.w.drew) rfl rfl rfl rfl;obtain⟨g1,ln⟩:∃g1:G,g1=⟨g.w.drew,g.fr,g.env,g.objs⟩:=⟨_,rfl⟩
  rw[<-ln]at mM m6;have sR:g1.w=g.w.drew:=by rw[ln]
  have nV:g1.objs=σ.objs:=by rw[ln];exact hO
  have hle:=m6.trans (Le.alloc mM (.cells arr e) 0 (.spare 0));have yn:(Builtin.zeroCells z.cells m).size=m*te.size:=by rw[size_zeroCells,h5,h6]
  have c7:=Good.alloc mM (.cells arr e) 0 (.spare 0) (.inr rfl) ⟨arr,e,rfl⟩;have wV:rest.size=(cap-m)*te.size:=by rw[eQ,size_zeroCells,h5,h6]
  refine⟨.slice (some ⟨g.w.heap.size,0,none⟩) m cap,_,.inl ?_,hle,c7,?_,?_⟩
  ·rw[cR,ey];simp[bw,G.alloc,sR]
  ·simp[G.alloc,nV,Mode.post]
  rw[<-nV];have e1:(g.w.heap.size)=g1.w.heap.size:=by rw[sR];rfl
  rw[e1];refine .raw (by omega) ⟨by simp[G.alloc],fun m' la=>?_⟩;have yi:(g1.alloc (.cells arr e) 0 (.spare 0)).objs[g1.objs.length]?=some (.spare 0):=eG;rw[yi]at la;simp only[Option.some.injEq,al.spare.injEq]at la;subst la;refine⟨Nat.le_refl _,fun _=>.inr ⟨⟨g1.w.heap.size,0,_⟩,arr,e,ir mM,rfl,by simp,cz _ _,?_⟩⟩;rw[fP,Array.size_append,yn,wV,<-Nat.add_mul];exact Nat.mul_le_mul_right _ (by omega)
theorem tI{P:Program}{aR:ed}(hT:bY P aR){o:Oper}{σ:St}{t e:TypeId}{x y:Operand}{ti te:cc}{id off len cap sz:Nat}{cs ys:List ae}{ow:pP}
  (ho:o.op=.call ⟨.builtin .append,#[x,y],#[t,t]⟩) (hd:∀d,o.dst=some d->d<σ.n) (ht:aR t=some ti) (aP:ti.desc=.slice e) (he:aR e=some te) (di:te.size=sz) (hx:σ.ev x=some (.ms id off len cap)) (vP:σ.objs[id]?=some (.cells cs)) (hy:σ.ev y=some (.aB sz ys ow))
  (mA:len+ys.length<=cap) (Om:len+ys.length<=2 ^ 62) (r6:off+(len+ys.length)*sz<=cs.length) :
  Cert P o σ (.ms id off (len+ys.length) cap) (.write (σ.objs.set id (.cells (bk cs (off+len*sz) (ao (ys.map ae.share)))))) :=
 Cert.ix hd fun base fF a g bE h iC=>by
  have hO:g.objs=σ.objs:=iC.resolve_left (by simp);have hg:=bE.good;have hu:=bO hT ht aP;subst di;have gJ:=h x (by simp[ho,Op.operands,Call.operands]) _ hx;have BW:=h y (by simp[ho,Op.operands,Call.operands]) _ hy;obtain⟨l,o1,q1,q2,q3,Lc,gu,gY,ee,eu⟩:=gJ.rE;obtain⟨R6,Ij,news,ey,AM,AN,AO,HV,E1,s9⟩:=BW.fR (P:=P);obtain⟨⟨i,z,h1,h2,h3,h4,h5,h6,h7,h8,h9⟩,_⟩:=hT e te he;have lq:g.objs[id]?=some (.cells cs):=by rw[hO];exact vP
  obtain⟨arr,t',hZ,de,hlen,gn,mG,Da⟩:=hg.row lq q1;have cR:=cC (P:=P) ho a g.w;simp only[builtin,List.map_toArray,List.map_cons,List.map_nil]at cR;obtain⟨cg,gT⟩:∃cg,cg=(arr.toList.take (off+len*te.size)++news++arr.toList.drop (off+len*te.size+news.length)).toArray:=⟨_,rfl⟩
  have hmul:off+(len+ys.length)*te.size=off+len*te.size+ys.length*te.size:=by rw[Nat.add_mul];omega
  have dz:=run_storeCells_at P l.block (off+len*te.size) t' news 0 arr g.w de (by rw[s9];omega) (fun u hu=>by
   obtain⟨j,hj⟩:=List.getElem?_of_mem hu;have aZ:=I hj;have di:=AO.1;simp only[List.size_toArray]at di;rw[di]at aZ;have hc:=List.getElem?_eq_getElem aZ;exact((AO.2 j _ u hc (by simpa using hj)).kO (E1 _ (List.mem_of_getElem? hc))).1)
  simp only[Nat.add_zero]at dz;rw[<-gT]at dz;have bw:=gE (P:=P) g.w (g.w.setRow l.block cg) t o.type e i hu h1 ⟨l.block,off,none⟩ len gY ys.length (a.eval y) news AM (by rw[h2];exact AN g.w rfl) (by omega) (by rw[addr_add,h2];exact dz);rw[<-eu]at bw;have eC:=kP (cs':=bk cs (off+len*te.size) (ao (ys.map ae.share))) lq q1 hZ cg;have hle:=Le.bp hg eC;have jT:=AO.kl;have gA:(ao (ys.map ae.share)).length=ys.length*te.size:=by
   rw[ca (dY HV)];simp
  have qY:=lM.bk ⟨hlen,gn⟩ jT (off:=off+len*te.size) (by rw[gA];omega);simp only at qY;rw[<-gT]at qY;refine⟨.slice (some ⟨l.block,off,none⟩) (len+ys.length) gY,g.bp id (some l) (.cells (bk cs (off+len*te.size) (ao (ys.map ae.share)))) (g.w.setRow l.block cg),.inl ?_,hle,Good.bp hg eC ?_ ?_,?_,?_⟩
  ·rw[cR];simp[bw,G.bp]
  ·refine⟨l,cg,t',rfl,hZ,?_,qY.1,fun j c u a b=>(qY.2 j c u a b).mono hle,fun c hc=>?_,?_⟩
   ·exact setRow_heap g.w l.block arr cg t' (0,0) de
   ·simp only[bk,List.mem_append]at hc;rcases hc with hc|hc|hc
    ·exact mG c (List.mem_of_mem_take hc)
    ·exact dT E1 c hc
    exact mG c (List.mem_of_mem_drop hc)
   have q:=s9;have q2:=hmul;rw[gT];simp only[List.size_toArray,List.length_append,List.length_take,List.length_drop,Array.length_toList];omega
  ·intro l1 h1 _;simp only[Option.some.injEq]at h1;subst h1;rw[setRow_size];exact aW de
  ·simp only[G.bp,Mode.post,hO]
  have aZ:id<g.objs.length:=I lq;have AG:=iq hg lq;refine .ms (l:=l) (o:=.cells (bk cs (off+len*te.size) (ao (ys.map ae.share)))) ?_ ?_ (by simp[al.aC]) mA ee Om
  ·simp only[G.bp];rw[List.getElem?_set_self AG]
  simp only[G.bp];rw[List.getElem?_set_self aZ]
theorem vz{P:Program}{aR:ed}(hT:bY P aR){o:Oper}{σ:St}{t e:TypeId}{x:Operand}{ti te:cc}{id off len cap:Nat}{cs:List ae}
  (ho:o.op=.call ⟨.builtin .clear,#[x],#[t]⟩) (hd:o.dst=none) (ht:aR t=some ti) (aP:ti.desc=.slice e) (he:aR e=some te) (hx:σ.ev x=some (.ms id off len cap)) (vP:σ.objs[id]?=some (.cells cs))
  (pj:0<len) (hz:0<te.size) (r6:off+len*te.size<=cs.length) :
  Cert P o σ (.cK []) (.write (σ.objs.set id (.cells (bk cs off (List.replicate len te.zero).flatten)))) :=
 Cert.ix (by simp[hd]) fun base fF a g bE h iC=>by
  have hO:g.objs=σ.objs:=iC.resolve_left (by simp);have hg:=bE.good;have hu:=bO hT ht aP;have gJ:=h x (by simp[ho,Op.operands,Call.operands]) _ hx;obtain⟨l,o1,q1,q2,q3,Lc,gu,gY,ee,eu⟩:=gJ.rE;obtain⟨⟨i,z,h1,h2,h3,h4,h5,h6,h7,h8,h9⟩,_⟩:=hT e te he;have lq:g.objs[id]?=some (.cells cs):=by rw[hO];exact vP
  obtain⟨arr,t',hZ,de,hlen,gn,mG,Da⟩:=hg.row lq q1;have cR:=cC (P:=P) ho a g.w;simp only[builtin,List.map_toArray,List.map_cons,List.map_nil]at cR;have yn:(Builtin.zeroCells z.cells len).size=len*te.size:=by rw[size_zeroCells,h5,h6]
  have uo:(List.replicate len te.zero).flatten.length=len*te.size:=by simp[h6]
  have fQ:∀(j:Nat) (c:ae),(List.replicate len te.zero).flatten[j]?=some c->te.zero[j % te.size]?=some c:=fun j c=>h6 ▸ og te.zero (by omega) len j c;have wX:lM g (List.replicate len te.zero).flatten (Builtin.zeroCells z.cells len):=⟨by rw[yn,uo],fun j c u hj hu=>by
   have gZ:=fQ j c hj;have aZ:=I hj;rw[uo]at aZ;have jF:j % te.size<z.cells.size:=by rw[h5];exact I gZ
   refine h8 _ _ _ _ gZ ?_;simp only[Builtin.zeroCells,Array.getElem?_map,h5,h6,Array.getElem?_range,if_pos aZ,Option.map_some,Option.some.injEq]at hu;subst hu;simp[jF]⟩
  have Jt:∀c∈(List.replicate len te.zero).flatten,c.scalar:=fun c hc=>by
   rw[List.mem_flatten]at hc;obtain⟨l,hl,hc⟩:=hc;rw[List.mem_replicate]at hl;exact h9 c (hl.2 ▸ hc)
  obtain⟨news,r7⟩:∃news,news=(Builtin.zeroCells z.cells len).toList:=⟨_,rfl⟩
  have GI:news.length=len*te.size:=by rw[r7,Array.length_toList,yn]
  obtain⟨cg,gT⟩:∃cg,cg=(arr.toList.take off++news++arr.toList.drop (off+news.length)).toArray:=⟨_,rfl⟩
  have dz:=run_storeCells_at P l.block off t' news 0 arr g.w de (by rw[GI];omega) (fun u hu=>by
   obtain⟨j,hj⟩:=List.getElem?_of_mem hu;have aZ:=I hj;rw[GI,<-uo]at aZ;have hc:=List.getElem?_eq_getElem aZ;exact((wX.2 j _ u hc (by rw[r7]at hj;simpa using hj)).kO (Jt _ (List.mem_of_getElem? hc))).1)
  simp only[Nat.add_zero]at dz;rw[<-gT]at dz;have bw:(Builtin.clear_ #[t] o.type #[a.eval x]).run P g.w=.ok (.tuple #[]) (g.w.setRow l.block cg):=by
   obtain⟨k,rfl⟩:∃k,len=k+1:=⟨len-1,by omega⟩
   rw[eu];simp[Builtin.clear_,run_underlying hu,Go.zeroValue,typeInfo,h1,h4,<-r7,dz]
  have eC:=kP (cs':=bk cs off (List.replicate len te.zero).flatten) lq q1 hZ cg;have hle:=Le.bp hg eC;have qY:=lM.bk ⟨hlen,gn⟩ wX (off:=off) (by rw[uo];omega);rw[<-r7,<-gT]at qY;refine⟨.tuple #[],g.bp id (some l) (.cells (bk cs off (List.replicate len te.zero).flatten)) (g.w.setRow l.block cg),?_,hle,Good.bp hg eC ?_ ?_,?_,.cK rfl (by simp)⟩
  ·refine .inl ?_;rw[cR];simp[bw,G.bp]
  ·refine⟨l,cg,t',rfl,hZ,?_,qY.1,fun j c u a b=>(qY.2 j c u a b).mono hle,fun c hc=>?_,?_⟩
   ·exact setRow_heap g.w l.block arr cg t' (0,0) de
   ·simp only[bk,List.mem_append]at hc;rcases hc with hc|hc|hc
    ·exact mG c (List.mem_of_mem_take hc)
    ·exact Jt c hc
    exact mG c (List.mem_of_mem_drop hc)
   have q:=GI;rw[gT];simp only[List.size_toArray,List.length_append,List.length_take,List.length_drop,Array.length_toList];omega
  ·intro l1 h1 _;simp only[Option.some.injEq]at h1;subst h1;rw[setRow_size];exact aW de
  simp only[G.bp,Mode.post,hO]
def G.mg(g:G)(id:Nat)(l:Loc)(o:al):G:=⟨g.w,g.fr,g.env++[some l],g.objs.set id .gone++[o]⟩
theorem oe{g:G}{id:Nat}{l:Loc}{o:al}(hg:Good g)(l5:id<g.objs.length){i:Nat}{l':Loc}{o':al}(h1:(g.mg id l o).env[i]?=some (some l'))(h2:(g.mg id l o).objs[i]?=some o')(h3:o'.live) :
  (i≠id∧g.env[i]?=some (some l')∧g.objs[i]?=some o')∨(i=g.objs.length∧l'=l∧o'=o):=by
 have hlen:=hg.len;rcases aK h1 with q1|⟨q1,O8⟩
 ·rcases aK h2 with q2|⟨q2,_⟩
  ·by_cases e:id=i
   ·subst e;rw[List.getElem?_set_self l5]at q2;simp only[Option.some.injEq]at q2;subst q2;exact h3.elim
   rw[List.getElem?_set_ne e]at q2;exact .inl ⟨Ne.symm e,q1,q2⟩
  have:=I q1;simp only[List.length_set]at q2;omega
 rcases aK h2 with q2|⟨q2,MQ⟩
 ·have:=I q2;simp only[List.length_set]at this;omega
 simp only[Option.some.injEq]at O8;exact .inr ⟨by omega,O8,MQ⟩
theorem mE.mg{g:G}{id:Nat}{l:Loc}{o o1:al}(hg:Good g)(he:g.env[id]?=some (some l))(ho:g.objs[id]?=some o1)(hl:o1.live){b off:Nat}(h:mE (g.mg id l o) b off):mE g b off:=by
 obtain⟨i,l',o',h1,h2,h3,h4,h5⟩:=h;rcases oe hg (I ho) h1 h2 h3 with⟨_,q1,q2⟩|⟨_,q1,_⟩
 ·exact⟨i,l',o',q1,q2,h3,h4,h5⟩
 subst q1;exact⟨id,l',o1,he,ho,hl,h4,h5⟩
theorem jJ.mg{g:G}{id:Nat}{l:Loc}{o o1:al}(hg:Good g)(he:g.env[id]?=some (some l))(ho:g.objs[id]?=some o1)(hl:o1.live){b:Nat}(h:jJ (g.mg id l o) b):jJ g b:=by
 obtain⟨i,l',o',h1,h2,h3,h4⟩:=h;exact(mE.mg hg he ho hl ⟨i,l',o',h1,h2,h3,h4,Nat.le_refl _⟩).block
theorem yD{g:G}{id i:Nat}{l:Loc}{o o':al}(bI:id≠i)(h:g.objs[i]?=some o'):(g.mg id l o).objs[i]?=some o':=by
 have:=I h;simp only[G.mg];rw[List.getElem?_append,if_pos (by simpa using this),List.getElem?_set_ne bI];exact h
theorem Bj{g:G}{id:Nat}{l:Loc}{o:al}(h:id<g.objs.length):(g.mg id l o).objs[id]?=some .gone:=by
 simp only[G.mg];rw[List.getElem?_append,if_pos (by simpa using h),List.getElem?_set_self h]
theorem qK{g:G}{id i:Nat}{l:Loc}{o:al}(h:i<g.env.length):(g.mg id l o).env[i]?=g.env[i]?:=by
 simp only[G.mg];rw[List.getElem?_append,if_pos h]
theorem Le.mg{g:G}{id:Nat}{l:Loc}{o o1:al}(hg:Good g)(he:g.env[id]?=some (some l))(ho:g.objs[id]?=some o1)(hl:o1.live)(hs:¬o1.aC):Le g (g.mg id l o) where
 os:=rfl
 tape:=rfl
 output:=rfl
 fr:=rfl
 size:=Nat.le_refl _
 block:=fun k _ h=>⟨rfl,fun q=>h (jJ.mg hg he ho hl q)⟩
 cell:=fun b off x hx hn=>⟨hx,fun q=>hn (mE.mg hg he ho hl q)⟩
 len:=by simp[G.mg]
 spare:=fun i m hm=>by
  have bI:id≠i:=by
   intro e;subst e;rw[ho]at hm;simp only[Option.some.injEq]at hm;subst hm;exact hs trivial
  exact .inl ⟨m,yD bI hm,Nat.le_refl _⟩
 plain:=fun i o' iC hn=>by
  refine⟨?_,qK (by have:=I iC;have:=hg.len;omega)⟩;by_cases e:id=i
  ·subst e;exact⟨.gone,Bj (I ho),by simp[al.aC]⟩
  exact⟨o',yD e iC,hn⟩
 gone:=fun i hi=>by
  by_cases e:id=i
  ·subst e;exact Bj (I ho)
  exact yD e hi
 tok:=fun i m hm _=>⟨qK (by have:=I hm;have:=hg.len;omega),fun _ _=>rfl⟩
theorem Good.mg{g:G}{id:Nat}{l:Loc}{cs:List ae}(hg:Good g)(he:g.env[id]?=some (some l))(ho:g.objs[id]?=some (.cells cs)):Good (g.mg id l (.cells cs)):=by
 have aZ:=I ho;have hle:=Le.mg (o:=.cells cs) hg he ho trivial (by simp[al.aC]);have yi:(g.mg id l (.cells cs)).env[g.objs.length]?=some (some l):=by
  simp only[G.mg];rw[<-hg.len];simp
 refine⟨hg.frlt,?_,by simp[G.mg,hg.len],?_,?_,?_,?_,?_⟩
 ·intro i l' o' h1 h2 h3;rcases oe hg aZ h1 h2 h3 with⟨_,q1,q2⟩|⟨_,q1,_⟩
  ·exact hg.frown i l' o' q1 q2 h3
  subst q1;exact hg.frown id l' _ he ho trivial
 ·intro i l' o' h1 h2 h3;rcases oe hg aZ h1 h2 h3 with⟨_,q1,q2⟩|⟨_,q1,_⟩
  ·exact hg.loc i l' o' q1 q2 h3
  subst q1;exact hg.loc id l' _ he ho trivial
 ·intro i j l1 l2 o1 o2 h1 h2 h3 k1 k2 k3 hb;rcases oe hg aZ h1 h2 h3 with⟨n1,q1,q2⟩|⟨n1,q1,_⟩
  ·rcases oe hg aZ k1 k2 k3 with⟨_,r1,r2⟩|⟨m1,r1,_⟩
   ·exact hg.apart i j l1 l2 o1 o2 q1 q2 h3 r1 r2 k3 hb
   subst r1;exact absurd (hg.apart i id l1 l2 o1 _ q1 q2 h3 he ho trivial hb) n1
  rcases oe hg aZ k1 k2 k3 with⟨m1,r1,r2⟩|⟨m1,r1,_⟩
  ·subst q1;exact absurd (hg.apart j id l2 l1 o2 _ r1 r2 k3 he ho trivial hb.symm) m1
  omega
 ·intro i ds h;have kM:(al.cells ds).live:=trivial;rcases aK h with q|⟨q,q'⟩
  ·have bI:id≠i:=by
    intro e;subst e;rw[List.getElem?_set_self aZ]at q;cases q
   rw[List.getElem?_set_ne bI]at q;obtain⟨l',arr,t,e1,e0,e2,e3,e4,e5⟩:=hg.cells i ds q;exact⟨l',arr,t,(qK (by have:=I q;have:=hg.len;omega)).trans e1,e0,e2,e3,fun j c u a b=>(e4 j c u a b).mono hle,e5⟩
  simp only[al.cells.injEq]at q';subst q';obtain⟨l',arr,t,e1,e0,e2,e3,e4,e5⟩:=hg.cells id _ ho;rw[he]at e1;simp only[Option.some.injEq]at e1;subst e1;refine⟨l,arr,t,?_,e0,e2,e3,fun j c u a b=>(e4 j c u a b).mono hle,e5⟩;rw[q,List.length_set];exact yi
 ·intro i m l' h h1;rcases aK h with q|⟨q,q'⟩
  ·have bI:id≠i:=by
    intro e;subst e;rw[List.getElem?_set_self aZ]at q;cases q
   rw[List.getElem?_set_ne bI]at q;rw[qK (by have:=I q;have:=hg.len;omega)]at h1;exact hg.spare i m l' q h1
  cases q'
 intro i kt es h;rcases aK h with q|⟨q,q'⟩
 ·have bI:id≠i:=by
   intro e;subst e;rw[List.getElem?_set_self aZ]at q;cases q
  rw[List.getElem?_set_ne bI]at q;obtain⟨l',arr,ox,e1,e0,e2,e3,e6,e4⟩:=hg.map i kt es q;exact⟨l',arr,ox,(qK (by have:=I q;have:=hg.len;omega)).trans e1,e0,e2,e3,e6,fun j e kx a b=>⟨(e4 j e kx a b).1,(e4 j e kx a b).2.1,(e4 j e kx a b).2.2.mono hle⟩⟩
 cases q'
theorem qb{P:Program}{aR:ed}(hT:bY P aR){o:Oper}{σ:St}{t e:TypeId}{x i:Operand}{ti te:cc}{id len sz:Nat}{k:IntKind}{n:Int}
  (ho:o.op=.indexAddr t x i) (hd:∀d,o.dst=some d->d<σ.n) (ht:aR t=some ti) (aP:ti.desc=.slice e) (he:aR e=some te)
  (hx:σ.ev x=some (.os id len sz)) (hi:σ.ev i=some (.v (.int k n))) (h0:0<=n) (hn:n<len):Cert P o σ (.mp id (n.toNat*te.size)) .pure :=
 Cert.bK .pure (.inl rfl) hd fun a g _ h _=>by
  have ei:=(h i (by simp[ho,Op.operands]) _ hi).bV.1;have hu:=bO hT ht aP;obtain⟨l,o1,cap,h1,h2,h3,_,_,_,eu⟩:=(h x (by simp[ho,Op.operands]) _ hx).rG;exact⟨.pointer (some ⟨l.block,n.toNat*te.size,none⟩),by simp[execOp,ho,ei,eu,Instr.indexAt,asIntOf,run_underlying hu,h0,hn,(hT e te he).sizeOf,addr_add],.mp h1 h2 h3⟩
theorem vH{P:Program}{aR:ed}(hT:bY P aR){o:Oper}{σ:St}{t e:TypeId}{x:Operand}{ti te:cc}{id len sz:Nat}{lo hi:Option Operand}{h:Nat}
  (ho:o.op=.slice t x lo hi none) (hd:∀d,o.dst=some d->d<σ.n) (ht:aR t=some ti) (aP:ti.desc=.slice e) (he:aR e=some te) (hx:σ.ev x=some (.os id len sz))
  (hZ:mR σ lo 0 0) (oB:mR σ hi len h) (h2:h<=len) (h3:0<len):Cert P o σ (.os id h sz) .pure :=
 Cert.bK .pure (.inl rfl) hd fun a g _ hh _=>by
  have hu:=bO hT ht aP;have gJ:=hh x (by cases lo<;>cases hi<;>simp[ho,Op.operands]) _ hx;have hl:(lo=none∧(0:Nat)=0)∨∃q k,lo=some q∧a.eval q=.int k ((0:Nat):Int):=by
   rcases hZ with q|⟨q,k,e1,e2⟩
   ·exact .inl q
   exact .inr ⟨q,k,e1,(hh q (by subst e1;cases hi<;>simp[ho,Op.operands]) _ e2).bV.1⟩
  have gI:(hi=none∧h=len)∨∃q k,hi=some q∧a.eval q=.int k (h:Int):=by
   rcases oB with q|⟨q,k,e1,e2⟩
   ·exact .inl q
   exact .inr ⟨q,k,e1,(hh q (by subst e1;cases lo<;>simp[ho,Op.operands]) _ e2).bV.1⟩
  have cR:execOp a.eval o=(do pure (.value (<-Instr.sliceAt t (a.eval x) (lo.map a.eval) (hi.map a.eval) none))):=by
   simp[execOp,ho]
  clear hZ oB ho;obtain⟨lc,o1,gY,q1,q2,q3,Lc,Mh,gu,eu⟩:=gJ.rG;have bounds:(Instr.sliceBounds true len gY (lo.map a.eval) (hi.map a.eval) none).run P g.w=.ok (0,h,gY) g.w:=by
   rcases hl with⟨e1,e2⟩|⟨p,k,e1,hk⟩
   ·rcases gI with⟨e3,e4⟩|⟨q,k',e3,mN⟩
    ·subst e1 e3 e4;simp[Instr.sliceBounds]
    subst e1 e3;have:=run_sliceBound (P:=P) k' h gY .sliceAcap g.w (by omega) (by omega);simp[Instr.sliceBounds,mN,this]
   rcases gI with⟨e3,e4⟩|⟨q,k',e3,mN⟩
   ·subst e1 e3 e4;have:=run_sliceBound (P:=P) k 0 h .sliceB g.w (by omega) (by omega);simp[Instr.sliceBounds,hk,this]
   subst e1 e3;have e1:=run_sliceBound (P:=P) k' h gY .sliceAcap g.w (by omega) (by omega);have e2:=run_sliceBound (P:=P) k 0 h .sliceB g.w (by omega) (by omega);simp[Instr.sliceBounds,hk,mN,e1,e2]
  have kc:=(hT e te he).sizeOf g.w;refine⟨.slice (some ((⟨lc.block,0,none⟩:Addr).add (0*te.size))) (h-0) (gY-0),?_,?_⟩
  ·rw[cR];simp[Instr.sliceAt,run_underlying hu,Instr.slice,eu,bounds,kc,show gY≠0 by omega]
  rw[addr_add];simp only[Nat.zero_mul,Nat.add_zero,Nat.sub_zero];exact .os q1 q2 q3 (by omega) Mh (by omega)
theorem pZ{P:Program}{aR:ed}(hT:bY P aR){o:Oper}{σ:St}{t e:TypeId}{x y:Operand}{ti te:cc}{sz:Nat}{xs ys:List ae}{ow:pP}
  (ho:o.op=.call ⟨.builtin .append,#[x,y],#[t,t]⟩) (hd:∀d,o.dst=some d->d<σ.n) (ht:aR t=some ti) (aP:ti.desc=.slice e) (he:aR e=some te) (di:te.size=sz) (hx:σ.ev x=some (.aB sz xs .ex)) (hy:σ.ev y=some (.aB sz ys ow))
  (hn:ys.length≠0) (hlen:xs.length+ys.length<=2 ^ 62) (hb:(xs.length+ys.length)*te.bytes<=2 ^ 47) :
  Cert P o σ (.os σ.objs.length (xs.length+ys.length) sz) (.write (σ.objs++[.cells (ao (xs++ys.map ae.share))])) :=
 Cert.ix hd fun base fF a g bE h iC=>by
  have hO:g.objs=σ.objs:=iC.resolve_left (by simp);have hg:=bE.good;have hu:=bO hT ht aP;subst di;have gJ:=h x (by simp[ho,Op.operands,Call.operands]) _ hx;have BW:=h y (by simp[ho,Op.operands,Call.operands]) _ hy;obtain⟨BN,kT,gv,ex,EW,EX,MC,Jr,Lk,EY⟩:=gJ.fR (P:=P);obtain⟨R6,Ij,news,ey,AM,AN,AO,HV,E1,s9⟩:=BW.fR (P:=P);obtain⟨⟨i,z,h1,h2,h3,h4,h5,h6,h7,h8,h9⟩,_⟩:=hT e te he;have qt:kT=xs.length:=by
   rcases gJ.fH with⟨q1,q2⟩|⟨ad,cap,f,q1,_,_,_,_,_,_,_,q2⟩
   ·rw[ex]at q1;cases q2;simp at q1;simp[q1]
   rw[ex]at q1;simp only[Value.slice.injEq]at q1;rw[q1.2.2];exact q2
  subst qt;have cR:=cC (P:=P) ho a g.w;simp only[builtin,List.map_toArray,List.map_cons,List.map_nil]at cR;have bw:=fV (P:=P) g.w t o.type e i z hu h1 h4 BN xs.length xs.length ys.length (a.eval y) gv news AM (by rw[h2];exact AN g.w.drew rfl) (by rw[h2,<-ex];exact EX g.w.drew rfl) (by omega) hlen (by rw[h3];exact hb);rw[<-ex]at bw;obtain⟨cap,ee⟩:∃cap,cap=grownCap g.w (xs.length+ys.length) xs.length e:=⟨_,rfl⟩
  obtain⟨rest,eQ⟩:∃rest,rest=Builtin.zeroCells z.cells (cap-(xs.length+ys.length)):=⟨_,rfl⟩
  have qX:=grownCap_ge g.w (xs.length+ys.length) xs.length e;rw[<-ee]at bw qX;rw[<-eQ]at bw;have wV:rest.size=(cap-(xs.length+ys.length))*te.size:=by rw[eQ,size_zeroCells,h5,h6]
  obtain⟨arr,fP⟩:∃arr,arr=gv.toArray++news.toArray++rest:=⟨_,rfl⟩
  rw[<-fP]at bw;have mM:=hg.heap (w':=g.w.drew) rfl rfl rfl rfl;have m6:=Le.heap (g:=g) (w':=g.w.drew) rfl rfl rfl rfl;obtain⟨g1,ln⟩:∃g1:G,g1=⟨g.w.drew,g.fr,g.env,g.objs⟩:=⟨_,rfl⟩
  rw[<-ln]at mM m6;have sR:g1.w=g.w.drew:=by rw[ln]
  have nV:g1.objs=σ.objs:=by rw[ln];exact hO
  have jE:=MC.append AO.kl;rw[<-cP]at jE;have gA:(ao (xs++ys.map ae.share)).length=(xs.length+ys.length)*te.size:=by
   rw[ca (sz:=te.size) (fun x hx=>by
    rcases List.mem_append.1 hx with q|q
    ·exact Jr x q
    exact dY HV x q)]
   simp
  have vK:arr.size=cap*te.size:=by
   rw[fP];simp only[Array.size_append,List.size_toArray,EY,s9,wV,<-Nat.add_mul];rw[show xs.length+ys.length+(cap-(xs.length+ys.length))=cap by omega]
  have hle:=m6.trans (Le.alloc mM (.cells arr e) 0 (.cells (ao (xs++ys.map ae.share))));have jo:Fits (g1.alloc (.cells arr e) 0 (.cells (ao (xs++ys.map ae.share)))) (.cells arr e) (.cells (ao (xs++ys.map ae.share))):=by
   refine⟨arr,e,rfl,by rw[gA,vK];exact Nat.mul_le_mul_right _ qX,fun j c u hj hu=>?_,fun c hc=>?_⟩
   ·have aZ:=I hj;rw[gA]at aZ;rw[fP]at hu;have vT:=dQ hu (by simp only[List.size_toArray,EY,s9,<-Nat.add_mul];exact aZ);exact(jE.2 j c u hj (by simpa using vT)).mono hle
   rw[cP]at hc;rcases List.mem_append.1 hc with q|q
   ·exact Lk c q
   exact dT E1 c q
  have c7:=Good.alloc mM (.cells arr e) 0 (.cells (ao (xs++ys.map ae.share))) (.inr rfl) jo;refine⟨.slice (some ⟨g.w.heap.size,0,none⟩) (xs.length+ys.length) cap,_,.inl ?_,hle,c7,?_,?_⟩
  ·rw[cR];simp[bw,G.alloc,sR]
  ·simp[G.alloc,nV,Mode.post]
  rw[<-nV];have e1:(g.w.heap.size)=g1.w.heap.size:=by rw[sR];rfl
  rw[e1];exact .os (l:=⟨g1.w.heap.size,0,arr.size⟩) (ir mM) eG (by simp[al.aC]) qX (by rw[vK];exact Nat.le_refl _) hlen
theorem tJ{P:Program}{aR:ed}(hT:bY P aR){o:Oper}{σ:St}{t e:TypeId}{x y:Operand}{ti te:cc}{id len sz:Nat}{cs ys:List ae}{ow:pP}
  (ho:o.op=.call ⟨.builtin .append,#[x,y],#[t,t]⟩) (hd:∀d,o.dst=some d->d<σ.n) (ht:aR t=some ti) (aP:ti.desc=.slice e) (he:aR e=some te) (di:te.size=sz) (hx:σ.ev x=some (.os id len sz)) (vP:σ.objs[id]?=some (.cells cs)) (hy:σ.ev y=some (.aB sz ys ow))
  (r6:len*sz<=cs.length) (hn:ys.length≠0) (hlen:len+ys.length<=2 ^ 62) (hb:(len+ys.length)*te.bytes<=2 ^ 47) :
  Cert P o σ (.os σ.objs.length (len+ys.length) sz) (.write (σ.objs.set id .gone++[.cells (cs.take (len*sz)++ao (ys.map ae.share))])) :=
 Cert.ix hd fun base fF a g bE h iC=>by
  have hO:g.objs=σ.objs:=iC.resolve_left (by simp);have hg:=bE.good;have hu:=bO hT ht aP;subst di;have gJ:=h x (by simp[ho,Op.operands,Call.operands]) _ hx;have BW:=h y (by simp[ho,Op.operands,Call.operands]) _ hy;obtain⟨l,o1,cap,q1,q2,q3,Lc,Mh,gu,eu⟩:=gJ.rG;obtain⟨R6,Ij,news,ey,AM,AN,AO,HV,E1,s9⟩:=BW.fR (P:=P);obtain⟨⟨i,z,h1,h2,h3,h4,h5,h6,h7,h8,h9⟩,_⟩:=hT e te he;have lq:g.objs[id]?=some (.cells cs):=by rw[hO];exact vP
  have EN:=I lq;obtain⟨arr,t',hZ,de,Xv,gn,mG,Da⟩:=hg.row lq q1;have cR:=cC (P:=P) ho a g.w;simp only[builtin,List.map_toArray,List.map_cons,List.map_nil]at cR;have jT:=AO.kl;have gA:(ao (ys.map ae.share)).length=ys.length*te.size:=by
   rw[ca (dY HV)];simp
  obtain⟨m,hm⟩:∃m,m=len*te.size:=⟨_,rfl⟩
  obtain⟨gv,ES⟩:∃gv,gv=arr.toList.take m:=⟨_,rfl⟩
  obtain⟨ds,BQ⟩:∃ds,ds=cs.take (len*te.size)++ao (ys.map ae.share):=⟨_,rfl⟩
  rw[<-hm]at BQ r6;have Jj:gv.length=m:=by rw[ES];simp;omega
  have holds:lM g (cs.take m) gv.toArray:=by
   refine⟨by simp[Jj];omega,fun j c u hj hu=>?_⟩;have aZ:=I hj;simp only[List.length_take]at aZ;rw[List.getElem?_take,if_pos (by omega)]at hj;refine gn j c u hj ?_;simp only[List.getElem?_toArray,ES]at hu;rw[List.getElem?_take,if_pos (by omega)]at hu;simpa using hu
  have cA:lM g ds (gv++news).toArray:=by
   rw[BQ];exact holds.append jT
  have lZ:ds.length=m+ys.length*te.size:=by
   rw[BQ,List.length_append,List.length_take,gA];omega
  have SN:∀c∈ds,c.scalar:=fun c hc=>by
   rw[BQ]at hc;rcases List.mem_append.1 hc with hc|hc
   ·exact mG c (List.mem_of_mem_take hc)
   exact dT E1 c hc
  have AH:(len+ys.length)*te.size=m+ys.length*te.size:=by rw[Nat.add_mul,hm]
  rw[<-hm,<-BQ];by_cases mA:len+ys.length<=cap
  ·have bt:m+ys.length*te.size<=arr.size:=by
    have:=Nat.mul_le_mul_right te.size mA;omega
   obtain⟨cg,gT⟩:∃cg,cg=(arr.toList.take m++news++arr.toList.drop (m+news.length)).toArray:=⟨_,rfl⟩
   have dz:=run_storeCells_at P l.block m t' news 0 arr g.w de (by rw[s9];omega) (fun u hu=>by
    obtain⟨j,hj⟩:=List.getElem?_of_mem hu;have aZ:=I hj;have di:=AO.1;simp only[List.size_toArray]at di;rw[di]at aZ;have hc:=List.getElem?_eq_getElem aZ;exact((AO.2 j _ u hc (by simpa using hj)).kO (E1 _ (List.mem_of_getElem? hc))).1)
   simp only[Nat.add_zero]at dz;rw[<-gT]at dz;have bw:=gE (P:=P) g.w (g.w.setRow l.block cg) t o.type e i hu h1 ⟨l.block,0,none⟩ len cap ys.length (a.eval y) news AM (by rw[h2];exact AN g.w rfl) (by omega) (by rw[addr_add,h2,Nat.zero_add,<-hm];exact dz);rw[<-eu]at bw;have eC:=kP (cs':=ds) lq q1 hZ cg;have hle:=Le.bp hg eC;have vK:cg.size=arr.size:=by
    rw[gT];simp only[List.size_toArray,List.length_append,List.length_take,List.length_drop,Array.length_toList,s9];omega
   have c7:=Good.bp hg eC (by
    refine⟨l,cg,t',rfl,hZ,setRow_heap g.w l.block arr cg t' (0,0) de,by rw[lZ,vK];exact bt,fun j c u hj nW=>?_,SN,by rw[vK];exact Da⟩;have aZ:=I hj;rw[lZ]at aZ;have e1:cg=gv.toArray++news.toArray++(arr.toList.drop (m+news.length)).toArray:=by
     rw[gT,ES];simp
    rw[e1]at nW;have vT:=dQ nW (by simp only[List.size_toArray,Jj,s9];exact aZ);exact(cA.2 j c u hj (by simpa using vT)).mono hle) (fun l1 h1 _=>by
    simp only[Option.some.injEq]at h1;subst h1;rw[setRow_size];exact aW de)
   obtain⟨g1,ln⟩:∃g1:G,g1=g.bp id (some l) (.cells ds) (g.w.setRow l.block cg):=⟨_,rfl⟩
   rw[<-ln]at hle c7;have um:g1.env[id]?=some (some l):=by
    rw[ln];simp only[G.bp];rw[List.getElem?_set_self (iq hg lq)]
   have nV:g1.objs[id]?=some (.cells ds):=by
    rw[ln];simp only[G.bp];rw[List.getElem?_set_self EN]
   have dN:g1.objs.length=σ.objs.length:=by
    rw[ln,<-hO];simp[G.bp]
   refine⟨.slice (some ⟨l.block,0,none⟩) (len+ys.length) cap,g1.mg id l (.cells ds),.inl ?_,hle.trans (Le.mg c7 um nV trivial (by simp[al.aC])),Good.mg c7 um nV,?_,?_⟩
   ·rw[cR,ln];simp[bw,G.bp,G.mg]
   ·simp only[G.mg,ln,G.bp,Mode.post,List.set_set,hO]
   refine .os (l:=l) (o:=.cells ds) ?_ ?_ (by simp[al.aC]) mA Mh hlen
   ·simp only[G.mg];rw[<-dN,<-c7.len];simp
   simp only[G.mg];rw[<-dN];simp
  have bw:=fV (P:=P) g.w t o.type e i z hu h1 h4 (some ⟨l.block,0,none⟩) len cap ys.length (a.eval y) gv news AM (by rw[h2];exact AN g.w.drew rfl) (by
   rw[h2];simp only[Builtin.firstCells];rw[<-hm];have:=run_loadCells (P:=P) g.w.drew ⟨l.block,0,none⟩ m (fun j=>arr.getD j undef) (fun j hj=>by
    rw[addr_add,Nat.zero_add];have:g.w.drew.cell? ⟨l.block,j,none⟩=arr[j]?:=cell_of_row (w:=g.w.drew) de j;rw[this];simp[Array.getD_eq_getD_getElem?,show j<arr.size by omega])
   rw[vV gv m _ Jj (fun j hj=>by
    rw[ES,List.getElem?_take,if_pos hj];simp[Array.getD_eq_getD_getElem?,show j<arr.size by omega])]at this
   exact this) (by omega) hlen (by rw[h3];exact hb)
  rw[<-eu]at bw;obtain⟨vw,ee⟩:∃vw,vw=grownCap g.w (len+ys.length) cap e:=⟨_,rfl⟩
  obtain⟨rest,eQ⟩:∃rest,rest=Builtin.zeroCells z.cells (vw-(len+ys.length)):=⟨_,rfl⟩
  have qX:=grownCap_ge g.w (len+ys.length) cap e;rw[<-ee]at bw qX;rw[<-eQ]at bw;have wV:rest.size=(vw-(len+ys.length))*te.size:=by rw[eQ,size_zeroCells,h5,h6]
  obtain⟨tv,fP⟩:∃tv,tv=gv.toArray++news.toArray++rest:=⟨_,rfl⟩
  rw[<-fP]at bw;have mM:=hg.heap (w':=g.w.drew) rfl rfl rfl rfl;have m6:=Le.heap (g:=g) (w':=g.w.drew) rfl rfl rfl rfl;obtain⟨g1,ln⟩:∃g1:G,g1=⟨g.w.drew,g.fr,g.env,g.objs⟩:=⟨_,rfl⟩
  rw[<-ln]at mM m6;have sR:g1.w=g.w.drew:=by rw[ln]
  have nV:g1.objs=σ.objs:=by rw[ln];exact hO
  have vK:tv.size=vw*te.size:=by
   rw[fP];simp only[Array.size_append,List.size_toArray,Jj,s9,wV];have:(len+ys.length)*te.size+(vw-(len+ys.length))*te.size=vw*te.size:=by
    rw[<-Nat.add_mul,show len+ys.length+(vw-(len+ys.length))=vw by omega]
   omega
  have hle:=m6.trans (Le.alloc mM (.cells tv e) 0 (.cells ds));have jo:Fits (g1.alloc (.cells tv e) 0 (.cells ds)) (.cells tv e) (.cells ds):=by
   refine⟨tv,e,rfl,by rw[lZ,vK,<-AH];exact Nat.mul_le_mul_right _ qX,fun j c u hj hu=>?_,SN⟩;have aZ:=I hj;rw[lZ]at aZ;rw[fP]at hu;have vT:=dQ hu (by simp only[List.size_toArray,Jj,s9];exact aZ);exact(cA.2 j c u hj (by simpa using vT)).mono hle
  have c7:=Good.alloc mM (.cells tv e) 0 (.cells ds) (.inr rfl) jo;obtain⟨g2,PS⟩:∃g2:G,g2=g1.alloc (.cells tv e) 0 (.cells ds):=⟨_,rfl⟩
  rw[<-PS]at hle c7;have SW:g2.env[id]?=some (some l):=by
   rw[PS];simp only[G.alloc];rw[List.getElem?_append,if_pos (by rw[ln];exact iq hg lq),ln];exact q1
  have Tt:g2.objs[id]?=some (.cells cs):=by
   rw[PS];simp only[G.alloc];rw[List.getElem?_append,if_pos (by rw[ln];exact EN),ln];exact lq
  have eC:=pF Tt SW (by simp[al.aC]) trivial;have ZZ:g2.w=g.w.drew.alloc (.cells tv e):=by rw[PS,<-sR];rfl
  refine⟨.slice (some ⟨g.w.heap.size,0,none⟩) (len+ys.length) vw,g2.bp id (some l) .gone g2.w,.inl ?_,hle.trans (Le.bp c7 eC),Good.bp c7 eC trivial (fun _ _ hh=>hh.elim),?_,?_⟩
  ·rw[cR];simp[bw,G.bp,ZZ]
  ·simp only[G.bp,PS,G.alloc,nV,Mode.post];rw[List.set_append,if_pos (by rw[<-hO];exact EN)]
  have e1:(g.w.heap.size)=g1.w.heap.size:=by rw[sR];rfl
  have VP:id<g1.objs.length:=by rw[ln];exact EN
  rw[e1,<-nV];refine .os (l:=⟨g1.w.heap.size,0,tv.size⟩) (o:=.cells ds) ?_ ?_ (by simp[al.aC]) qX (by rw[vK];exact Nat.le_refl _) hlen
  ·simp only[G.bp,PS,G.alloc];rw[List.getElem?_set_ne (by omega)];exact ir mM
  simp only[G.bp,PS,G.alloc];rw[List.getElem?_set_ne (by omega)];exact eG
theorem vA{P:Program}{o:Oper}{σ:St}{op:BinOp}{t t' e:TypeId}{x y:Operand}{x':ae}{b r:Bool}
  (ho:o.op=.binOp op t x y t') (hd:∀d,o.dst=some d->d<σ.n) (ht:P.underlying t=some (.pointer e)) (hx:σ.ev x=some x') (hy:σ.ev y=some (.v (.pointer none)))
  (hb:(x'=.v (.pointer none)∧b=true)∨(∃oa cs,x'=.ip oa cs∧b=false)∨(∃id off,x'=.mp id off∧b=false))
  (hr:(op=.eql∧r=b)∨(op=.neq∧r=!b)):Cert P o σ (.v (.bool r)) .pure :=
 Cert.bK .pure (.inl rfl) hd fun a g _ h _=>by
  have gJ:=h x (by simp[ho,Op.operands]) _ hx;have ey:=(h y (by simp[ho,Op.operands]) _ hy).bV.1;have ex:∃q:Option Addr,a.eval x=.pointer q∧b=q.isNone:=by
   rcases hb with⟨e1,e2⟩|⟨oa,cs,e1,e2⟩|⟨id,off,e1,e2⟩
   ·subst e1;exact⟨none,gJ.bV.1,e2⟩
   ·subst e1;obtain⟨bb,off,_,e3,_⟩:=gJ.po;exact⟨some ⟨bb,off,none⟩,e3,e2⟩
   subst e1;obtain⟨l,o1,_,_,_,e3⟩:=gJ.ng;exact⟨_,e3,e2⟩
  obtain⟨q,ex,eb⟩:=ex;have hg:=cD (P:=P) op t x y (.pointer q) (.pointer none) g.w (by simp) (by simp);refine⟨.bool r,?_,.v trivial⟩;have he:(Op.equal t (.pointer q) (.pointer none)).run P g.w=.ok q.isNone g.w:=by
   have e:∃d,Op.equal t (.pointer q) (.pointer none)=Op.equalIn (d+1) t (.pointer q) (.pointer none):=⟨9999,rfl⟩
   obtain⟨d,e⟩:=e;rw[e];cases q<;>simp[Op.equalIn,Sem.run_bind,run_underlying ht]
  rcases hr with⟨e1,e2⟩|⟨e1,e2⟩<;>subst e1<;>subst e2<;>simp[execOp,ho,ex,ey,hg,binOp,he,eb]
def qc:BinOp->Addr->Addr->Option Bool
 | .eql,a,b=>some (decide (a=b))
 | .neq,a,b=>some (!decide (a=b))
 | _,_,_=>none
theorem zM{P:Program}{o:Oper}{σ:St}{op:BinOp}{t t' e:TypeId}{n:Nat}{x y:Operand}{a b:Addr}{cs ds:List ae}{r:Bool}
  (ho:o.op=.binOp op t x y t') (hd:∀d,o.dst=some d->d<σ.n) (ht:P.underlying t=some (.pointer e)) (hn:∀w,(sizeOf e).run P w=.ok n w) (AI:n≠0) (hx:σ.ev x=some (.ip (some a) cs)) (hy:σ.ev y=some (.ip (some b) ds)) (yd:a.block=b.block)
  (hr:qc op a b=some r):Cert P o σ (.v (.bool r)) .pure :=
 Cert.bK .pure (.inl rfl) hd fun ac g _ h _=>by
  have ex:ac.eval x=.pointer (some a):=by
   obtain⟨b1,off,f,e1,e2,_⟩:=(h x (by simp[ho,Op.operands]) _ hx).po;rcases e2 with e2|e2
   ·cases e2
   rw[e1,e2]
  have ey:ac.eval y=.pointer (some b):=by
   obtain⟨b1,off,f,e1,e2,_⟩:=(h y (by simp[ho,Op.operands]) _ hy).po;rcases e2 with e2|e2
   ·cases e2
   rw[e1,e2]
  have hg:=cD (P:=P) op t x y (.pointer (some a)) (.pointer (some b)) g.w (by simp) (by simp);refine⟨.bool r,?_,.v trivial⟩;have he:(Op.equal t (.pointer (some a)) (.pointer (some b))).run P g.w=.ok (decide (a=b)) g.w:=by
   have e0:∃d,Op.equal t (.pointer (some a)) (.pointer (some b))=Op.equalIn (d+1) t (.pointer (some a)) (.pointer (some b)):=⟨9999,rfl⟩
   obtain⟨d,e0⟩:=e0;rw[e0];simp[Op.equalIn,Sem.run_bind,run_underlying ht,hn,AI,sameAddr,yd]
   first
    | rfl
    | exact beq_eq_decide
    | (rw[Bool.eq_iff_iff]
       simp)
  have wU:(op=.eql∧r=decide (a=b))∨(op=.neq∧r=!decide (a=b)):=by
   cases op<;>simp[qc]at hr<;>simp[hr]
  rcases wU with⟨e1,e2⟩|⟨e1,e2⟩<;>subst e1<;>subst e2<;>simp[execOp,ho,ex,ey,hg,binOp,he]
end Go.Av
