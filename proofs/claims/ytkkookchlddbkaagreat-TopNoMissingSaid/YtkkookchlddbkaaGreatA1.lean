/-
  Texts bound together by a program of mine: YtakdmelemfnmdaaAva, YtakdmelemfnmdaaAvb, YtakdmelemfnmdaaAvc, YtakdmelemfnmdaaAvd, YtakdmelemfnmdaaAve, YtakdmelemfnmdaaAvf, YtakdmelemfnmdaaAvg, YtakdmelemfnmdaaAvh, YtakdmelemfnmdaaAvi, YtakdmelemfnmdaaAvj, YtakdmelemfnmdaaAvk, YtakdmelemfnmdaaAvx, YtakdmelemfnmdaaAvy, YtakdmelemfnmdaaAvr.
-/
import Derived.Calls
import Derived.Orders
import Derived.Laws.AppendOwn
import Derived.Laws.OwnMore
import Derived.Laws.CopyRow
import Derived.Laws.Strings
import Derived.Lib.BufferMore
set_option linter.all false

namespace Go.Av
inductive od where
 | sh
 | ex
 | nn
 | tok (id:Nat)
 | loc (a:Addr)
inductive KT where
 | str
 | int (k:IntKind)
def KT.ok:KT->Value->Prop
 | .str,.string _=>True
 | .int k,.int k' _=>k'=k
 | _,_=>False
inductive ae where
 | v (x:Value)
 | agg (cs:List ae)
 | aC (sz:Nat) (xs:List ae) (o:od)
 | ip (oa:Option Addr) (cs:List ae)
 | mp (id off:Nat)
 | ms (id off len cap:Nat)
 | os (id len sz:Nat)
 | raw (sz n id:Nat)
 | mm (id:Nat)
 | im (kt:KT) (es:List (Value×ae))
 | fn (f:Fn) (first captured:List ae)
 | c5 (vs:List ae)
instance:Inhabited ae:=⟨.v (.bool false)⟩
def ae.cells:ae->List ae
 | .agg cs=>cs
 | x=>[x]
def mi:Value->Prop
 | .int k n=>k.min<=n∧n<=k.max
 | .agg _=>False
 | .tuple _=>False
 | _=>True
def ae.scalar:ae->Prop
 | .agg _=>False
 | .c5 _=>False
 | _=>True
inductive ay where
 | cells (cs:List ae)
 | spare (n:Nat)
 | map (kt:KT) (es:List (Value×ae))
 | gone
def ay.live:ay->Prop
 | .gone=>False
 | _=>True
def ay.aP:ay->Prop
 | .spare _=>True
 | _=>False
structure Loc where
 block:Nat
 lo:Nat
 sz:Nat
structure G where
 w:World
 fr:Nat->Nat->Prop
 env:List (Option Loc)
 objs:List ay
def G.cell(g:G)(b off:Nat):Option Value:=g.w.cell? ⟨b,off,none⟩
def kd(g:G)(b off:Nat):Prop :=
 ∃(id:Nat) (l:Loc) (o:ay),g.env[id]?=some (some l)∧g.objs[id]?=some o∧o.live∧l.block=b∧l.lo<=off
def gv(g:G)(b:Nat):Prop :=
 ∃(id:Nat) (l:Loc) (o:ay),g.env[id]?=some (some l)∧g.objs[id]?=some o∧o.live∧l.block=b
def lD(g:G)(b off:Nat):Prop:=g.fr b off∨kd g b off
theorem kd.block{g:G}{b off:Nat}(h:kd g b off):gv g b:=by
 obtain⟨id,l,o,h1,h2,h3,h4,_⟩:=h;exact⟨id,l,o,h1,h2,h3,h4⟩
def ar(xs:List ae):List ae:=xs.flatMap ae.cells
def sR(g:G)(o:od)(a:Addr)(sz len cap:Nat):Prop :=
 match o with
 | .sh=>True
 | .nn=>True
 | .ex=>cap=len
 | .loc a'=>a=a'
 | .tok id=>id<g.objs.length∧∀m:Nat,g.objs[id]?=some (.spare m)->len<=m∧(len=m->cap=len ∨
   ∃(l:Loc) (arr:Array Value) (t:TypeId),g.env[id]?=some (some l)∧a=⟨l.block,0,none⟩∧l.lo=len*sz∧g.w.heap[l.block]?=some (.cells arr t (0,0))∧cap*sz<=arr.size)
inductive RV(g:G):ae->Value->Prop
 | v {x:Value} (h:mi x):RV g (.v x) x
 | agg {cs:List ae} {vs:Array Value} (hl:vs.size=cs.length) (en:∀c∈cs,c.scalar)
   (h:∀(i:Nat) c u,cs[i]?=some c->vs[i]?=some u->RV g c u):RV g (.agg cs) (.agg vs)
 | nil {sz:Nat} {o:od} (ho:∀id,o=.tok id->id<g.objs.length) (hn:o≠.nn):RV g (.aC sz [] o) (.slice none 0 0)
 | aC {sz:Nat} {xs:List ae} {o:od} {a:Addr} {cap:Nat} (dk:∀x∈xs,x.cells.length=sz) (en:∀x∈xs,∀c∈x.cells,c.scalar)
   (di:xs.length<=cap) (cZ:xs.length<=2 ^ 62) (hs:xs≠[]->a.spot=none) (f:Nat->Value)
   (hm:∀(j:Nat) (c:ae),(ar xs)[j]?=some c->g.cell a.block (a.off+j)=some (f j)∧¬lD g a.block (a.off+j))
   (hr:∀(j:Nat) (c:ae),(ar xs)[j]?=some c->RV g c (f j)) (ho:sR g o a sz xs.length cap):RV g (.aC sz xs o) (.slice (some a) xs.length cap)
 | ip {oa:Option Addr} {cs:List ae} {b off:Nat} (ha:oa=none∨oa=some ⟨b,off,none⟩) (en:∀c∈cs,c.scalar) (f:Nat->Value)
   (hm:∀(j:Nat) (c:ae),cs[j]?=some c->g.cell b (off+j)=some (f j)∧¬lD g b (off+j))
   (hr:∀(j:Nat) (c:ae),cs[j]?=some c->RV g c (f j)):RV g (.ip oa cs) (.pointer (some ⟨b,off,none⟩))
 | mp {id off:Nat} {l:Loc} {o:ay} (he:g.env[id]?=some (some l)) (ho:g.objs[id]?=some o) (hn:¬o.aP) :
   RV g (.mp id off) (.pointer (some ⟨l.block,off,none⟩))
 | ms {id off len cap:Nat} {l:Loc} {o:ay} (he:g.env[id]?=some (some l)) (ho:g.objs[id]?=some o) (hn:¬o.aP) {iK:Nat} (hc:len<=cap) (nO:cap<=iK) (cZ:len<=2 ^ 62) :
   RV g (.ms id off len cap) (.slice (some ⟨l.block,off,none⟩) len iK)
 | os {id len sz:Nat} {l:Loc} {o:ay} (he:g.env[id]?=some (some l)) (ho:g.objs[id]?=some o) (hn:¬o.aP) {cap:Nat} (hc:len<=cap) (hb:cap*sz<=l.sz) (cZ:len<=2 ^ 62) :
   RV g (.os id len sz) (.slice (some ⟨l.block,0,none⟩) len cap)
 | raw {sz n id:Nat} {a:Addr} {cap:Nat} (hn:n<=cap) (ho:sR g (.tok id) a sz 0 cap):RV g (.raw sz n id) (.slice (some a) n cap)
 | mm {id:Nat} {l:Loc} {o:ay} (he:g.env[id]?=some (some l)) (ho:g.objs[id]?=some o) (hn:¬o.aP):RV g (.mm id) (.map (some l.block))
 | im {kt:KT} {es:List (Value×ae)} {r clk:Nat} {arr:Array MapEntry} (hh:g.w.heap[r]?=some (.map arr clk)) (hn:∀off,¬lD g r off) (hl:arr.size=es.length)
   (hk:∀(i:Nat) e (kx:Value×ae),arr[i]?=some e->es[i]?=some kx->e.key=kx.1) (wR:∀p∈es,kt.ok p.1)
   (hr:∀(i:Nat) e (kx:Value×ae),arr[i]?=some e->es[i]?=some kx->RV g kx.2 e.val):RV g (.im kt es) (.map (some r))
 | fn {f:Fn} {fs cs:List ae} {us vs:Array Value} (hl:us.size=fs.length) (rB:vs.size=cs.length)
   (h:∀(i:Nat) c u,fs[i]?=some c->us[i]?=some u->RV g c u) (h':∀(i:Nat) c u,cs[i]?=some c->vs[i]?=some u->RV g c u):RV g (.fn f fs cs) (.func f us vs)
 | c5 {cs:List ae} {vs:Array Value} (hl:vs.size=cs.length)
   (h:∀(i:Nat) c u,cs[i]?=some c->vs[i]?=some u->RV g c u):RV g (.c5 cs) (.tuple vs)
structure Le(g g':G):Prop where
 os:g'.w.os=g.w.os
 tape:g'.w.tape=g.w.tape
 output:g'.w.output=g.w.output
 fr:g'.fr=g.fr
 size:g.w.heap.size<=g'.w.heap.size
 block:∀k,k<g.w.heap.size->¬gv g k->g'.w.heap[k]?=g.w.heap[k]?∧¬gv g' k
 cell:∀b off x,g.cell b off=some x->¬kd g b off->g'.cell b off=some x∧¬kd g' b off
 len:g.objs.length<=g'.objs.length
 spare:∀(id:Nat) (m:Nat),g.objs[id]?=some (.spare m)->(∃m':Nat,g'.objs[id]?=some (.spare m')∧m<=m')∨∃o':ay,g'.objs[id]?=some o'∧¬o'.aP
 plain:∀(id:Nat) (o:ay),g.objs[id]?=some o->¬o.aP->(∃o':ay,g'.objs[id]?=some o'∧¬o'.aP)∧g'.env[id]?=g.env[id]?
 gone:∀id:Nat,g.objs[id]?=some .gone->g'.objs[id]?=some .gone
 tok:∀(id m:Nat),g.objs[id]?=some (.spare m)->g'.objs[id]?=some (.spare m)->g'.env[id]?=g.env[id]?∧∀l:Loc,g.env[id]?=some (some l)->g'.w.heap[l.block]?=g.w.heap[l.block]?
theorem Le.refl(g:G):Le g g where
 os:=rfl
 tape:=rfl
 output:=rfl
 fr:=rfl
 size:=Nat.le_refl _
 block:=fun _ _ h=>⟨rfl,h⟩
 cell:=fun _ _ _ h k=>⟨h,k⟩
 len:=Nat.le_refl _
 spare:=fun _ m h=>.inl ⟨m,h,Nat.le_refl _⟩
 plain:=fun _ o h k=>⟨⟨o,h,k⟩,rfl⟩
 gone:=fun _ h=>h
 tok:=fun _ _ _ _=>⟨rfl,fun _ _=>rfl⟩
theorem Le.trans{a b c:G}(h:Le a b)(k:Le b c):Le a c where
 os:=k.os.trans h.os
 tape:=k.tape.trans h.tape
 output:=k.output.trans h.output
 fr:=k.fr.trans h.fr
 size:=Nat.le_trans h.size k.size
 block:=fun i hi hn=>by
  obtain⟨h1,h2⟩:=h.block i hi hn;obtain⟨k1,k2⟩:=k.block i (Nat.lt_of_lt_of_le hi h.size) h2;exact⟨k1.trans h1,k2⟩
 cell:=fun b off x hx hn=>by
  obtain⟨h1,h2⟩:=h.cell b off x hx hn;exact k.cell b off x h1 h2
 len:=Nat.le_trans h.len k.len
 spare:=fun id m hm=>by
  rcases h.spare id m hm with⟨m',h1,h2⟩|⟨o',h1,h2⟩
  ·rcases k.spare id m' h1 with⟨Tp,k1,k2⟩|k1
   ·exact .inl ⟨Tp,k1,Nat.le_trans h2 k2⟩
   exact .inr k1
  exact .inr (k.plain id o' h1 h2).1
 plain:=fun id o ho hn=>by
  obtain⟨⟨o',h1,h2⟩,h3⟩:=h.plain id o ho hn;obtain⟨k1,k3⟩:=k.plain id o' h1 h2;exact⟨k1,k3.trans h3⟩
 gone:=fun id hg=>k.gone id (h.gone id hg)
 tok:=fun id m ha hc=>by
  rcases h.spare id m ha with⟨m',h1,h2⟩|⟨o',h1,h2⟩
  ·rcases k.spare id m' h1 with⟨Tp,k1,k2⟩|⟨o',k1,k2⟩
   ·rw[k1]at hc;simp only[Option.some.injEq,ay.spare.injEq]at hc;have:m'=m:=by omega
    subst this;subst hc;obtain⟨e1,e2⟩:=h.tok id _ ha h1;obtain⟨e3,e4⟩:=k.tok id _ h1 k1;refine⟨e3.trans e1,fun l hl=>?_⟩;exact(e4 l (e1.trans hl)).trans (e2 l hl)
   rw[k1]at hc;simp only[Option.some.injEq]at hc;exact absurd (hc ▸ trivial) k2
  obtain⟨⟨SM,k1,k2⟩,_⟩:=k.plain id o' h1 h2;rw[k1]at hc;simp only[Option.some.injEq]at hc;exact absurd (hc ▸ trivial) k2
theorem Le.SO{g g':G}(h:Le g g'){b off:Nat}{x:Value}(hx:g.cell b off=some x)(hn:¬lD g b off):g'.cell b off=some x∧¬lD g' b off:=by
 obtain⟨h1,h2⟩:=h.cell b off x hx fun hh=>hn (.inr hh);refine⟨h1,?_⟩;rintro(hf|hl)
 ·exact hn (.inl (h.fr ▸ hf))
 exact h2 hl
theorem ag{α:Type}{l:List α}{i:Nat}{x:α}(h:l[i]?=some x):i<l.length:=by
 rcases Nat.lt_or_ge i l.length with h1|h1
 ·exact h1
 rw[List.getElem?_eq_none h1]at h;cases h
theorem bj{α:Type}{l:Array α}{i:Nat}{x:α}(h:l[i]?=some x):i<l.size:=by
 rcases Nat.lt_or_ge i l.size with h1|h1
 ·exact h1
 rw[Array.getElem?_eq_none h1]at h;cases h
theorem sR.mono{g g':G}(h:Le g g'){o:od}{a:Addr}{sz len cap:Nat}(k:sR g o a sz len cap):sR g' o a sz len cap:=by
 cases o with
 | sh=>trivial
 | nn=>trivial
 | ex=>exact k
 | loc a=>exact k
 | tok id =>
  obtain⟨aN,hk⟩:=k;refine⟨Nat.lt_of_lt_of_le aN h.len,fun m' eS=>?_⟩;have ho:g.objs[id]?=some g.objs[id]:=List.getElem?_eq_getElem aN;cases fk:g.objs[id]with
  | spare m =>
   rw[fk]at ho;obtain⟨h1,h2⟩:=hk m ho;rcases h.spare id m ho with⟨Tp,k1,k2⟩|⟨o',k1,k2⟩
   ·rw[k1]at eS;simp only[Option.some.injEq,ay.spare.injEq]at eS;subst eS;refine⟨Nat.le_trans h1 k2,fun e=>?_⟩;have PN:m=Tp:=by omega
    subst PN;obtain⟨e1,e2⟩:=h.tok id m ho k1;rcases h2 (by omega)with e3|⟨l,arr,t,q1,q2,q3,q4,q5⟩
    ·exact .inl e3
    exact .inr ⟨l,arr,t,e1.trans q1,q2,q3,(e2 l q1).trans q4,q5⟩
   rw[k1]at eS;simp only[Option.some.injEq]at eS;exact absurd (eS ▸ trivial) k2
  | gone =>
   rw[fk]at ho;rw[h.gone id ho]at eS;simp at eS
  | cells cs =>
   rw[fk]at ho;obtain⟨⟨o',q1,q2⟩,_⟩:=h.plain id _ ho (by simp[ay.aP]);rw[q1]at eS;simp only[Option.some.injEq]at eS;subst eS;simp[ay.aP]at q2
  | map kt es =>
   rw[fk]at ho;obtain⟨⟨o',q1,q2⟩,_⟩:=h.plain id _ ho (by simp[ay.aP]);rw[q1]at eS;simp only[Option.some.injEq]at eS;subst eS;simp[ay.aP]at q2
theorem RV.mono{g g':G}(h:Le g g'){x:ae}{u:Value}(k:RV g x u):RV g' x u:=by
 induction k with
 | v hx=>exact .v hx
 | agg hl en _ ih=>exact .agg hl en ih
 | nil ho hn=>exact .nil (fun id e=>Nat.lt_of_lt_of_le (ho id e) h.len) hn
 | aC dk en di cZ hs f hm _ ho ih=>exact .aC dk en di cZ hs f (fun j c hj=>h.SO (hm j c hj).1 (hm j c hj).2) ih (ho.mono h)
 | ip ha en f hm _ ih=>exact .ip ha en f (fun j c hj=>h.SO (hm j c hj).1 (hm j c hj).2) ih
 | mp he ho hn =>
  obtain⟨⟨o',q1,q2⟩,q3⟩:=h.plain _ _ ho hn;exact .mp (q3.trans he) q1 q2
 | ms he ho hn hc nO cZ =>
  obtain⟨⟨o',q1,q2⟩,q3⟩:=h.plain _ _ ho hn;exact .ms (q3.trans he) q1 q2 hc nO cZ
 | os he ho hn hc hb cZ =>
  obtain⟨⟨o',q1,q2⟩,q3⟩:=h.plain _ _ ho hn;exact .os (q3.trans he) q1 q2 hc hb cZ
 | raw hn ho=>exact .raw hn (ho.mono h)
 | mm he ho hn =>
  obtain⟨⟨o',q1,q2⟩,q3⟩:=h.plain _ _ ho hn;exact .mm (q3.trans he) q1 q2
 | im hh hn hl hk wR _ ih =>
  have aN:=bj hh;rename_i kt es r clk arr _;have hb:¬gv g r:=by
   rintro⟨id,l,o,h1,h2,h3,h4⟩;exact hn l.lo (.inr ⟨id,l,o,h1,h2,h3,h4,Nat.le_refl _⟩)
  obtain⟨q1,q2⟩:=h.block _ aN hb;refine .im (q1.trans hh) ?_ hl hk wR ih;rintro off (hf|hf)
  ·exact hn off (.inl (h.fr ▸ hf))
  exact q2 hf.block
 | fn hl rB _ _ ih DY=>exact .fn hl rB ih DY
 | c5 hl _ ih=>exact .c5 hl ih
structure Good(g:G):Prop where
 frlt:∀b off,g.fr b off->b<g.w.heap.size
 fU:∀(id:Nat) (l:Loc) (o:ay),g.env[id]?=some (some l)->g.objs[id]?=some o->o.live->∀off,¬g.fr l.block off
 len:g.env.length=g.objs.length
 loc:∀(id:Nat) (l:Loc) (o:ay),g.env[id]?=some (some l)->g.objs[id]?=some o->o.live->l.block<g.w.heap.size
 apart:∀(id oP:Nat) (l l':Loc) (o o':ay),g.env[id]?=some (some l)->g.objs[id]?=some o->o.live->g.env[oP]?=some (some l')->g.objs[oP]?=some o'->o'.live->l.block=l'.block->id=oP
 cells:∀(id:Nat) (cs:List ae),g.objs[id]?=some (.cells cs)->∃(l:Loc) (arr:Array Value) (t:TypeId),g.env[id]?=some (some l)∧l.lo=0∧g.w.heap[l.block]?=some (.cells arr t (0,0))∧cs.length<=arr.size ∧
  (∀(j:Nat) (c:ae) (u:Value),cs[j]?=some c->arr[j]?=some u->RV g c u)∧(∀c∈cs,c.scalar)∧l.sz<=arr.size
 spare:∀(id m:Nat) (l:Loc),g.objs[id]?=some (.spare m)->g.env[id]?=some (some l)->∃(arr:Array Value) (t:TypeId),g.w.heap[l.block]?=some (.cells arr t (0,0))
 map:∀(id:Nat) (kt:KT) (es:List (Value×ae)),g.objs[id]?=some (.map kt es)->∃(l:Loc) (arr:Array MapEntry) (clk:Nat),g.env[id]?=some (some l)∧l.lo=0∧g.w.heap[l.block]?=some (.map arr clk)∧arr.size=es.length∧(∀p∈es,kt.ok p.1) ∧
  ∀(i:Nat) (e:MapEntry) (kx:Value×ae),arr[i]?=some e->es[i]?=some kx->e.key=kx.1∧mi kx.1∧RV g kx.2 e.val
structure St where
 n:Nat
 bC:List (Nat×ae)
 objs:List ay
def look:List (Nat×ae)->Nat->Option ae
 | [],_=>none
 | (k,x)::r,s=>if k=s then some x else look r s
def bL(d:Nat):List (Nat×ae)->List (Nat×ae)
 | []=>[]
 | (k,x)::r=>if k=d then bL d r else(k,x)::bL d r
def cq(d:Nat)(x:ae)(l:List (Nat×ae)):List (Nat×ae):=(d,x)::bL d l
theorem j7{d s:Nat}(h:d≠s):∀l:List (Nat×ae),look (bL d l) s=look l s
 | []=>rfl
 | (k,x)::r=>by
  have ih:=j7 h r;unfold bL;split
  ·rename_i hk;subst hk;simp[look,h,ih]
  simp only[look,ih]
theorem mn{d:Nat}:∀l:List (Nat×ae),look (bL d l) d=none
 | []=>rfl
 | (k,x)::r=>by
  have ih:=mn (d:=d) r;unfold bL;split
  ·exact ih
  rename_i hk;simp[look,hk,ih]
theorem fV(d s:Nat)(x:ae)(l:List (Nat×ae)):look (cq d x l) s=if d=s then some x else look l s:=by
 unfold cq;simp only[look];split
 ·rfl
 rename_i h;exact j7 h l
def St.get(σ:St)(s:Nat):Option ae:=look σ.bC s
structure Rel(base:G)(σ:St)(a:Act)(g:G):Prop where
 le:Le base g
 good:Good g
 objs:g.objs=σ.objs
 size:a.tmps.size=σ.n
 defers:a.defers=[]
 slot:∀(s:Nat) (x:ae),σ.get s=some x->∃u,a.tmps[s]?=some u∧RV g x u
theorem Rel.put{base:G}{σ:St}{a:Act}{g g':G}(h:Rel base σ a g)(hl:Le g g')(hg:Good g'){d:Nat}(hd:d<σ.n){r:ae}{u:Value}(hr:RV g' r u) :
  Rel base ⟨σ.n,cq d r σ.bC,g'.objs⟩ (a.put (some d) u) g' where
 le:=h.le.trans hl
 good:=hg
 objs:=rfl
 size:=by simp[Act.put,h.size]
 defers:=by simp[Act.put,h.defers]
 slot:=fun s x hx=>by
  simp only[St.get,fV]at hx;split at hx
  ·rename_i tX;subst tX;simp only[Option.some.injEq]at hx;subst hx;exact⟨u,by simp[Act.put,h.size,hd],hr⟩
  rename_i tX;obtain⟨y,hy,Sw⟩:=h.slot s x hx;exact⟨y,by simp[Act.put,Array.getElem?_setIfInBounds_ne tX,hy],Sw.mono hl⟩
theorem Rel.step{base:G}{σ:St}{a:Act}{g g':G}(h:Rel base σ a g)(hl:Le g g')(hg:Good g'):Rel base ⟨σ.n,σ.bC,g'.objs⟩ a g' where
 le:=h.le.trans hl
 good:=hg
 objs:=rfl
 size:=h.size
 defers:=h.defers
 slot:=fun s x hx=>by
  obtain⟨y,hy,Sw⟩:=h.slot s x hx;exact⟨y,hy,Sw.mono hl⟩
theorem Rel.forget{base:G}{σ:St}{a:Act}{g:G}(h:Rel base σ a g)(d:Nat)(u:Value):Rel base ⟨σ.n,bL d σ.bC,σ.objs⟩ (a.put (some d) u) g where
 le:=h.le
 good:=h.good
 objs:=h.objs
 size:=by simp[Act.put,h.size]
 defers:=by simp[Act.put,h.defers]
 slot:=fun s x hx=>by
  by_cases tX:d=s
  ·subst tX;simp[St.get,mn]at hx
  simp only[St.get,j7 tX]at hx;obtain⟨y,hy,Sw⟩:=h.slot s x hx;exact⟨y,by simp[Act.put,Array.getElem?_setIfInBounds_ne tX,hy],Sw⟩
theorem Le.heap{g:G}{w':World}(h1:w'.heap=g.w.heap)(h2:w'.os=g.w.os)(h3:w'.tape=g.w.tape)(h4:w'.output=g.w.output):Le g ⟨w',g.fr,g.env,g.objs⟩ where
 os:=h2
 tape:=h3
 output:=h4
 fr:=rfl
 size:=by simp[h1]
 block:=fun k _ h=>⟨by simp[h1],h⟩
 cell:=fun b off x hx hn=>⟨by simpa[G.cell,World.cell?,h1]using hx,hn⟩
 len:=Nat.le_refl _
 spare:=fun _ m h=>.inl ⟨m,h,Nat.le_refl _⟩
 plain:=fun _ o h k=>⟨⟨o,h,k⟩,rfl⟩
 gone:=fun _ h=>h
 tok:=fun _ _ _ _=>⟨rfl,fun _ _=>by simp[h1]⟩
theorem Good.heap{g:G}{w':World}(hg:Good g)(h1:w'.heap=g.w.heap)(h2:w'.os=g.w.os)(h3:w'.tape=g.w.tape)(h4:w'.output=g.w.output):Good ⟨w',g.fr,g.env,g.objs⟩ where
 frlt:=fun b off h=>by simpa[h1]using hg.frlt b off h
 fU:=hg.fU
 len:=hg.len
 loc:=fun id l o a b c=>by simpa[h1]using hg.loc id l o a b c
 apart:=hg.apart
 cells:=fun id cs h=>by
  obtain⟨l,arr,t,e1,e0,e2,e3,e4,e5⟩:=hg.cells id cs h;exact⟨l,arr,t,e1,e0,by simpa[h1]using e2,e3,fun j c u a b=>(e4 j c u a b).mono (Le.heap h1 h2 h3 h4),e5⟩
 spare:=fun id m l a b=>by simpa[h1]using hg.spare id m l a b
 map:=fun id kt es h=>by
  obtain⟨l,arr,clk,e1,e0,e2,e3,e6,e4⟩:=hg.map id kt es h;exact⟨l,arr,clk,e1,e0,by simpa[h1]using e2,e3,e6,fun i e kx a b=>⟨(e4 i e kx a b).1,(e4 i e kx a b).2.1,(e4 i e kx a b).2.2.mono (Le.heap h1 h2 h3 h4)⟩⟩
theorem dC(w:World)(o:Obj){k:Nat}(h:k<w.heap.size):(w.alloc o).heap[k]?=w.heap[k]?:=by
 simp only[World.alloc];rw[Array.getElem?_push,if_neg (by omega)]
theorem dx(w:World)(o:Obj):(w.alloc o).heap[w.heap.size]?=some o:=by
 simp only[World.alloc];rw[Array.getElem?_push,if_pos rfl]
theorem tV{g:G}{b off:Nat}{x:Value}(h:g.cell b off=some x):b<g.w.heap.size:=by
 simp only[G.cell,World.cell?]at h;split at h
 ·rename_i hh;exact bj hh
 cases h
theorem na{w w':World}{b:Nat}(h:w'.heap[b]?=w.heap[b]?)(off:Nat):w'.cell? ⟨b,off,none⟩=w.cell? ⟨b,off,none⟩:=by
 simp only[World.cell?,h]
def G.push(g:G)(o:Obj):G:=⟨g.w.alloc o,g.fr,g.env,g.objs⟩
theorem Le.push(g:G)(hg:Good g)(o:Obj):Le g (g.push o) where
 os:=rfl
 tape:=rfl
 output:=rfl
 fr:=rfl
 size:=by show g.w.heap.size<=(g.w.heap.push o).size;rw[Array.size_push];omega
 block:=fun k hk h=>⟨dC _ _ hk,h⟩
 cell:=fun b off x hx hn=>⟨by
  have:=tV hx;simpa[G.cell,G.push,na (dC g.w o this)]using hx,hn⟩
 len:=Nat.le_refl _
 spare:=fun _ m h=>.inl ⟨m,h,Nat.le_refl _⟩
 plain:=fun _ o h k=>⟨⟨o,h,k⟩,rfl⟩
 gone:=fun _ h=>h
 tok:=fun id m h _=>⟨rfl,fun l hl=>dC _ _ (hg.loc id l _ hl h trivial)⟩
theorem Good.push{g:G}(hg:Good g)(o:Obj):Good (g.push o) where
 frlt:=fun b off h=>by
  have:=hg.frlt b off h;show b<(g.w.heap.push o).size;rw[Array.size_push];omega
 fU:=hg.fU
 len:=hg.len
 loc:=fun id l o' a b c=>by
  have:=hg.loc id l o' a b c;show l.block<(g.w.heap.push o).size;rw[Array.size_push];omega
 apart:=hg.apart
 cells:=fun id cs h=>by
  obtain⟨l,arr,t,e1,e0,e2,e3,e4,e5⟩:=hg.cells id cs h;exact⟨l,arr,t,e1,e0,(dC _ _ (bj e2)).trans e2,e3,fun j c u a b=>(e4 j c u a b).mono (Le.push g hg o),e5⟩
 spare:=fun id m l a b=>by
  obtain⟨arr,t,e⟩:=hg.spare id m l a b;exact⟨arr,t,(dC _ _ (bj e)).trans e⟩
 map:=fun id kt es h=>by
  obtain⟨l,arr,clk,e1,e0,e2,e3,e6,e4⟩:=hg.map id kt es h;exact⟨l,arr,clk,e1,e0,(dC _ _ (bj e2)).trans e2,e3,e6,fun i e kx a b=>⟨(e4 i e kx a b).1,(e4 i e kx a b).2.1,(e4 i e kx a b).2.2.mono (Le.push g hg o)⟩⟩
def G.add(g:G)(l:Option Loc)(o:ay):G:=⟨g.w,g.fr,g.env++[l],g.objs++[o]⟩
theorem aU{α:Type}{l:List α}{x:α}{i:Nat}{y:α}(h:(l++[x])[i]?=some y):l[i]?=some y∨(i=l.length∧y=x):=by
 rw[List.getElem?_append]at h;split at h
 ·exact .inl h
 rename_i hh;have:i-l.length<1:=by
  rcases Nat.lt_or_ge (i-l.length) 1 with q|q
  ·exact q
  rw[List.getElem?_eq_none (by simpa using q)]at h;cases h
 have e:i=l.length:=by omega
 subst e;simp at h;exact .inr ⟨rfl,h.symm⟩
theorem dn{α:Type}{l:List α}{x:α}{i:Nat}{y:α}(h:l[i]?=some y):(l++[x])[i]?=some y:=by
 rw[List.getElem?_append,if_pos (ag h)];exact h
theorem kd.add{g:G}(hg:Good g){l:Option Loc}{o:ay}{b off:Nat}(h:kd (g.add l o) b off):kd g b off∨∃l',l=some l'∧o.live∧l'.block=b∧l'.lo<=off:=by
 obtain⟨id,l',o',h1,h2,h3,h4,h5⟩:=h;rcases aU h1 with q1|⟨q1,QW⟩
 ·rcases aU h2 with q2|⟨q2,My⟩
  ·exact .inl ⟨id,l',o',q1,q2,h3,h4,h5⟩
  have:=ag q1;have:=hg.len;omega
 rcases aU h2 with q2|⟨q2,My⟩
 ·have:=ag q2;have:=hg.len;omega
 subst My;exact .inr ⟨l',QW.symm,h3,h4,h5⟩
theorem gv.add{g:G}(hg:Good g){l:Option Loc}{o:ay}{b:Nat}(h:gv (g.add l o) b):gv g b∨∃l',l=some l'∧o.live∧l'.block=b:=by
 obtain⟨id,l',o',h1,h2,h3,h4⟩:=h;rcases kd.add hg ⟨id,l',o',h1,h2,h3,h4,Nat.le_refl _⟩with q|⟨q,q1,q2,q3,_⟩
 ·exact .inl q.block
 exact .inr ⟨q,q1,q2,q3⟩
def mz:Obj->Nat
 | .cells arr _=>arr.size
 | _=>0
def G.alloc(g:G)(ob:Obj)(lo:Nat)(o:ay):G:=⟨g.w.alloc ob,g.fr,g.env++[some ⟨g.w.heap.size,lo,mz ob⟩],g.objs++[o]⟩
def G.mark(g:G)(o:ay):G:=⟨g.w,g.fr,g.env++[none],g.objs++[o]⟩
theorem Le.GK{g g':G}(hg:Good g)(l:Option Loc)(o:ay)(h:Le g g')(he:g'.env=g.env)(ho:g'.objs=g.objs)
  (hn:∀l',l=some l'->g.w.heap.size<=l'.block):Le g (g'.add l o) where
 os:=h.os
 tape:=h.tape
 output:=h.output
 fr:=h.fr
 size:=h.size
 block:=fun k hk hh=>⟨(h.block k hk hh).1,fun q=>by
  obtain⟨id,l',o',h1,h2,h3,h4⟩:=q;rw[show(g'.add l o).env=g.env++[l] by simp[G.add,he]]at h1;rw[show(g'.add l o).objs=g.objs++[o] by simp[G.add,ho]]at h2;rcases gv.add (l:=l) (o:=o) (b:=k) hg ⟨id,l',o',h1,h2,h3,h4⟩with q|⟨l',q1,_,q3⟩
  ·exact hh q
  have:=hn l' q1;omega⟩
 cell:=fun b off x hx hh=>⟨(h.cell b off x hx hh).1,fun q=>by
  obtain⟨id,l',o',h1,h2,h3,h4⟩:=q;rw[show(g'.add l o).env=g.env++[l] by simp[G.add,he]]at h1;rw[show(g'.add l o).objs=g.objs++[o] by simp[G.add,ho]]at h2;have hk:=tV hx;rcases kd.add (l:=l) (o:=o) (b:=b) (off:=off) hg ⟨id,l',o',h1,h2,h3,h4⟩with q|⟨l',q1,_,q3,_⟩
  ·exact hh q
  have:=hn l' q1;omega⟩
 len:=by simp[G.add,ho]
 spare:=fun id m hm=>.inl ⟨m,by simp only[G.add,ho];exact dn hm,Nat.le_refl _⟩
 plain:=fun id o' kY k=>⟨⟨o',by simp only[G.add,ho];exact dn kY,k⟩,by
  have aN:=ag kY;simp only[G.add,he];rw[List.getElem?_append,if_pos (by have:=hg.len;omega)]⟩
 gone:=fun id hm=>by simp only[G.add,ho];exact dn hm
 tok:=fun id m hm _=>⟨by
  have aN:=ag hm;simp only[G.add,he];rw[List.getElem?_append,if_pos (by have:=hg.len;omega)],fun l hl=>(h.tok id m hm (by rw[ho];exact hm)).2 l hl⟩
theorem Le.alloc{g:G}(hg:Good g)(ob:Obj)(lo:Nat)(o:ay):Le g (g.alloc ob lo o) :=
 Le.GK (g':=g.push ob) hg (some ⟨g.w.heap.size,lo,mz ob⟩) o (Le.push g hg ob) rfl rfl (fun l' h=>by simp at h;subst h;exact Nat.le_refl _)
theorem Le.mark{g:G}(hg:Good g)(o:ay):Le g (g.mark o) :=
 Le.GK (g':=g) hg none o (Le.refl g) rfl rfl (fun l' h=>by simp at h)
def Fits(g':G)(ob:Obj)(o:ay):Prop :=
 match o with
 | .cells cs=>∃(arr:Array Value) (t:TypeId),ob=.cells arr t (0,0)∧cs.length<=arr.size∧(∀(j:Nat) (c:ae) (u:Value),cs[j]?=some c->arr[j]?=some u->RV g' c u)∧∀c∈cs,c.scalar
 | .spare _=>∃(arr:Array Value) (t:TypeId),ob=.cells arr t (0,0)
 | .map kt es=>∃(arr:Array MapEntry) (clk:Nat),ob=.map arr clk∧arr.size=es.length∧(∀p∈es,kt.ok p.1) ∧
   ∀(i:Nat) (e:MapEntry) (kx:Value×ae),arr[i]?=some e->es[i]?=some kx->e.key=kx.1∧mi kx.1∧RV g' kx.2 e.val
 | .gone=>True
theorem Good.alloc{g:G}(hg:Good g)(ob:Obj)(lo:Nat)(o:ay)(kp:o.aP∨lo=0)(hf:Fits (g.alloc ob lo o) ob o):Good (g.alloc ob lo o) where
 frlt:=fun b off h=>by
  have:=hg.frlt b off h;show b<(g.w.heap.push ob).size;rw[Array.size_push];omega
 fU:=fun id l o' a b c off hf=>by
  rcases aU a with a|⟨a,a'⟩
  ·rcases aU b with b|⟨b,b'⟩
   ·exact hg.fU id l o' a b c off hf
   have:=ag a;have:=hg.len;omega
  simp only[Option.some.injEq]at a';subst a';have fA:g.fr g.w.heap.size off:=hf;have:=hg.frlt _ _ fA;omega
 len:=by simp[G.alloc,hg.len]
 loc:=fun id l o' a b c=>by
  show l.block<(g.w.heap.push ob).size;rw[Array.size_push];rcases aU a with a|⟨a,a'⟩
  ·rcases aU b with b|⟨b,b'⟩
   ·have:=hg.loc id l o' a b c;omega
   have:=ag a;have:=hg.len;omega
  simp only[Option.some.injEq]at a';subst a';show g.w.heap.size<_;omega
 apart:=fun id oP l l' o' SM a b c a' b' c' hb=>by
  rcases aU a with a|⟨a1,a2⟩
  ·rcases aU a' with a'|⟨Vd,Q8⟩
   ·rcases aU b with b|⟨b1,b2⟩
    ·rcases aU b' with b'|⟨Ve,Vf⟩
     ·exact hg.apart id oP l l' o' SM a b c a' b' c' hb
     have:=ag a';have:=hg.len;omega
    have:=ag a;have:=hg.len;omega
   simp only[Option.some.injEq]at Q8;subst Q8;rcases aU b with b|⟨b1,b2⟩
   ·have:=hg.loc id l o' a b c;simp at hb;omega
   have:=ag a;have:=hg.len;omega
  rcases aU a' with a'|⟨Vd,Q8⟩
  ·simp only[Option.some.injEq]at a2;subst a2;rcases aU b' with b'|⟨Ve,Vf⟩
   ·have:=hg.loc oP l' SM a' b' c';simp at hb;omega
   have:=ag a';have:=hg.len;omega
  omega
 cells:=fun id cs h=>by
  rcases aU h with h|⟨hq,h'⟩
  ·obtain⟨l,arr,t,e1,e0,e2,e3,e4,e5⟩:=hg.cells id cs h;exact⟨l,arr,t,dn e1,e0,(dC _ _ (bj e2)).trans e2,e3,fun j c u a b=>(e4 j c u a b).mono (Le.alloc hg ob lo o),e5⟩
  subst h';obtain⟨arr,t,e1,e2,e3,e4⟩:=hf;refine⟨⟨g.w.heap.size,lo,mz ob⟩,arr,t,?_,?_,?_,e2,e3,e4,by rw[e1];exact Nat.le_refl _⟩
  ·subst hq;simp only[G.alloc];rw[<-hg.len];simp
  ·rcases kp with q|q
   ·exact q.elim
   exact q
  rw[<-e1];exact dx _ _
 spare:=fun id m l a b=>by
  rcases aU a with a|⟨a,a'⟩
  ·rcases aU b with b|⟨b1,b2⟩
   ·obtain⟨arr,t,e⟩:=hg.spare id m l a b;exact⟨arr,t,(dC _ _ (bj e)).trans e⟩
   have:=ag a;have:=hg.len;omega
  rcases aU b with b|⟨b1,b2⟩
  ·have:=ag b;have:=hg.len;omega
  subst a';simp only[Option.some.injEq]at b2;subst b2;obtain⟨arr,t,e⟩:=hf;exact⟨arr,t,by rw[<-e];exact dx _ _⟩
 map:=fun id kt es h=>by
  rcases aU h with h|⟨hq,h'⟩
  ·obtain⟨l,arr,clk,e1,e0,e2,e3,e6,e4⟩:=hg.map id kt es h;exact⟨l,arr,clk,dn e1,e0,(dC _ _ (bj e2)).trans e2,e3,e6,fun i e kx a b=>⟨(e4 i e kx a b).1,(e4 i e kx a b).2.1,(e4 i e kx a b).2.2.mono (Le.alloc hg ob lo o)⟩⟩
  subst h';obtain⟨arr,clk,e1,e2,e3⟩:=hf;refine⟨⟨g.w.heap.size,lo,mz ob⟩,arr,clk,?_,?_,?_,e2,e3⟩
  ·subst hq;simp only[G.alloc];rw[<-hg.len];simp
  ·rcases kp with q|q
   ·exact q.elim
   exact q
  rw[<-e1];exact dx _ _
theorem Good.mark{g:G}(hg:Good g)(m:Nat):Good (g.mark (.spare m)) where
 frlt:=hg.frlt
 fU:=fun id l o' a b c off hf=>by
  rcases aU a with a|⟨a,a'⟩
  ·rcases aU b with b|⟨b,b'⟩
   ·exact hg.fU id l o' a b c off hf
   have:=ag a;have:=hg.len;omega
  cases a'
 len:=by simp[G.mark,hg.len]
 loc:=fun id l o' a b c=>by
  rcases aU a with a|⟨a,a'⟩
  ·rcases aU b with b|⟨b,b'⟩
   ·exact hg.loc id l o' a b c
   have:=ag a;have:=hg.len;omega
  cases a'
 apart:=fun id oP l l' o' SM a b c a' b' c' hb=>by
  rcases aU a with a|⟨a1,a2⟩
  ·rcases aU a' with a'|⟨Vd,Q8⟩
   ·rcases aU b with b|⟨b1,b2⟩
    ·rcases aU b' with b'|⟨Ve,Vf⟩
     ·exact hg.apart id oP l l' o' SM a b c a' b' c' hb
     have:=ag a';have:=hg.len;omega
    have:=ag a;have:=hg.len;omega
   cases Q8
  cases a2
 cells:=fun id cs h=>by
  rcases aU h with h|⟨h,h'⟩
  ·obtain⟨l,arr,t,e1,e0,e2,e3,e4,e5⟩:=hg.cells id cs h;exact⟨l,arr,t,dn e1,e0,e2,e3,fun j c u a b=>(e4 j c u a b).mono (Le.mark hg _),e5⟩
  cases h'
 spare:=fun id m' l a b=>by
  rcases aU b with b|⟨b1,b2⟩
  ·rcases aU a with a|⟨a,a'⟩
   ·exact hg.spare id m' l a b
   have:=ag b;have:=hg.len;omega
  cases b2
 map:=fun id kt es h=>by
  rcases aU h with h|⟨h,h'⟩
  ·obtain⟨l,arr,clk,e1,e0,e2,e3,e6,e4⟩:=hg.map id kt es h;exact⟨l,arr,clk,dn e1,e0,e2,e3,e6,fun i e kx a b=>⟨(e4 i e kx a b).1,(e4 i e kx a b).2.1,(e4 i e kx a b).2.2.mono (Le.mark hg _)⟩⟩
  cases h'
def G.bO(g:G)(id:Nat)(l':Option Loc)(o':ay)(w':World):G:=⟨w',g.fr,g.env.set id l',g.objs.set id o'⟩
structure oe(g:G)(id:Nat)(o:ay)(l':Option Loc)(o':ay)(w':World):Prop where
 obj:g.objs[id]?=some o
 os:w'.os=g.w.os
 tape:w'.tape=g.w.tape
 output:w'.output=g.w.output
 size:g.w.heap.size<=w'.heap.size
 block:∀k,k<g.w.heap.size->(∀l:Loc,g.env[id]?=some (some l)->o.live->l.block≠k)->w'.heap[k]?=g.w.heap[k]?
 cell:∀b off x,g.cell b off=some x->(∀l:Loc,g.env[id]?=some (some l)->o.live->l.block=b->off<l.lo)->w'.cell? ⟨b,off,none⟩=some x
 place:∀l1:Loc,l'=some l1->o'.live->g.w.heap.size<=l1.block∨∃l:Loc,g.env[id]?=some (some l)∧o.live∧l.block=l1.block∧l.lo<=l1.lo
 spare:∀m,o=.spare m->(∃m',o'=.spare m'∧m<m')∨¬o'.aP
 plain:¬o.aP->¬o'.aP∧g.env[id]?=some l'
 gone:o≠.gone
theorem kK{g:G}(hg:Good g){id:Nat}{o:ay}(h:g.objs[id]?=some o):id<g.env.length:=by
 have:=ag h;have:=hg.len;omega
theorem kd.bO{g:G}{id:Nat}{o:ay}{l':Option Loc}{o':ay}{w':World}(hg:Good g)(ht:oe g id o l' o' w'){b off:Nat}(h:kd (g.bO id l' o' w') b off) :
  kd g b off∨g.w.heap.size<=b:=by
 obtain⟨i,l1,o1,h1,h2,h3,h4,h5⟩:=h;simp only[G.bO]at h1 h2;by_cases e:id=i
 ·subst e;rw[List.getElem?_set_self (kK hg ht.obj)]at h1;rw[List.getElem?_set_self (ag ht.obj)]at h2;simp only[Option.some.injEq]at h1 h2;subst h2;rcases ht.place l1 h1 h3 with q|⟨l,q1,q2,q3,q4⟩
  ·exact .inr (h4 ▸ q)
  exact .inl ⟨id,l,o,q1,ht.obj,q2,q3.trans h4,Nat.le_trans q4 h5⟩
 rw[List.getElem?_set_ne e]at h1 h2;exact .inl ⟨i,l1,o1,h1,h2,h3,h4,h5⟩
theorem gv.bO{g:G}{id:Nat}{o:ay}{l':Option Loc}{o':ay}{w':World}(hg:Good g)(ht:oe g id o l' o' w'){b:Nat}(h:gv (g.bO id l' o' w') b) :
  gv g b∨g.w.heap.size<=b:=by
 obtain⟨i,l1,o1,h1,h2,h3,h4⟩:=h;rcases kd.bO hg ht ⟨i,l1,o1,h1,h2,h3,h4,Nat.le_refl _⟩with q|q
 ·exact .inl q.block
 exact .inr q
theorem Le.bO{g:G}{id:Nat}{o:ay}{l':Option Loc}{o':ay}{w':World}(hg:Good g)(ht:oe g id o l' o' w'):Le g (g.bO id l' o' w') where
 os:=ht.os
 tape:=ht.tape
 output:=ht.output
 fr:=rfl
 size:=ht.size
 block:=fun k hk hn=>⟨ht.block k hk fun l hl lU e=>hn ⟨id,l,o,hl,ht.obj,lU,e⟩,fun hh=>by
  rcases gv.bO hg ht hh with q|q
  ·exact hn q
  omega⟩
 cell:=fun b off x hx hn=>⟨ht.cell b off x hx fun l hl lU e=>by
   rcases Nat.lt_or_ge off l.lo with q|q
   ·exact q
   exact absurd ⟨id,l,o,hl,ht.obj,lU,e,q⟩ hn,fun hh=>by
  rcases kd.bO hg ht hh with q|q
  ·exact hn q
  have:=tV hx;omega⟩
 len:=by simp[G.bO]
 spare:=fun i m hm=>by
  by_cases e:id=i
  ·subst e;have eS:=hm.symm.trans ht.obj;simp only[Option.some.injEq]at eS;rcases ht.spare m eS.symm with⟨m',q1,q2⟩|q1
   ·exact .inl ⟨m',by simp only[G.bO];rw[List.getElem?_set_self (ag ht.obj),q1],by omega⟩
   exact .inr ⟨o',by simp only[G.bO];rw[List.getElem?_set_self (ag ht.obj)],q1⟩
  exact .inl ⟨m,by simp only[G.bO];rw[List.getElem?_set_ne e];exact hm,Nat.le_refl _⟩
 plain:=fun i o1 ho hn=>by
  by_cases e:id=i
  ·subst e;have kY:=ho.symm.trans ht.obj;simp only[Option.some.injEq]at kY;subst kY;obtain⟨q1,q2⟩:=ht.plain hn;exact⟨⟨o',by simp only[G.bO];rw[List.getElem?_set_self (ag ht.obj)],q1⟩,by simp only[G.bO];rw[List.getElem?_set_self (kK hg ht.obj),q2]⟩
  exact⟨⟨o1,by simp only[G.bO];rw[List.getElem?_set_ne e];exact ho,hn⟩,by simp only[G.bO];rw[List.getElem?_set_ne e]⟩
 gone:=fun i hi=>by
  by_cases e:id=i
  ·subst e;have:=hi.symm.trans ht.obj;simp only[Option.some.injEq]at this;exact absurd this.symm ht.gone
  simp only[G.bO];rw[List.getElem?_set_ne e];exact hi
 tok:=fun i m hm eS=>by
  by_cases e:id=i
  ·subst e;have h1:=hm.symm.trans ht.obj;simp only[Option.some.injEq]at h1;simp only[G.bO]at eS;rw[List.getElem?_set_self (ag ht.obj)]at eS;simp only[Option.some.injEq]at eS;rcases ht.spare m h1.symm with⟨m',q1,q2⟩|q1
   ·rw[q1]at eS;simp only[ay.spare.injEq]at eS;omega
   exact absurd (eS ▸ trivial) q1
  refine⟨by simp only[G.bO];rw[List.getElem?_set_ne e],fun l hl=>ht.block _ (hg.loc i l _ hl hm trivial) fun l1 Ot lU eb=>?_⟩;exact e (hg.apart id i l1 l o _ Ot ht.obj lU hl hm trivial eb)
def O7(g':G)(l':Option Loc)(o:ay):Prop :=
 match o with
 | .cells cs=>∃(l:Loc) (arr:Array Value) (t:TypeId),l'=some l∧l.lo=0∧g'.w.heap[l.block]?=some (.cells arr t (0,0))∧cs.length<=arr.size ∧
   (∀(j:Nat) (c:ae) (u:Value),cs[j]?=some c->arr[j]?=some u->RV g' c u)∧(∀c∈cs,c.scalar)∧l.sz<=arr.size
 | .spare _=>∀l,l'=some l->∃(arr:Array Value) (t:TypeId),g'.w.heap[l.block]?=some (.cells arr t (0,0))
 | .map kt es=>∃(l:Loc) (arr:Array MapEntry) (clk:Nat),l'=some l∧l.lo=0∧g'.w.heap[l.block]?=some (.map arr clk)∧arr.size=es.length∧(∀p∈es,kt.ok p.1) ∧
   ∀(i:Nat) (e:MapEntry) (kx:Value×ae),arr[i]?=some e->es[i]?=some kx->e.key=kx.1∧mi kx.1∧RV g' kx.2 e.val
 | .gone=>True
theorem Good.bO{g:G}{id:Nat}{o:ay}{l':Option Loc}{o':ay}{w':World}(hg:Good g)(ht:oe g id o l' o' w')(hf:O7 (g.bO id l' o' w') l' o')
  (dk:∀l1,l'=some l1->o'.live->l1.block<w'.heap.size):Good (g.bO id l' o' w'):=by
 have hle:=Le.bO hg ht;have AE:∀i l1,i≠id->(g.bO id l' o' w').env[i]?=some (some l1)->g.env[i]?=some (some l1):=fun i l1 cA h=>by
  simp only[G.bO]at h
  rwa [List.getElem?_set_ne (Ne.symm cA)]at h
 have fk:∀i o1,i≠id->(g.bO id l' o' w').objs[i]?=some o1->g.objs[i]?=some o1:=fun i l1 cA h=>by
  simp only[G.bO]at h
  rwa [List.getElem?_set_ne (Ne.symm cA)]at h
 have AF:∀l1,(g.bO id l' o' w').env[id]?=some l1->l'=l1:=fun l1 h=>by
  simp only[G.bO]at h;rw[List.getElem?_set_self (kK hg ht.obj)]at h;simpa using h
 have gz:∀o1,(g.bO id l' o' w').objs[id]?=some o1->o'=o1:=fun l1 h=>by
  simp only[G.bO]at h;rw[List.getElem?_set_self (ag ht.obj)]at h;simpa using h
 have yE:∀i l1 o1,i≠id->g.env[i]?=some (some l1)->g.objs[i]?=some o1->o1.live->w'.heap[l1.block]?=g.w.heap[l1.block]?:=fun i l1 o1 cA h1 h2 h3 =>
  ht.block _ (hg.loc i l1 o1 h1 h2 h3) fun l2 sc lU eb=>cA (hg.apart id i l2 l1 o o1 sc ht.obj lU h1 h2 h3 eb).symm
 refine⟨fun b off h=>Nat.lt_of_lt_of_le (hg.frlt b off h) ht.size,?_,?_,?_,?_,?_,?_,?_⟩
 ·intro i l1 o1 h1 h2 h3 off GD;have ni:g.fr l1.block off:=GD;by_cases e:i=id
  ·subst e;have q1:=AF _ h1;have q2:=gz _ h2;subst q2;rcases ht.place l1 q1 h3 with q|⟨l,p1,p2,p3,_⟩
   ·have:=hg.frlt _ _ ni;omega
   exact hg.fU i l o p1 ht.obj p2 off (p3 ▸ ni)
  exact hg.fU i l1 o1 (AE i l1 e h1) (fk i o1 e h2) h3 off ni
 ·simp[G.bO,hg.len]
 ·intro i l1 o1 h1 h2 h3;by_cases e:i=id
  ·subst e;have:=AF _ h1;have:=gz _ h2;subst this;exact dk l1 (by assumption) h3
  have:=hg.loc i l1 o1 (AE i l1 e h1) (fk i o1 e h2) h3;exact Nat.lt_of_lt_of_le this ht.size
 ·intro i j l1 l2 o1 o2 h1 h2 h3 k1 k2 k3 hb;by_cases e:i=id
  ·by_cases e':j=id
   ·omega
   subst e;have q1:=AF _ h1;have q2:=gz _ h2;subst q2;have r1:=AE j l2 e' k1;have r2:=fk j o2 e' k2;rcases ht.place l1 q1 h3 with q|⟨l,p1,p2,p3,_⟩
   ·have:=hg.loc j l2 o2 r1 r2 k3;omega
   exact hg.apart i j l l2 o o2 p1 ht.obj p2 r1 r2 k3 (p3.trans hb)
  by_cases e':j=id
  ·subst e';have q1:=AF _ k1;have q2:=gz _ k2;subst q2;have r1:=AE i l1 e h1;have r2:=fk i o1 e h2;rcases ht.place l2 q1 k3 with q|⟨l,p1,p2,p3,_⟩
   ·have:=hg.loc i l1 o1 r1 r2 h3;omega
   exact hg.apart i j l1 l o1 o r1 r2 h3 p1 ht.obj p2 (hb.trans p3.symm)
  exact hg.apart i j l1 l2 o1 o2 (AE i l1 e h1) (fk i o1 e h2) h3 (AE j l2 e' k1) (fk j o2 e' k2) k3 hb
 ·intro i cs h;by_cases e:i=id
  ·subst e;have q:=gz _ h;subst q;obtain⟨l,arr,t,p1,p2,p3,p4,p5,p6⟩:=hf;exact⟨l,arr,t,by simp only[G.bO];rw[List.getElem?_set_self (kK hg ht.obj),p1],p2,p3,p4,p5,p6⟩
  obtain⟨l,arr,t,p1,p2,p3,p4,p5,p6⟩:=hg.cells i cs (fk i _ e h);exact⟨l,arr,t,by simp only[G.bO];rw[List.getElem?_set_ne (Ne.symm e)];exact p1,p2,(yE i l _ e p1 (fk i _ e h) trivial).trans p3,p4,fun j c u a b=>(p5 j c u a b).mono hle,p6⟩
 ·intro i m l1 h h1;by_cases e:i=id
  ·subst e;have q:=gz _ h;subst q;exact hf l1 (AF _ h1)
  obtain⟨arr,t,p⟩:=hg.spare i m l1 (fk i _ e h) (AE i l1 e h1);exact⟨arr,t,(yE i l1 _ e (AE i l1 e h1) (fk i _ e h) trivial).trans p⟩
 intro i kt es h;by_cases e:i=id
 ·subst e;have q:=gz _ h;subst q;obtain⟨l,arr,clk,p1,p2,p3,p4,p6,p5⟩:=hf;exact⟨l,arr,clk,by simp only[G.bO];rw[List.getElem?_set_self (kK hg ht.obj),p1],p2,p3,p4,p6,p5⟩
 obtain⟨l,arr,clk,p1,p2,p3,p4,p6,p5⟩:=hg.map i kt es (fk i _ e h);exact⟨l,arr,clk,by simp only[G.bO];rw[List.getElem?_set_ne (Ne.symm e)];exact p1,p2,(yE i l _ e p1 (fk i _ e h) trivial).trans p3,p4,p6,fun j e kx a b=>⟨(p5 j e kx a b).1,(p5 j e kx a b).2.1,(p5 j e kx a b).2.2.mono hle⟩⟩
end Go.Av
namespace Go.Av
inductive TD where
 | other
 | struct (fs:List (Nat×TypeId))
 | slice (e:TypeId)
 | array (n:Nat) (e:TypeId)
 | map (k e:TypeId)
structure cQ where
 size:Nat
 bytes:Nat
 zero:List ae
 desc:TD
def TD.agg:TD->Bool
 | .struct _ | .array _ _=>true
 | _=>false
def sm(d:TypeDesc):TD->Prop
 | .struct fs=>∃fields:Array Field,d=.struct fields∧fields.toList.map (fun f=>(f.offset,f.type))=fs
 | .slice e=>d=.slice e
 | .array n e=>d=.array n e
 | .map k e=>d=.map k e
 | .other=>(match d with | .struct _=>False | .array _ _=>False | _=>True)
structure Dv(P:Program)(t:TypeId)(ti:cQ):Prop where
 info:∃(i:TypeInfo) (z:Value),P.info? t=some i∧i.size=ti.size∧i.bytes=ti.bytes∧i.zero=some z∧z.cells.size=ti.zero.length∧ti.zero.length=ti.size ∧
  ((ti.desc.agg=true->∃cs,z=.agg cs)∧(ti.desc.agg=false->z.cells = #[z]))∧(∀g:G,∀(j:Nat) (c:ae) (u:Value),ti.zero[j]?=some c->z.cells[j]?=some u->RV g c u)∧∀c∈ti.zero,c.scalar
 desc:∃d,P.underlying t=some d∧sm d ti.desc
abbrev fM:=TypeId->Option cQ
def cG(P:Program)(aS:fM):Prop:=∀t ti,aS t=some ti->Dv P t ti
def Lh:IntKind->Int
 | .i8=>-128
 | .i16=>-32768
 | .i32=>-2147483648
 | .i64=>-9223372036854775808
 | _=>0
def FE:IntKind->Int
 | .i8=>127
 | .i16=>32767
 | .i32=>2147483647
 | .i64=>9223372036854775807
 | .u8=>255
 | .u16=>65535
 | .u32=>4294967295
 | .u64=>18446744073709551615
theorem yU(k:IntKind):Lh k=k.min:=by cases k<;>rfl
theorem yH(k:IntKind):FE k=k.max:=by cases k<;>rfl
def sd:Value->Option ae
 | .int k n=>if Lh k<=n∧n<=FE k then some (.v (.int k n))else none
 | .agg _=>none
 | .tuple _=>none
 | x=>some (.v x)
def St.ev(σ:St):Operand->Option ae
 | .tmp t=>σ.get t
 | .const x=>sd x
 | .func f=>some (.fn (.func f) [] [])
 | .global _=>none
theorem Rel.eval{base:G}{σ:St}{a:Act}{g:G}(h:Rel base σ a g){x:Operand}{y:ae}(hx:σ.ev x=some y):RV g y (a.eval x):=by
 cases x with
 | tmp t =>
  obtain⟨u,h1,h2⟩:=h.slot t y hx;have:a.eval (.tmp t)=u:=by simp[Act.eval,Array.getD_eq_getD_getElem?,h1]
  rw[this];exact h2
 | const v =>
  simp only[St.ev]at hx;unfold sd at hx;split at hx
  ·split at hx
   ·rename_i hh;simp only[Option.some.injEq]at hx;subst hx;rw[yU,yH]at hh;exact .v hh
   cases hx
  ·cases hx
  ·cases hx
  rename_i h1 h2 h3;simp only[Option.some.injEq]at hx;subst hx;refine .v ?_;unfold mi;split
  ·rename_i k n;exact absurd rfl (h1 k n)
  ·rename_i cs;exact absurd rfl (h2 cs)
  ·rename_i vs;exact absurd rfl (h3 vs)
  trivial
 | func f =>
  simp only[St.ev,Option.some.injEq]at hx;subst hx;exact .fn rfl rfl (by simp) (by simp)
 | global _=>cases hx
inductive Mode where
 | pure
 | read
 | rd (id:Nat)
 | write (O:List ay)
 | wr (n:Nat) (l:List Nat) (O:List ay)
 | new (id:Nat) (o:ay)
def Mode.post(m:Mode)(O:List ay):List ay :=
 match m with
 | .write O'=>O'
 | .wr _ _ O'=>O'
 | .new id o=>O.set id o
 | _=>O
def Mode.nL(m:Mode)(O O0:List ay):Prop :=
 match m with
 | .pure=>True
 | .rd id=>O[id]?=O0[id]?
 | .new id _=>O[id]?=O0[id]?
 | _=>O=O0
def Mode.ok(m:Mode)(O:List ay):Prop :=
 match m with
 | .wr n l O'=>∀i,i<n->i ∉ l->O'[i]?=O[i]?
 | _=>True
theorem Mode.uk{m:Mode}{O O0:List ay}(h:m=.pure∨O=O0):m.nL O O0:=by
 rcases h with h|h
 ·subst h;trivial
 subst h;cases m<;>first|trivial|rfl
def tR(d:Option Nat)(r:ae)(l:List (Nat×ae)):List (Nat×ae) :=
 match d with
 | some d=>cq d r l
 | none=>l
def Cert(P:Program)(o:Oper)(r9:St)(r:ae)(m:Mode):Prop :=
 m.ok r9.objs∧∀(base:G) (σ:St) (a:Act) (g:G),Rel base σ a g->σ.n=r9.n->(∀x∈o.op.operands,∀y,r9.ev x=some y->σ.ev x=some y)->m.nL σ.objs r9.objs ->
  ∀(K:Act->World->Prop) (Q:Exit->Act->World->Prop),(∀u g',Rel base ⟨σ.n,tR o.dst r σ.bC,m.post σ.objs⟩ (a.put o.dst u) g'->K (a.put o.dst u) g'.w)->o.wp P a g.w K Q
theorem Cert.D1{P:Program}{o:Oper}{r9:St}{r:ae}{m:Mode}(jh:m.ok r9.objs)(hd:∀d,o.dst=some d->d<r9.n)
  (h:∀(base:G) (σ:St) (a:Act) (g:G),Rel base σ a g->(∀x∈o.op.operands,∀y,r9.ev x=some y->RV g y (a.eval x))->m.nL g.objs r9.objs ->
   ∃u g',((execOp a.eval o).run P g.w=.ok (.value u) g'.w∨(o.dst=none∧(execOp a.eval o).run P g.w=.ok .skip g'.w))∧Le g g'∧Good g'∧g'.objs=m.post g.objs∧RV g' r u):Cert P o r9 r m:=by
 refine⟨jh,?_⟩;intro base σ a g cu hn nW hm K Q hK;obtain⟨u,g',bS,hle,fg,Sh,yL⟩:=h base σ a g cu (fun x hx y hy=>cu.eval (nW x hx y hy)) (by rw[cu.objs];exact hm);have key:Rel base ⟨σ.n,tR o.dst r σ.bC,m.post σ.objs⟩ (a.put o.dst u) g':=by
  have e:g'.objs=m.post σ.objs:=by rw[Sh,cu.objs]
  cases mj:o.dst with
  | none =>
   have:=cu.step hle fg;rw[e]at this;exact this
  | some d =>
   have:=cu.put hle fg (d:=d) (by rw[hn];exact hd d mj) yL;rw[e]at this;exact this
 unfold Oper.wp;rcases bS with bS|⟨RM,bS⟩
 ·rw[bS,Oper.upon_value];exact hK u g' key
 rw[bS,Oper.upon_skip];have:=hK u g' key;rw[RM]at this ⊢;exact this
def Mode.plain:Mode->Prop
 | .rd _=>False
 | .wr _ _ _=>False
 | .new _ _=>False
 | _=>True
theorem Mode.A4{m:Mode}(hp:m.plain){O O0:List ay}(h:m.nL O O0):m=.pure∨O=O0:=by
 cases m<;>first|exact .inl rfl|exact .inr h|exact hp.elim
theorem Cert.jI{P:Program}{o:Oper}{r9:St}{r:ae}{m:Mode}(hd:∀d,o.dst=some d->d<r9.n)
  (h:∀(base:G) (σ:St) (a:Act) (g:G),Rel base σ a g->(∀x∈o.op.operands,∀y,r9.ev x=some y->RV g y (a.eval x))->(m=.pure∨g.objs=r9.objs) ->
   ∃u g',((execOp a.eval o).run P g.w=.ok (.value u) g'.w∨(o.dst=none∧(execOp a.eval o).run P g.w=.ok .skip g'.w))∧Le g g'∧Good g'∧g'.objs=m.post g.objs∧RV g' r u) (hp:m.plain:=by trivial):Cert P o r9 r m :=
 Cert.D1 (by cases m<;>first|trivial|exact hp.elim) hd fun base σ a g cu nW hm=>h base σ a g cu nW (m.A4 hp hm)
theorem Cert.close{P:Program}{o:Oper}{r9:St}{r:ae}{O':List ay}(h:Cert P o r9 r (.write O')){n:Nat}{l:List Nat}(hk:∀i,i<n->i ∉ l->O'[i]?=r9.objs[i]?):Cert P o r9 r (.wr n l O'):=⟨hk,h.2⟩
theorem Cert.bZ{P:Program}{o:Oper}{r9:St}{r:ae}(m:Mode)(hm:m=.pure∨m=.read)(hd:∀d,o.dst=some d->d<r9.n)
  (h:∀(a:Act) (g:G),Good g->(∀x∈o.op.operands,∀y,r9.ev x=some y->RV g y (a.eval x))->(m=.pure∨g.objs=r9.objs) ->
   ∃u,(execOp a.eval o).run P g.w=.ok (.value u) g.w∧RV g r u):Cert P o r9 r m :=
 Cert.jI (hp:=by rcases hm with hm|hm<;>subst hm<;>trivial) hd fun base σ a g cu nW ho=>by
  obtain⟨u,h1,h2⟩:=h a g cu.good nW ho;refine⟨u,g,.inl h1,Le.refl g,cu.good,?_,h2⟩;rcases hm with hm|hm<;>subst hm<;>rfl
theorem Cert.Qb{P:Program}{o:Oper}{r9:St}{r:ae}{id:Nat}(hd:∀d,o.dst=some d->d<r9.n)
  (h:∀(a:Act) (g:G),Good g->(∀x∈o.op.operands,∀y,r9.ev x=some y->RV g y (a.eval x))->g.objs[id]?=r9.objs[id]? ->
   ∃u,(execOp a.eval o).run P g.w=.ok (.value u) g.w∧RV g r u):Cert P o r9 r (.rd id) :=
 Cert.D1 trivial hd fun base σ a g cu nW ho=>by
  obtain⟨u,h1,h2⟩:=h a g cu.good nW ho;exact⟨u,g,.inl h1,Le.refl g,cu.good,rfl,h2⟩
theorem addr_add(b off j:Nat):(⟨b,off,none⟩:Addr).add j=⟨b,off+j,none⟩:=by
 unfold Addr.add;split
 ·rename_i h;subst h;rfl
 rfl
section
variable {P:Program} {t:TypeId} {ti:cQ}
theorem Dv.sizeOf(h:Dv P t ti)(w:World):(Go.sizeOf t).run P w=.ok ti.size w:=by
 obtain⟨⟨i,z,h1,h2,_⟩,_⟩:=h;simp[Go.sizeOf,typeInfo,h1,h2]
theorem Dv.isAgg(h:Dv P t ti)(w:World):(Go.isAgg t).run P w=.ok ti.desc.agg w:=by
 obtain⟨_,d,h1,h2⟩:=h;simp only[Go.isAgg,Go.underlying,Sem.run_bind,run_program,Result.andThen_ok,h1];cases hd:ti.desc<;>rw[hd]at h2<;>simp only[sm]at h2
 ·cases d<;>simp_all [TD.agg]
 ·obtain⟨fs,h3,_⟩:=h2;subst h3;simp[TD.agg]
 ·subst h2;simp[TD.agg]
 ·subst h2;simp[TD.agg]
 subst h2;simp[TD.agg]
theorem Dv.zeroValue(h:Dv P t ti):∃z,(∀w,(Go.zeroValue t).run P w=.ok z w)∧z.cells.size=ti.zero.length∧ti.zero.length=ti.size∧(ti.desc.agg=true->∃cs,z=.agg cs) ∧
  (∀g:G,∀(j:Nat) (c:ae) (u:Value),ti.zero[j]?=some c->z.cells[j]?=some u->RV g c u)∧∀c∈ti.zero,c.scalar:=by
 obtain⟨⟨i,z,h1,h2,h3,h4,h5,h6,h7,h8,h9⟩,_⟩:=h;exact⟨z,fun w=>by simp[Go.zeroValue,typeInfo,h1,h4],h5,h6,h7.1,h8,h9⟩
theorem Dv.oQ(h:Dv P t ti)(fv:ti.desc.agg=true)(w:World)(b off:Nat)(f:Nat->Value)(hc:∀j,j<ti.size->w.cell? ⟨b,off+j,none⟩=some (f j)) :
  (loadVar t ⟨b,off,none⟩).run P w=.ok (.agg ((List.range ti.size).map f).toArray) w:=by
 have hl:=run_loadCells (P:=P) w ⟨b,off,none⟩ ti.size f (fun j hj=>by rw[addr_add];exact hc j hj);simp[loadVar,h.isAgg,h.sizeOf,fv,hl]
theorem Dv.ns(h:Dv P t ti)(fv:ti.desc.agg=false)(w:World)(a:Addr)(u:Value)(hc:w.cell? a=some u):(loadVar t a).run P w=.ok u w:=by
 simp[loadVar,h.isAgg,fv,hc]
end
theorem pD(k:IntKind)(n:Int)(h1:k.min<=n)(h2:n<=k.max):k.wrap n=n:=by
 cases k<;>simp[IntKind.min,IntKind.max,IntKind.wrap,IntKind.bits,IntKind.signed]at *<;>omega
theorem RV.jd{g:G}{x:ae}{u:Value}(h:RV g x u)(hs:x.scalar):u.oneCell'=true∧u.cells = #[u]:=by
 cases h with
 | v hx =>
  cases u<;>simp[mi]at hx<;>simp[Value.oneCell',Value.cells]
 | agg=>exact hs.elim
 | c5=>exact hs.elim
 | nil=>simp[Value.oneCell',Value.cells]
 | aC=>simp[Value.oneCell',Value.cells]
 | ip=>simp[Value.oneCell',Value.cells]
 | mp=>simp[Value.oneCell',Value.cells]
 | ms=>simp[Value.oneCell',Value.cells]
 | os=>simp[Value.oneCell',Value.cells]
 | raw=>simp[Value.oneCell',Value.cells]
 | mm=>simp[Value.oneCell',Value.cells]
 | im=>simp[Value.oneCell',Value.cells]
 | fn=>simp[Value.oneCell',Value.cells]
theorem RV.cells{g:G}{x:ae}{u:Value}(h:RV g x u)(hs:∀c∈x.cells,c.scalar):u.cells.size=x.cells.length∧∀(j:Nat) (c:ae) (e:Value),x.cells[j]?=some c->u.cells[j]?=some e->RV g c e:=by
 by_cases hx:x.scalar
 ·have:=(h.jd hx).2;have hc:x.cells=[x]:=by
   cases x<;>simp[ae.scalar]at hx<;>rfl
  rw[this,hc];refine⟨rfl,fun j c e h1 h2=>?_⟩
  match j,h1,h2 with
  | 0,h1,h2 =>
   simp at h1 h2;subst h1;subst h2;exact h
 cases h with
 | agg hl en hh=>exact⟨hl,hh⟩
 | c5=>exact absurd (hs _ (List.mem_singleton.2 rfl)) (by simp[ae.scalar])
 | _=>exact absurd trivial hx
theorem w5{α:Type}(l:List α)(n:Nat)(f:Nat->α)(hn:l.length=n)(h:∀j,j<n->l[j]?=some (f j)):(List.range n).map f=l:=by
 apply List.ext_getElem?;intro i;rcases Nat.lt_or_ge i n with hi|hi
 ·rw[h i hi];simp[hi]
 rw[List.getElem?_eq_none (by simpa using hi),List.getElem?_eq_none (by omega)]
theorem RV.ofRow{g:G}(cs:List ae)(f:Nat->Value)(en:∀c∈cs,c.scalar)(hr:∀(j:Nat)(c:ae),cs[j]?=some c->RV g c (f j)):RV g (.agg cs) (.agg ((List.range cs.length).map f).toArray) :=
 .agg (by simp) en fun i c u h1 h2=>by
  have hi:=ag h1;simp[hi]at h2;subst h2;exact hr i c h1
theorem RV.cL{g:G}{x u:Value}(h:RV g (.v x) u):u=x∧mi x:=by
 cases h with
 | v h=>exact⟨rfl,h⟩
theorem RV.qp{g:G}{oa:Option Addr}{cs:List ae}{u:Value}(h:RV g (.ip oa cs) u):∃(b off:Nat) (f:Nat->Value),u=.pointer (some ⟨b,off,none⟩)∧(oa=none∨oa=some ⟨b,off,none⟩)∧(∀c∈cs,c.scalar) ∧
  (∀(j:Nat) (c:ae),cs[j]?=some c->g.cell b (off+j)=some (f j)∧¬lD g b (off+j))∧∀(j:Nat) (c:ae),cs[j]?=some c->RV g c (f j):=by
 cases h with
 | ip ha en f hm hr=>exact⟨_,_,f,rfl,ha,en,hm,hr⟩
theorem RV.ny{g:G}{id off:Nat}{u:Value}(h:RV g (.mp id off) u):∃(l:Loc) (o:ay),g.env[id]?=some (some l)∧g.objs[id]?=some o∧¬o.aP∧u=.pointer (some ⟨l.block,off,none⟩):=by
 cases h with
 | mp he ho hn=>exact⟨_,_,he,ho,hn,rfl⟩
theorem RV.qw{g:G}{id off len cap:Nat}{u:Value}(h:RV g (.ms id off len cap) u):∃(l:Loc) (o:ay),g.env[id]?=some (some l)∧g.objs[id]?=some o∧¬o.aP∧len<=cap∧len<=2 ^ 62∧∃iK,cap<=iK∧u=.slice (some ⟨l.block,off,none⟩) len iK:=by
 cases h with
 | ms he ho hn hc nO cZ=>exact⟨_,_,he,ho,hn,hc,cZ,_,nO,rfl⟩
theorem RV.y2{g:G}{id len sz:Nat}{u:Value}(h:RV g (.os id len sz) u):∃(l:Loc) (o:ay) (cap:Nat),g.env[id]?=some (some l)∧g.objs[id]?=some o∧¬o.aP∧len<=cap∧cap*sz<=l.sz∧len<=2 ^ 62∧u=.slice (some ⟨l.block,0,none⟩) len cap:=by
 cases h with
 | os he ho hn hc hb cZ=>exact⟨_,_,_,he,ho,hn,hc,hb,cZ,rfl⟩
theorem RV.Mz{g:G}{sz n id:Nat}{u:Value}(h:RV g (.raw sz n id) u):∃(a:Addr) (cap:Nat),u=.slice (some a) n cap∧n<=cap∧sR g (.tok id) a sz 0 cap:=by
 cases h with
 | raw hn ho=>exact⟨_,_,rfl,hn,ho⟩
theorem RV.CS{g:G}{id:Nat}{u:Value}(h:RV g (.mm id) u):∃(l:Loc) (o:ay),g.env[id]?=some (some l)∧g.objs[id]?=some o∧¬o.aP∧u=.map (some l.block):=by
 cases h with
 | mm he ho hn=>exact⟨_,_,he,ho,hn,rfl⟩
theorem RV.x6{g:G}{cs:List ae}{u:Value}(h:RV g (.agg cs) u):∃vs:Array Value,u=.agg vs∧vs.size=cs.length∧(∀c∈cs,c.scalar)∧∀(i:Nat) (c:ae) (e:Value),cs[i]?=some c->vs[i]?=some e->RV g c e:=by
 cases h with
 | agg hl en h=>exact⟨_,rfl,hl,en,h⟩
theorem RV.N9{g:G}{cs:List ae}{u:Value}(h:RV g (.c5 cs) u):∃vs:Array Value,u=.tuple vs∧vs.size=cs.length∧∀(i:Nat) (c:ae) (e:Value),cs[i]?=some c->vs[i]?=some e->RV g c e:=by
 cases h with
 | c5 hl h=>exact⟨_,rfl,hl,h⟩
theorem RV.Pg{g:G}{f:Fn}{fs cs:List ae}{u:Value}(h:RV g (.fn f fs cs) u):∃us vs:Array Value,u=.func f us vs∧us.size=fs.length∧vs.size=cs.length ∧
  (∀(i:Nat) (c:ae) (e:Value),fs[i]?=some c->us[i]?=some e->RV g c e)∧∀(i:Nat) (c:ae) (e:Value),cs[i]?=some c->vs[i]?=some e->RV g c e:=by
 cases h with
 | fn hl rB h h'=>exact⟨_,_,rfl,hl,rB,h,h'⟩
theorem RV.P'{g:G}{kt:KT}{es:List (Value×ae)}{u:Value}(h:RV g (.im kt es) u):∃(r clk:Nat) (arr:Array MapEntry),u=.map (some r)∧g.w.heap[r]?=some (.map arr clk)∧arr.size=es.length ∧
  (∀(i:Nat) (e:MapEntry) (kx:Value×ae),arr[i]?=some e->es[i]?=some kx->e.key=kx.1)∧(∀p∈es,kt.ok p.1)∧∀(i:Nat) (e:MapEntry) (kx:Value×ae),arr[i]?=some e->es[i]?=some kx->RV g kx.2 e.val:=by
 cases h with
 | im hh hn hl hk wR hr=>exact⟨_,_,_,rfl,hh,hl,hk,wR,hr⟩
theorem RV.fR{g:G}{sz:Nat}{xs:List ae}{o:od}{u:Value}(h:RV g (.aC sz xs o) u) :
  (u=.slice none 0 0∧xs=[])∨∃(a:Addr) (cap:Nat) (f:Nat->Value),u=.slice (some a) xs.length cap∧(∀x∈xs,x.cells.length=sz)∧(∀x∈xs,∀c∈x.cells,c.scalar)∧xs.length<=cap∧xs.length<=2 ^ 62∧(xs≠[]->a.spot=none) ∧
   (∀(j:Nat) (c:ae),(ar xs)[j]?=some c->g.cell a.block (a.off+j)=some (f j)∧¬lD g a.block (a.off+j))∧(∀(j:Nat) (c:ae),(ar xs)[j]?=some c->RV g c (f j))∧sR g o a sz xs.length cap:=by
 cases h with
 | nil=>exact .inl ⟨rfl,rfl⟩
 | aC dk en di cZ hs f hm hr ho=>exact .inr ⟨_,_,f,rfl,dk,en,di,cZ,hs,hm,hr,ho⟩
theorem RV.D0{g:G}{sz:Nat}{xs:List ae}{o:od}{u:Value}(h:RV g (.aC sz xs o) u):xs.length<=2 ^ 62:=by
 rcases h.fR with⟨_,h⟩|⟨_,_,_,_,_,_,_,h,_⟩
 ·subst h;simp
 exact h
theorem RV.xG{g:G}{sz:Nat}{xs:List ae}{o:od}{u:Value}(h:RV g (.aC sz xs o) u):RV g (.aC sz xs .sh) u:=by
 cases h with
 | nil=>exact .nil (fun id e=>by cases e) (by simp)
 | aC dk en di cZ hs f hm hr ho=>exact .aC dk en di cZ hs f hm hr trivial
theorem jm{sz:Nat}{xs:List ae}(dk:∀x∈xs,x.cells.length=sz){i j:Nat}{x c:ae}(hx:xs[i]?=some x)(hc:x.cells[j]?=some c):(ar xs)[i*sz+j]?=some c:=by
 induction xs generalizing i with
 | nil=>simp at hx
 | cons y ys ih =>
  have hy:=dk y (by simp);cases i with
  | zero =>
   simp at hx;subst hx;simp only[ar,List.flatMap_cons,Nat.zero_mul,Nat.zero_add];rw[List.getElem?_append,if_pos (ag hc)];exact hc
  | succ i =>
   simp at hx;have:=ih (fun x hx=>dk x (by simp[hx])) hx;simp only[ar,List.flatMap_cons]at this ⊢;rw[List.getElem?_append,if_neg (by rw[hy,Nat.succ_mul];omega),hy];rw[show(i+1)*sz+j-sz=i*sz+j by rw[Nat.succ_mul];omega];exact this
theorem bI{sz:Nat}{xs:List ae}(dk:∀x∈xs,x.cells.length=sz):(ar xs).length=xs.length*sz:=by
 induction xs with
 | nil=>simp[ar]
 | cons y ys ih =>
  have hy:=dk y (by simp);have:=ih (fun x hx=>dk x (by simp[hx]));simp only[ar,List.flatMap_cons,List.length_append,List.length_cons]at this ⊢;rw[this,hy,Nat.succ_mul];omega
theorem Fg{P:Program}{o:Oper}{σ:St}{x:Operand}{y:ae}(ho:o.op=.move x∨o.op=.assign x)(hd:∀d,o.dst=some d->d<σ.n)(hx:σ.ev x=some y):Cert P o σ y .pure :=
 Cert.bZ .pure (.inl rfl) hd fun a g _ h _=>⟨a.eval x,by rcases ho with ho|ho<;>simp[execOp,ho],h x (by rcases ho with ho|ho<;>simp[ho,Op.operands]) y hx⟩
theorem G9{P:Program}{o:Oper}{σ:St}(sz:Nat)(ho:o.op=.move (.const (.slice none 0 0))∨o.op=.assign (.const (.slice none 0 0)))(hd:∀d,o.dst=some d->d<σ.n):Cert P o σ (.aC sz [] .ex) .pure :=
 Cert.bZ .pure (.inl rfl) hd fun a g _ _ _=>⟨.slice none 0 0,by rcases ho with ho|ho<;>simp[execOp,ho,Act.eval],.nil (fun id e=>by cases e) (by simp)⟩
theorem xj{P:Program}{o:Oper}{σ:St}{c x z:Operand}{b:Bool}{y:ae}(ho:o.op=.pick c x z)(hd:∀d,o.dst=some d->d<σ.n)(hc:σ.ev c=some (.v (.bool b)))
  (hx:b=true->σ.ev x=some y) (hz:b=false->σ.ev z=some y):Cert P o σ y .pure :=
 Cert.bZ .pure (.inl rfl) hd fun a g _ h _=>by
  have e2:=(h c (by simp[ho,Op.operands]) _ hc).cL.1;cases b
  ·exact⟨a.eval z,by simp[execOp,ho,e2,asBool],h z (by simp[ho,Op.operands]) y (hz rfl)⟩
  exact⟨a.eval x,by simp[execOp,ho,e2,asBool],h x (by simp[ho,Op.operands]) y (hx rfl)⟩
theorem o4{α:Type}{l:List α}{n j:Nat}{c:α}(h:(l.take n)[j]?=some c):l[j]?=some c:=by
 rw[List.getElem?_take]at h;split at h
 ·exact h
 cases h
theorem yg{P:Program}{aS:fM}(hT:cG P aS){o:Oper}{σ:St}{t:TypeId}{x:Operand}{ti:cQ}{oa:Option Addr}{cs:List ae}(ho:o.op=.load t x)(hd:∀d,o.dst=some d->d<σ.n)
  (ht:aS t=some ti) (hx:σ.ev x=some (.ip oa cs)) (fv:ti.desc.agg=true) (hs:ti.size<=cs.length):Cert P o σ (.agg (cs.take ti.size)) .pure :=
 Cert.bZ .pure (.inl rfl) hd fun a g _ h _=>by
  obtain⟨b,off,f,e,_,en,hm,hr⟩:=(h x (by simp[ho,Op.operands]) _ hx).qp;have bS:=(hT t ti ht).oQ fv g.w b off f (fun j hj=>(hm j _ (List.getElem?_eq_getElem (by omega))).1);have hlen:(cs.take ti.size).length=ti.size:=by simp;omega
  refine⟨.agg ((List.range ti.size).map f).toArray,by simp[execOp,ho,e,Instr.loadAt,Instr.sureAddr,bS],?_⟩;have:=RV.ofRow (g:=g) (cs.take ti.size) f (fun c hc=>en c (List.mem_of_mem_take hc)) (fun j c hj=>hr j c (o4 hj));rw[hlen]at this;exact this
theorem wF{P:Program}{aS:fM}(hT:cG P aS){o:Oper}{σ:St}{t:TypeId}{x:Operand}{ti:cQ}{oa:Option Addr}{cs:List ae}{c:ae}(ho:o.op=.load t x)(hd:∀d,o.dst=some d->d<σ.n)
  (ht:aS t=some ti) (hx:σ.ev x=some (.ip oa cs)) (fv:ti.desc.agg=false) (hs:cs[0]?=some c):Cert P o σ c .pure :=
 Cert.bZ .pure (.inl rfl) hd fun a g _ h _=>by
  obtain⟨b,off,f,e,_,en,hm,hr⟩:=(h x (by simp[ho,Op.operands]) _ hx).qp;have bS:=(hT t ti ht).ns fv g.w ⟨b,off,none⟩ (f 0) (hm 0 c hs).1;exact⟨f 0,by simp[execOp,ho,e,Instr.loadAt,Instr.sureAddr,bS],hr 0 c hs⟩
theorem Good.row{g:G}(hg:Good g){id:Nat}{cs:List ae}{l:Loc}(ho:g.objs[id]?=some (.cells cs))(he:g.env[id]?=some (some l)) :
  ∃(arr:Array Value) (t:TypeId),l.lo=0∧g.w.heap[l.block]?=some (.cells arr t (0,0))∧cs.length<=arr.size∧(∀(j:Nat) (c:ae) (u:Value),cs[j]?=some c->arr[j]?=some u->RV g c u)∧(∀c∈cs,c.scalar)∧l.sz<=arr.size:=by
 obtain⟨l',arr,t,h1,h2,h3,h4,h5,h6⟩:=hg.cells id cs ho;rw[he]at h1;simp only[Option.some.injEq]at h1;subst h1;exact⟨arr,t,h2,h3,h4,h5,h6⟩
theorem cell_of_row{w:World}{b:Nat}{arr:Array Value}{t:TypeId}{fz:Nat×Nat}(h:w.heap[b]?=some (.cells arr t fz))(off:Nat):w.cell? ⟨b,off,none⟩=arr[off]?:=by
 simp[World.cell?,h]
theorem yh{P:Program}{aS:fM}(hT:cG P aS){o:Oper}{σ:St}{t:TypeId}{x:Operand}{ti:cQ}{id off:Nat}{cs:List ae}(ho:o.op=.load t x)(hd:∀d,o.dst=some d->d<σ.n)
  (ht:aS t=some ti) (hx:σ.ev x=some (.mp id off)) (s7:σ.objs[id]?=some (.cells cs)) (fv:ti.desc.agg=true) (hs:off+ti.size<=cs.length):Cert P o σ (.agg ((cs.drop off).take ti.size)) (.rd id) :=
 Cert.Qb hd fun a g hg h hO=>by
  obtain⟨l,o1,he,h1,_,e⟩:=(h x (by simp[ho,Op.operands]) _ hx).ny;obtain⟨arr,t',_,fc,hlen,yL,en,_⟩:=hg.row (by rw[hO];exact s7) he;obtain⟨f,hf⟩:∃f:Nat->Value,∀j,off+j<arr.size->arr[off+j]?=some (f j):=⟨fun j=>arr.getD (off+j) undef,fun j hj=>by simp[Array.getD_eq_getD_getElem?,hj]⟩
  have bS:=(hT t ti ht).oQ fv g.w l.block off f (fun j hj=>by
   rw[cell_of_row fc];exact hf j (by omega))
  have hl:((cs.drop off).take ti.size).length=ti.size:=by simp;omega
  refine⟨.agg ((List.range ti.size).map f).toArray,by simp[execOp,ho,e,Instr.loadAt,Instr.sureAddr,bS],?_⟩;have:=RV.ofRow (g:=g) ((cs.drop off).take ti.size) f (fun c hc=>en c (List.mem_of_mem_drop (List.mem_of_mem_take hc))) (fun j c hj=>by
   have lT:=o4 hj;rw[List.getElem?_drop]at lT;have aN:=ag lT;exact yL (off+j) c _ lT (hf j (by omega)))
  rw[hl]at this;exact this
theorem wG{P:Program}{aS:fM}(hT:cG P aS){o:Oper}{σ:St}{t:TypeId}{x:Operand}{ti:cQ}{id off:Nat}{cs:List ae}{c:ae}(ho:o.op=.load t x)(hd:∀d,o.dst=some d->d<σ.n)
  (ht:aS t=some ti) (hx:σ.ev x=some (.mp id off)) (s7:σ.objs[id]?=some (.cells cs)) (fv:ti.desc.agg=false) (hs:cs[off]?=some c):Cert P o σ c (.rd id) :=
 Cert.Qb hd fun a g hg h hO=>by
  obtain⟨l,o1,he,h1,_,e⟩:=(h x (by simp[ho,Op.operands]) _ hx).ny;obtain⟨arr,t',_,fc,hlen,yL,en,_⟩:=hg.row (by rw[hO];exact s7) he;have aN:=ag hs;have vd:g.w.cell? ⟨l.block,off,none⟩=some arr[off]:=by
   rw[cell_of_row fc];simp[show off<arr.size by omega]
  have bS:=(hT t ti ht).ns fv g.w ⟨l.block,off,none⟩ _ vd;exact⟨arr[off],by simp[execOp,ho,e,Instr.loadAt,Instr.sureAddr,bS],yL off c _ hs (by simp[show off<arr.size by omega])⟩
theorem oV{P:Program}{aS:fM}(hT:cG P aS){f:Field}{tf:cQ}(hf:aS f.type=some tf)(hs:tf.size≠0)(w:World)(b off:Nat) :
  (fieldPlace ⟨b,off,none⟩ f).run P w=.ok ⟨b,off+f.offset,none⟩ w:=by
 have:=(hT _ _ hf).sizeOf w;simp[fieldPlace,this,hs,addr_add]
theorem nF{P:Program}{aS:fM}(hT:cG P aS){s:TypeId}{ti:cQ}{fs:List (Nat×TypeId)}{k sE:Nat}{ft:TypeId}(ht:aS s=some ti)(a7:ti.desc=.struct fs)(hk:fs[k]?=some (sE,ft)) :
  ∃(fields:Array Field) (f:Field),P.underlying s=some (.struct fields)∧fields[k]?=some f∧f.offset=sE∧f.type=ft:=by
 obtain⟨_,d,h1,h2⟩:=hT s ti ht;rw[a7]at h2;obtain⟨fields,h3,h4⟩:=h2;subst h3;rw[<-h4]at hk;simp only[List.getElem?_map,Option.map_eq_some_iff,Prod.mk.injEq,Array.getElem?_toList]at hk;obtain⟨f,e1,e2,e3⟩:=hk;exact⟨fields,f,h1,e1,e2,e3⟩
theorem qU{P:Program}{aS:fM}(hT:cG P aS){o:Oper}{σ:St}{s:TypeId}{x:Operand}{k sE:Nat}{ft:TypeId}{ti tf:cQ}{fs:List (Nat×TypeId)}{oa:Option Addr}{cs:List ae}
  (ho:o.op=.fieldAddr s x k) (hd:∀d,o.dst=some d->d<σ.n) (ht:aS s=some ti) (a7:ti.desc=.struct fs) (hk:fs[k]?=some (sE,ft)) (hf:aS ft=some tf) (hz:tf.size≠0)
  (hx:σ.ev x=some (.ip oa cs)):Cert P o σ (.ip (oa.map (·.add sE)) (cs.drop sE)) .pure :=
 Cert.bZ .pure (.inl rfl) hd fun a g _ h _=>by
  obtain⟨b,off,f,e,ha,en,hm,hr⟩:=(h x (by simp[ho,Op.operands]) _ hx).qp;obtain⟨fields,fl,h1,h2,h3,h4⟩:=nF hT ht a7 hk;subst h3;subst h4;refine⟨.pointer (some ⟨b,off+fl.offset,none⟩),by simp[execOp,ho,e,Instr.fieldAt,run_underlying h1,h2,Instr.sureAddr,oV hT hf hz],?_⟩;refine .ip ?_ (fun c hc=>en c (List.mem_of_mem_drop hc)) (fun j=>f (fl.offset+j)) (fun j c hj=>?_) (fun j c hj=>?_)
  ·rcases ha with ha|ha<;>subst ha<;>simp[addr_add]
  ·rw[List.getElem?_drop]at hj;rw[Nat.add_assoc];exact hm _ c hj
  rw[List.getElem?_drop]at hj;exact hr _ c hj
theorem qV{P:Program}{aS:fM}(hT:cG P aS){o:Oper}{σ:St}{s:TypeId}{x:Operand}{k sE:Nat}{ft:TypeId}{ti tf:cQ}{fs:List (Nat×TypeId)}{id off:Nat}
  (ho:o.op=.fieldAddr s x k) (hd:∀d,o.dst=some d->d<σ.n) (ht:aS s=some ti) (a7:ti.desc=.struct fs) (hk:fs[k]?=some (sE,ft)) (hf:aS ft=some tf) (hz:tf.size≠0)
  (hx:σ.ev x=some (.mp id off)):Cert P o σ (.mp id (off+sE)) .pure :=
 Cert.bZ .pure (.inl rfl) hd fun a g _ h _=>by
  obtain⟨l,o1,he,h1,hn,e⟩:=(h x (by simp[ho,Op.operands]) _ hx).ny;obtain⟨fields,fl,h2,h3,h4,h5⟩:=nF hT ht a7 hk;subst h4;subst h5;exact⟨.pointer (some ⟨l.block,off+fl.offset,none⟩),by simp[execOp,ho,e,Instr.fieldAt,run_underlying h2,h3,Instr.sureAddr,oV hT hf hz],.mp he h1 hn⟩
theorem cf{P:Program}{aS:fM}(hT:cG P aS){t e:TypeId}{ti:cQ}(ht:aS t=some ti)(a7:ti.desc=.slice e):P.underlying t=some (.slice e):=by
 obtain⟨_,d,h1,h2⟩:=hT t ti ht;rw[a7]at h2;simp only[sm]at h2;rw[h1,h2]
def rL:od->Nat->Option Addr
 | .sh,_=>none
 | .ex,_=>none
 | .nn,_=>none
 | .tok _,_=>none
 | .loc a,k=>some ⟨a.block,a.off+k,none⟩
theorem qe{P:Program}{aS:fM}(hT:cG P aS){o:Oper}{σ:St}{t e:TypeId}{x i:Operand}{ti te:cQ}{sz:Nat}{xs:List ae}{ow:od}{k:IntKind}{n:Int}{y:ae}
  (ho:o.op=.indexAddr t x i) (hd:∀d,o.dst=some d->d<σ.n) (ht:aS t=some ti) (a7:ti.desc=.slice e) (he:aS e=some te) (dk:te.size=sz)
  (hx:σ.ev x=some (.aC sz xs ow)) (hi:σ.ev i=some (.v (.int k n))) (h0:0<=n) (hy:xs[n.toNat]?=some y):Cert P o σ (.ip (rL ow (n.toNat*te.size)) y.cells) .pure :=
 Cert.bZ .pure (.inl rfl) hd fun a g _ h _=>by
  have ei:=(h i (by simp[ho,Op.operands]) _ hi).cL.1;have hu:=cf hT ht a7;have aN:=ag hy;rcases(h x (by simp[ho,Op.operands]) _ hx).fR with⟨_,e0⟩|⟨ad,cap,f,eu,oN,en,_,cZ,hs,hm,hr,H4⟩
  ·subst e0;simp at aN
  have AL:=hs (by intro e;subst e;simp at aN);obtain⟨b,off,sp⟩:=ad;simp only at AL;subst AL;subst dk;have eN:y∈xs:=List.mem_of_getElem? hy;refine⟨.pointer (some ⟨b,off+n.toNat*te.size,none⟩),?_,?_⟩
  ·have iB:n<(xs.length:Int):=by omega
   simp[execOp,ho,ei,eu,Instr.indexAt,asIntOf,run_underlying hu,h0,iB,(hT e te he).sizeOf,addr_add]
  have Rq:rL ow (n.toNat*te.size)=none∨rL ow (n.toNat*te.size)=some ⟨b,off+n.toNat*te.size,none⟩:=by
   cases ow with
   | loc a' =>
    have e:(⟨b,off,none⟩:Addr)=a':=H4;subst e;exact .inr rfl
   | _=>exact .inl rfl
  refine .ip Rq (en y eN) (fun j=>f (n.toNat*te.size+j)) (fun j c hj=>?_) (fun j c hj=>?_)
  ·rw[Nat.add_assoc];exact hm _ c (jm oN hy hj)
  exact hr _ c (jm oN hy hj)
theorem qW{P:Program}{aS:fM}(hT:cG P aS){o:Oper}{σ:St}{t e:TypeId}{x i:Operand}{ti te:cQ}{id off len cap:Nat}{k:IntKind}{n:Int}
  (ho:o.op=.indexAddr t x i) (hd:∀d,o.dst=some d->d<σ.n) (ht:aS t=some ti) (a7:ti.desc=.slice e) (he:aS e=some te)
  (hx:σ.ev x=some (.ms id off len cap)) (hi:σ.ev i=some (.v (.int k n))) (h0:0<=n) (hn:n<len):Cert P o σ (.mp id (off+n.toNat*te.size)) .pure :=
 Cert.bZ .pure (.inl rfl) hd fun a g _ h _=>by
  have ei:=(h i (by simp[ho,Op.operands]) _ hi).cL.1;have hu:=cf hT ht a7;obtain⟨l,o1,h1,h2,h3,_,_,_,_,eu⟩:=(h x (by simp[ho,Op.operands]) _ hx).qw;exact⟨.pointer (some ⟨l.block,off+n.toNat*te.size,none⟩),by simp[execOp,ho,ei,eu,Instr.indexAt,asIntOf,run_underlying hu,h0,hn,(hT e te he).sizeOf,addr_add],.mp h1 h2 h3⟩
end Go.Av
namespace Go.Av
theorem uP{P:Program}{aS:fM}(hT:cG P aS){o:Oper}{σ:St}{s:TypeId}{x:Operand}{k sE:Nat}{ft:TypeId}{ti tf:cQ}{fs:List (Nat×TypeId)}{cs:List ae}{r:ae}
  (ho:o.op=.field s x k) (hd:∀d,o.dst=some d->d<σ.n) (ht:aS s=some ti) (a7:ti.desc=.struct fs) (hk:fs[k]?=some (sE,ft)) (hf:aS ft=some tf)
  (hx:σ.ev x=some (.agg cs)) (hr:if tf.desc.agg then r=.agg ((cs.drop sE).take tf.size)else cs[sE]?=some r):Cert P o σ r .pure :=
 Cert.bZ .pure (.inl rfl) hd fun a g _ h _=>by
  obtain⟨vs,e,hl,en,hh⟩:=(h x (by simp[ho,Op.operands]) _ hx).x6;obtain⟨fields,fl,h1,h2,h3,h4⟩:=nF hT ht a7 hk;subst h3;subst h4;have nW:=(hT _ _ hf).isAgg g.w;have dk:=(hT _ _ hf).sizeOf g.w;split at hr
  ·rename_i fv;subst hr;refine⟨.agg (vs.extract fl.offset (fl.offset+tf.size)),by simp[execOp,ho,e,Instr.field,run_underlying h1,h2,asAgg,part,nW,fv,dk],?_⟩;refine .agg ?_ (fun c hc=>en c (List.mem_of_mem_drop (List.mem_of_mem_take hc))) (fun i c u hi hu=>?_)
   ·simp[hl];omega
   have lS:=o4 hi;rw[List.getElem?_drop]at lS;refine hh (fl.offset+i) c u lS ?_;have:i<tf.size:=by
    have:=ag hi;simp at this;omega
   rw[Array.getElem?_extract]at hu;split at hu
   ·exact hu
   cases hu
  rename_i fv;have aN:fl.offset<vs.size:=by
   rw[hl];exact ag hr
  exact⟨vs[fl.offset],by simp[execOp,ho,e,Instr.field,run_underlying h1,h2,asAgg,part,nW,fv,aN],hh _ _ _ hr (by simp[aN])⟩
theorem yf{P:Program}{o:Oper}{σ:St}{x:Operand}{k:Nat}{cs:List ae}{r:ae}
  (ho:o.op=.extract x k) (hd:∀d,o.dst=some d->d<σ.n) (hx:σ.ev x=some (.c5 cs)) (hr:cs[k]?=some r):Cert P o σ r .pure :=
 Cert.bZ .pure (.inl rfl) hd fun a g _ h _=>by
  obtain⟨vs,e,hl,hh⟩:=(h x (by simp[ho,Op.operands]) _ hx).N9;have aN:k<vs.size:=by
   rw[hl];exact ag hr
  exact⟨vs[k],by simp[execOp,ho,e,Instr.extract,aN],hh _ _ _ hr (by simp[aN])⟩
theorem c8{P:Program}(op:BinOp)(t:TypeId)(x y:Operand)(a b:Value)(w:World)(h1:a≠.nilIface)(h2:∀cs,a≠.agg cs):(eqGuard op t x y a b).run P w=.ok () w:=by
 cases op<;>first|rfl|(cases a<;>first|rfl|exact absurd rfl h1|exact absurd rfl (h2 _))
def ln:BinOp->Int->Int->Option Bool
 | .eql,a,b=>some (decide (a=b))
 | .neq,a,b=>some (!decide (a=b))
 | .lss,a,b=>some (decide (a<b))
 | .leq,a,b=>some (decide (a<=b))
 | .gtr,a,b=>some (decide (b<a))
 | .geq,a,b=>some (decide (b<=a))
 | _,_,_=>none
theorem z4{P:Program}{o:Oper}{σ:St}{op:BinOp}{t t':TypeId}{x y:Operand}{k:IntKind}{m n:Int}{r:Bool}
  (ho:o.op=.binOp op t x y t') (hd:∀d,o.dst=some d->d<σ.n) (hx:σ.ev x=some (.v (.int k m))) (hy:σ.ev y=some (.v (.int k n))) (hr:ln op m n=some r):Cert P o σ (.v (.bool r)) .pure :=
 Cert.bZ .pure (.inl rfl) hd fun a g _ h _=>by
  have ex:=(h x (by simp[ho,Op.operands]) _ hx).cL.1;have ey:=(h y (by simp[ho,Op.operands]) _ hy).cL.1;have hg:=c8 (P:=P) op t x y (.int k m) (.int k n) g.w (by simp) (by simp);refine⟨.bool r,?_,.v trivial⟩;have hb:(binOp op t (.int k m) (.int k n)).run P g.w=.ok (.bool r) g.w:=by
   cases op<;>first|(cases hr;done)|(obtain rfl:=Option.some.inj hr;simp[binOp,Op.intCmp];try (rw[Bool.eq_iff_iff];simp))
  simp[execOp,ho,ex,ey,hg,hb]
def m8(k:IntKind)(f:BitVec k.bits->BitVec k.bits->BitVec k.bits)(a b:Int):Int:=k.wrap (f (BitVec.ofInt k.bits a) (BitVec.ofInt k.bits b)).toNat
def fe(k:IntKind):BinOp->Int->Int->Option Int
 | .add,a,b=>some (a+b)
 | .sub,a,b=>some (a-b)
 | .mul,a,b=>some (a*b)
 | .quo,a,b=>if b=0 then none else some (a.tdiv b)
 | .rem,a,b=>if b=0 then none else some (a.tmod b)
 | .and,a,b=>some (m8 k (fun x y=>x&&& y) a b)
 | .or,a,b=>some (m8 k (fun x y=>x ||| y) a b)
 | .xor,a,b=>some (m8 k (fun x y=>x ^^^ y) a b)
 | .andNot,a,b=>some (m8 k (fun x y=>x&&& ~~~y) a b)
 | _,_,_=>none
theorem wB{P:Program}{o:Oper}{σ:St}{op:BinOp}{t t':TypeId}{x y:Operand}{k:IntKind}{m n r:Int}
  (ho:o.op=.binOp op t x y t') (hd:∀d,o.dst=some d->d<σ.n) (hx:σ.ev x=some (.v (.int k m))) (hy:σ.ev y=some (.v (.int k n))) (hr:fe k op m n=some r) (h1:k.min<=r) (h2:r<=k.max) :
  Cert P o σ (.v (.int k r)) .pure :=
 Cert.bZ .pure (.inl rfl) hd fun a g _ h _=>by
  have ex:=(h x (by simp[ho,Op.operands]) _ hx).cL.1;have ey:=(h y (by simp[ho,Op.operands]) _ hy).cL.1;have hg:=c8 (P:=P) op t x y (.int k m) (.int k n) g.w (by simp) (by simp);have hw:=pD k r h1 h2;refine⟨.int k r,?_,.v ⟨h1,h2⟩⟩;have hb:(binOp op t (.int k m) (.int k n)).run P g.w=.ok (.int k r) g.w:=by
   cases op with
   | add | sub | mul=>simp[fe]at hr;subst hr;simp[binOp,Op.intArith,hw]
   | quo | rem =>
    simp only[fe]at hr;split at hr
    ·cases hr
    rename_i sr;simp only[Option.some.injEq]at hr;subst hr;simp[binOp,Op.intDiv,sr,hw]
   | and | or | xor | andNot=>simp[fe]at hr;subst hr;simp[binOp,Op.intBits,m8]
   | _=>simp[fe]at hr
  simp[execOp,ho,ex,ey,hg,hb]
def dU:BinOp->Bool
 | .add=>false
 | .sub=>false
 | .mul=>false
 | .quo=>false
 | .rem=>false
 | .and=>false
 | .or=>false
 | .xor=>false
 | .shl=>true
 | .shr=>true
 | .andNot=>false
 | .eql=>false
 | .neq=>false
 | .lss=>false
 | .leq=>false
 | .gtr=>false
 | .geq=>false
def fK(k:IntKind):BinOp->Int->Int->Int
 | .shl,a,n=>k.wrap (a*2 ^ (min n.toNat k.bits))
 | _,a,n=>a.fdiv (2 ^ (min n.toNat k.bits))
theorem wI{P:Program}{o:Oper}{σ:St}{op:BinOp}{t t':TypeId}{x y:Operand}{k k':IntKind}{m n:Int}
  (ho:o.op=.binOp op t x y t') (hd:∀d,o.dst=some d->d<σ.n) (hx:σ.ev x=some (.v (.int k m))) (hy:σ.ev y=some (.v (.int k' n))) (hs:dU op=true) (hn:0<=n) (h1:k.min<=fK k op m n) (h2:fK k op m n<=k.max) :
  Cert P o σ (.v (.int k (fK k op m n))) .pure :=
 Cert.bZ .pure (.inl rfl) hd fun a g _ h _=>by
  have ex:=(h x (by simp[ho,Op.operands]) _ hx).cL.1;have ey:=(h y (by simp[ho,Op.operands]) _ hy).cL.1;have hg:=c8 (P:=P) op t x y (.int k m) (.int k' n) g.w (by simp) (by simp);have kX:¬n<0:=by omega
  refine⟨.int k (fK k op m n),?_,.v ⟨h1,h2⟩⟩;have hb:(binOp op t (.int k m) (.int k' n)).run P g.w=.ok (.int k (fK k op m n)) g.w:=by
   cases op with
   | shl | shr=>simp[binOp,Op.shift,kX,fK]
   | _=>simp[dU]at hs
  simp[execOp,ho,ex,ey,hg,hb]
theorem GU(a b:ByteArray):(a.toList == b.toList)=decide (a=b):=by
 rw[Bool.eq_iff_iff];simp only[beq_iff_eq,decide_eq_true_eq];refine⟨fun h=>?_,fun h=>by rw[h]⟩;rw[ByteArray.toList_eq,ByteArray.toList_eq]at h;exact ByteArray.ext (Array.toList_inj.1 h)
theorem wE{P:Program}{o:Oper}{σ:St}{op:BinOp}{t t':TypeId}{x y:Operand}{m n:ByteArray}{r:Bool}
  (ho:o.op=.binOp op t x y t') (hd:∀d,o.dst=some d->d<σ.n) (hx:σ.ev x=some (.v (.string m))) (hy:σ.ev y=some (.v (.string n)))
  (hr:(op=.eql∧r=decide (m=n))∨(op=.neq∧r=!decide (m=n))):Cert P o σ (.v (.bool r)) .pure :=
 Cert.bZ .pure (.inl rfl) hd fun a g _ h _=>by
  have ex:=(h x (by simp[ho,Op.operands]) _ hx).cL.1;have ey:=(h y (by simp[ho,Op.operands]) _ hy).cL.1;have hg:=c8 (P:=P) op t x y (.string m) (.string n) g.w (by simp) (by simp);refine⟨.bool r,?_,.v trivial⟩;have hb:(binOp op t (.string m) (.string n)).run P g.w=.ok (.bool r) g.w:=by
   have Rw:=GU m n;rcases hr with⟨e1,e2⟩|⟨e1,e2⟩<;>subst e1<;>subst e2
   ·simp only[binOp,Op.stringOp,Sem.run_pure,Rw]
   simp only[binOp,Op.stringOp,Sem.run_pure,Rw]
  simp[execOp,ho,ex,ey,hg,hb]
theorem z6{P:Program}{o:Oper}{σ:St}{op:BinOp}{t t':TypeId}{x y:Operand}{m n r:Bool}
  (ho:o.op=.binOp op t x y t') (hd:∀d,o.dst=some d->d<σ.n) (ht:P.underlying t=some .bool) (hx:σ.ev x=some (.v (.bool m))) (hy:σ.ev y=some (.v (.bool n)))
  (hr:(op=.eql∧r=(m == n))∨(op=.neq∧r=!(m == n))):Cert P o σ (.v (.bool r)) .pure :=
 Cert.bZ .pure (.inl rfl) hd fun a g _ h _=>by
  have ex:=(h x (by simp[ho,Op.operands]) _ hx).cL.1;have ey:=(h y (by simp[ho,Op.operands]) _ hy).cL.1;have hg:=c8 (P:=P) op t x y (.bool m) (.bool n) g.w (by simp) (by simp);refine⟨.bool r,?_,.v trivial⟩;have he:(Op.equal t (.bool m) (.bool n)).run P g.w=.ok (m == n) g.w:=by
   have e:∃d,Op.equal t (.bool m) (.bool n)=Op.equalIn (d+1) t (.bool m) (.bool n):=⟨9999,rfl⟩
   obtain⟨d,e⟩:=e;rw[e];simp only[Op.equalIn,Sem.run_bind,run_underlying ht,Result.andThen_ok,Sem.run_pure]
  rcases hr with⟨e1,e2⟩|⟨e1,e2⟩<;>subst e1<;>subst e2<;>simp[execOp,ho,ex,ey,hg,binOp,he]
theorem G'{P:Program}{o:Oper}{σ:St}{t:TypeId}{x:Operand}{m:Bool}
  (ho:o.op=.unOp .not t x) (hd:∀d,o.dst=some d->d<σ.n) (hx:σ.ev x=some (.v (.bool m))):Cert P o σ (.v (.bool !m)) .pure :=
 Cert.bZ .pure (.inl rfl) hd fun a g _ h _=>by
  have ex:=(h x (by simp[ho,Op.operands]) _ hx).cL.1;exact⟨.bool !m,by simp[execOp,ho,ex,Op.unary],.v trivial⟩
theorem G8{P:Program}{o:Oper}{σ:St}{t:TypeId}{x:Operand}{k:IntKind}{m:Int}
  (ho:o.op=.unOp .neg t x) (hd:∀d,o.dst=some d->d<σ.n) (hx:σ.ev x=some (.v (.int k m))) (h1:k.min<=-m) (h2:-m<=k.max):Cert P o σ (.v (.int k (-m))) .pure :=
 Cert.bZ .pure (.inl rfl) hd fun a g _ h _=>by
  have ex:=(h x (by simp[ho,Op.operands]) _ hx).cL.1;have hw:=pD k (-m) h1 h2;exact⟨.int k (-m),by simp[execOp,ho,ex,Op.unary,Op.intArith,hw],.v ⟨h1,h2⟩⟩
theorem c7{P:Program}{o:Oper}{b:Builtin}{args:Array Operand}{sT:Array TypeId}(ho:o.op=.call ⟨.builtin b,args,sT⟩)(a:Act)(w:World) :
  (execOp a.eval o).run P w=(builtin b sT o.type (args.map fun | .const _=>true|_=>false) (args.map a.eval)).run P w:=by
 simp[execOp,ho,resolve,invoke];rfl
theorem G6{P:Program}{aS:fM}(hT:cG P aS){o:Oper}{σ:St}{t e:TypeId}{x:Operand}{ti:cQ}{n:Nat}{y:ae}
  (ho:o.op=.call ⟨.builtin .len,#[x],#[t]⟩) (hd:∀d,o.dst=some d->d<σ.n) (ht:aS t=some ti) (a7:ti.desc=.slice e) (hx:σ.ev x=some y)
  (hy:(∃sz xs ow,y=.aC sz xs ow∧n=xs.length)∨(∃id off cap,y=.ms id off n cap)∨∃id sz,y=.os id n sz):Cert P o σ (.v (.int .i64 n)) .pure :=
 Cert.bZ .pure (.inl rfl) hd fun a g _ h _=>by
  have hu:=cf hT ht a7;have iU:=h x (by simp[ho,Op.operands,Call.operands]) _ hx;have key:∃ad cap,a.eval x=.slice ad n cap∧n<=2 ^ 62:=by
   rcases hy with⟨sz,xs,ow,e1,e2⟩|⟨id,off,cap,e1⟩|⟨id,sz,e1⟩
   ·subst e1;subst e2;rcases iU.fR with⟨q1,q2⟩|⟨ad,cap,_,q1,_,_,_,q2,_⟩
    ·subst q2;exact⟨_,_,q1,by simp⟩
    exact⟨_,_,q1,q2⟩
   ·subst e1;obtain⟨l,_,_,_,_,_,q2,_,_,q1⟩:=iU.qw;exact⟨_,_,q1,q2⟩
   subst e1;obtain⟨l,_,_,_,_,_,_,_,q2,q1⟩:=iU.y2;exact⟨_,_,q1,q2⟩
  obtain⟨ad,cap,q1,q2⟩:=key;refine⟨.int .i64 n,?_,.v ?_⟩
  ·rw[c7 ho];simp[builtin,Builtin.len_,q1,run_underlying hu,goInt]
  simp[mi,IntKind.min,IntKind.max,IntKind.bits,IntKind.signed];omega
theorem bH{P:Program}(k:IntKind)(n:Int)(y:Nat)(c:BoundsCode)(w:World)(h0:0<=n)(h1:n<=y):(Instr.sliceBound (.int k n) y c).run P w=.ok n.toNat w:=by
 simp[Instr.sliceBound,asIntOf,h0,h1]
theorem DB{sz:Nat}{xs:List ae}(dk:∀x∈xs,x.cells.length=sz)(lo hi j:Nat)(c:ae)(h:(ar ((xs.take hi).drop lo))[j]?=some c):(ar xs)[lo*sz+j]?=some c:=by
 induction xs generalizing lo hi j with
 | nil=>simp[ar]at h
 | cons y ys ih =>
  have hy:=dk y (by simp);have DY:=ih (fun x hx=>dk x (by simp[hx]));cases hi with
  | zero=>simp[ar]at h
  | succ hi =>
   cases lo with
   | zero =>
    simp only[List.take_succ_cons,List.drop_zero,ar,List.flatMap_cons,Nat.zero_mul,Nat.zero_add]at h ⊢;rw[List.getElem?_append]at h ⊢;split at h
    ·rename_i hj;rw[if_pos hj];exact h
    rename_i hj;rw[if_neg hj];have:=DY 0 hi (j-y.cells.length) (by simpa[ar]using h);simpa[ar]using this
   | succ lo =>
    simp only[List.take_succ_cons,List.drop_succ_cons]at h;have:=DY lo hi j h;simp only[ar,List.flatMap_cons]at this ⊢;rw[List.getElem?_append,if_neg (by rw[hy,Nat.succ_mul];omega),hy,show(lo+1)*sz+j-sz=lo*sz+j by rw[Nat.succ_mul];omega];exact this
def ov(σ:St)(p:Option Operand)(Ch n:Nat):Prop:=(p=none∧n=Ch)∨∃q k,p=some q∧σ.ev q=some (.v (.int k (n:Int)))
theorem B7{P:Program}{aS:fM}(hT:cG P aS){o:Oper}{σ:St}{t e:TypeId}{x:Operand}{ti te:cQ}{sz:Nat}{xs:List ae}{ow:od}{lo hi:Option Operand}{l h:Nat}
  (ho:o.op=.slice t x lo hi none) (hd:∀d,o.dst=some d->d<σ.n) (ht:aS t=some ti) (a7:ti.desc=.slice e) (he:aS e=some te) (dk:te.size=sz) (hx:σ.ev x=some (.aC sz xs ow))
  (kp:ov σ lo 0 l) (pG:ov σ hi xs.length h) (h1:l<=h) (h2:h<=xs.length):Cert P o σ (.aC sz ((xs.take h).drop l) .sh) .pure :=
 Cert.bZ .pure (.inl rfl) hd fun a g _ hh _=>by
  have hu:=cf hT ht a7;have iU:=hh x (by cases lo<;>cases hi<;>simp[ho,Op.operands]) _ hx;have hl:(lo=none∧l=0)∨∃q k,lo=some q∧a.eval q=.int k (l:Int):=by
   rcases kp with q|⟨q,k,e1,e2⟩
   ·exact .inl q
   exact .inr ⟨q,k,e1,(hh q (by subst e1;cases hi<;>simp[ho,Op.operands]) _ e2).cL.1⟩
  have lS:(hi=none∧h=xs.length)∨∃q k,hi=some q∧a.eval q=.int k (h:Int):=by
   rcases pG with q|⟨q,k,e1,e2⟩
   ·exact .inl q
   exact .inr ⟨q,k,e1,(hh q (by subst e1;cases lo<;>simp[ho,Op.operands]) _ e2).cL.1⟩
  have dj:execOp a.eval o=(do pure (.value (<-Instr.sliceAt t (a.eval x) (lo.map a.eval) (hi.map a.eval) none))):=by
   simp[execOp,ho]
  clear kp pG ho;have bounds:∀cap:Nat,xs.length<=cap->(Instr.sliceBounds true xs.length cap (lo.map a.eval) (hi.map a.eval) none).run P g.w=.ok (l,h,cap) g.w:=by
   intro cap di;rcases hl with⟨e1,e2⟩|⟨p,k,e1,hk⟩
   ·rcases lS with⟨e3,e4⟩|⟨q,k',e3,mU⟩
    ·subst e1 e2 e3 e4;simp[Instr.sliceBounds]
    subst e1 e2 e3;have:=bH (P:=P) k' h cap .sliceAcap g.w (by omega) (by omega);simp[Instr.sliceBounds,mU,this]
   rcases lS with⟨e3,e4⟩|⟨q,k',e3,mU⟩
   ·subst e1 e3 e4;have:=bH (P:=P) k l xs.length .sliceB g.w (by omega) (by omega);simp[Instr.sliceBounds,hk,this]
   subst e1 e3;have e1:=bH (P:=P) k' h cap .sliceAcap g.w (by omega) (by omega);have e2:=bH (P:=P) k l h .sliceB g.w (by omega) (by omega);simp[Instr.sliceBounds,hk,mU,e1,e2]
  have mJ:=(hT e te he).sizeOf g.w;rcases iU.fR with⟨q1,q2⟩|⟨ad,cap,f,q1,oN,en,di,cZ,hs,hm,hr,_⟩
  ·subst q2;have b:=bounds 0 (by simp);simp at h2;subst h2;have:l=0:=by omega
   subst this;refine⟨.slice none 0 0,?_,.nil (fun id e=>by cases e) (by simp)⟩;rw[dj];simp only[List.length_nil]at b;simp[Instr.sliceAt,run_underlying hu,Instr.slice,q1,mJ,b]
  obtain⟨b0,SN,sp⟩:=ad;have hlen:((xs.take h).drop l).length=h-l:=by simp;omega
  subst dk;by_cases lB:cap=l
  ·-- Xx cut is empty and keeps Xx address
   have e1:l=xs.length:=by omega
   have e2:h=xs.length:=by omega
   subst lB;subst e2;have b:=bounds cap di;refine⟨.slice (some ⟨b0,SN,sp⟩) (xs.length-cap) (cap-cap),?_,?_⟩
   ·rw[dj];simp[Instr.sliceAt,run_underlying hu,Instr.slice,q1,b,mJ]
   have yI:(xs.take xs.length).drop cap=[]:=by simp;omega
   rw[yI];have h0:xs.length-cap=0:=by omega
   rw[h0];exact .aC (by simp) (by simp) (by simp) (by simp) (by simp) f (by simp[ar]) (by simp[ar]) trivial
  have b:=bounds cap di;refine⟨.slice (some ((⟨b0,SN,sp⟩:Addr).add (l*te.size))) (h-l) (cap-l),?_,?_⟩
  ·rw[dj];simp[Instr.sliceAt,run_underlying hu,Instr.slice,q1,b,mJ,lB]
  rw[<-hlen];have eN:∀y,y∈(xs.take h).drop l->y∈xs:=fun y hy=>List.mem_of_mem_take (List.mem_of_mem_drop hy);by_cases cA:xs=[]
  ·subst cA;simp only[List.take_nil,List.drop_nil];exact .aC (by simp) (by simp) (by simp) (by simp) (by simp) f (by simp[ar]) (by simp[ar]) trivial
  have wy:=hs cA;simp only at wy;subst wy;rw[addr_add];refine .aC (fun y hy=>oN y (eN y hy)) (fun y hy=>en y (eN y hy)) (by rw[hlen];omega) (by rw[hlen];omega) (fun _=>rfl) (fun j=>f (l*te.size+j)) (fun j c hj=>?_) (fun j c hj=>?_) trivial
  ·have:=hm _ c (DB oN l h j c hj);simpa[Nat.add_assoc]using this
  exact hr _ c (DB oN l h j c hj)
def ae.bp:ae->ae
 | .aC sz xs _=>.aC sz xs .sh
 | x=>x
def ae.share:ae->ae
 | .aC sz xs _=>.aC sz xs .sh
 | .agg cs=>.agg (cs.map ae.bp)
 | x=>x
theorem RV.bp{g:G}{x:ae}{u:Value}(h:RV g x u):RV g x.bp u:=by
 unfold ae.bp;split
 ·exact h.xG
 exact h
theorem ae.gb{x:ae}(h:x.scalar):x.bp.scalar:=by
 cases x<;>first|exact h|trivial
theorem RV.share{g:G}{x:ae}{u:Value}(h:RV g x u):RV g x.share u:=by
 unfold ae.share;split
 ·exact h.xG
 ·obtain⟨vs,e,hl,en,hh⟩:=h.x6;subst e;refine .agg (by simpa using hl) (fun c hc=>?_) (fun i c w h1 h2=>?_)
  ·rw[List.mem_map]at hc;obtain⟨c',h1,h2⟩:=hc;subst h2;exact ae.gb (en c' h1)
  rw[List.getElem?_map,Option.map_eq_some_iff]at h1;obtain⟨c',h3,h4⟩:=h1;subst h4;exact(hh i c' w h3 h2).bp
 exact h
def kI(g:G)(cs:List ae)(arr:Array Value):Prop:=arr.size=cs.length∧∀(j:Nat) (c:ae) (u:Value),cs[j]?=some c->arr[j]?=some u->RV g c u
theorem kI.mono{g g':G}(h:Le g g'){cs:List ae}{arr:Array Value}(k:kI g cs arr):kI g' cs arr:=⟨k.1,fun j c u a b=>(k.2 j c u a b).mono h⟩
theorem kI.agg{g:G}{cs:List ae}{arr:Array Value}(k:kI g cs arr)(en:∀c∈cs,c.scalar):RV g (.agg cs) (.agg arr):=.agg k.1 en k.2
theorem RV.B0{g:G}{x:ae}{u:Value}(h:RV g x u)(hs:∀c∈x.cells,c.scalar):kI g x.cells u.cells:=h.cells hs
def ae.flat:ae->Prop
 | .c5 _=>False
 | _=>True
theorem RV.kT{g:G}{x:ae}{u:Value}(h:RV g x u)(hx:x.flat):∀c∈x.cells,c.scalar:=by
 cases h with
 | agg hl en hh=>exact en
 | c5=>exact hx.elim
 | _=>intro c hc;simp only[ae.cells,List.mem_singleton]at hc;subst hc;trivial
def bu(cs:List ae)(off:Nat)(xs:List ae):List ae:=cs.take off++(xs++cs.drop (off+xs.length))
theorem j'{cs:List ae}{off:Nat}{xs:List ae}(h:off+xs.length<=cs.length):(bu cs off xs).length=cs.length:=by
 simp[bu];omega
theorem vT{cs:List ae}{off:Nat}{xs:List ae}(h:off+xs.length<=cs.length)(k:Nat) :
  (bu cs off xs)[k]?=if off<=k∧k<off+xs.length then xs[k-off]? else cs[k]?:=by
 simp only[bu];rw[List.getElem?_append,List.getElem?_append,List.getElem?_take,List.getElem?_drop];have hl:(cs.take off).length=off:=by simp;omega
 rw[hl];by_cases h1:k<off
 ·rw[if_pos h1,if_pos h1,if_neg (by omega)]
 rw[if_neg h1];by_cases h2:k-off<xs.length
 ·rw[if_pos h2,if_pos (by omega)]
 rw[if_neg h2,if_neg (by omega)];congr 1;omega
theorem xr(off:Nat):∀(vs:List Value) (n:Nat) (arr:Array Value),off+n+vs.length<=arr.size->∀k,((vs.zipIdx n).foldl (fun cs p=>cs.setIfInBounds (off+p.2) p.1) arr).size=arr.size ∧
  ((vs.zipIdx n).foldl (fun cs p=>cs.setIfInBounds (off+p.2) p.1) arr)[k]?=if off+n<=k∧k<off+n+vs.length then vs[k-(off+n)]? else arr[k]?
 | [],n,arr,_,k=>by
  refine⟨rfl,?_⟩;rw[if_neg (by simp only[List.length_nil];omega)];rfl
 | v::vs,n,arr,h,k=>by
  simp only[List.length_cons]at h;obtain⟨h1,h2⟩:=xr off vs (n+1) (arr.setIfInBounds (off+n) v) (by rw[Array.size_setIfInBounds];omega) k;simp only[List.zipIdx_cons,List.foldl_cons];refine⟨h1.trans (by simp),?_⟩;rw[h2];simp only[List.length_cons];by_cases e1:off+(n+1)<=k∧k<off+(n+1)+vs.length
  ·rw[if_pos e1,if_pos (by omega),show k-(off+n)=(k-(off+(n+1)))+1 by omega];simp
  rw[if_neg e1];by_cases e2:k=off+n
  ·subst e2;rw[if_pos (by omega),Nat.sub_self];rw[Array.getElem?_setIfInBounds_self_of_lt (by omega)];rfl
  rw[if_neg (by omega),Array.getElem?_setIfInBounds_ne (by omega)]
def kO(place:Nat->Option (Nat×Nat)):List ae->List (Nat×ae)->Option (List ae)
 | cs,[]=>some cs
 | cs,(i,x)::r =>
  match place i with
  | none=>none
  | some (off,size)=>if x.cells.length=size∧off+size<=cs.length then kO place (bu cs off x.cells) r else none
inductive E3(g:G):List (Nat×ae)->List (Nat×Value)->Prop
 | nil:E3 g [] []
 | cons {i:Nat} {x:ae} {u:Value} {ps:List (Nat×ae)} {vs:List (Nat×Value)} (h:RV g x u) (hf:x.flat) (r:E3 g ps vs):E3 g ((i,x)::ps) ((i,u)::vs)
theorem so{g:G}(place:Nat->Option (Nat×Nat)){ps:List (Nat×ae)}{vs:List (Nat×Value)}(hp:E3 g ps vs):∀{cs cs':List ae} {arr:Array Value},kI g cs arr->kO place cs ps=some cs' ->
  ∃cS,Instr.fill place arr vs=some cS∧kI g cs' cS∧((∀c∈cs,c.scalar)->∀c∈cs',c.scalar):=by
 induction hp with
 | nil =>
  intro cs cs' arr h e;simp only[kO,Option.some.injEq]at e;subst e;exact⟨arr,rfl,h,fun h=>h⟩
 | cons hx hf r ih =>
  rename_i i x u ps vs;intro cs cs' arr h e;simp only[kO]at e;cases oM:place i with
  | none=>simp[oM]at e
  | some p =>
   obtain⟨off,size⟩:=p;simp only[oM]at e;split at e
   ·rename_i hc;obtain⟨nh,LP⟩:=hc;have iq:=hx.kT hf;obtain⟨q1,q2⟩:=hx.B0 iq;have dk:off+0+u.cells.toList.length<=arr.size:=by
     simp only[Array.length_toList,q1,nh,h.1];omega
    have iW:=xr off u.cells.toList 0 arr dk;have vm:kI g (bu cs off x.cells) (u.cells.zipIdx.foldl (fun cs p=>cs.setIfInBounds (off+p.2) p.1) arr):=by
     have RG:u.cells.zipIdx.foldl (fun cs p=>cs.setIfInBounds (off+p.2) p.1) arr=(u.cells.toList.zipIdx 0).foldl (fun cs p=>cs.setIfInBounds (off+p.2) p.1) arr:=by
      rw[<-Array.foldl_toList];congr 1;simp[Array.toList_zipIdx]
     rw[RG];refine⟨?_,fun j c w hj hw=>?_⟩
     ·rw[(iW 0).1,j' (by omega),h.1]
     rw[(iW j).2]at hw;rw[vT (by omega)]at hj;simp only[Nat.add_zero,Array.length_toList,q1]at hw;by_cases K6:off<=j∧j<off+x.cells.length
     ·rw[if_pos K6]at hj hw;exact q2 _ c w hj (by simpa using hw)
     rw[if_neg K6]at hj hw;exact h.2 j c w hj hw
    obtain⟨cS,e1,e2,e3⟩:=ih vm e;refine⟨cS,?_,e2,fun bq=>e3 fun c hc=>?_⟩
    ·simp only[Instr.fill,oM];rw[if_neg (by simp[q1,nh,h.1];omega)];exact e1
    simp only[bu,List.mem_append]at hc;rcases hc with hc|hc|hc
    ·exact bq c (List.mem_of_mem_take hc)
    ·exact iq c hc
    exact bq c (List.mem_of_mem_drop hc)
   cases e
def St.gk(σ:St):List (Nat×Operand)->Option (List (Nat×ae))
 | []=>some []
 | (i,x)::r =>
  match σ.ev x,σ.gk r with
  | some y,some ys=>some ((i,y)::ys)
  | _,_=>none
theorem lP{σ:St}{a:Act}{g:G}:∀{parts:List (Nat×Operand)} {ps:List (Nat×ae)},(∀x∈parts.map (·.2),∀y,σ.ev x=some y->RV g y (a.eval x))->σ.gk parts=some ps->(∀p∈ps,p.2.flat) ->
  E3 g ps (parts.map fun p=>(p.1,a.eval p.2))
 | [],ps,_,h,_=>by
  simp only[St.gk,Option.some.injEq]at h;subst h;exact .nil
 | (i,x)::r,ps,nW,h,hf=>by
  simp only[St.gk]at h;cases hx:σ.ev x with
  | none=>simp[hx]at h
  | some y =>
   cases hr:σ.gk r with
   | none=>simp[hx,hr]at h
   | some ys =>
    simp only[hx,hr,Option.some.injEq]at h;subst h;exact .cons (nW x (by simp) y hx) (hf (i,y) (List.mem_cons_self)) (lP (fun z hz=>nW z (by simp only[List.map_cons,List.mem_cons];exact .inr hz)) hr fun p hp=>hf p (List.mem_cons_of_mem _ hp))
def jA(aS:fM):List (Nat×TypeId)->Option (List (Nat×Nat))
 | []=>some []
 | (off,t)::r =>
  match aS t,jA aS r with
  | some ti,some ps=>some ((off,ti.size)::ps)
  | _,_=>none
theorem tn{P:Program}{aS:fM}(hT:cG P aS):∀{fields:List Field} {ps:List (Nat×Nat)},jA aS (fields.map fun f=>(f.offset,f.type))=some ps ->
  fields.mapM (fun f=>(P.info? f.type).map fun i=>(f.offset,i.size))=some ps
 | [],ps,h=>by
  simp only[List.map_nil,jA,Option.some.injEq]at h;subst h;rfl
 | f::r,ps,h=>by
  simp only[List.map_cons,jA]at h;cases ht:aS f.type with
  | none=>simp[ht]at h
  | some ti =>
   cases hr:jA aS (r.map fun f=>(f.offset,f.type))with
   | none=>simp[ht,hr]at h
   | some qs =>
    simp only[ht,hr,Option.some.injEq]at h;subst h;obtain⟨⟨i,z,h1,h2,_⟩,_⟩:=hT _ _ ht;have ih:=tn hT hr;simp only[List.mapM_cons,h1,Option.map_some,ih];simp[h2]
theorem B3{P:Program}{aS:fM}(hT:cG P aS){o:Oper}{σ:St}{t:TypeId}{parts:Array (Nat×Operand)}{ti:cQ}{fs:List (Nat×TypeId)}{jz:List (Nat×Nat)}{ps:List (Nat×ae)}{cs:List ae}
  (ho:o.op=.build t parts) (hd:∀d,o.dst=some d->d<σ.n) (ht:aS t=some ti) (a7:ti.desc=.struct fs) (oM:jA aS fs=some jz) (BA:σ.gk parts.toList=some ps) (gf:∀p∈ps,p.2.flat)
  (iq:kO (fun i=>jz[i]?) ti.zero ps=some cs):Cert P o σ (.agg cs) .pure :=
 Cert.bZ .pure (.inl rfl) hd fun a g _ h _=>by
  have cu:=lP (a:=a) (g:=g) (fun x hx y hy=>h x (by simpa[ho,Op.operands]using hx) y hy) BA gf;obtain⟨⟨i,z,h1,h2,h3,h4,h5,h6,h7,h8,h9⟩,d,Hz,TH⟩:=hT t ti ht;rw[a7]at TH;obtain⟨fields,e1,e2⟩:=TH;subst e1;obtain⟨cS,q1,q2,q3⟩:=so (fun i=>jz[i]?) cu (cs:=ti.zero) (arr:=z.cells) ⟨h5,h8 g⟩ iq;have hp:=tn hT (fields:=fields.toList) (ps:=jz) (by rw[e2];exact oM);have hb:P.built t (parts.map fun(i,x)=>(i,a.eval x)).toList=some cS:=by
   unfold Program.built;simp only[h1,Hz,h4,hp];rw[Array.toList_map];simpa using q1
  have bS:=run_build g.w t _ cS hb;exact⟨.agg cS,by simp[execOp,ho,bS],q2.agg (q3 h9)⟩
theorem RV.newRow{g:G}(hg:Good g){xs:List ae}{sz:Nat}{arr:Array Value}{t:TypeId}(dk:∀x∈xs,x.cells.length=sz)(en:∀x∈xs,∀c∈x.cells,c.scalar)(cZ:xs.length<=2 ^ 62)
  (hr:kI g (ar xs) arr):RV (g.push (.cells arr t)) (.aC sz xs .ex) (.slice (some ⟨g.w.heap.size,0,none⟩) xs.length xs.length):=by
 have hle:=Le.push g hg (.cells arr t);have QN:=hg.push (.cells arr t);refine .aC dk en (Nat.le_refl _) cZ (fun _=>rfl) (fun j=>arr.getD j undef) (fun j c hj=>?_) (fun j c hj=>?_) rfl
 ·have aN:=ag hj;rw[<-hr.1]at aN;refine⟨?_,?_⟩
  ·simp only[G.cell,G.push,Nat.zero_add];rw[cell_of_row (dx _ _)];simp[Array.getD_eq_getD_getElem?,aN]
  rintro(hf|⟨id,l,o,h1,h2,h3,h4,_⟩)
  ·have fA:g.fr g.w.heap.size (0+j):=hf;have:=hg.frlt _ _ fA;omega
  have:=hg.loc id l o h1 h2 h3;have XK:l.block=g.w.heap.size:=h4;omega
 have aN:=ag hj;rw[<-hr.1]at aN;exact(hr.2 j c _ hj (by simp[Array.getD_eq_getD_getElem?,aN])).mono hle
theorem xq{sz:Nat}:∀(ys:List ae) (k:Nat) (cs cs':List ae),kO (fun i=>some (i*sz,sz)) cs ((ys.zipIdx k).map fun p=>(p.2,p.1))=some cs'->(k+ys.length)*sz<=cs.length ->
  cs'=cs.take (k*sz)++(ar ys++cs.drop ((k+ys.length)*sz))∧∀y∈ys,y.cells.length=sz
 | [],k,cs,cs',h,hl=>by
  simp only[List.zipIdx_nil,List.map_nil,kO,Option.some.injEq]at h;subst h;simp[ar]
 | y::ys,k,cs,cs',h,hl=>by
  simp only[List.zipIdx_cons,List.map_cons,kO]at h;split at h
  ·rename_i hc;obtain⟨nh,LP⟩:=hc;have rB:(k+1+ys.length)*sz<=(bu cs (k*sz) y.cells).length:=by
    rw[j' (by omega)];simp only[List.length_cons]at hl;rw[show k+1+ys.length=k+(ys.length+1) by omega];exact hl
   obtain⟨e1,e2⟩:=xq ys (k+1) _ cs' h rB;refine⟨?_,fun z hz=>?_⟩
   ·rw[e1];apply List.ext_getElem?;intro j;simp only[List.length_cons]at hl ⊢;have L4:(k+1)*sz=k*sz+sz:=Nat.succ_mul k sz;have wy:(bu cs (k*sz) y.cells).take ((k+1)*sz)=cs.take (k*sz)++y.cells:=by
     simp only[bu];rw[L4,List.take_append];have hlen:(cs.take (k*sz)).length=k*sz:=by simp;omega
     have Lb:(cs.take (k*sz)).take (k*sz+sz)=cs.take (k*sz):=List.take_of_length_le (by omega);rw[hlen,Lb,show k*sz+sz-k*sz=sz by omega,List.take_append,List.take_of_length_le (Nat.le_of_eq nh),nh,Nat.sub_self];simp
    have Wv:(bu cs (k*sz) y.cells).drop ((k+1+ys.length)*sz)=cs.drop ((k+(ys.length+1))*sz):=by
     simp only[bu];have hlen:(cs.take (k*sz)).length=k*sz:=by simp;omega
     have hmul:(k+1+ys.length)*sz=k*sz+sz+ys.length*sz:=by rw[Nat.add_mul,L4]
     have Sd:(k+(ys.length+1))*sz=k*sz+sz+ys.length*sz:=by rw[Nat.add_mul,Nat.succ_mul];omega
     have vf:(cs.take (k*sz)).drop (k*sz+sz+ys.length*sz)=[]:=List.drop_of_length_le (by rw[hlen];omega);have n6:y.cells.drop (k*sz+sz+ys.length*sz-k*sz)=[]:=List.drop_of_length_le (by omega);rw[hmul,Sd,List.drop_append,vf,hlen,List.nil_append,List.drop_append,n6,List.nil_append,List.drop_drop,nh];congr 1;omega
    rw[wy,Wv];simp[ar,List.append_assoc]
   rcases List.mem_cons.1 hz with hz|hz
   ·subst hz;exact nh
   exact e2 z hz
  cases h
def jB:Nat->List (Nat×ae)->Option (List ae)
 | _,[]=>some []
 | k,(i,x)::r =>
  if i=k then
   match jB (k+1) r with
   | some xs=>some (x::xs)
   | none=>none
  else none
theorem tp:∀{ps:List (Nat×ae)} {k:Nat} {xs:List ae},jB k ps=some xs->ps=(xs.zipIdx k).map fun p=>(p.2,p.1)
 | [],k,xs,h=>by
  simp only[jB,Option.some.injEq]at h;subst h;rfl
 | (i,x)::r,k,xs,h=>by
  simp only[jB]at h;split at h
  ·rename_i hi;subst hi;cases hr:jB (i+1) r with
   | none=>simp[hr]at h
   | some ys =>
    simp only[hr,Option.some.injEq]at h;subst h;simp[tp hr]
  cases h
theorem ae.lL(x:ae):x.share.cells=x.cells.map ae.bp:=by
 cases x<;>rfl
theorem kI.bV{g:G}{cs:List ae}{arr:Array Value}(h:kI g cs arr):kI g (cs.map ae.bp) arr :=
 ⟨by simpa using h.1,fun j c u h1 h2=>by
  rw[List.getElem?_map,Option.map_eq_some_iff]at h1;obtain⟨c',h3,h4⟩:=h1;subst h4;exact(h.2 j c' u h3 h2).bp⟩
theorem ef(xs:List ae):ar (xs.map ae.share)=(ar xs).map ae.bp:=by
 induction xs with
 | nil=>rfl
 | cons y ys ih =>
  simp only[ar,List.map_cons,List.flatMap_cons,List.map_append,ae.lL]at ih ⊢;rw[ih]
theorem tB{P:Program}{aS:fM}(hT:cG P aS){o:Oper}{σ:St}{t e:TypeId}{len:Nat}{parts:Array (Nat×Operand)}{ti te:cQ}{ps:List (Nat×ae)}{xs:List ae}
  (ho:o.op=.buildSlice t len parts) (hd:∀d,o.dst=some d->d<σ.n) (ht:aS t=some ti) (a7:ti.desc=.slice e) (he:aS e=some te) (lu:0<te.size) (BA:σ.gk parts.toList=some ps) (gf:∀p∈ps,p.2.flat)
  (UC:jB 0 ps=some xs) (hlen:xs.length=len) (dk:∀x∈xs,x.cells.length=te.size) (Mm:len*te.size<=2 ^ 24):Cert P o σ (.aC te.size (xs.map ae.share) .ex) .pure :=
 Cert.jI hd fun base ji a g cu h _=>by
  have hg:=cu.good;have VT:=lP (a:=a) (g:=g) (fun x hx y hy=>h x (by simpa[ho,Op.operands]using hx) y hy) BA gf;have hu:=cf hT ht a7;obtain⟨⟨i,z,h1,h2,h3,h4,h5,h6,h7,h8,h9⟩,_⟩:=hT e te he;have yJ:=tp UC;have en:∀x∈xs,∀c∈x.cells,c.scalar:=by
   have aux:∀{ps:List (Nat×ae)} {vs:List (Nat×Value)},E3 g ps vs->∀p∈ps,∀c∈p.2.cells,c.scalar:=by
    intro ps vs hr;induction hr with
    | nil=>intro p hp;cases hp
    | cons hx hf r ih =>
     intro p hp;rcases List.mem_cons.1 hp with hp|hp
     ·subst hp;exact hx.kT hf
     exact ih p hp
   intro x hx c hc;have eN:∃k,(k,x)∈ps:=by
    obtain⟨k,hk⟩:=List.getElem?_of_mem hx;refine⟨0+k,?_⟩;rw[yJ,List.mem_map];refine⟨(x,0+k),?_,rfl⟩;rw[List.mem_iff_getElem?];exact⟨k,by simp[hk]⟩
   obtain⟨k,hk⟩:=eN;exact aux VT _ hk c hc
  by_cases hz:len=0
  ·subst hz;have CH:xs=[]:=List.length_eq_zero_iff.1 hlen;subst CH;have Ux:ps=[]:=by rw[yJ];rfl
   subst Ux;have Sk:parts.toList=[]:=by
    cases hp:parts.toList with
    | nil=>rfl
    | cons p r =>
     obtain⟨i,x⟩:=p;rw[hp]at BA;simp only[St.gk]at BA;cases hx:σ.ev x with
     | none=>simp[hx]at BA
     | some y =>
      cases hr:σ.gk r with
      | none=>simp[hx,hr]at BA
      | some ys=>simp[hx,hr]at BA
   have PU:parts = #[]:=Array.toList_eq_nil_iff.1 Sk;subst PU;refine⟨.slice (some ⟨g.w.heap.size,0,none⟩) 0 0,g.push (.cells #[] e),.inl ?_,Le.push g hg _,hg.push _,rfl,?_⟩
   ·have er:Array.range 0 = #[]:=rfl;simp[execOp,ho,Instr.buildSlice,run_underlying hu,Go.sizeOf,typeInfo,h1,Instr.fill,Go.newRow,G.push,er]
   exact RV.newRow (xs:=[]) hg (by simp) (by simp) (by simp) ⟨by simp[ar],by simp[ar]⟩
  have cA:¬len*i.size=0:=by
   rw[h2];intro e0;rcases Nat.mul_eq_zero.1 e0 with q|q<;>omega
  obtain⟨zs,CI⟩:∃zs:Array Value,zs=(Array.range (len*i.size)).map (z.cells[· % z.cells.size]!):=⟨_,rfl⟩
  have H':zs.size=len*te.size:=by rw[CI];simp[h2]
  obtain⟨zc,V3,Lf,QV⟩:∃zc:List ae,(∀c∈zc,c.scalar)∧kI g zc zs∧zc.length=len*te.size:=by
   refine⟨(List.range (len*te.size)).map fun j=>te.zero.getD (j % te.size) (.v (.bool false)),fun c hc=>?_,⟨by simp[H'],fun j c u hj Uf=>?_⟩,by simp⟩
   ·rw[List.mem_map]at hc;obtain⟨j,_,e⟩:=hc;subst e;have aN:j % te.size<te.zero.length:=by rw[h6];exact Nat.mod_lt _ lu
    rw[List.getD_eq_getElem?_getD,List.getElem?_eq_getElem aN];exact h9 _ (List.getElem_mem aN)
   have lT:=ag hj;simp only[List.length_map,List.length_range]at lT;rw[List.getElem?_map,List.getElem?_range lT]at hj;simp only[Option.map_some,Option.some.injEq]at hj;subst hj;have aN:j % te.size<te.zero.length:=by rw[h6];exact Nat.mod_lt _ lu
   have iB:j % te.size<z.cells.size:=by rw[h5];exact aN
   rw[CI]at Uf;simp only[Array.getElem?_map,h2,Array.getElem?_range,if_pos lT,Option.map_some,Option.some.injEq]at Uf;subst Uf;rw[List.getD_eq_getElem?_getD,List.getElem?_eq_getElem aN];refine h8 g (j % te.size) _ _ (List.getElem?_eq_getElem aN) ?_;rw[h5,h6];simp[iB]
  have RZ:∃cs',kO (fun i=>some (i*te.size,te.size)) zc ps=some cs':=by
   have aux:∀(ys:List ae) (k:Nat) (cs:List ae),(∀y∈ys,y.cells.length=te.size)->(k+ys.length)*te.size<=cs.length->∃cs',kO (fun i=>some (i*te.size,te.size)) cs ((ys.zipIdx k).map fun p=>(p.2,p.1))=some cs':=by
    intro ys;induction ys with
    | nil=>intro k cs _ _;exact⟨cs,rfl⟩
    | cons y ys ih =>
     intro k cs hy hl;simp only[List.zipIdx_cons,List.map_cons,kO];simp only[List.length_cons]at hl;have L4:(k+1)*te.size=k*te.size+te.size:=Nat.succ_mul k te.size;have mH:(k+1)*te.size<=(k+(ys.length+1))*te.size:=Nat.mul_le_mul_right _ (by omega);have hc:y.cells.length=te.size∧k*te.size+te.size<=cs.length:=⟨hy y (by simp),by omega⟩
     rw[if_pos hc];refine ih (k+1) _ (fun z hz=>hy z (List.mem_cons_of_mem _ hz)) ?_;rw[j' (by omega),show k+1+ys.length=k+(ys.length+1) by omega];exact hl
   rw[yJ];exact aux xs 0 zc dk (by rw[QV,hlen,Nat.zero_add];exact Nat.le_refl _)
  obtain⟨cs',LS⟩:=RZ;obtain⟨cS,q1,q2,_⟩:=so (fun i=>some (i*te.size,te.size)) VT Lf LS;obtain⟨e1,_⟩:=xq xs 0 zc cs' (by rw[<-yJ];exact LS) (by rw[QV,hlen,Nat.zero_add];exact Nat.le_refl _);have e2:cs'=ar xs:=by
   rw[e1];simp only[Nat.zero_mul,List.take_zero,List.nil_append,Nat.zero_add];rw[List.drop_of_length_le (by rw[QV,hlen];omega),List.append_nil]
  subst e2;have bS:(Instr.buildSlice t len (parts.map fun(i,x)=>(i,a.eval x))).run P g.w=.ok (.slice (some ⟨g.w.heap.size,0,none⟩) len len) (g.w.alloc (.cells cS e)):=by
   have LN:¬len*i.size > 2 ^ 24:=by rw[h2];omega
   rw[CI,<-h2]at q1;have QW:Instr.fill (fun Xj=>some (Xj*i.size,i.size)) ((Array.range (len*i.size)).map (z.cells[· % z.cells.size]!)) (parts.map fun(i,x)=>(i,a.eval x)).toList=some cS:=by
    rw[Array.toList_map];exact q1
   simp only[Instr.buildSlice,run_underlying hu,Go.sizeOf,typeInfo,Go.zeroValue,Sem.run_bind,run_program,Result.andThen_ok,h1,Sem.run_pure,Go.newRow];rw[if_neg LN,if_neg cA];simp only[Sem.run_bind,Sem.run_pure,Result.andThen_ok,run_program,h1,h4,QW,run_newObj];rfl
  refine⟨.slice (some ⟨g.w.heap.size,0,none⟩) len len,g.push (.cells cS e),.inl (by simp[execOp,ho,bS,G.push]),Le.push g hg _,hg.push _,rfl,?_⟩;have:=RV.newRow (xs:=xs.map ae.share) (sz:=te.size) (arr:=cS) (t:=e) hg (fun x hx=>by
   rw[List.mem_map]at hx;obtain⟨y,h1,h2⟩:=hx;subst h2;rw[ae.lL,List.length_map];exact dk y h1) (fun x hx c hc=>by
   rw[List.mem_map]at hx;obtain⟨y,h1,h2⟩:=hx;subst h2;rw[ae.lL,List.mem_map]at hc;obtain⟨c',h3,h4⟩:=hc;subst h4;exact ae.gb (en y h1 c' h3)) (by
    simp only[List.length_map,hlen];have:len<=len*te.size:=Nat.le_mul_of_pos_right _ lu;omega) (by rw[ef];exact q2.bV)
  rw[List.length_map,hlen]at this;exact this
end Go.Av
namespace Go.Av
theorem fY{g:G}{o:ay}:(g.objs++[o])[g.objs.length]?=some o:=by simp
theorem j5{g:G}(hg:Good g){l:Option Loc}:(g.env++[l])[g.objs.length]?=some l:=by
 rw[<-hg.len];simp
theorem G5{P:Program}{o:Oper}{σ:St}{t:TypeId}{x:Operand}{y:ae}(ho:o.op=.box t x)(hd:∀d,o.dst=some d->d<σ.n)(hx:σ.ev x=some y)(hf:y.flat) :
  Cert P o σ (.mp σ.objs.length 0) (.write (σ.objs++[.cells y.cells])) :=
 Cert.jI hd fun base ji a g cu h kY=>by
  have hO:g.objs=σ.objs:=kY.resolve_left (by simp);have hg:=cu.good;have iU:=h x (by simp[ho,Op.operands]) _ hx;have en:=iU.kT hf;have yL:=iU.B0 en;have hle:=Le.alloc hg (.cells (a.eval x).cells t) 0 (.cells y.cells);refine⟨.pointer (some ⟨g.w.heap.size,0,none⟩),g.alloc (.cells (a.eval x).cells t) 0 (.cells y.cells),.inl ?_,hle,Good.alloc hg _ 0 _ (.inr rfl) ⟨_,t,rfl,by rw[yL.1];exact Nat.le_refl _,(yL.mono hle).2,en⟩,?_,?_⟩
  ·simp[execOp,ho,Instr.box,Go.newVar,Go.newRow,G.alloc]
  ·simp[G.alloc,hO,Mode.post]
  rw[<-hO];exact .mp (l:=⟨g.w.heap.size,0,_⟩) (j5 hg) fY (by simp[ay.aP])
theorem B1{P:Program}{aS:fM}(hT:cG P aS){o:Oper}{σ:St}{t:TypeId}{ti:cQ}(ho:o.op=.alloc t)(hd:∀d,o.dst=some d->d<σ.n)(ht:aS t=some ti) :
  Cert P o σ (.mp σ.objs.length 0) (.write (σ.objs++[.cells ti.zero])) :=
 Cert.jI hd fun base ji a g cu h kY=>by
  have hO:g.objs=σ.objs:=kY.resolve_left (by simp);have hg:=cu.good;obtain⟨z,hz,h5,_,_,h8,h9⟩:=(hT t ti ht).zeroValue;have hle:=Le.alloc hg (.cells z.cells t) 0 (.cells ti.zero);refine⟨.pointer (some ⟨g.w.heap.size,0,none⟩),g.alloc (.cells z.cells t) 0 (.cells ti.zero),.inl ?_,hle,Good.alloc hg _ 0 _ (.inr rfl) ⟨_,t,rfl,by rw[h5];exact Nat.le_refl _,fun j c u a b=>h8 _ j c u a b,h9⟩,?_,?_⟩
  ·simp[execOp,ho,Instr.alloc,hz,Go.newVar,Go.newRow,G.alloc]
  ·simp[G.alloc,hO,Mode.post]
  rw[<-hO];exact .mp (l:=⟨g.w.heap.size,0,_⟩) (j5 hg) fY (by simp[ay.aP])
theorem yi{P:Program}{o:Oper}{σ:St}{t:TypeId}(kt:KT)(ho:o.op=.makeMap t none)(hd:∀d,o.dst=some d->d<σ.n) :
  Cert P o σ (.mm σ.objs.length) (.write (σ.objs++[.map kt []])) :=
 Cert.jI hd fun base ji a g cu h kY=>by
  have hO:g.objs=σ.objs:=kY.resolve_left (by simp);have hg:=cu.good;have hle:=Le.alloc hg (.map #[] 0) 0 (.map kt []);refine⟨.map (some g.w.heap.size),g.alloc (.map #[] 0) 0 (.map kt []),.inl ?_,hle,Good.alloc hg _ 0 _ (.inr rfl) ⟨#[],0,rfl,rfl,by simp,by simp⟩,?_,?_⟩
  ·simp[execOp,ho,Instr.makeMap,G.alloc]
  ·simp[G.alloc,hO,Mode.post]
  rw[<-hO];exact .mm (l:=⟨g.w.heap.size,0,_⟩) (j5 hg) fY (by simp[ay.aP])
theorem rR(z:List ae)(hz:0<z.length):∀(m j:Nat) (c:ae),(List.replicate m z).flatten[j]?=some c->z[j % z.length]?=some c
 | 0,j,c=>by simp
 | m+1,j,c=>by
  intro hj;rw[List.replicate_succ,List.flatten_cons,List.getElem?_append]at hj;split at hj
  ·rename_i aN;rw[Nat.mod_eq_of_lt aN];exact hj
  rename_i ql;have:=rR z hz m _ c hj;rw[Nat.mod_eq_sub_mod (by omega)];exact this
theorem uS{P:Program}{aS:fM}(hT:cG P aS){o:Oper}{σ:St}{t e:TypeId}{x y:Operand}{ti te:cQ}{k k':IntKind}{n:Int}
  (ho:o.op=.makeSlice t x y) (hd:∀d,o.dst=some d->d<σ.n) (ht:aS t=some ti) (a7:ti.desc=.slice e) (he:aS e=some te) (hx:σ.ev x=some (.v (.int k n))) (hy:σ.ev y=some (.v (.int k' n)))
  (h0:0<=n) (hb:te.bytes*n.toNat<=2 ^ 48) (QH:n.toNat<=2 ^ 62) (hs:0<te.size) :
  Cert P o σ (.ms σ.objs.length 0 n.toNat n.toNat) (.write (σ.objs++[.cells (List.replicate n.toNat te.zero).flatten])) :=
 Cert.jI hd fun base ji a g cu h kY=>by
  have hO:g.objs=σ.objs:=kY.resolve_left (by simp);have hg:=cu.good;have ex:=(h x (by simp[ho,Op.operands]) _ hx).cL.1;have ey:=(h y (by simp[ho,Op.operands]) _ hy).cL.1;have hu:=cf hT ht a7;obtain⟨⟨i,z,h1,h2,h3,h4,h5,h6,h7,h8,h9⟩,_⟩:=hT e te he;obtain⟨m,rfl⟩:=Int.eq_ofNat_of_zero_le h0;simp only[Int.toNat_natCast]at *;have sa:(i.bytes:Int)*(m:Int)<=281474976710656:=by
   rw[h3,<-Int.natCast_mul];omega
  have bS:=run_make (P:=P) g.w t e i z hu h1 h4 k k' m m (by omega) (Int.le_refl _) sa (by omega);simp only[Int.toNat_natCast]at bS;have hlen:(List.replicate m te.zero).flatten.length=m*te.size:=by simp[h6]
  have iM:∀(j:Nat) (c:ae),(List.replicate m te.zero).flatten[j]?=some c->te.zero[j % te.size]?=some c:=fun j c=>h6 ▸ rR te.zero (by omega) m j c;have hle:=Le.alloc hg (.cells (madeCells z.cells (m*i.size)) e) 0 (.cells (List.replicate m te.zero).flatten);refine⟨.slice (some ⟨g.w.heap.size,0,none⟩) m m,g.alloc (.cells (madeCells z.cells (m*i.size)) e) 0 (.cells (List.replicate m te.zero).flatten),.inl ?_,hle,Good.alloc hg _ 0 _ (.inr rfl) ⟨_,e,rfl,?_,?_,?_⟩,?_,?_⟩
  ·simp[execOp,ho,ex,ey,bS,G.alloc]
  ·rw[hlen,size_madeCells,h2];exact Nat.le_refl _
  ·intro j c u hj qm;have lT:=iM j c hj;have aN:=ag hj;rw[hlen]at aN;have iB:j % te.size<z.cells.size:=by rw[h5];exact ag lT
   refine h8 _ _ _ _ lT ?_;simp only[madeCells,Array.getElem?_map,h2,Array.getElem?_range,if_pos aN,Option.map_some,Option.some.injEq]at qm;subst qm;rw[h5,h6];simp[iB]
  ·intro c hc;rw[List.mem_flatten]at hc;obtain⟨l,hl,hc⟩:=hc;rw[List.mem_replicate]at hl;exact h9 c (hl.2 ▸ hc)
  ·simp[G.alloc,hO,Mode.post]
  rw[<-hO];exact .ms (l:=⟨g.w.heap.size,0,_⟩) (j5 hg) fY (by simp[ay.aP]) (Nat.le_refl _) (Nat.le_refl _) QH
theorem kI.bu{g:G}{cs xs:List ae}{arr vs:Array Value}(h:cs.length<=arr.size∧∀(j:Nat)(c:ae)(u:Value),cs[j]?=some c->arr[j]?=some u->RV g c u)(k:kI g xs vs){off:Nat}(ho:off+xs.length<=cs.length) :
  (bu cs off xs).length<=(arr.toList.take off++vs.toList++arr.toList.drop (off+vs.toList.length)).toArray.size ∧
  ∀(j:Nat) (c:ae) (u:Value),(bu cs off xs)[j]?=some c->(arr.toList.take off++vs.toList++arr.toList.drop (off+vs.toList.length)).toArray[j]?=some u->RV g c u:=by
 obtain⟨h1,h2⟩:=h;obtain⟨k1,k2⟩:=k;have hl:(arr.toList.take off).length=off:=by simp;omega
 refine⟨?_,fun j c u hj hu=>?_⟩
 ·rw[j' ho];simp[k1];omega
 rw[vT ho]at hj;have qm:(arr.toList.take off++vs.toList++arr.toList.drop (off+vs.toList.length))[j]?=some u:=by simpa using hu
 rw[List.append_assoc,List.getElem?_append,hl,List.getElem?_append,Array.length_toList,k1]at qm;by_cases e1:j<off
 ·rw[if_pos e1]at qm;rw[if_neg (by omega)]at hj;rw[List.getElem?_take,if_pos e1]at qm;exact h2 j c u hj (by simpa using qm)
 rw[if_neg e1]at qm;by_cases e2:j-off<xs.length
 ·rw[if_pos e2]at qm;rw[if_pos (by omega)]at hj;exact k2 _ c u hj (by simpa using qm)
 rw[if_neg e2]at qm;rw[if_neg (by omega)]at hj;rw[List.getElem?_drop]at qm;refine h2 j c u hj ?_;rw[show off+xs.length+(j-off-xs.length)=j by omega]at qm;simpa using qm
theorem setRow_other(w:World)(b k:Nat)(cs:Array Value)(h:k≠b):(w.setRow b cs).heap[k]?=w.heap[k]?:=by
 simp only[World.setRow,Array.getElem?_modify];rw[if_neg (by omega)]
theorem setRow_size(w:World)(b:Nat)(cs:Array Value):(w.setRow b cs).heap.size=w.heap.size:=by
 simp[World.setRow]
theorem l8{g:G}{id:Nat}{cs cs':List ae}{l:Loc}(ho:g.objs[id]?=some (.cells cs))(he:g.env[id]?=some (some l))(kp:l.lo=0)(cS:Array Value):oe g id (.cells cs) (some l) (.cells cs') (g.w.setRow l.block cS) where
 obj:=ho
 os:=rfl
 tape:=rfl
 output:=rfl
 size:=by rw[setRow_size];exact Nat.le_refl _
 block:=fun k _ hk=>setRow_other _ _ _ _ (fun e=>hk l he trivial e.symm)
 cell:=fun b off x hx hb=>by
  by_cases e:b=l.block
  ·have:=hb l he trivial e.symm;omega
  rw[na (setRow_other g.w l.block b cS e)];exact hx
 place:=fun l1 h1 _=>by
  simp only[Option.some.injEq]at h1;subst h1;exact .inr ⟨l,he,trivial,rfl,Nat.le_refl _⟩
 spare:=fun m h=>by cases h
 plain:=fun _=>⟨by simp[ay.aP],he⟩
 gone:=by simp
theorem B8{P:Program}{aS:fM}(hT:cG P aS){o:Oper}{σ:St}{t:TypeId}{x y:Operand}{ti:cQ}{id off:Nat}{cs:List ae}{v:ae}(ho:o.op=.store t x y)(mj:o.dst=none)
  (ht:aS t=some ti) (hx:σ.ev x=some (.mp id off)) (s7:σ.objs[id]?=some (.cells cs)) (hy:σ.ev y=some v) (hf:v.flat) (dk:v.cells.length=ti.size) (hs:off+ti.size<=cs.length) :
  Cert P o σ (.v (.bool false)) (.write (σ.objs.set id (.cells (bu cs off v.cells)))) :=
 Cert.jI (by simp[mj]) fun base ji a g cu h kY=>by
  have hO:g.objs=σ.objs:=kY.resolve_left (by simp);have hg:=cu.good;obtain⟨l,o1,he,h1,_,ex⟩:=(h x (by simp[ho,Op.operands]) _ hx).ny;have DU:=h y (by simp[ho,Op.operands]) _ hy;have en:=DU.kT hf;have yL:=DU.B0 en;have mI:g.objs[id]?=some (.cells cs):=by rw[hO];exact s7
  obtain⟨arr,t',kp,fc,hlen,iq,ry,L7⟩:=hg.row mI he;obtain⟨cS,jc⟩:∃cS,cS=(arr.toList.take off++(a.eval y).cells.toList++arr.toList.drop (off+(a.eval y).cells.toList.length)).toArray:=⟨_,rfl⟩
  have eo:=run_storeCells_at P l.block off t' (a.eval y).cells.toList 0 arr g.w fc (by simp[yL.1];omega) (fun u hu=>by
   obtain⟨j,hj⟩:=List.getElem?_of_mem hu;have lT:(a.eval y).cells[j]?=some u:=by simpa using hj
   have aN:=bj lT;rw[yL.1]at aN;have hc:=List.getElem?_eq_getElem aN;exact((yL.2 j _ u hc lT).jd (en _ (List.mem_of_getElem? hc))).1)
  simp only[Nat.add_zero]at eo;rw[<-jc]at eo;have g8:=l8 (cs':=bu cs off v.cells) mI he kp cS;have hle:=Le.bO hg g8;have wy:=kI.bu ⟨hlen,iq⟩ yL (off:=off) (by omega);rw[<-jc]at wy;refine⟨.bool false,g.bO id (some l) (.cells (bu cs off v.cells)) (g.w.setRow l.block cS),.inr ⟨mj,?_⟩,hle,Good.bO hg g8 ?_ ?_,?_,.v trivial⟩
  ·have X1:((a.eval y).cells.size≠ti.size)=False:=by simp[yL.1,dk]
   simp[execOp,ho,ex,Instr.storeAt,Instr.sureAddr,Go.storeVar,(hT t ti ht).sizeOf,yL.1,dk,eo,G.bO]
  ·refine⟨l,cS,t',rfl,kp,?_,wy.1,fun j c u a b=>(wy.2 j c u a b).mono hle,fun c hc=>?_,?_⟩
   ·exact setRow_heap g.w l.block arr cS t' (0,0) fc
   ·simp only[bu,List.mem_append]at hc;rcases hc with hc|hc|hc
    ·exact ry c (List.mem_of_mem_take hc)
    ·exact en c hc
    exact ry c (List.mem_of_mem_drop hc)
   have q:=yL.1;rw[jc];simp only[List.size_toArray,List.length_append,List.length_take,List.length_drop,Array.length_toList];omega
  ·intro l1 h1 _;simp only[Option.some.injEq]at h1;subst h1;rw[setRow_size];exact bj fc
  simp only[G.bO,Mode.post,hO]
section
variable {P:Program}
theorem iR(w w':World)(t ty e:TypeId)(i:TypeInfo)(ht:P.underlying t=some (.slice e))(hi:P.info? e=some i)(a:Addr)(n5 vQ n:Nat)(x:Value)(news:List Value)
  (yP:∀w,(Builtin.lenOf x).run P w=.ok n w) (tY:(Builtin.firstCells i.size n x).run P w=.ok news.toArray w) (kP:n5+n<=vQ) (eo:(storeCells (a.add (n5*i.size)) news).run P w=.ok () w') :
  (Builtin.append_ #[t,t] ty #[.slice (some a) n5 vQ,x]).run P w=.ok (.slice (some a) (n5+n) vQ) w':=by
 simp[Builtin.append_,run_underlying ht,Go.sizeOf,typeInfo,hi,yP,kP,tY,eo]
theorem ic(w:World)(t ty e:TypeId)(i:TypeInfo)(z:Value)(ht:P.underlying t=some (.slice e))(hi:P.info? e=some i)(hz:i.zero=some z)(s:Option Addr)(n5 vQ n:Nat)(x:Value)(iC news:List Value)
  (yP:∀w,(Builtin.lenOf x).run P w=.ok n w) (tY:(Builtin.firstCells i.size n x).run P w.drew=.ok news.toArray w.drew) (hs:(Builtin.firstCells i.size n5 (.slice s n5 vQ)).run P w.drew=.ok iC.toArray w.drew)
  (kP:vQ<n5+n) (Wc:n5+n<=2 ^ 62) (iA:(n5+n)*i.bytes<=2 ^ 47) :
  (Builtin.append_ #[t,t] ty #[.slice s n5 vQ,x]).run P w =
   .ok (.slice (some ⟨w.heap.size,0,none⟩) (n5+n) (grownCap w (n5+n) vQ e)) (w.drew.alloc (.cells (iC.toArray++news.toArray++Builtin.zeroCells z.cells (grownCap w (n5+n) vQ e-(n5+n))) e)):=by
 have hn:¬(n5+n<=vQ):=by omega
 have TK:¬(9223372036854775807<((n5:Int)+(n:Int))):=by omega
 have Vi:¬(281474976710656<Builtin.nextslicecap (n5+n) vQ*i.bytes):=by
  have h1:=nextslicecap_le kP;have h2:=Nat.mul_le_mul_right i.bytes h1;rw[Nat.mul_assoc]at h2;omega
 simp[Builtin.append_,run_underlying ht,Go.sizeOf,typeInfo,Go.zeroValue,hi,hz,yP,hn,TK,Vi,Question.forced,tY,hs,Go.newRow,grownCap];congr 2;apply Array.ext';simp[List.append_assoc]
end
theorem RV.gC{P:Program}{g:G}{sz:Nat}{xs:List ae}{o:od}{u:Value}(h:RV g (.aC sz xs o) u):∃(ad:Option Addr) (cap:Nat) (vs:List Value),u=.slice ad xs.length cap∧(∀w,(Builtin.lenOf u).run P w=.ok xs.length w) ∧
  (∀w:World,w.heap=g.w.heap->(Builtin.firstCells sz xs.length u).run P w=.ok vs.toArray w)∧kI g (ar xs) vs.toArray∧(∀x∈xs,x.cells.length=sz)∧(∀c∈ar xs,c.scalar)∧vs.length=xs.length*sz:=by
 rcases h.fR with⟨e1,e2⟩|⟨a,cap,f,e1,dk,en,_,_,hs,hm,hr,_⟩
 ·subst e1 e2;exact⟨none,0,[],rfl,fun w=>rfl,fun w _=>by simp[Builtin.firstCells],⟨by simp[ar],by simp[ar]⟩,by simp,by simp[ar],by simp⟩
 subst e1;have hl:=bI dk;refine⟨some a,cap,(List.range (xs.length*sz)).map f,rfl,fun w=>rfl,fun w hw=>?_,⟨by simp[hl],fun j c u hj hu=>?_⟩,dk,fun c hc=>?_,by simp⟩
 ·simp only[Builtin.firstCells];refine run_loadCells w a (xs.length*sz) f fun j hj=>?_;have lT:j<(ar xs).length:=by omega
  have cA:xs≠[]:=by
   intro e;subst e;simp[ar]at lT
  have:=(hm j _ (List.getElem?_eq_getElem lT)).1;obtain⟨b,off,sp⟩:=a;have wy:=hs cA;simp only at wy;subst wy;rw[addr_add];simp only[World.cell?,hw];exact this
 ·have aN:=ag hj;rw[hl]at aN;have qm:((List.range (xs.length*sz)).map f)[j]?=some u:=by simpa using hu
  rw[List.getElem?_map,List.getElem?_range aN]at qm;simp only[Option.map_some,Option.some.injEq]at qm;subst qm;exact hr j c hj
 simp only[ar,List.mem_flatMap]at hc;obtain⟨x,hx,hc⟩:=hc;exact en x hx c hc
theorem cT(xs ys:List ae):ar (xs++ys)=ar xs++ar ys:=by simp[ar]
theorem kI.append{g:G}{cs ds:List ae}{us vs:List Value}(h:kI g cs us.toArray)(k:kI g ds vs.toArray):kI g (cs++ds) (us++vs).toArray:=by
 obtain⟨h1,h2⟩:=h;obtain⟨k1,k2⟩:=k;simp only[List.size_toArray]at h1 k1;refine⟨by simp[h1,k1],fun j c u hj hu=>?_⟩;have qm:(us++vs)[j]?=some u:=by simpa using hu
 rw[List.getElem?_append]at hj qm;by_cases e:j<cs.length
 ·rw[if_pos e]at hj;rw[if_pos (by omega)]at qm;exact h2 j c u hj (by simpa using qm)
 rw[if_neg e]at hj;rw[if_neg (by omega),h1]at qm;exact k2 _ c u hj (by simpa using qm)
theorem RV.za{g:G}{zs:List ae}{sz cap:Nat}{l:Loc}{arr:Array Value}{t:TypeId}{id:Nat}(hg:Good g)(dk:∀x∈zs,x.cells.length=sz)(en:∀c∈ar zs,c.scalar)(cZ:zs.length<=2 ^ 62)(di:zs.length<=cap)
  (he:g.env[id]?=some (some l)) (jE:g.objs[id]?=some (.spare zs.length)) (kp:l.lo=zs.length*sz) (fc:g.w.heap[l.block]?=some (.cells arr t (0,0))) (hc:cap*sz<=arr.size) (cx:∀off,¬g.fr l.block off)
  (hr:∀(j:Nat) (c:ae) (u:Value),(ar zs)[j]?=some c->arr[j]?=some u->RV g c u):RV g (.aC sz zs (.tok id)) (.slice (some ⟨l.block,0,none⟩) zs.length cap):=by
 have hl:=bI dk;have hle:zs.length*sz<=cap*sz:=Nat.mul_le_mul_right _ di;refine .aC dk (fun x hx c hc=>en c (by simp only[ar,List.mem_flatMap];exact⟨x,hx,hc⟩)) di cZ (fun _=>rfl) (fun j=>arr.getD j undef) (fun j c hj=>?_) (fun j c hj=>?_) ⟨ag jE,fun m hm=>?_⟩
 ·have aN:=ag hj;rw[hl]at aN;refine⟨?_,?_⟩
  ·simp only[G.cell,Nat.zero_add];rw[cell_of_row fc];simp[Array.getD_eq_getD_getElem?,show j<arr.size by omega]
  rintro(hf|⟨oP,l',o',h1,h2,h3,h4,h5⟩)
  ·exact cx _ hf
  have hb:l'.block=l.block:=h4;have:=hg.apart oP id l' l o' _ h1 h2 h3 he jE trivial hb;subst this;rw[he]at h1;simp only[Option.some.injEq]at h1;subst h1;simp only[Nat.zero_add]at h5;omega
 ·have aN:=ag hj;rw[hl]at aN;exact hr j c _ hj (by simp[Array.getD_eq_getD_getElem?,show j<arr.size by omega])
 rw[jE]at hm;simp only[Option.some.injEq,ay.spare.injEq]at hm;subst hm;exact⟨Nat.le_refl _,fun _=>.inr ⟨l,arr,t,he,rfl,kp,fc,hc⟩⟩
theorem kI.jX{g:G}{ys:List ae}{vs:List Value}(h:kI g (ar ys) vs.toArray):kI g (ar (ys.map ae.share)) vs.toArray:=by
 rw[ef];exact h.bV
theorem eg{ys:List ae}{sz:Nat}(h:∀x∈ys,x.cells.length=sz):∀x∈ys.map ae.share,x.cells.length=sz:=fun x hx=>by
 rw[List.mem_map]at hx;obtain⟨y,h1,h2⟩:=hx;subst h2;rw[ae.lL,List.length_map];exact h y h1
theorem dO{ys:List ae}(h:∀c∈ar ys,c.scalar):∀c∈ar (ys.map ae.share),c.scalar:=fun c hc=>by
 rw[ef,List.mem_map]at hc;obtain⟨c',h1,h2⟩:=hc;subst h2;exact ae.gb (h c' h1)
theorem fb{iC news rest:Array Value}{j:Nat}{u:Value}(h:(iC++news++rest)[j]?=some u)(hj:j<iC.size+news.size):(iC++news)[j]?=some u:=by
 rw[Array.getElem?_append]at h;rw[if_pos (by simpa using hj)]at h;exact h
theorem uK{P:Program}{aS:fM}(hT:cG P aS){o:Oper}{σ:St}{t e:TypeId}{x y:Operand}{ti te:cQ}{sz:Nat}{xs ys:List ae}{ow:od}
  (ho:o.op=.call ⟨.builtin .append,#[x,y],#[t,t]⟩) (hd:∀d,o.dst=some d->d<σ.n) (ht:aS t=some ti) (a7:ti.desc=.slice e) (he:aS e=some te) (dk:te.size=sz) (hx:σ.ev x=some (.aC sz xs .ex)) (hy:σ.ev y=some (.aC sz ys ow))
  (hlen:xs.length+ys.length<=2 ^ 62) (hb:(xs.length+ys.length)*te.bytes<=2 ^ 47) :
  Cert P o σ (.aC sz (xs++ys.map ae.share) (.tok σ.objs.length)) (.write (σ.objs++[.spare (xs.length+ys.length)])) :=
 Cert.jI hd fun base ji a g cu h kY=>by
  have hO:g.objs=σ.objs:=kY.resolve_left (by simp);have hg:=cu.good;have hu:=cf hT ht a7;subst dk;have iU:=h x (by simp[ho,Op.operands,Call.operands]) _ hx;have DU:=h y (by simp[ho,Op.operands,Call.operands]) _ hy;obtain⟨Bw,mf,iC,ex,yP,tY,DR,H8,Mr,DS⟩:=iU.gC (P:=P);obtain⟨Q9,GY,news,ey,AN,AO,AP,GF,DV,tZ⟩:=DU.gC (P:=P);obtain⟨⟨i,z,h1,h2,h3,h4,h5,h6,h7,h8,h9⟩,_⟩:=hT e te he;have ru:mf=xs.length:=by
   rcases iU.fR with⟨q1,q2⟩|⟨ad,cap,f,q1,_,_,_,_,_,_,_,q2⟩
   ·rw[ex]at q1;cases q2;simp at q1;simp[q1]
   rw[ex]at q1;simp only[Value.slice.injEq]at q1;rw[q1.2.2];exact q2
  subst ru;have dj:=c7 (P:=P) ho a g.w;simp only[builtin,List.map_toArray,List.map_cons,List.map_nil]at dj;by_cases hn:ys.length=0
  ·have UT:ys=[]:=List.length_eq_zero_iff.1 hn;subst UT;have s6:news=[]:=by
    have:news.length=0:=by simpa using tZ
    exact List.length_eq_zero_iff.1 this
   subst s6;have bS:(Builtin.append_ #[t,t] o.type #[a.eval x,a.eval y]).run P g.w=.ok (a.eval x) g.w:=by
    rw[ex];cases Bw with
    | none =>
     have Mq:xs=[]:=by
      rcases iU.fR with⟨_,q2⟩|⟨ad,cap,f,q1,_⟩
      ·exact q2
      rw[ex]at q1;simp at q1
     subst Mq;have q:=AO g.w rfl;simp only[List.length_nil]at q;simp[Builtin.append_,run_underlying hu,Go.sizeOf,typeInfo,h1,AN,h2,q]
    | some ad =>
     have:=iR (P:=P) g.w g.w t o.type e i hu h1 ad xs.length xs.length 0 (a.eval y) [] (fun w=>by simpa using AN w) (by rw[h2];simpa using AO g.w rfl) (by omega) (by simp[storeCells]);simpa using this
   refine⟨a.eval x,g.mark (.spare (xs.length+0)),.inl (by rw[dj];simp[bS,G.mark]),Le.mark hg _,Good.mark hg _,by simp[G.mark,hO,Mode.post],?_⟩;simp only[List.map_nil,List.append_nil];have OM:=iU.mono (Le.mark hg (.spare (xs.length+0)));cases qm:a.eval x with
   | slice ad len cap =>
    rw[qm]at OM;cases OM with
    | nil=>exact .nil (fun id e=>by simp only[od.tok.injEq]at e;subst e;simp[G.mark,hO]) (by simp)
    | aC dk en di cZ hs f hm hr Ur =>
     refine .aC dk en di cZ hs f hm hr ⟨by simp[G.mark,hO],fun m eS=>?_⟩;have:(g.mark (.spare (xs.length+0))).objs[σ.objs.length]?=some (.spare (xs.length+0)):=by
      rw[<-hO];exact fY
     rw[this]at eS;simp only[Option.some.injEq,ay.spare.injEq]at eS;exact⟨by omega,fun _=>.inl Ur⟩
   | _=>rw[ex]at qm;cases qm
  have bS:=ic (P:=P) g.w t o.type e i z hu h1 h4 Bw xs.length xs.length ys.length (a.eval y) iC news AN (by rw[h2];exact AO g.w.drew rfl) (by rw[h2,<-ex];exact tY g.w.drew rfl) (by omega) hlen (by rw[h3];exact hb);rw[<-ex]at bS;obtain⟨cap,di⟩:∃cap,cap=grownCap g.w (xs.length+ys.length) xs.length e:=⟨_,rfl⟩
  obtain⟨rest,gA⟩:∃rest,rest=Builtin.zeroCells z.cells (cap-(xs.length+ys.length)):=⟨_,rfl⟩
  have ql:=grownCap_ge g.w (xs.length+ys.length) xs.length e;rw[<-di]at bS ql;rw[<-gA]at bS;have wV:rest.size=(cap-(xs.length+ys.length))*te.size:=by rw[gA,size_zeroCells,h5,h6]
  obtain⟨arr,iL⟩:∃arr,arr=iC.toArray++news.toArray++rest:=⟨_,rfl⟩
  rw[<-iL]at bS;have pn:=hg.heap (w':=g.w.drew) rfl rfl rfl rfl;have oK:=Le.heap (g:=g) (w':=g.w.drew) rfl rfl rfl rfl;obtain⟨g1,nj⟩:∃g1:G,g1=⟨g.w.drew,g.fr,g.env,g.objs⟩:=⟨_,rfl⟩
  rw[<-nj]at pn oK;have qo:g1.w=g.w.drew:=by rw[nj]
  have ss:g1.objs=σ.objs:=by rw[nj];exact hO
  have fk:Fits (g1.alloc (.cells arr e) ((xs.length+ys.length)*te.size) (.spare (xs.length+ys.length))) (.cells arr e) (.spare (xs.length+ys.length)):=⟨arr,e,rfl⟩
  have fg:=Good.alloc pn (.cells arr e) ((xs.length+ys.length)*te.size) (.spare (xs.length+ys.length)) (.inl trivial) fk;have hle:=oK.trans (Le.alloc pn (.cells arr e) ((xs.length+ys.length)*te.size) (.spare (xs.length+ys.length)));refine⟨.slice (some ⟨g.w.heap.size,0,none⟩) (xs.length+ys.length) cap,_,.inl ?_,hle,fg,?_,?_⟩
  ·rw[dj];simp[bS,G.alloc,qo]
  ·simp[G.alloc,ss,Mode.post]
  have iN:(xs++ys.map ae.share).length=xs.length+ys.length:=by simp
  have kL:=DR.append AP.jX;rw[<-cT]at kL;have lB:(ar (xs++ys.map ae.share)).length=(xs.length+ys.length)*te.size:=by
   rw[bI (sz:=te.size) (fun x hx=>by
    rcases List.mem_append.1 hx with q|q
    ·exact H8 x q
    exact eg GF x q),iN]
  have:=RV.za (g:=g1.alloc (.cells arr e) ((xs.length+ys.length)*te.size) (.spare (xs.length+ys.length))) (zs:=xs++ys.map ae.share) (sz:=te.size) (cap:=cap) (l:=⟨g.w.heap.size,(xs.length+ys.length)*te.size,arr.size⟩) (arr:=arr) (t:=e) (id:=σ.objs.length) fg
   (fun x hx=>by
    rcases List.mem_append.1 hx with q|q
    ·exact H8 x q
    exact eg GF x q)
   (fun c hc=>by
    rw[cT]at hc;rcases List.mem_append.1 hc with q|q
    ·exact Mr c q
    exact dO DV c q)
   (by rw[iN];exact hlen) (by rw[iN];exact ql) (by
    have:=j5 pn (l:=some ⟨g1.w.heap.size,(xs.length+ys.length)*te.size,mz (.cells arr e)⟩);rw[ss]at this;simp only[G.alloc];rw[this,qo];rfl) (by rw[iN,<-ss];exact fY) (by rw[iN]) (by
    have:=dx g1.w (.cells arr e);rw[qo]at this;simp only[G.alloc,qo];exact this) (by
    rw[iL];simp only[Array.size_append,List.size_toArray,DS,tZ,wV,<-Nat.add_mul];rw[show xs.length+ys.length+(cap-(xs.length+ys.length))=cap by omega];exact Nat.le_refl _) (fun off hf=>by
    have fA:g.fr g.w.heap.size off:=by rw[nj]at hf;exact hf
    have:=hg.frlt _ _ fA;omega) (fun j c u hj hu=>by
    have aN:=ag hj;rw[lB]at aN;rw[iL]at hu;have yN:=fb hu (by simp only[List.size_toArray,DS,tZ,<-Nat.add_mul];exact aN);exact(kL.2 j c u hj (by simpa using yN)).mono hle)
  rw[iN]at this;exact this
theorem tA{P:Program}{aS:fM}(hT:cG P aS){o:Oper}{σ:St}{t e:TypeId}{x y:Operand}{ti te:cQ}{sz:Nat}{xs ys:List ae}{ow:od}{id:Nat}
  (ho:o.op=.call ⟨.builtin .append,#[x,y],#[t,t]⟩) (hd:∀d,o.dst=some d->d<σ.n) (ht:aS t=some ti) (a7:ti.desc=.slice e) (he:aS e=some te) (dk:te.size=sz) (hx:σ.ev x=some (.aC sz xs (.tok id))) (hy:σ.ev y=some (.aC sz ys ow))
  (jE:σ.objs[id]?=some (.spare xs.length)) (hlen:xs.length+ys.length<=2 ^ 62) (hb:(xs.length+ys.length)*te.bytes<=2 ^ 47) :
  Cert P o σ (.aC sz (xs++ys.map ae.share) (.tok id)) (.write (σ.objs.set id (.spare (xs.length+ys.length)))) :=
 Cert.jI hd fun base ji a g cu h kY=>by
  have hO:g.objs=σ.objs:=kY.resolve_left (by simp);have hg:=cu.good;have hu:=cf hT ht a7;subst dk;have iU:=h x (by simp[ho,Op.operands,Call.operands]) _ hx;have DU:=h y (by simp[ho,Op.operands,Call.operands]) _ hy;obtain⟨Bw,mf,iC,ex,yP,tY,DR,H8,Mr,DS⟩:=iU.gC (P:=P);obtain⟨Q9,GY,news,ey,AN,AO,AP,GF,DV,tZ⟩:=DU.gC (P:=P);obtain⟨⟨i,z,h1,h2,h3,h4,h5,h6,h7,h8,h9⟩,_⟩:=hT e te he;have kM:g.objs[id]?=some (.spare xs.length):=by rw[hO];exact jE
  have dj:=c7 (P:=P) ho a g.w;simp only[builtin,List.map_toArray,List.map_cons,List.map_nil]at dj;have iW:∀m,m=xs.length->g.objs.set id (.spare m)=g.objs:=fun m hm=>by
   subst hm;apply List.ext_getElem?;intro k;by_cases e:id=k
   ·subst e;rw[List.getElem?_set_self (ag kM),kM]
   rw[List.getElem?_set_ne e]
  have iN:(xs++ys.map ae.share).length=xs.length+ys.length:=by simp
  have H':∀x∈xs++ys.map ae.share,x.cells.length=te.size:=fun x hx=>by
   rcases List.mem_append.1 hx with q|q
   ·exact H8 x q
   exact eg GF x q
  have H9:∀c∈ar (xs++ys.map ae.share),c.scalar:=fun c hc=>by
   rw[cT]at hc;rcases List.mem_append.1 hc with q|q
   ·exact Mr c q
   exact dO DV c q
  have lB:(ar (xs++ys.map ae.share)).length=(xs.length+ys.length)*te.size:=by
   rw[bI H',iN]
  have kL:=DR.append AP.jX;rw[<-cT]at kL;by_cases hn:ys.length=0
  ·have UT:ys=[]:=List.length_eq_zero_iff.1 hn;subst UT;have s6:news=[]:=by
    have:news.length=0:=by simpa using tZ
    exact List.length_eq_zero_iff.1 this
   subst s6;have di:xs.length<=mf:=by
    rcases iU.fR with⟨_,q2⟩|⟨ad,cap,f,q1,_,_,q2,_⟩
    ·simp[q2]
    rw[ex]at q1;simp only[Value.slice.injEq]at q1;rw[q1.2.2];exact q2
   have bS:(Builtin.append_ #[t,t] o.type #[a.eval x,a.eval y]).run P g.w=.ok (a.eval x) g.w:=by
    rw[ex];cases Bw with
    | none =>
     have Mq:xs=[]∧mf=0:=by
      rcases iU.fR with⟨q1,q2⟩|⟨ad,cap,f,q1,_⟩
      ·rw[ex]at q1;simp only[Value.slice.injEq]at q1;exact⟨q2,q1.2.2⟩
      rw[ex]at q1;simp at q1
     obtain⟨e1,e2⟩:=Mq;subst e1;subst e2;have q:=AO g.w rfl;simp only[List.length_nil]at q;simp[Builtin.append_,run_underlying hu,Go.sizeOf,typeInfo,h1,AN,h2,q]
    | some ad =>
     have:=iR (P:=P) g.w g.w t o.type e i hu h1 ad xs.length mf 0 (a.eval y) [] (fun w=>by simpa using AN w) (by rw[h2];simpa using AO g.w rfl) (by omega) (by simp[storeCells]);simpa using this
   refine⟨a.eval x,g,.inl (by rw[dj];simp[bS]),Le.refl g,hg,?_,?_⟩
   ·simp only[Mode.post,<-hO];exact(iW _ (by simp)).symm
   simpa using iU
  have hm:xs.length<xs.length+ys.length:=by omega
  by_cases kP:xs.length+ys.length<=mf
  ·-- in place
   obtain⟨l,arr,t',q1,q2,q3,q4,q5⟩:∃(l:Loc) (arr:Array Value) (t':TypeId),g.env[id]?=some (some l)∧Bw=some ⟨l.block,0,none⟩∧l.lo=xs.length*te.size∧g.w.heap[l.block]?=some (.cells arr t' (0,0))∧mf*te.size<=arr.size:=by
    rcases iU.fR with⟨q1,q2⟩|⟨ad,cap,f,q1,_,_,_,_,_,_,_,q2⟩
    ·rw[ex]at q1;simp only[Value.slice.injEq]at q1;omega
    rw[ex]at q1;simp only[Value.slice.injEq]at q1;obtain⟨e1,_,e3⟩:=q1;subst e1;subst e3;rcases(q2.2 _ kM).2 rfl with q|⟨l,arr,t',q1,q2,q3,q4,q5⟩
    ·omega
    exact⟨l,arr,t',q1,by rw[q2],q3,q4,q5⟩
   subst q2;have iA:xs.length*te.size+0+news.length<=arr.size:=by
    rw[tZ,Nat.add_zero,<-Nat.add_mul];exact Nat.le_trans (Nat.mul_le_mul_right _ kP) q5
   have H0:∀v∈news,v.oneCell'=true:=fun v hv=>by
    obtain⟨j,hj⟩:=List.getElem?_of_mem hv;have aN:=ag hj;have hs:=AP.1;simp only[List.size_toArray]at hs;rw[hs]at aN;have hc:=List.getElem?_eq_getElem aN;exact((AP.2 j _ v hc (by simpa using hj)).jd (DV _ (List.mem_of_getElem? hc))).1
   have eo:=run_storeCells_at P l.block (xs.length*te.size) t' news 0 arr g.w q4 iA H0;simp only[Nat.add_zero]at eo;obtain⟨cS,jc⟩:∃cS,cS=(arr.toList.take (xs.length*te.size)++news++arr.toList.drop (xs.length*te.size+news.length)).toArray:=⟨_,rfl⟩
   rw[<-jc]at eo;have oN:cS.size=arr.size:=by
    rw[jc];simp;omega
   have Sa:∀j,j<xs.length*te.size->cS[j]?=arr[j]?:=fun j hj=>by
    rw[jc];simp only[List.append_assoc,List.getElem?_toArray];rw[List.getElem?_append,if_pos (by simp;omega),List.getElem?_take,if_pos hj];simp
   have vm:∀j u,cS[j]?=some u->xs.length*te.size<=j->j<(xs.length+ys.length)*te.size->news[j-xs.length*te.size]?=some u:=fun j u hj h1 h2=>by
    rw[jc]at hj;simp only[List.append_assoc,List.getElem?_toArray]at hj;have Te:(arr.toList.take (xs.length*te.size)).length=xs.length*te.size:=by simp;omega
    rw[List.getElem?_append,Te,if_neg (by omega),List.getElem?_append,if_pos (by rw[tZ];rw[Nat.add_mul]at h2;omega)]at hj;exact hj
   have bS:=iR (P:=P) g.w (g.w.setRow l.block cS) t o.type e i hu h1 ⟨l.block,0,none⟩ xs.length mf ys.length (a.eval y) news AN (by rw[h2];exact AO g.w rfl) kP (by rw[h2,addr_add,Nat.zero_add];exact eo);rw[<-ex]at bS;have g8:oe g id (.spare xs.length) (some ⟨l.block,(xs.length+ys.length)*te.size,0⟩) (.spare (xs.length+ys.length)) (g.w.setRow l.block cS):={
    obj:=kM
    os:=rfl
    tape:=rfl
    output:=rfl
    size:=by rw[setRow_size];exact Nat.le_refl _
    block:=fun k _ hk=>setRow_other _ _ _ _ (fun e=>hk l q1 trivial e.symm)
    cell:=fun b off x hx hb=>by
     by_cases e:b=l.block
     ·subst e;have aN:=hb l q1 trivial rfl;rw[q3]at aN;rw[cell_of_row (setRow_heap g.w l.block arr cS t' (0,0) q4),Sa off aN];simp only[G.cell]at hx;rw[cell_of_row q4]at hx;exact hx
     rw[na (setRow_other g.w l.block b cS e)];exact hx
    place:=fun l1 h1 _=>by
     simp only[Option.some.injEq]at h1;subst h1;exact .inr ⟨l,q1,trivial,rfl,by rw[q3];exact Nat.mul_le_mul_right _ (by omega)⟩
    spare:=fun m h=>by
     simp only[ay.spare.injEq]at h;subst h;exact .inl ⟨_,rfl,hm⟩
    plain:=fun h=>absurd trivial h
    gone:=by simp }
   have hle:=Le.bO hg g8;have fg:=Good.bO hg g8 (fun l1 h1=>by
    simp only[Option.some.injEq]at h1;subst h1;exact⟨cS,t',setRow_heap g.w l.block arr cS t' (0,0) q4⟩) (fun l1 h1 _=>by
    simp only[Option.some.injEq]at h1;subst h1;rw[setRow_size];exact bj q4)
   refine⟨.slice (some ⟨l.block,0,none⟩) (xs.length+ys.length) mf,_,.inl ?_,hle,fg,by simp only[G.bO,Mode.post,hO],?_⟩
   ·rw[dj];simp[bS,G.bO]
   have:=RV.za (g:=g.bO id (some ⟨l.block,(xs.length+ys.length)*te.size,0⟩) (.spare (xs.length+ys.length)) (g.w.setRow l.block cS)) (zs:=xs++ys.map ae.share) (sz:=te.size) (cap:=mf)
    (l:=⟨l.block,(xs.length+ys.length)*te.size,0⟩) (arr:=cS) (t:=t') (id:=id) fg H' H9 (by rw[iN];exact hlen) (by rw[iN];exact kP)
    (by simp only[G.bO];rw[List.getElem?_set_self (kK hg kM)]) (by rw[iN];simp only[G.bO];rw[List.getElem?_set_self (ag kM)]) (by rw[iN])
    (setRow_heap g.w l.block arr cS t' (0,0) q4) (by rw[oN];exact q5) (fun off hf=>?_) (fun j c u hj hu=>?_)
   ·rw[iN]at this;exact this
   ·have fA:g.fr l.block off:=hf;exact absurd fA (hg.fU id l _ q1 kM trivial off)
   have aN:=ag hj;rw[lB]at aN;refine(kL.2 j c u hj ?_).mono hle;have PQ:iC.length=xs.length*te.size:=DS;simp only[List.getElem?_toArray];rw[List.getElem?_append];by_cases e:j<iC.length
   ·rw[if_pos e];have lT:(ar xs)[j]?=some c:=by
     rw[cT,List.getElem?_append,if_pos (by rw[bI H8];omega)]at hj;exact hj
    rw[Sa j (by omega)]at hu;have HK:=tY g.w rfl;rw[ex]at HK;simp only[Builtin.firstCells]at HK;have R':=run_loadCells (P:=P) g.w ⟨l.block,0,none⟩ (xs.length*te.size) (fun k=>arr.getD k undef) (fun k hk=>by
     rw[addr_add,cell_of_row q4,Nat.zero_add];simp[Array.getD_eq_getD_getElem?,show k<arr.size by omega])
    rw[R']at HK;simp only[Result.ok.injEq,and_true]at HK;have holds:iC=(List.range (xs.length*te.size)).map (fun k=>arr.getD k undef):=by
     have:=congrArg Array.toList HK;simpa using this.symm
    rw[holds,List.getElem?_map,List.getElem?_range (by omega)];simp only[Option.map_some,Option.some.injEq];have VI:j<arr.size:=by omega
    simp only[Array.getElem?_eq_getElem VI,Option.some.injEq]at hu;simp[Array.getD_eq_getD_getElem?,VI,hu]
   rw[if_neg e,PQ];exact vm j u hu (by omega) aN
  -- a new row
  have bS:=ic (P:=P) g.w t o.type e i z hu h1 h4 Bw xs.length mf ys.length (a.eval y) iC news AN (by rw[h2];exact AO g.w.drew rfl) (by rw[h2,<-ex];exact tY g.w.drew rfl) (by omega) hlen (by rw[h3];exact hb);rw[<-ex]at bS;obtain⟨cap,di⟩:∃cap,cap=grownCap g.w (xs.length+ys.length) mf e:=⟨_,rfl⟩
  obtain⟨rest,gA⟩:∃rest,rest=Builtin.zeroCells z.cells (cap-(xs.length+ys.length)):=⟨_,rfl⟩
  have ql:=grownCap_ge g.w (xs.length+ys.length) mf e;rw[<-di]at bS ql;rw[<-gA]at bS;have wV:rest.size=(cap-(xs.length+ys.length))*te.size:=by rw[gA,size_zeroCells,h5,h6]
  obtain⟨arr,iL⟩:∃arr,arr=iC.toArray++news.toArray++rest:=⟨_,rfl⟩
  rw[<-iL]at bS;have g8:oe g id (.spare xs.length) (some ⟨g.w.heap.size,(xs.length+ys.length)*te.size,0⟩) (.spare (xs.length+ys.length)) (g.w.drew.alloc (.cells arr e)):={
   obj:=kM
   os:=rfl
   tape:=rfl
   output:=rfl
   size:=by show g.w.heap.size<=(g.w.heap.push _).size;rw[Array.size_push];omega
   block:=fun k hk _=>dC g.w.drew _ hk
   cell:=fun b off x hx _=>by
    have:=tV hx;rw[na (dC g.w.drew (.cells arr e) this)];exact hx
   place:=fun l1 h1 _=>by
    simp only[Option.some.injEq]at h1;subst h1;exact .inl (Nat.le_refl _)
   spare:=fun m h=>by
    simp only[ay.spare.injEq]at h;subst h;exact .inl ⟨_,rfl,hm⟩
   plain:=fun h=>absurd trivial h
   gone:=by simp }
  have hle:=Le.bO hg g8;have fg:=Good.bO hg g8 (fun l1 h1=>by
   simp only[Option.some.injEq]at h1;subst h1;exact⟨arr,e,dx g.w.drew _⟩) (fun l1 h1 _=>by
   simp only[Option.some.injEq]at h1;subst h1;exact bj (dx g.w.drew (.cells arr e)))
  refine⟨.slice (some ⟨g.w.heap.size,0,none⟩) (xs.length+ys.length) cap,_,.inl ?_,hle,fg,by simp only[G.bO,Mode.post,hO],?_⟩
  ·rw[dj];simp[bS,G.bO]
  have:=RV.za (g:=g.bO id (some ⟨g.w.heap.size,(xs.length+ys.length)*te.size,0⟩) (.spare (xs.length+ys.length)) (g.w.drew.alloc (.cells arr e))) (zs:=xs++ys.map ae.share) (sz:=te.size) (cap:=cap)
   (l:=⟨g.w.heap.size,(xs.length+ys.length)*te.size,0⟩) (arr:=arr) (t:=e) (id:=id) fg H' H9 (by rw[iN];exact hlen) (by rw[iN];exact ql)
   (by simp only[G.bO];rw[List.getElem?_set_self (kK hg kM)]) (by rw[iN];simp only[G.bO];rw[List.getElem?_set_self (ag kM)]) (by rw[iN])
   (dx g.w.drew _) (by
    rw[iL];simp only[Array.size_append,List.size_toArray,DS,tZ,wV,<-Nat.add_mul];rw[show xs.length+ys.length+(cap-(xs.length+ys.length))=cap by omega];exact Nat.le_refl _) (fun off hf=>by
    have fA:g.fr g.w.heap.size off:=hf;have:=hg.frlt _ _ fA;omega) (fun j c u hj hu=>by
    have aN:=ag hj;rw[lB]at aN;rw[iL]at hu;have yN:=fb hu (by simp only[List.size_toArray,DS,tZ,<-Nat.add_mul];exact aN);exact(kL.2 j c u hj (by simpa using yN)).mono hle)
  rw[iN]at this;exact this
end Go.Av
namespace Go.Av
def gN:Value->Value->Bool
 | .string a,.string b=>decide (a=b)
 | .int _ a,.int _ b=>decide (a=b)
 | _,_=>false
def iy:List (Value×ae)->Value->Option ae
 | [],_=>none
 | (k,x)::r,key=>if gN k key then some x else iy r key
def jG:List (Value×ae)->Value->ae->List (Value×ae)
 | [],key,y=>[(key,y)]
 | (k,x)::r,key,y=>if gN k key then(key,y)::r else(k,x)::jG r key y
def KT.desc:KT->TypeDesc->Prop
 | .str,d=>d=.string
 | .int k,d=>d=.int k
theorem bytes_beq(s t:ByteArray):(s == t)=decide (s=t):=by
 obtain⟨a⟩:=s;obtain⟨b⟩:=t;have e:((⟨a⟩:ByteArray) == ⟨b⟩)=(a == b):=rfl;rw[e,Bool.eq_iff_iff];simp
theorem Da{kt:KT}{d:TypeDesc}(hd:kt.desc d){a b:Value}(ha:kt.ok a)(hb:kt.ok b):Instr.sameNow d a b=some (gN b a):=by
 cases kt with
 | str =>
  simp only[KT.desc]at hd;subst hd;cases a<;>simp only[KT.ok]at ha;cases b<;>simp only[KT.ok]at hb;rename_i s t;simp only[Instr.sameNow,gN,Option.some.injEq,bytes_beq];rw[Bool.eq_iff_iff];simp only[decide_eq_true_eq];exact⟨Eq.symm,Eq.symm⟩
 | int k =>
  simp only[KT.desc]at hd;subst hd;cases a<;>simp only[KT.ok]at ha;cases b<;>simp only[KT.ok]at hb;rename_i s t;subst ha;subst hb;simp only[Instr.sameNow,gN,if_true,Option.some.injEq];rw[Bool.eq_iff_iff];simp only[beq_iff_eq,decide_eq_true_eq];exact⟨Eq.symm,Eq.symm⟩
theorem findNow_spec{kt:KT}{d:TypeDesc}(hd:kt.desc d){key:Value}(hk:kt.ok key):∀(arr:List MapEntry) (es:List (Value×ae)) (i:Nat),arr.length=es.length ->
  (∀(j:Nat) (e:MapEntry) (kx:Value×ae),arr[j]?=some e->es[j]?=some kx->e.key=kx.1)->(∀p∈es,kt.ok p.1) ->
  ∃r,Instr.findNow d key arr i=some r ∧
   ((r=none∧iy es key=none∧∀y,jG es key y=es++[(key,y)]) ∨
    ∃(j:Nat) (e:MapEntry) (x:ae) (k0:Value),r=some (i+j,e.val)∧arr[j]?=some e∧es[j]?=some (k0,x)∧gN k0 key=true∧iy es key=some x∧∀y,jG es key y=es.set j (key,y))
 | [],[],i,_,_,_=>⟨none,rfl,.inl ⟨rfl,rfl,fun _=>rfl⟩⟩
 | [],_::_,i,hl,_,_=>by simp at hl
 | _::_,[],i,hl,_,_=>by simp at hl
 | e::arr,(k0,x)::es,i,hl,FG,jh=>by
  have he:e.key=k0:=FG 0 e (k0,x) rfl rfl;have DK:kt.ok k0:=jh (k0,x) (by simp);have hs:=Da hd hk (he ▸ DK:kt.ok e.key);simp only[Instr.findNow,hs];cases hq:gN e.key key with
  | true =>
   refine⟨some (i,e.val),by rfl,.inr ⟨0,e,x,k0,by simp,rfl,rfl,he ▸ hq,?_,fun y=>?_⟩⟩
   ·rw[he]at hq;simp[iy,hq]
   rw[he]at hq;simp[jG,hq]
  | false =>
   rw[he]at hq;obtain⟨r,h1,h2⟩:=findNow_spec hd hk arr es (i+1) (by simpa using hl) (fun j e' kx a b=>FG (j+1) e' kx (by simpa using a) (by simpa using b)) (fun p hp=>jh p (by simp[hp]));refine⟨r,h1,?_⟩;rcases h2 with⟨q1,q2,q3⟩|⟨j,e',x',k',q1,q2,q3,q4,q5,q6⟩
   ·exact .inl ⟨q1,by simp[iy,hq,q2],fun y=>by simp[jG,hq,q3]⟩
   refine .inr ⟨j+1,e',x',k',?_,by simpa using q2,by simpa using q3,q4,by simp[iy,hq,q5],fun y=>by simp[jG,hq,q6]⟩;rw[q1];simp only[Option.some.injEq,Prod.mk.injEq,and_true];omega
theorem oR{P:Program}{aS:fM}(hT:cG P aS){t k e:TypeId}{ti:cQ}(ht:aS t=some ti)(a7:ti.desc=.map k e):P.underlying t=some (.map k e):=by
 obtain⟨_,d,h1,h2⟩:=hT t ti ht;rw[a7]at h2;simp only[sm]at h2;rw[h1,h2]
theorem run_checkKey{P:Program}{kt:KT}{k:TypeId}{d:TypeDesc}(hu:P.underlying k=some d)(hd:kt.desc d){key:Value}(w:World)(b:Bool)(n:Nat):(Instr.checkKey b (n+1) k key).run P w=.ok () w:=by
 cases kt<;>simp only[KT.desc]at hd<;>subst hd<;>simp[Instr.checkKey,run_underlying hu]
def zeroOf(ti:cQ):ae:=if ti.desc.agg then .agg ti.zero else ti.zero.getD 0 (.v (.bool false))
theorem pa{P:Program}{t:TypeId}{ti:cQ}(h:Dv P t ti)(hs:ti.desc.agg=true∨ti.size=1):∃z,(∀w,(Go.zeroValue t).run P w=.ok z w)∧∀g,RV g (zeroOf ti) z:=by
 obtain⟨⟨i,z,h1,h2,h3,h4,h5,h6,h7,h8,h9⟩,_⟩:=h;refine⟨z,fun w=>by simp[Go.zeroValue,typeInfo,h1,h4],fun g=>?_⟩;unfold zeroOf;split
 ·rename_i fv;obtain⟨cs,e⟩:=h7.1 fv;subst e;exact .agg h5 h9 (h8 g)
 rename_i fv;have dk:ti.zero.length=1:=by
  rcases hs with q|q
  ·exact absurd q fv
  omega
 match hz:ti.zero,dk with
 | [c],_ =>
  have nh:z.cells.size=1:=by rw[h5,hz];rfl
  have en:c.scalar:=h9 c (by rw[hz];simp);have hr:=h8 g 0 c (z.cells[0]) (by rw[hz];rfl) (by simp[nh]);have SJ:=h7.2 (by simpa using fv);have V3:z.cells[0]=z:=by simp[SJ]
  rw[V3]at hr;exact hr
theorem zE{P:Program}{t:TypeId}{ti:cQ}(h:Dv P t ti)(hs:ti.desc.agg=true∨ti.size=1):(zeroOf ti).cells=ti.zero∧ti.zero.length=ti.size∧∀c∈ti.zero,c.scalar:=by
 obtain⟨⟨i,z,h1,h2,h3,h4,h5,h6,h7,h8,h9⟩,_⟩:=h;refine⟨?_,h6,h9⟩;unfold zeroOf;split
 ·rfl
 rename_i fv;have dk:ti.zero.length=1:=by
  rcases hs with q|q
  ·exact absurd q fv
  omega
 match hz:ti.zero,dk with
 | [c],_ =>
  have en:c.scalar:=h9 c (by rw[hz];simp);simp only[List.getD_cons_zero];cases c<;>first|rfl|exact en.elim
theorem RV.yV{g:G}{sz:Nat}{xs:List ae}{o:od}{u:Value}(h:RV g (.aC sz xs o) u):RV g (.aC sz (xs.map ae.share) o) u:=by
 cases h with
 | nil ho hn=>exact .nil ho hn
 | aC dk en di cZ hs f hm hr ho =>
  have key:∀(j:Nat) (c:ae),(ar (xs.map ae.share))[j]?=some c->∃c',(ar xs)[j]?=some c'∧c'.bp=c:=fun j c hj=>by
   rw[ef,List.getElem?_map,Option.map_eq_some_iff]at hj;exact hj
  have hl:(xs.map ae.share).length=xs.length:=List.length_map _;rw[<-hl]at di cZ ho ⊢;refine .aC (eg dk) (fun x hx c hc=>?_) di cZ (fun cA=>hs fun e=>cA (by rw[e];rfl)) f (fun j c hj=>?_) (fun j c hj=>?_) ho
  ·exact dO (fun c hc=>by
    simp only[ar,List.mem_flatMap]at hc;obtain⟨x,hx,hc⟩:=hc;exact en x hx c hc) c (by
    simp only[ar,List.mem_flatMap];exact⟨x,hx,hc⟩)
  ·obtain⟨c',nO,_⟩:=key j c hj;exact hm j c' nO
  obtain⟨c',nO,rfl⟩:=key j c hj;exact(hr j c' nO).bp
theorem tD{P:Program}{aS:fM}(hT:cG P aS){o:Oper}{σ:St}{t e:TypeId}{x y:Operand}{ti te:cQ}{k k':IntKind}{n:Int}
  (ho:o.op=.makeSlice t x y) (hd:∀d,o.dst=some d->d<σ.n) (ht:aS t=some ti) (a7:ti.desc=.slice e) (he:aS e=some te) (hx:σ.ev x=some (.v (.int k n))) (hy:σ.ev y=some (.v (.int k' n)))
  (h0:0<=n) (hb:te.bytes*n.toNat<=2 ^ 48) (QH:n.toNat<=2 ^ 62) (hs:0<te.size) (H0:te.desc.agg=true∨te.size=1) :
  Cert P o σ (.aC te.size (List.replicate n.toNat (zeroOf te).share) .ex) .pure :=
 Cert.jI hd fun base ji a g cu h _=>by
  have hg:=cu.good;have ex:=(h x (by simp[ho,Op.operands]) _ hx).cL.1;have ey:=(h y (by simp[ho,Op.operands]) _ hy).cL.1;have hu:=cf hT ht a7;obtain⟨c1,c2,c3⟩:=zE (hT e te he) H0;obtain⟨⟨i,z,h1,h2,h3,h4,h5,h6,h7,h8,h9⟩,_⟩:=hT e te he;obtain⟨m,rfl⟩:=Int.eq_ofNat_of_zero_le h0;simp only[Int.toNat_natCast]at *;have sa:(i.bytes:Int)*(m:Int)<=281474976710656:=by
   rw[h3,<-Int.natCast_mul];omega
  have bS:=run_make (P:=P) g.w t e i z hu h1 h4 k k' m m (by omega) (Int.le_refl _) sa (by omega);simp only[Int.toNat_natCast]at bS;have RC:ar (List.replicate m (zeroOf te))=(List.replicate m te.zero).flatten:=by
   rw[ar,List.flatMap_replicate,c1]
  have hlen:(List.replicate m te.zero).flatten.length=m*te.size:=by simp[h6]
  have iM:∀(j:Nat) (c:ae),(List.replicate m te.zero).flatten[j]?=some c->te.zero[j % te.size]?=some c:=fun j c=>h6 ▸ rR te.zero (by omega) m j c;have hle:=Le.push g hg (.cells (madeCells z.cells (m*i.size)) e);have vm:=dx g.w (.cells (madeCells z.cells (m*i.size)) e (0,0));have yO:RV (g.push (.cells (madeCells z.cells (m*i.size)) e)) (.aC te.size (List.replicate m (zeroOf te)) .ex) (.slice (some ⟨g.w.heap.size,0,none⟩) m m):=by
   have key:=@RV.aC (g.push (.cells (madeCells z.cells (m*i.size)) e)) te.size (List.replicate m (zeroOf te)) .ex ⟨g.w.heap.size,0,none⟩ m (fun x hx=>by
    rw[(List.mem_replicate.1 hx).2,c1,c2]) (fun x hx c hc=>by
    rw[(List.mem_replicate.1 hx).2,c1]at hc;exact c3 c hc) (by simp) (by simpa using QH) (fun _=>rfl) (fun j=>(madeCells z.cells (m*i.size)).getD j undef) (fun j c hj=>by
     rw[RC]at hj;have aN:=ag hj;rw[hlen]at aN;refine⟨?_,?_⟩
     ·show(g.w.alloc _).cell? _=_;rw[cell_of_row vm,Nat.zero_add];have dk:j<(madeCells z.cells (m*i.size)).size:=by rw[size_madeCells,h2];exact aN
      simp[Array.getD_eq_getD_getElem?,dk]
     ·rintro(hf|⟨id,l,o',q1,q2,q3,q4,_⟩)
      ·have:=hg.frlt _ _ hf;simp at this
      have:=hg.loc id l o' q1 q2 q3;simp only at q4;omega) (fun j c hj=>by
     rw[RC]at hj;have lT:=iM j c hj;have aN:=ag hj;rw[hlen]at aN;have iB:j % te.size<z.cells.size:=by rw[h5];exact ag lT
     refine h8 _ _ _ _ lT ?_;have dk:j<(madeCells z.cells (m*i.size)).size:=by rw[size_madeCells,h2];exact aN
     have:(madeCells z.cells (m*i.size))[j]?=some (z.cells[j % te.size]'iB):=by
      simp only[madeCells,Array.getElem?_map,h2,Array.getElem?_range,if_pos aN,Option.map_some,Option.some.injEq];rw[h5,h6];simp[Array.getD_eq_getD_getElem?,iB]
     rw[Array.getD_eq_getD_getElem?,this,Option.getD_some];exact Array.getElem?_eq_getElem iB) (by simp[sR])
   simpa using key
  refine⟨.slice (some ⟨g.w.heap.size,0,none⟩) m m,g.push (.cells (madeCells z.cells (m*i.size)) e),.inl ?_,hle,Good.push hg _,rfl,by simpa using yO.yV⟩;simp[execOp,ho,ex,ey,bS,G.push]
theorem vN{P:Program}{kt:KT}{t k e:TypeId}{d:TypeDesc}(hu:P.underlying t=some (.map k e))(hk:P.underlying k=some d)(hd:kt.desc d){g:G}{r clk:Nat}{arr:Array MapEntry}{es:List (Value×ae)}{z:Value}{zx:ae}
  (hh:g.w.heap[r]?=some (.map arr clk)) (hl:arr.size=es.length) (FG:∀(i:Nat) (e:MapEntry) (kx:Value×ae),arr[i]?=some e->es[i]?=some kx->e.key=kx.1) (jh:∀p∈es,kt.ok p.1)
  (hr:∀(i:Nat) (e:MapEntry) (kx:Value×ae),arr[i]?=some e->es[i]?=some kx->RV g kx.2 e.val) {key:Value} (gg:kt.ok key) (hz:(Go.zeroValue e).run P g.w=.ok z g.w) (Xi:RV g zx z) (ok:Bool) :
  ∃u,(Instr.lookup t (.map (some r)) key ok).run P g.w=.ok (if ok then .tuple #[u,.bool (iy es key).isSome]else u) g.w∧RV g ((iy es key).getD zx) u:=by
 obtain⟨fr,h1,h2⟩:=findNow_spec hd gg arr.toList es 0 (by simpa using hl) (fun j e kx a b=>FG j e kx (by simpa using a) b) jh;have Cy:∀b,(Instr.checkKey b 10000 k key).run P g.w=.ok () g.w:=fun b=>run_checkKey hk hd g.w b 9999;have iM:(getObj r).run P g.w=.ok (.map arr clk) g.w:=by
  simp[Go.getObj,Sem.run,hh]
 have AG:(Instr.findKey k key arr.toList).run P g.w=.ok fr g.w:=by
  simp[Instr.findKey,run_underlying hk,h1]
 rcases h2 with⟨q1,q2,_⟩|⟨j,e',x,k0,q1,q2,q3,_,q5,_⟩
 ·subst q1;refine⟨z,?_,by rw[q2];exact Xi⟩;simp only[Instr.lookup,Sem.run_bind,run_underlying hu,Result.andThen_ok,iM,Sem.run_pure,Cy,AG,hz,q2];cases ok<;>rfl
 subst q1;refine⟨e'.val,?_,by rw[q5];exact hr j e' (k0,x) (by simpa using q2) q3⟩;simp only[Instr.lookup,Sem.run_bind,run_underlying hu,Result.andThen_ok,iM,Sem.run_pure,Cy,AG,q5];cases ok<;>rfl
def lX(ok:Bool)(x:Option ae)(z:ae):ae:=if ok then .c5 [x.getD z,.v (.bool x.isSome)]else x.getD z
theorem nu{g:G}{ok:Bool}{x:Option ae}{z:ae}{u:Value}(h:RV g (x.getD z) u):RV g (lX ok x z) (if ok then .tuple #[u,.bool x.isSome]else u):=by
 cases ok
 ·exact h
 refine .c5 rfl (fun i c v h1 h2=>?_)
 match i,h1,h2 with
 | 0,h1,h2 =>
  simp at h1 h2;subst h1;subst h2;exact h
 | 1,h1,h2 =>
  simp at h1 h2;subst h1;subst h2;exact .v trivial
theorem uQ{P:Program}{aS:fM}(hT:cG P aS){o:Oper}{σ:St}{t k e:TypeId}{x y:Operand}{ok:Bool}{ti te:cQ}{kt:KT}{es:List (Value×ae)}{key:Value}{d:TypeDesc}
  (ho:o.op=.lookup t x y ok) (hd:∀d,o.dst=some d->d<σ.n) (ht:aS t=some ti) (a7:ti.desc=.map k e) (hk:P.underlying k=some d) (zI:kt.desc d) (he:aS e=some te) (dk:te.desc.agg=true∨te.size=1)
  (hx:σ.ev x=some (.im kt es)) (hy:σ.ev y=some (.v key)) (gg:kt.ok key):Cert P o σ (lX ok (iy es key) (zeroOf te)) .pure :=
 Cert.bZ .pure (.inl rfl) hd fun a g _ h _=>by
  obtain⟨r,clk,arr,ex,hh,hl,FG,jh,hr⟩:=(h x (by simp[ho,Op.operands]) _ hx).P';have ey:=(h y (by simp[ho,Op.operands]) _ hy).cL.1;obtain⟨z,hz,Lf⟩:=pa (hT e te he) dk;obtain⟨u,h1,h2⟩:=vN (oR hT ht a7) hk zI hh hl FG jh hr gg (hz g.w) (Lf g) ok;exact⟨_,by simp only[execOp,ho,ex,ey,Sem.run_bind,h1,Result.andThen_ok,Sem.run_pure],nu h2⟩
theorem uR{P:Program}{aS:fM}(hT:cG P aS){o:Oper}{σ:St}{t k e:TypeId}{x y:Operand}{ok:Bool}{ti te:cQ}{kt:KT}{es:List (Value×ae)}{id:Nat}{key:Value}{d:TypeDesc}
  (ho:o.op=.lookup t x y ok) (hd:∀d,o.dst=some d->d<σ.n) (ht:aS t=some ti) (a7:ti.desc=.map k e) (hk:P.underlying k=some d) (zI:kt.desc d) (he:aS e=some te) (dk:te.desc.agg=true∨te.size=1)
  (hx:σ.ev x=some (.mm id)) (s7:σ.objs[id]?=some (.map kt es)) (hy:σ.ev y=some (.v key)) (gg:kt.ok key):Cert P o σ (lX ok (iy es key) (zeroOf te)) (.rd id) :=
 Cert.Qb hd fun a g hg h hO=>by
  obtain⟨l,o1,zG,h1,_,ex⟩:=(h x (by simp[ho,Op.operands]) _ hx).CS;have ey:=(h y (by simp[ho,Op.operands]) _ hy).cL.1;obtain⟨l',arr,clk,e1,_,hh,hl,jh,hr⟩:=hg.map id kt es (by rw[hO];exact s7);rw[zG]at e1;simp only[Option.some.injEq]at e1;subst e1;obtain⟨z,hz,Lf⟩:=pa (hT e te he) dk;obtain⟨u,h1,h2⟩:=vN (oR hT ht a7) hk zI hh hl (fun i e kx a b=>(hr i e kx a b).1) jh (fun i e kx a b=>(hr i e kx a b).2.2) gg (hz g.w) (Lf g) ok;exact⟨_,by simp only[execOp,ho,ex,ey,Sem.run_bind,h1,Result.andThen_ok,Sem.run_pure],nu h2⟩
theorem tC{P:Program}{aS:fM}(hT:cG P aS){o:Oper}{σ:St}{t k e:TypeId}{x y:Operand}{ok:Bool}{ti te:cQ}{kt:KT}{key:Value}{d:TypeDesc}
  (ho:o.op=.lookup t x y ok) (hd:∀d,o.dst=some d->d<σ.n) (ht:aS t=some ti) (a7:ti.desc=.map k e) (hk:P.underlying k=some d) (zI:kt.desc d) (he:aS e=some te) (dk:te.desc.agg=true∨te.size=1)
  (hx:σ.ev x=some (.v (.map none))) (hy:σ.ev y=some (.v key)):Cert P o σ (lX ok none (zeroOf te)) .pure :=
 Cert.bZ .pure (.inl rfl) hd fun a g _ h _=>by
  have ex:=(h x (by simp[ho,Op.operands]) _ hx).cL.1;have ey:=(h y (by simp[ho,Op.operands]) _ hy).cL.1;obtain⟨z,hz,Lf⟩:=pa (hT e te he) dk;have Cy:∀b,(Instr.checkKey b 10000 k key).run P g.w=.ok () g.w:=fun b=>run_checkKey hk zI g.w b 9999;have h1:(Instr.lookup t (.map none) key ok).run P g.w=.ok (if ok then .tuple #[z,.bool (none:Option ae).isSome]else z) g.w:=by
   simp only[Instr.lookup,Sem.run_bind,run_underlying (oR hT ht a7),Result.andThen_ok,Sem.run_pure,Cy,Instr.findKey,run_underlying hk,Instr.findNow,hz g.w];cases ok<;>rfl
  exact⟨_,by simp only[execOp,ho,ex,ey,Sem.run_bind,h1,Result.andThen_ok,Sem.run_pure],nu (Lf g)⟩
theorem Hp{kt:KT}{a b:Value}(ha:kt.ok a)(hb:kt.ok b)(h:gN a b=true):a=b:=by
 cases kt with
 | str =>
  cases a<;>simp only[KT.ok]at ha;cases b<;>simp only[KT.ok]at hb;simp only[gN,decide_eq_true_eq]at h;rw[h]
 | int k =>
  cases a<;>simp only[KT.ok]at ha;cases b<;>simp only[KT.ok]at hb;simp only[gN,decide_eq_true_eq]at h;rw[h,ha,hb]
theorem sameBits_self{kt:KT}{a:Value}(ha:kt.ok a)(n:Nat):Instr.sameBits n a a=true:=by
 cases kt with
 | str =>
  cases a<;>simp only[KT.ok]at ha;cases n<;>simp[Instr.sameBits,bytes_beq]
 | int k =>
  cases a<;>simp only[KT.ok]at ha;cases n<;>simp[Instr.sameBits]
theorem Mx{kt:KT}{es:List (Value×ae)}{key:Value}{y:ae}(h:∀p∈es,kt.ok p.1)(hk:kt.ok key):∀p∈jG es key y,kt.ok p.1:=by
 induction es with
 | nil=>simp[jG,hk]
 | cons q r ih =>
  obtain⟨k,x⟩:=q;simp only[jG];split
  ·intro p hp;rcases List.mem_cons.1 hp with e|e
   ·subst e;exact hk
   exact h p (by simp[e])
  intro p hp;rcases List.mem_cons.1 hp with e|e
  ·subst e;exact h _ (by simp)
  exact ih (fun p hp=>h p (by simp[hp])) p e
theorem oz{P:Program}{aS:fM}(hT:cG P aS){o:Oper}{σ:St}{t k e:TypeId}{x y v:Operand}{ti:cQ}{kt:KT}{es:List (Value×ae)}{id:Nat}{key:Value}{d:TypeDesc}{val:ae}
  (ho:o.op=.mapUpdate t x y v∨o.op=.insert t x y v) (mj:o.dst=none) (ht:aS t=some ti) (a7:ti.desc=.map k e) (hk:P.underlying k=some d) (zI:kt.desc d)
  (hx:σ.ev x=some (.mm id)) (s7:σ.objs[id]?=some (.map kt es)) (hy:σ.ev y=some (.v key)) (gg:kt.ok key) (hv:σ.ev v=some val) :
  Cert P o σ (.v (.bool false)) (.write (σ.objs.set id (.map kt (jG es key val)))) :=
 Cert.jI (by simp[mj]) fun base ji a g cu h kY=>by
  have Rn:g.objs=σ.objs:=kY.resolve_left (by simp);have hg:=cu.good;obtain⟨l,o1,zG,h1,_,ex⟩:=(h x (by rcases ho with ho|ho<;>simp[ho,Op.operands]) _ hx).CS;have T7:=(h y (by rcases ho with ho|ho<;>simp[ho,Op.operands]) _ hy).cL;have ey:=T7.1;have Lc:=h v (by rcases ho with ho|ho<;>simp[ho,Op.operands]) _ hv;have mI:g.objs[id]?=some (.map kt es):=by rw[Rn];exact s7
  obtain⟨l',arr,clk,e1,kp,hh,hl,jh,hr⟩:=hg.map id kt es mI;rw[zG]at e1;simp only[Option.some.injEq]at e1;subst e1;obtain⟨fr,f1,f2⟩:=findNow_spec zI gg arr.toList es 0 (by simpa using hl) (fun j e kx a b=>(hr j e kx (by simpa using a) b).1) jh;have Cy:∀b,(Instr.checkKey b 10000 k key).run P g.w=.ok () g.w:=fun b=>run_checkKey hk zI g.w b 9999;have iM:(getObj l.block).run P g.w=.ok (.map arr clk) g.w:=by
   simp[Go.getObj,Sem.run,hh]
  have AG:(Instr.findKey k key arr.toList).run P g.w=.ok fr g.w:=by
   simp[Instr.findKey,run_underlying hk,f1]
  have iW:∀o',(setObj l.block o').run P g.w=.ok () { g.w with heap:=g.w.heap.setIfInBounds l.block o' }:=fun o'=>by
   simp[Go.setObj,Sem.run,hh]
  have aN:=bj hh;have UW:∃cS Fh,(Instr.mapUpdate t (.map (some l.block)) key (a.eval v)).run P g.w=.ok () { g.w with heap:=g.w.heap.setIfInBounds l.block (.map cS Fh) }∧cS.size=(jG es key val).length ∧
    ∀(i:Nat) (e:MapEntry) (kx:Value×ae),cS[i]?=some e->(jG es key val)[i]?=some kx->e.key=kx.1∧mi kx.1∧RV g kx.2 e.val:=by
   rcases f2 with⟨q1,q2,q3⟩|⟨j,e',x',k0,q1,q2,q3,q4,q5,q6⟩
   ·subst q1;refine⟨arr.push { key,val:=a.eval v,born:=clk },clk+1,?_,by rw[q3];simp[hl],fun i e kx a1 a2=>?_⟩
    ·simp only[Instr.mapUpdate,Sem.run_bind,run_underlying (oR hT ht a7),Result.andThen_ok,iM,Cy,AG,iW]
    rw[q3]at a2;rcases aU a2 with b|⟨b1,b2⟩
    ·have hi:=ag b;rw[Array.getElem?_push,if_neg (by omega)]at a1;exact hr i e kx a1 b
    subst b2;rw[Array.getElem?_push,if_pos (by omega)]at a1;simp only[Option.some.injEq]at a1;subst a1;exact⟨rfl,T7.2,Lc⟩
   subst q1;have DK:k0=key:=Hp (jh (k0,x') (List.mem_of_getElem? q3)) gg q4;have My:arr[j]?=some e':=by simpa using q2
   have Wx:e'.key=key:=(hr j e' (k0,x') My q3).1.trans DK;refine⟨arr.modify j fun e=>{ e with key,val:=a.eval v },clk,?_,by rw[q6];simp[hl],fun i e kx a1 a2=>?_⟩
   ·have Sy:∀w,(Instr.keyThatStays key key).run P w=.ok key w:=fun w=>by simp[Instr.keyThatStays,sameBits_self gg]
    simp only[Instr.mapUpdate,Sem.run_bind,run_underlying (oR hT ht a7),Result.andThen_ok,iM,Cy,AG,Nat.zero_add,My,Option.map_some,Option.getD_some,Wx,Sy,iW]
   rw[q6]at a2;rw[Array.getElem?_modify]at a1;by_cases e:j=i
   ·subst e;rw[if_pos rfl,My]at a1;rw[List.getElem?_set_self (by rw[<-hl];exact bj My)]at a2;simp only[Option.map_some,Option.some.injEq]at a1 a2;subst a1;subst a2;exact⟨rfl,T7.2,Lc⟩
   rw[if_neg e]at a1;rw[List.getElem?_set_ne e]at a2;exact hr i _ kx a1 a2
  obtain⟨cS,Fh,bS,oN,PB⟩:=UW;have vn:∀k,k≠l.block->(g.w.heap.setIfInBounds l.block (.map cS Fh))[k]?=g.w.heap[k]?:=fun k hk=>Array.getElem?_setIfInBounds_ne (fun e=>hk e.symm);have g8:oe g id (.map kt es) (some l) (.map kt (jG es key val)) { g.w with heap:=g.w.heap.setIfInBounds l.block (.map cS Fh) }:={
   obj:=mI
   os:=rfl
   tape:=rfl
   output:=rfl
   size:=by simp
   block:=fun k _ hk=>vn k (fun e=>hk l zG trivial e.symm)
   cell:=fun b off x hx _=>by
    by_cases e:b=l.block
    ·subst e;simp only[G.cell,World.cell?,hh]at hx;cases hx
    simp only[World.cell?,vn b e];exact hx
   place:=fun l1 h1 _=>by
    simp only[Option.some.injEq]at h1;subst h1;exact .inr ⟨l,zG,trivial,rfl,Nat.le_refl _⟩
   spare:=fun m h=>by cases h
   plain:=fun _=>⟨by simp[ay.aP],zG⟩
   gone:=by simp }
  have hle:=Le.bO hg g8;refine⟨.bool false,g.bO id (some l) (.map kt (jG es key val)) { g.w with heap:=g.w.heap.setIfInBounds l.block (.map cS Fh) },.inr ⟨mj,?_⟩,hle,Good.bO hg g8 ?_ ?_,by simp only[G.bO,Mode.post,Rn],.v trivial⟩
  ·rcases ho with ho|ho<;>simp only[execOp,ho,ex,ey,Sem.run_bind,bS,Result.andThen_ok,Sem.run_pure,G.bO]
  ·refine⟨l,cS,Fh,rfl,kp,?_,oN,Mx jh gg,fun i e kx a b=>⟨(PB i e kx a b).1,(PB i e kx a b).2.1,(PB i e kx a b).2.2.mono hle⟩⟩;simp only[G.bO];rw[Array.getElem?_setIfInBounds_self_of_lt aN]
  intro l1 h1 _;simp only[Option.some.injEq]at h1;subst h1;simpa using aN
def St.Bx(σ:St):List Operand->Option (List ae)
 | []=>some []
 | x::r =>
  match σ.ev x,σ.Bx r with
  | some y,some ys=>some (y::ys)
  | _,_=>none
theorem tW{σ:St}{a:Act}{g:G}:∀{xs:List Operand} {ys:List ae},(∀x∈xs,∀y,σ.ev x=some y->RV g y (a.eval x))->σ.Bx xs=some ys->kI g ys (xs.map a.eval).toArray
 | [],ys,_,h=>by
  simp only[St.Bx,Option.some.injEq]at h;subst h;exact⟨rfl,by simp⟩
 | x::r,ys,nW,h=>by
  simp only[St.Bx]at h;cases hx:σ.ev x with
  | none=>simp[hx]at h
  | some y =>
   cases hr:σ.Bx r with
   | none=>simp[hx,hr]at h
   | some zs =>
    simp only[hx,hr,Option.some.injEq]at h;subst h;obtain⟨h1,h2⟩:=tW (g:=g) (a:=a) (fun z hz=>nW z (List.mem_cons_of_mem _ hz)) hr;refine⟨by simpa using h1,fun j c u a1 a2=>?_⟩;cases j with
    | zero =>
     simp at a1 a2;subst a1;subst a2;exact nW x (List.mem_cons_self) y hx
    | succ j=>exact h2 j c u (by simpa using a1) (by simpa using a2)
theorem wH{P:Program}{o:Oper}{σ:St}{f:Fn}{first captured:Array Operand}{fs cs:List ae}(ho:o.op=.makeFunc f first captured)(hd:∀d,o.dst=some d->d<σ.n)
  (hf:σ.Bx first.toList=some fs) (hc:σ.Bx captured.toList=some cs):Cert P o σ (.fn f fs cs) .pure :=
 Cert.bZ .pure (.inl rfl) hd fun a g _ h _=>by
  have m1:∀x∈first.toList,x∈o.op.operands:=fun x hx=>by
   rw[ho];simp only[Op.operands,Array.mem_append];exact .inl (Array.mem_toList_iff.1 hx)
  have m2:∀x∈captured.toList,x∈o.op.operands:=fun x hx=>by
   rw[ho];simp only[Op.operands,Array.mem_append];exact .inr (Array.mem_toList_iff.1 hx)
  have h1:=tW (g:=g) (a:=a) (fun x hx y hy=>h x (m1 x hx) y hy) hf;have h2:=tW (g:=g) (a:=a) (fun x hx y hy=>h x (m2 x hx) y hy) hc;refine⟨.func f (first.map a.eval) (captured.map a.eval),by simp[execOp,ho,Instr.makeFunc],?_⟩;have e1:first.map a.eval=(first.toList.map a.eval).toArray:=Array.ext' (by rw[Array.toList_map])
  have e2:captured.map a.eval=(captured.toList.map a.eval).toArray:=Array.ext' (by rw[Array.toList_map]);rw[e1,e2];exact .fn h1.1 h2.1 h1.2 h2.2
mutual
def ae.upto(n:Nat):ae->Prop
 | .v _=>True
 | .agg cs=>aq n cs
 | .aC _ xs o=>aq n xs∧(match o with | .tok id=>id<n | _=>True)
 | .ip _ cs=>aq n cs
 | .mp id _=>id<n
 | .ms id _ _ _=>id<n
 | .os id _ _=>id<n
 | .raw _ _ id=>id<n
 | .mm id=>id<n
 | .im _ es=>kC n es
 | .fn _ fs cs=>aq n fs∧aq n cs
 | .c5 cs=>aq n cs
def aq(n:Nat):List ae->Prop
 | []=>True
 | x::r=>x.upto n∧aq n r
def kC(n:Nat):List (Value×ae)->Prop
 | []=>True
 | x::r=>O4 n x∧kC n r
def O4(n:Nat):Value×ae->Prop
 | (_,x)=>x.upto n
end
theorem a9{n:Nat}{l:List ae}:aq n l↔∀x∈l,x.upto n:=by
 induction l with
 | nil=>simp[aq]
 | cons x r ih=>simp[aq,ih]
theorem je{n:Nat}{l:List (Value×ae)}:kC n l↔∀x∈l,x.2.upto n:=by
 induction l with
 | nil=>simp[kC]
 | cons x r ih =>
  obtain⟨k,x⟩:=x;simp[kC,O4,ih]
def G.cJ(g:G)(n:Nat):G:=⟨g.w,g.fr,g.env.take n,g.objs.take n⟩
theorem df{α:Type}{l:List α}{n i:Nat}{x:α}(h:(l.take n)[i]?=some x):l[i]?=some x∧i<n:=by
 rw[List.getElem?_take]at h;split at h
 ·rename_i hh;exact⟨h,hh⟩
 cases h
theorem kd.cJ{g:G}{n b off:Nat}(h:kd (g.cJ n) b off):kd g b off:=by
 obtain⟨id,l,o,h1,h2,h3,h4,h5⟩:=h;exact⟨id,l,o,(df h1).1,(df h2).1,h3,h4,h5⟩
theorem lD.cJ{g:G}{n b off:Nat}(h:lD (g.cJ n) b off):lD g b off:=h.imp id kd.cJ
theorem gv.cJ{g:G}{n b:Nat}(h:gv (g.cJ n) b):gv g b:=by
 obtain⟨id,l,o,h1,h2,h3,h4⟩:=h;exact⟨id,l,o,(df h1).1,(df h2).1,h3,h4⟩
theorem RV.cJ{g:G}{n:Nat}{x:ae}{u:Value}(h:RV g x u)(hn:n<=g.objs.length)(hb:x.upto n):RV (g.cJ n) x u:=by
 have iM:∀(id:Nat),id<n->(g.cJ n).objs[id]?=g.objs[id]?:=fun id jE=>by
  simp only[G.cJ];rw[List.getElem?_take,if_pos jE]
 have xv:∀(id:Nat),id<n->(g.cJ n).env[id]?=g.env[id]?:=fun id jE=>by
  simp only[G.cJ];rw[List.getElem?_take,if_pos jE]
 induction h with
 | v hx=>exact .v hx
 | agg hl en _ ih =>
  simp only[ae.upto,a9]at hb;exact .agg hl en fun i c u a b=>ih i c u a b (hb c (List.mem_of_getElem? a))
 | nil ho nX =>
  simp only[ae.upto]at hb;refine .nil (fun id e=>?_) nX;subst e;have:=hb.2;simp only[G.cJ,List.length_take];omega
 | aC dk en di cZ hs f hm hr ho ih =>
  rename_i sz xs o a cap;simp only[ae.upto,a9]at hb;refine .aC dk en di cZ hs f (fun j c hj=>⟨(hm j c hj).1,fun q=>(hm j c hj).2 q.cJ⟩) (fun j c hj=>ih j c hj ?_) ?_
  ·have hc:=List.mem_of_getElem? hj;simp only[ar,List.mem_flatMap]at hc;obtain⟨x,hx,hc⟩:=hc;have:=hb.1 x hx;cases x with
   | agg cs =>
    simp only[ae.upto,a9]at this;exact this c hc
   | _=>simp only[ae.cells,List.mem_singleton]at hc;subst hc;exact this
  cases o with
  | sh=>trivial
  | nn=>trivial
  | ex=>exact ho
  | loc a=>exact ho
  | tok id =>
   have jE:=hb.2;simp only at jE;obtain⟨q1,q2⟩:=ho;refine⟨by simp only[G.cJ,List.length_take];omega,fun m eS=>?_⟩;rw[iM id jE]at eS;obtain⟨r1,r2⟩:=q2 m eS;refine⟨r1,fun e=>(r2 e).imp (fun h=>h) ?_⟩;rintro⟨l,arr,t,p1,p2,p3,p4,p5⟩;exact⟨l,arr,t,(xv id jE).trans p1,p2,p3,p4,p5⟩
 | ip ha en f hm hr ih =>
  simp only[ae.upto,a9]at hb;exact .ip ha en f (fun j c hj=>⟨(hm j c hj).1,fun q=>(hm j c hj).2 q.cJ⟩) fun j c hj=>ih j c hj (hb c (List.mem_of_getElem? hj))
 | mp he ho kX=>exact .mp ((xv _ hb).trans he) ((iM _ hb).trans ho) kX
 | ms he ho kX hc nO cZ=>exact .ms ((xv _ hb).trans he) ((iM _ hb).trans ho) kX hc nO cZ
 | os he ho kX hc nO cZ=>exact .os ((xv _ hb).trans he) ((iM _ hb).trans ho) kX hc nO cZ
 | raw nX ho =>
  rename_i sz n0 id a cap;have jE:id<n:=hb;obtain⟨q1,q2⟩:=ho;refine .raw nX ⟨by simp only[G.cJ,List.length_take];omega,fun m eS=>?_⟩;rw[iM id jE]at eS;obtain⟨r1,r2⟩:=q2 m eS;refine⟨r1,fun e=>(r2 e).imp (fun h=>h) ?_⟩;rintro⟨l,arr,t,p1,p2,p3,p4,p5⟩;exact⟨l,arr,t,(xv id jE).trans p1,p2,p3,p4,p5⟩
 | mm he ho kX=>exact .mm ((xv _ hb).trans he) ((iM _ hb).trans ho) kX
 | im hh kX hl hk wR _ ih =>
  simp only[ae.upto,je]at hb;exact .im hh (fun off q=>kX off q.cJ) hl hk wR fun i e kx a b=>ih i e kx a b (hb kx (List.mem_of_getElem? b))
 | fn hl rB _ _ ih DY =>
  simp only[ae.upto,a9]at hb;exact .fn hl rB (fun i c u a b=>ih i c u a b (hb.1 c (List.mem_of_getElem? a))) fun i c u a b=>DY i c u a b (hb.2 c (List.mem_of_getElem? a))
 | c5 hl _ ih =>
  simp only[ae.upto,a9]at hb;exact .c5 hl fun i c u a b=>ih i c u a b (hb c (List.mem_of_getElem? a))
def ay.upto(n:Nat):ay->Prop
 | .cells cs=>aq n cs
 | .map _ es=>kC n es
 | _=>True
theorem Good.cJ{g:G}(hg:Good g){n:Nat}(hn:n<=g.objs.length)(hb:∀o∈g.objs.take n,o.upto n):Good (g.cJ n) where
 frlt:=hg.frlt
 fU:=fun id l o h1 h2 h3=>hg.fU id l o (df h1).1 (df h2).1 h3
 len:=by simp only[G.cJ,List.length_take,hg.len]
 loc:=fun id l o h1 h2 h3=>hg.loc id l o (df h1).1 (df h2).1 h3
 apart:=fun id oP l l' o o' h1 h2 h3 h4 h5 h6 h7=>hg.apart id oP l l' o o' (df h1).1 (df h2).1 h3 (df h4).1 (df h5).1 h6 h7
 cells:=fun id cs h=>by
  obtain⟨l,arr,t,e1,e0,e2,e3,e4,e5⟩:=hg.cells id cs (df h).1;have Rv:=hb _ (List.mem_of_getElem? h);simp only[ay.upto,a9]at Rv;exact⟨l,arr,t,by simp only[G.cJ];rw[List.getElem?_take,if_pos (df h).2,e1],e0,e2,e3,fun j c u a b=>(e4 j c u a b).cJ hn (Rv c (List.mem_of_getElem? a)),e5⟩
 spare:=fun id m l h1 h2=>hg.spare id m l (df h1).1 (df h2).1
 map:=fun id kt es h=>by
  obtain⟨l,arr,clk,e1,e0,e2,e3,e6,e4⟩:=hg.map id kt es (df h).1;have Rv:=hb _ (List.mem_of_getElem? h);simp only[ay.upto,je]at Rv;exact⟨l,arr,clk,by simp only[G.cJ];rw[List.getElem?_take,if_pos (df h).2,e1],e0,e2,e3,e6,fun i e kx a b=>⟨(e4 i e kx a b).1,(e4 i e kx a b).2.1,(e4 i e kx a b).2.2.cJ hn (Rv kx (List.mem_of_getElem? b))⟩⟩
theorem Le.cJ{g0 g:G}(h:Le g0 g){n:Nat}(hn:g0.objs.length<=n):Le g0 (g.cJ n) where
 os:=h.os
 tape:=h.tape
 output:=h.output
 fr:=h.fr
 size:=h.size
 block:=fun k hk hh=>⟨(h.block k hk hh).1,fun q=>(h.block k hk hh).2 q.cJ⟩
 cell:=fun b off x hx hh=>⟨(h.cell b off x hx hh).1,fun q=>(h.cell b off x hx hh).2 q.cJ⟩
 len:=by
  have:=h.len;simp only[G.cJ,List.length_take];omega
 spare:=fun id m hm=>by
  have aN:=ag hm;have e:(g.cJ n).objs[id]?=g.objs[id]?:=by
   simp only[G.cJ];rw[List.getElem?_take,if_pos (by omega)]
  rw[e];exact h.spare id m hm
 plain:=fun id o ho hs=>by
  have aN:=ag ho;have e:(g.cJ n).objs[id]?=g.objs[id]?:=by
   simp only[G.cJ];rw[List.getElem?_take,if_pos (by omega)]
  have e':(g.cJ n).env[id]?=g.env[id]?:=by
   simp only[G.cJ];rw[List.getElem?_take,if_pos (by omega)]
  rw[e,e'];exact h.plain id o ho hs
 gone:=fun id ho=>by
  have aN:=ag ho;have e:(g.cJ n).objs[id]?=g.objs[id]?:=by
   simp only[G.cJ];rw[List.getElem?_take,if_pos (by omega)]
  rw[e];exact h.gone id ho
 tok:=fun id m hm eS=>by
  have aN:=ag hm;have e:(g.cJ n).objs[id]?=g.objs[id]?:=by
   simp only[G.cJ];rw[List.getElem?_take,if_pos (by omega)]
  have e':(g.cJ n).env[id]?=g.env[id]?:=by
   simp only[G.cJ];rw[List.getElem?_take,if_pos (by omega)]
  rw[e]at eS;rw[e'];exact h.tok id m hm eS
def BG (P : Program) (f : FuncId) : Prop := ∃ fn, P.funcs[f]? = some fn ∧ (fn.name == "runtime.NumGoroutine") = false ∧ fn.body.isNone = false
def aY(P:Program)(f:FuncId)(O:List ay)(args:List ae)(R:ae->List ay->Prop):Prop :=
 BG P f∧∀(g:G) (vs:Array Value),Good g->g.objs=O->kI g args vs->Calls P f vs g.w fun e w'=>∃g' v r,e=.returned v∧g'.w=w'∧Le g g'∧Good g'∧RV g' r v∧R r g'.objs
def aV(P:Program)(f:FuncId)(args:List ae)(r:ae):Prop:=aY P f [] args fun r' O'=>r'=r∧O'=[]
def G.bare(g:G):G:=⟨g.w,lD g,[],[]⟩
theorem uz{g:G}{b off:Nat}:lD g.bare b off↔lD g b off:=by
 constructor
 ·rintro(h|⟨id,l,o,h1,_⟩)
  ·exact h
  simp[G.bare]at h1
 exact .inl
theorem RV.bare{g:G}{x:ae}{u:Value}(h:RV g x u)(hb:x.upto 0):RV g.bare x u:=by
 induction h with
 | v hx=>exact .v hx
 | agg hl en _ ih =>
  simp only[ae.upto,a9]at hb;exact .agg hl en fun i c u a b=>ih i c u a b (hb c (List.mem_of_getElem? a))
 | nil ho nX =>
  simp only[ae.upto]at hb;refine .nil (fun id e=>?_) nX;subst e;have:=hb.2;simp only at this;omega
 | aC dk en di cZ hs f hm hr ho ih =>
  rename_i sz xs o a cap;simp only[ae.upto,a9]at hb;refine .aC dk en di cZ hs f (fun j c hj=>⟨(hm j c hj).1,fun q=>(hm j c hj).2 (uz.1 q)⟩) (fun j c hj=>ih j c hj ?_) ?_
  ·have hc:=List.mem_of_getElem? hj;simp only[ar,List.mem_flatMap]at hc;obtain⟨x,hx,hc⟩:=hc;have:=hb.1 x hx;cases x with
   | agg cs =>
    simp only[ae.upto,a9]at this;exact this c hc
   | _=>simp only[ae.cells,List.mem_singleton]at hc;subst hc;exact this
  cases o with
  | sh=>trivial
  | nn=>trivial
  | ex=>exact ho
  | loc a=>exact ho
  | tok id =>
   have jE:=hb.2;simp only at jE;omega
 | ip ha en f hm hr ih =>
  simp only[ae.upto,a9]at hb;exact .ip ha en f (fun j c hj=>⟨(hm j c hj).1,fun q=>(hm j c hj).2 (uz.1 q)⟩) fun j c hj=>ih j c hj (hb c (List.mem_of_getElem? hj))
 | mp he ho kX=>simp only[ae.upto]at hb;omega
 | ms he ho kX hc nO cZ=>simp only[ae.upto]at hb;omega
 | os he ho kX hc nO cZ=>simp only[ae.upto]at hb;omega
 | raw nX ho=>simp only[ae.upto]at hb;omega
 | mm he ho kX=>simp only[ae.upto]at hb;omega
 | im hh kX hl hk wR _ ih =>
  simp only[ae.upto,je]at hb;exact .im hh (fun off q=>kX off (uz.1 q)) hl hk wR fun i e kx a b=>ih i e kx a b (hb kx (List.mem_of_getElem? b))
 | fn hl rB _ _ ih DY =>
  simp only[ae.upto,a9]at hb;exact .fn hl rB (fun i c u a b=>ih i c u a b (hb.1 c (List.mem_of_getElem? a))) fun i c u a b=>DY i c u a b (hb.2 c (List.mem_of_getElem? a))
 | c5 hl _ ih =>
  simp only[ae.upto,a9]at hb;exact .c5 hl fun i c u a b=>ih i c u a b (hb c (List.mem_of_getElem? a))
theorem Good.bare{g:G}(hg:Good g):Good g.bare where
 frlt:=fun b off h=>by
  rcases h with h|⟨id,l,o,h1,h2,h3,h4,_⟩
  ·exact hg.frlt b off h
  exact h4 ▸ hg.loc id l o h1 h2 h3
 fU:=fun id l o h1=>by simp[G.bare]at h1
 len:=rfl
 loc:=fun id l o h1=>by simp[G.bare]at h1
 apart:=fun id oP l l' o o' h1=>by simp[G.bare]at h1
 cells:=fun id cs h1=>by simp[G.bare]at h1
 spare:=fun id m l h1=>by simp[G.bare]at h1
 map:=fun id kt es h1=>by simp[G.bare]at h1
def G.back(g g':G):G:=⟨g'.w,g.fr,g.env,g.objs⟩
theorem y0{g:G}(he:g.env=[]){b:Nat}:¬gv g b:=by
 rintro⟨id,l,o,h1,_⟩;simp[he]at h1
theorem Le.back{g g':G}(hg:Good g)(h:Le g.bare g'):Le g (g.back g') where
 os:=h.os
 tape:=h.tape
 output:=h.output
 fr:=rfl
 size:=h.size
 block:=fun k hk hh=>⟨(h.block k hk (y0 rfl)).1,hh⟩
 cell:=fun b off x hx hh=>⟨(h.cell b off x hx (fun q=>y0 rfl q.block)).1,hh⟩
 len:=Nat.le_refl _
 spare:=fun id m hm=>.inl ⟨m,hm,Nat.le_refl _⟩
 plain:=fun id o ho hs=>⟨⟨o,ho,hs⟩,rfl⟩
 gone:=fun id ho=>ho
 tok:=fun id m hm eS=>⟨rfl,fun l hl=>(h.block _ (hg.loc id l _ hl hm trivial) (y0 rfl)).1⟩
theorem Good.back{g g':G}(hg:Good g)(h:Le g.bare g'):Good (g.back g'):=by
 have hle:=Le.back hg h;have yE:∀k,k<g.w.heap.size->g'.w.heap[k]?=g.w.heap[k]?:=fun k hk=>(h.block k hk (y0 rfl)).1;exact {
  frlt:=fun b off hf=>Nat.lt_of_lt_of_le (hg.frlt b off hf) h.size
  fU:=hg.fU
  len:=hg.len
  loc:=fun id l o h1 h2 h3=>Nat.lt_of_lt_of_le (hg.loc id l o h1 h2 h3) h.size
  apart:=hg.apart
  cells:=fun id cs h1=>by
   obtain⟨l,arr,t,e1,e0,e2,e3,e4,e5⟩:=hg.cells id cs h1;exact⟨l,arr,t,e1,e0,(yE _ (bj e2)).trans e2,e3,fun j c u a b=>(e4 j c u a b).mono hle,e5⟩
  spare:=fun id m l h1 h2=>by
   obtain⟨arr,t,e⟩:=hg.spare id m l h1 h2;exact⟨arr,t,(yE _ (bj e)).trans e⟩
  map:=fun id kt es h1=>by
   obtain⟨l,arr,clk,e1,e0,e2,e3,e6,e4⟩:=hg.map id kt es h1;exact⟨l,arr,clk,e1,e0,(yE _ (bj e2)).trans e2,e3,e6,fun i e kx a b=>⟨(e4 i e kx a b).1,(e4 i e kx a b).2.1,(e4 i e kx a b).2.2.mono hle⟩⟩ }
theorem RV.back{g g':G}{x:ae}{u:Value}(cx:g'.fr=lD g)(HH:g'.env=[])(s7:g'.objs=[])(h:RV g' x u):RV (g.back g') x u:=by
 have H4:∀b off,lD (g.back g') b off->lD g' b off:=fun b off q=>by
  refine .inl ?_;rw[cx];exact q
 induction h with
 | v hx=>exact .v hx
 | agg hl en _ ih=>exact .agg hl en ih
 | nil ho nX =>
  refine .nil (fun id e=>?_) nX;have:=ho id e;simp[s7]at this
 | aC dk en di cZ hs f hm hr ho ih =>
  rename_i sz xs o a cap;refine .aC dk en di cZ hs f (fun j c hj=>⟨(hm j c hj).1,fun q=>(hm j c hj).2 (H4 _ _ q)⟩) ih ?_;cases o with
  | sh=>trivial
  | nn=>trivial
  | ex=>exact ho
  | loc a=>exact ho
  | tok id =>
   have:=ho.1;simp[s7]at this
 | ip ha en f hm hr ih=>exact .ip ha en f (fun j c hj=>⟨(hm j c hj).1,fun q=>(hm j c hj).2 (H4 _ _ q)⟩) ih
 | mp he ho kX=>simp[HH]at he
 | ms he ho kX hc nO cZ=>simp[HH]at he
 | os he ho kX hc nO cZ=>simp[HH]at he
 | raw nX ho =>
  have:=ho.1;simp[s7]at this
 | mm he ho kX=>simp[HH]at he
 | im hh kX hl hk wR _ ih=>exact .im hh (fun off q=>kX off (H4 _ _ q)) hl hk wR ih
 | fn hl rB _ _ ih DY=>exact .fn hl rB ih DY
 | c5 hl _ ih=>exact .c5 hl ih
theorem aV.use{P:Program}{f:FuncId}{args:List ae}{r:ae}(h:aV P f args r)(hb:aq 0 args)(O:List ay):aY P f O args fun r' O'=>r'=r∧O'=O:=by
 refine⟨h.1,?_⟩;intro g vs hg ho ha;have GB:kI g.bare args vs:=⟨ha.1,fun j c u a b=>(ha.2 j c u a b).bare (a9.1 hb c (List.mem_of_getElem? a))⟩
 refine(h.2 g.bare vs hg.bare rfl GB).mono ?_;rintro e w' ⟨g',v,r',h1,h2,h3,h4,h5,h6,h7⟩;subst h6;have HH:g'.env=[]:=by
  have:=h4.len;rw[h7]at this;exact List.length_eq_zero_iff.1 this
 exact⟨g.back g',v,r',h1,h2,Le.back hg h3,Good.back hg h3,h5.back h3.fr HH h7,rfl,ho⟩
inductive Kind where
 | pure
 | read
 | rd (id:Nat)
 | write
 | wr (n:Nat) (l:List Nat)
 | new (id:Nat)
 deriving DecidableEq
def QZ(k:Kind)(F:List ay->List ay):Prop :=
 match k with
 | .write=>∀O O',F O=F O'
 | .wr _ _=>∀O O',F O=F O'
 | .new id=>∃o,∀O,F O=O.set id o
 | _=>∀O,F O=O
def Mode.kind:Mode->Kind
 | .pure=>.pure
 | .read=>.read
 | .rd id=>.rd id
 | .write _=>.write
 | .wr n l _=>.wr n l
 | .new id _=>.new id
def re(n:Nat)(d:Option Nat)(l:List (Nat×ae)):List (Nat×ae) :=
 match d with
 | some d=>if d<n then cq d (.c5 []) l else bL d l
 | none=>l
structure jg(σ τ:St):Prop where
 n:σ.n=τ.n
 objs:σ.objs=τ.objs
 get:∀s,σ.get s=τ.get s
theorem jg.refl(σ:St):jg σ σ:=⟨rfl,rfl,fun _=>rfl⟩
theorem jg.symm{σ τ:St}(h:jg σ τ):jg τ σ:=⟨h.n.symm,h.objs.symm,fun s=>(h.get s).symm⟩
theorem jg.trans{σ τ ρ:St}(h:jg σ τ)(k:jg τ ρ):jg σ ρ:=⟨h.n.trans k.n,h.objs.trans k.objs,fun s=>(h.get s).trans (k.get s)⟩
theorem jg.ev{σ τ:St}(h:jg σ τ)(x:Operand):σ.ev x=τ.ev x:=by
 cases x with
 | tmp t=>exact h.get t
 | _=>rfl
theorem jg.rel{σ τ:St}(h:jg σ τ){base:G}{a:Act}{g:G}(k:Rel base σ a g):Rel base τ a g where
 le:=k.le
 good:=k.good
 objs:=k.objs.trans h.objs
 size:=k.size.trans h.n
 defers:=k.defers
 slot:=fun s x hx=>k.slot s x ((h.get s).trans hx)
def St.put(σ:St)(d:Option Nat)(r:ae)(O:List ay):St:=⟨σ.n,tR d r σ.bC,O⟩
def St.skip(σ:St)(d:Option Nat):St:=⟨σ.n,re σ.n d σ.bC,σ.objs⟩
theorem ph(σ:St)(d:Option Nat)(r:ae)(O:List ay)(s:Nat):(σ.put d r O).get s=if d=some s then some r else σ.get s:=by
 cases d with
 | none=>simp[St.put,St.get,tR]
 | some d =>
  simp only[St.put,St.get,tR,fV];by_cases e:d=s
  ·simp[e]
  simp[e]
theorem mG(σ:St)(d:Option Nat)(s:Nat):(σ.skip d).get s=if d=some s then(if s<σ.n then some (.c5 [])else none)else σ.get s:=by
 cases d with
 | none=>simp[St.skip,St.get,re]
 | some d =>
  simp only[St.skip,St.get,re];by_cases e:d=s
  ·subst e;by_cases h:d<σ.n
   ·simp[h,fV]
   simp[h,mn]
  by_cases h:d<σ.n
  ·simp[e,h,fV]
  simp[e,h,j7 e]
theorem Rel.skip{base:G}{σ:St}{a:Act}{g:G}(h:Rel base σ a g)(d:Nat):Rel base (σ.skip (some d)) (a.put (some d) undef) g:=by
 by_cases hd:d<σ.n
 ·have:=h.put (Le.refl g) h.good hd (r:=.c5 []) (u:=undef) (.c5 rfl (by simp));rw[show σ.skip (some d)=⟨σ.n,cq d (.c5 []) σ.bC,g.objs⟩ by simp[St.skip,re,hd,h.objs]];exact this
 have:=h.forget d undef;rw[show σ.skip (some d)=⟨σ.n,bL d σ.bC,σ.objs⟩ by simp[St.skip,re,hd]];exact this
theorem jg.put{σ τ:St}(h:jg σ τ)(d:Option Nat)(r:ae)(O:List ay):jg (σ.put d r O) (τ.put d r O) :=
 ⟨h.n,rfl,fun s=>by rw[ph,ph,h.get]⟩
theorem jg.skip{σ τ:St}(h:jg σ τ)(d:Option Nat):jg (σ.skip d) (τ.skip d) :=
 ⟨h.n,h.objs,fun s=>by rw[mG,mG,h.get,h.n]⟩
def eA(ops:Array Oper)(o:Oper)(σ:St):Option Bool :=
 match o.guard with
 | none=>some true
 | some (j,kE) =>
  match (ops[j]?).bind (·.dst)with
  | some t =>
   match σ.get t with
   | some (.v (.bool b))=>some (b == kE)
   | some (.c5 [])=>some false
   | _=>none
  | none=>none
theorem k8{ops:Array Oper}{o:Oper}{σ:St}{base:G}{a:Act}{g:G}{b:Bool}(h:Rel base σ a g)(hw:eA ops o σ=some b):Region.wanted o (yielded ops a.tmps)=b:=by
 unfold eA at hw;unfold Region.wanted;cases hg:o.guard with
 | none =>
  simp only[hg,Option.some.injEq]at hw;exact hw
 | some p =>
  obtain⟨j,kE⟩:=p;simp only[hg]at hw;cases ht:(ops[j]?).bind (·.dst)with
  | none=>simp[ht]at hw
  | some t =>
   simp only[ht]at hw;split at hw
   ·rename_i c hc;simp only[Option.some.injEq]at hw;obtain⟨u,h1,h2⟩:=h.slot t _ hc;have:=h2.cL.1;subst this;have hy:yielded ops a.tmps j=some c:=by
     unfold yielded;simp[ht,h1]
    simp only[hy];rw[<-hw];cases c<;>cases kE<;>rfl
   ·rename_i hc;simp only[Option.some.injEq]at hw;obtain⟨u,h1,h2⟩:=h.slot t _ hc;cases h2 with
    | c5 hl _ =>
     rename_i vs;have hy:yielded ops a.tmps j=none:=by
      unfold yielded;simp[ht,h1]
     simp only[hy];rw[<-hw];rfl
   cases hw
theorem mu{ops:Array Oper}{o:Oper}{σ τ:St}(h:∀j kE t,o.guard=some (j,kE)->(ops[j]?).bind (·.dst)=some t->σ.get t=τ.get t):eA ops o σ=eA ops o τ:=by
 unfold eA;cases hg:o.guard with
 | none=>rfl
 | some p =>
  obtain⟨j,kE⟩:=p;simp only;cases ht:(ops[j]?).bind (·.dst)with
  | none=>rfl
  | some t =>
   simp only;rw[h j kE t hg ht]
theorem Cert.congr{P:Program}{o:Oper}{σ τ:St}{r:ae}{m:Mode}(h:Cert P o σ r m)(hn:σ.n=τ.n)(BA:∀x∈o.op.operands,σ.ev x=τ.ev x)(ho:m.nL τ.objs σ.objs):Cert P o τ r m:=by
 refine⟨?_,?_⟩
 ·have:=h.1;cases m with
  | wr n l O' =>
   intro i hi hl;rw[this i hi hl,show τ.objs=σ.objs from ho]
  | _=>trivial
 intro base ρ a g cu h1 h2 h3;refine h.2 base ρ a g cu (h1.trans hn.symm) (fun x hx y hy=>h2 x hx y ((BA x hx).symm.trans hy)) ?_;cases m with
 | pure=>trivial
 | rd id=>exact Eq.trans h3 ho
 | new id _=>exact Eq.trans h3 ho
 | _=>exact Eq.trans h3 ho
def mc(P:Program)(ops:Array Oper)(i:Nat)(k:Kind)(σ ji:St):Prop :=
 ∃o,ops[i]?=some o ∧
  ((eA ops o σ=some true∧∃r m,Cert P o σ r m∧m.kind=k∧ji=σ.put o.dst r (m.post σ.objs)) ∨
   (eA ops o σ=some false∧k=.pure∧ji=σ.skip o.dst))
def iG(P:Program)(ops:Array Oper):List (Nat×Kind)->St->St->Prop
 | [],σ,τ=>jg σ τ
 | (i,k)::r,σ,τ=>∃ji,mc P ops i k σ ji∧iG P ops r ji τ
theorem mc.same{P:Program}{ops:Array Oper}{i:Nat}{k:Kind}{σ ji τ:St}(h:mc P ops i k σ ji)(hs:jg σ τ):∃KX,mc P ops i k τ KX∧jg ji KX:=by
 obtain⟨o,ho,h⟩:=h;rcases h with⟨h1,r,m,h2,h3,h4⟩|⟨h1,h2,h3⟩
 ·refine⟨τ.put o.dst r (m.post τ.objs),⟨o,ho,.inl ⟨?_,r,m,h2.congr hs.n (fun x _=>hs.ev x) (Mode.uk (.inr hs.objs.symm)),h3,rfl⟩⟩,?_⟩
  ·rw[<-h1];exact mu fun _ _ t _ _=>(hs.get t).symm
  subst h4;rw[hs.objs];exact hs.put _ _ _
 refine⟨τ.skip o.dst,⟨o,ho,.inr ⟨?_,h2,rfl⟩⟩,?_⟩
 ·rw[<-h1];exact mu fun _ _ t _ _=>(hs.get t).symm
 subst h3;exact hs.skip _
theorem iG.same{P:Program}{ops:Array Oper}:∀{l:List (Nat×Kind)} {σ τ ρ:St},iG P ops l σ ρ->jg σ τ->iG P ops l τ ρ
 | [],_,_,_,h,hs=>hs.symm.trans h
 | (i,k)::r,σ,τ,ρ,h,hs=>by
  obtain⟨ji,h1,h2⟩:=h;obtain⟨KX,h3,h4⟩:=h1.same hs;exact⟨KX,h3,h2.same h4⟩
def bW(k k':Kind):Bool :=
 match k,k' with
 | .pure,_=>true
 | _,.pure=>true
 | .read,.read=>true
 | .rd _,.read=>true
 | .read,.rd _=>true
 | .rd _,.rd _=>true
 | .rd id,.wr n l=>decide (id<n)&&!l.contains id
 | .wr n l,.rd id=>decide (id<n)&&!l.contains id
 | .new i,.new j=>!decide (i=j)
 | .new i,.rd j=>!decide (i=j)
 | .rd i,.new j=>!decide (i=j)
 | _,_=>false
def Kind.nL(k:Kind)(O O0:List ay):Prop :=
 match k with
 | .pure=>True
 | .rd id=>O[id]?=O0[id]?
 | .new id=>O[id]?=O0[id]?
 | _=>O=O0
theorem Mode.BL{m:Mode}{O O0:List ay}(h:m.kind.nL O O0):m.nL O O0:=by
 cases m<;>exact h
theorem w6{ops:Array Oper}{o:Oper}{t:Nat}(h:(.tmp t:Operand)∈o.op.operands):t∈o.looksAt ops :=
 List.mem_append_left _ (List.mem_filterMap.2 ⟨.tmp t,Array.mem_toList_iff.2 h,rfl⟩)
theorem AR{ops:Array Oper}{o:Oper}{j:Nat}{kE:Bool}{t:Nat}(h:o.guard=some (j,kE))(ht:(ops[j]?).bind (·.dst)=some t):t∈o.looksAt ops:=by
 refine List.mem_append_right _ ?_;simp[h,ht]
structure Q6(P:Program)(ops:Array Oper)(o:Oper)(k:Kind)(F:List ay->List ay)(σ ji:St):Prop where
 n:ji.n=σ.n
 get:∀s,o.dst≠some s->ji.get s=σ.get s
 Rh:QZ k F
 objs:ji.objs=F σ.objs
 AQ:∀n l,k=.wr n l->∀i,i<n->i ∉ l->(F σ.objs)[i]?=σ.objs[i]?
 move:∀τ:St,τ.n=σ.n->(∀t∈o.looksAt ops,τ.get t=σ.get t)->k.nL τ.objs σ.objs ->
  ∃KX,(eA ops o τ=some true∧(∃r m,Cert P o τ r m∧m.kind=k∧KX=τ.put o.dst r (m.post τ.objs))∨eA ops o τ=some false∧k=.pure∧KX=τ.skip o.dst) ∧
   (∀s,o.dst=some s->KX.get s=ji.get s)∧(∀s,o.dst≠some s->KX.get s=τ.get s)∧KX.n=τ.n∧KX.objs=F τ.objs
theorem OT{P:Program}{ops:Array Oper}{o:Oper}{k:Kind}{σ ji:St}
  (h:(eA ops o σ=some true∧∃r m,Cert P o σ r m∧m.kind=k∧ji=σ.put o.dst r (m.post σ.objs))∨(eA ops o σ=some false∧k=.pure∧ji=σ.skip o.dst)):∃F,Q6 P ops o k F σ ji:=by
 have BA:∀τ:St,(∀t∈o.looksAt ops,τ.get t=σ.get t)->∀x∈o.op.operands,σ.ev x=τ.ev x:=fun τ ht x hx=>by
  cases x with
  | tmp t=>exact(ht t (w6 hx)).symm
  | _=>rfl
 have OI:∀τ:St,(∀t∈o.looksAt ops,τ.get t=σ.get t)->eA ops o τ=eA ops o σ:=fun τ ht=>mu fun j w t hg hd=>ht t (AR hg hd);rcases h with⟨h1,r,m,h2,h3,h4⟩|⟨h1,h2,h3⟩
 ·subst h4;subst h3;have LX:QZ m.kind m.post:=by
   cases m with
   | new id o=>exact⟨o,fun _=>rfl⟩
   | write O=>exact fun _ _=>rfl
   | wr n l O=>exact fun _ _=>rfl
   | _=>exact fun _=>rfl
  refine⟨m.post,rfl,fun s hs=>by rw[ph,if_neg hs],LX,rfl,fun n l hk i hi hl=>?_,fun τ hn ht ho=>⟨τ.put o.dst r (m.post τ.objs),.inl ⟨(OI τ ht).trans h1,r,m,?_,rfl,rfl⟩,?_,?_,rfl,rfl⟩⟩
  ·cases m with
   | wr n' l' O' =>
    simp only[Mode.kind,Kind.wr.injEq]at hk;obtain⟨rfl,rfl⟩:=hk;exact h2.1 i hi hl
   | _=>simp[Mode.kind]at hk
  ·exact h2.congr hn.symm (BA τ ht) (Mode.BL ho)
  ·intro s hs;rw[ph,ph,if_pos hs,if_pos hs]
  intro s hs;rw[ph,if_neg hs]
 subst h3;subst h2;refine⟨id,rfl,fun s hs=>by rw[mG,if_neg hs],fun _=>rfl,rfl,fun n l hk=>(by cases hk),fun τ hn ht ho=>⟨τ.skip o.dst,.inr ⟨(OI τ ht).trans h1,rfl,rfl⟩,?_,?_,rfl,rfl⟩⟩
 ·intro s hs;rw[mG,mG,if_pos hs,if_pos hs,hn]
 intro s hs;rw[mG,if_neg hs]
theorem BN{k:Kind}{O O':List ay}(h:k.nL O O'):k.nL O' O:=by
 cases k<;>first|trivial|exact Eq.symm h
theorem xe{kj ki:Kind}{F:List ay->List ay}{O:List ay}(hk:bW kj ki=true)(hF:QZ kj F)(R5:∀n l,kj=.wr n l->∀i,i<n->i ∉ l->(F O)[i]?=O[i]?):ki.nL O (F O):=by
 cases ki with
 | pure=>trivial
 | rd id =>
  show O[id]?=(F O)[id]?;cases kj with
  | write=>simp[bW]at hk
  | wr n l =>
   simp only[bW,Bool.and_eq_true,decide_eq_true_eq,Bool.not_eq_true',List.contains_eq_mem,decide_eq_false_iff_not]at hk;exact(R5 n l rfl id hk.1 hk.2).symm
  | new j =>
   obtain⟨o,hF⟩:=hF;simp only[bW,Bool.not_eq_true',decide_eq_false_iff_not]at hk;rw[hF,List.getElem?_set_ne hk]
  | _=>rw[hF O]
 | new id =>
  show O[id]?=(F O)[id]?;cases kj with
  | new j =>
   obtain⟨o,hF⟩:=hF;simp only[bW,Bool.not_eq_true',decide_eq_false_iff_not]at hk;rw[hF,List.getElem?_set_ne hk]
  | pure=>rw[hF O]
  | rd j=>rw[hF O]
  | _=>simp[bW]at hk
 | read=>cases kj<;>first | exact(hF O).symm | simp[bW]at hk
 | write=>cases kj<;>first | exact(hF O).symm | simp[bW]at hk
 | wr n l=>cases kj<;>first | exact(hF O).symm | simp[bW]at hk
theorem BO{k k':Kind}(h:bW k k'=true):bW k' k=true:=by
 cases k<;>cases k'<;>first|exact h|(simp only[bW,Bool.not_eq_true',decide_eq_false_iff_not]at h ⊢;exact fun e=>h e.symm)
theorem Hk{kj ki:Kind}{Fj Fi:List ay->List ay}(hk:bW kj ki=true)(hj:QZ kj Fj)(hi:QZ ki Fi)(O:List ay):Fi (Fj O)=Fj (Fi O):=by
 cases kj with
 | new j =>
  obtain⟨oj,hj⟩:=hj;cases ki with
  | new i =>
   obtain⟨oi,hi⟩:=hi;simp only[bW,Bool.not_eq_true',decide_eq_false_iff_not]at hk;rw[hj,hi,hj,hi,List.set_comm _ _ hk]
  | pure=>rw[hi,hi]
  | rd _=>rw[hi,hi]
  | _=>simp[bW]at hk
 | pure=>rw[hj,hj]
 | read=>rw[hj,hj]
 | rd _=>rw[hj,hj]
 | write=>cases ki<;>first | (rw[hi,hi];done) | simp[bW]at hk
 | wr _ _=>cases ki<;>first | (rw[hi,hi];done) | simp[bW]at hk
theorem swap{P:Program}{ops:Array Oper}{i j:Nat}{oi oj:Oper}{ki kj:Kind}{σ Vb Vc:St}(hi:ops[i]?=some oi)(hj:ops[j]?=some oj)(Wp:oj.apart ops oi=true)(hk:bW kj ki=true)
  (h1:mc P ops j kj σ Vb) (h2:mc P ops i ki Vb Vc):∃QB QY,mc P ops i ki σ QB∧mc P ops j kj QB QY∧jg Vc QY:=by
 obtain⟨a1,a2,a3⟩:=Oper.apart_spec Wp;obtain⟨X',lT,h1⟩:=h1;rw[hj]at lT;simp only[Option.some.injEq]at lT;subst lT;obtain⟨X9,lS,h2⟩:=h2;rw[hi]at lS;simp only[Option.some.injEq]at lS;subst lS;obtain⟨Fj,s1⟩:=OT h1;obtain⟨Fi,s2⟩:=OT h2;have RL:∀s,oj.dst=some s->oi.dst≠some s:=fun s hs e=>a2 s hs e;have nW:=xe hk s1.Rh s1.AQ;rw[<-s1.objs]at nW;obtain⟨QB,t1,t2,t3,t4,t5⟩:=s2.move σ s1.n.symm (fun t ht=>(s1.get t (fun e=>a1 t e ht)).symm) nW;obtain⟨QY,u1,u2,u3,u4,u5⟩:=s1.move QB t4 (fun t ht=>t3 t (fun e=>a3 t e ht)) (by
  rw[t5];refine BN (xe (BO hk) s2.Rh fun n l e i hi hl=>?_);subst e;have h4:=s2.AQ n l rfl i hi hl;rw[s1.objs]at h4;have Wi:∀O,Fj O=O:=by
   have he:=s1.Rh;clear s1 h1 nW;cases kj with
   | pure=>exact he
   | rd _=>exact he
   | _=>simp[bW]at hk
  rw[Wi]at h4;exact h4)
 refine⟨QB,QY,⟨oi,hi,t1⟩,⟨oj,hj,u1⟩,⟨?_,?_,fun s=>?_⟩⟩
 ·rw[s2.n,s1.n,u4,t4]
 ·rw[s2.objs,s1.objs,u5,t5];exact Hk hk s1.Rh s2.Rh _
 by_cases ei:oi.dst=some s
 ·have ej:oj.dst≠some s:=fun e=>RL s e ei;rw[u3 s ej,t2 s ei]
 rw[s2.get s ei];by_cases ej:oj.dst=some s
 ·rw[u2 s ej]
 rw[u3 s ej,t3 s ei,s1.get s ej]
def indep(ops:Array Oper)(j i:Nat)(kj ki:Kind):Bool :=
 match ops[j]?,ops[i]? with
 | some oj,some oi=>oj.apart ops oi&&bW kj ki
 | _,_=>false
theorem iG.front{P:Program}{ops:Array Oper}{i:Nat}{ki:Kind}{l2:List (Nat×Kind)}:∀{l1:List (Nat×Kind)} {σ ρ:St},iG P ops (l1++(i,ki)::l2) σ ρ->(∀p∈l1,indep ops p.1 i p.2 ki=true)->iG P ops ((i,ki)::(l1++l2)) σ ρ
 | [],_,_,h,_=>h
 | (j,kj)::l1,σ,ρ,h,L0=>by
  obtain⟨Vb,h1,h2⟩:=h;obtain⟨Vc,h3,h4⟩:=iG.front h2 (fun p hp=>L0 p (by simp[hp]));have QO:=L0 (j,kj) (by simp);simp only[indep]at QO;have QQ:∃oi,ops[i]?=some oi:=by
   obtain⟨oi,QQ,_⟩:=h3;exact⟨oi,QQ⟩
  have HZ:∃oj,ops[j]?=some oj:=by
   obtain⟨oj,HZ,_⟩:=h1;exact⟨oj,HZ⟩
  obtain⟨oi,QQ⟩:=QQ;obtain⟨oj,HZ⟩:=HZ;simp only[QQ,HZ,Bool.and_eq_true]at QO;obtain⟨QB,QY,q1,q2,q3⟩:=swap QQ HZ QO.1 QO.2 h1 h3;exact⟨QB,q1,QY,q2,h4.same q3⟩
def qA(ops:Array Oper):Nat->Nat->Nat->Bool
 | 0,_,_=>false
 | n+1,j,i =>
  match ops[i]? with
  | some o=>o.after.toList.any fun e=>Region.binds .any e&&(e.on == j || qA ops n j e.on)
  | none=>false
def Oe(ops:Array Oper):Bool :=
 (List.range ops.size).all fun i =>
  match ops[i]? with
  | some o=>o.after.toList.all fun e=>!Region.binds .any e || decide (e.on<i)
  | none=>true
def fO(ops:Array Oper)(ks:List Kind):Bool :=
 Oe ops&&(ks.length == ops.size) &&
 (List.range ops.size).all fun i=>(List.range i).all fun j=>qA ops ops.size j i ||indep ops j i (ks.getD j .write) (ks.getD i .write)
def yj(ops:Array Oper)(bG:Array Bool):Prop :=
 ∀i o,ops[i]?=some o->bG.getD i false=true->∀e∈o.after.toList,Region.binds .any e=true->bG.getD e.on false=true
theorem rO{ops:Array Oper}{bG:Array Bool}(hc:yj ops bG):∀(n j i:Nat) (o:Oper),ops[i]?=some o->(∀e∈o.after.toList,Region.binds .any e=true->bG.getD e.on false=true)->qA ops n j i=true->bG.getD j false=true
 | 0,j,i,o,_,_,h=>by simp[qA]at h
 | n+1,j,i,o,ho,bq,h=>by
  simp only[qA,ho,List.any_eq_true,Bool.and_eq_true,Bool.or_eq_true,beq_iff_eq]at h;obtain⟨e,he,hb,h⟩:=h;have VP:=bq e he hb;rcases h with h|h
  ·rw[<-h];exact VP
  cases Si:ops[e.on]? with
  | none =>
   cases n with
   | zero=>simp[qA]at h
   | succ n=>simp[qA,Si]at h
  | some o'=>exact rO hc n j e.on o' Si (fun e' pk sa=>hc e.on o' Si VP e' pk sa) h
theorem qu{ops:Array Oper}{bG:Array Bool}{i:Nat}:i∈Region.ready .any ops bG↔i<ops.size∧bG.getD i true=false∧∃o,ops[i]?=some o∧∀e∈o.after.toList,Region.binds .any e=true->bG.getD e.on false=true:=by
 unfold Region.ready;rw[List.mem_filter,List.mem_range];constructor
 ·rintro⟨h1,h2⟩;rw[Bool.and_eq_true]at h2;obtain⟨h2,h3⟩:=h2;refine⟨h1,by simpa using h2,?_⟩;cases ho:ops[i]? with
  | none=>simp[ho]at h3
  | some o =>
   refine⟨o,rfl,fun e he hb=>?_⟩;simp only[ho,Option.map_some,Option.getD_some]at h3;have:=Array.all_eq_true_iff_forall_mem.1 h3 e (Array.mem_toList_iff.1 he);simpa[hb]using this
 rintro⟨h1,h2,o,ho,h3⟩;refine⟨h1,?_⟩;rw[Bool.and_eq_true];refine⟨by simpa using h2,?_⟩;simp only[ho,Option.map_some,Option.getD_some];refine Array.all_eq_true_iff_forall_mem.2 fun e he=>?_;by_cases hb:Region.binds .any e=true
 ·simp only[hb,Bool.not_true,Bool.false_or];exact h3 e (Array.mem_toList_iff.2 he) hb
 simp[hb]
theorem range_split{n i:Nat}(h:i<n):List.range n=List.range i++i::(List.range n).drop (i+1):=by
 apply List.ext_getElem?;intro j;rw[List.getElem?_append];simp only[List.length_range];by_cases h1:j<i
 ·rw[if_pos h1,List.getElem?_range h1,List.getElem?_range (by omega)]
 rw[if_neg h1];by_cases h2:j=i
 ·subst h2;simp[h]
 obtain⟨m,hm⟩:∃m,j-i=m+1:=⟨j-i-1,by omega⟩
 rw[hm,List.getElem?_cons_succ,List.getElem?_drop];congr 1;omega
theorem u6{n i j:Nat}(h:j∈(List.range n).drop (i+1)):i<j∧j<n:=by
 obtain⟨k,hk⟩:=List.getElem?_of_mem h;rw[List.getElem?_drop]at hk;have:=ag hk;simp only[List.length_range]at this;rw[List.getElem?_range this]at hk;simp only[Option.some.injEq]at hk;omega
def iE(ks:List Kind)(n:Nat)(bG:Array Bool):List (Nat×Kind) :=
 ((List.range n).filter fun i=>!bG.getD i true).map fun i=>(i,ks.getD i .write)
theorem Di(ks:List Kind){n:Nat}{bG:Array Bool}(dk:bG.size=n){i:Nat}(hi:i<n)(hl:bG.getD i true=false) :
  ∃l1 l2,iE ks n bG=l1++(i,ks.getD i .write)::l2∧iE ks n (bG.setIfInBounds i true)=l1++l2∧∀p∈l1,p.1<i∧bG.getD p.1 true=false∧p.2=ks.getD p.1 .write:=by
 refine⟨((List.range i).filter fun j=>!bG.getD j true).map fun j=>(j,ks.getD j .write),(((List.range n).drop (i+1)).filter fun j=>!bG.getD j true).map fun j=>(j,ks.getD j .write),?_,?_,?_⟩
 ·unfold iE;rw[range_split hi];rw[List.filter_append,List.map_append,List.filter_cons];simp only[hl,Bool.not_false,if_true,List.map_cons];rw[<-range_split hi]
 ·unfold iE;rw[range_split hi];rw[List.filter_append,List.map_append,List.filter_cons];have WG:(bG.setIfInBounds i true).getD i true=true:=by
   simp[Array.getD_eq_getD_getElem?,Array.getElem?_setIfInBounds_self_of_lt (by omega:i<bG.size)]
  simp only[WG,Bool.not_true,Bool.false_eq_true,if_false];rw[<-range_split hi];have cA:∀j,j≠i->(bG.setIfInBounds i true).getD j true=bG.getD j true:=fun j hj=>by
   simp[Array.getD_eq_getD_getElem?,Array.getElem?_setIfInBounds_ne (fun e=>hj e.symm)]
  congr 2
  ·apply List.filter_congr;intro j hj;rw[List.mem_range]at hj;rw[cA j (by omega)]
  apply List.filter_congr;intro j hj;have:=u6 hj;rw[cA j (by omega)]
 intro p hp;rw[List.mem_map]at hp;obtain⟨j,hj,e⟩:=hp;subst e;rw[List.mem_filter,List.mem_range]at hj;exact⟨hj.1,by simpa using hj.2,rfl⟩
theorem xt{bG:Array Bool}{i:Nat}(h:i<bG.size):bG.getD i true=bG.getD i false:=by
 simp[Array.getD_eq_getD_getElem?,h]
theorem Bt{P:Program}{ops:Array Oper}{ks:List Kind}(hB:fO ops ks=true){base:G}{ρ:St}{Q:Exit->Act->World->Prop}(hQ:∀a g,Rel base ρ a g->Q .normal a g.w) :
  ∀(fuel:Nat) (bG:Array Bool) (σ:St) (a:Act) (g:G),bG.size=ops.size->yj ops bG->(iE ks ops.size bG).length<=fuel->iG P ops (iE ks ops.size bG) σ ρ->Rel base σ a g ->
   wpAny P .any ops Q fuel bG a g.w:=by
 simp only[fO,Bool.and_eq_true,List.all_eq_true,Bool.or_eq_true]at hB;obtain⟨⟨Ol,_⟩,L0⟩:=hB;have Pr:∀i o,ops[i]?=some o->∀e∈o.after.toList,Region.binds .any e=true->e.on<i:=by
  intro i o ho e he hb;simp only[Oe,List.all_eq_true]at Ol;have aN:i<ops.size:=bj ho;have:=Ol i (List.mem_range.2 aN);simp only[ho,List.all_eq_true,Bool.or_eq_true,decide_eq_true_eq]at this;have:=this e he;simpa[hb]using this
 have PA:∀bG:Array Bool,bG.size=ops.size->Region.ready .any ops bG=[]->iE ks ops.size bG=[]:=by
  intro bG dk hr;refine Classical.byContradiction fun cA=>?_;have hex:∃i,i<ops.size∧bG.getD i true=false:=by
   cases ht:iE ks ops.size bG with
   | nil=>exact absurd ht cA
   | cons p r =>
    have hm:p∈iE ks ops.size bG:=by rw[ht];simp
    simp only[iE,List.mem_map,List.mem_filter,List.mem_range]at hm;obtain⟨i,⟨h1,h2⟩,_⟩:=hm;exact⟨i,h1,by simpa using h2⟩
  have Uk:∃i,i<ops.size∧bG.getD i true=false∧∀j,j<i->bG.getD j true=true:=by
   obtain⟨i,h1,h2⟩:=hex;induction i using Nat.strongRecOn with
   | _ i ih =>
    by_cases h:∃j,j<i∧bG.getD j true=false
    ·obtain⟨j,h3,h4⟩:=h;exact ih j h3 (by omega) h4
    refine⟨i,h1,h2,fun j hj=>?_⟩;cases hc:bG.getD j true with
    | true=>rfl
    | false=>exact absurd ⟨j,hj,hc⟩ h
  obtain⟨i,h1,h2,h3⟩:=Uk;have hi:i∈Region.ready .any ops bG:=by
   refine qu.2 ⟨h1,h2,ops[i],Array.getElem?_eq_getElem h1,fun e he hb=>?_⟩;have aN:=Pr i _ (Array.getElem?_eq_getElem h1) e he hb;rw[<-xt (by omega)];exact h3 _ aN
  rw[hr]at hi;cases hi
 intro fuel;induction fuel with
 | zero =>
  intro bG σ a g dk hc hlen sb cu;have ht:iE ks ops.size bG=[]:=List.length_eq_zero_iff.1 (by omega);rw[ht]at sb;refine⟨?_,hQ a g (jg.rel sb cu)⟩;cases hr:Region.ready .any ops bG with
  | nil=>rfl
  | cons i r =>
   have hi:i∈Region.ready .any ops bG:=by rw[hr];simp
   obtain⟨h1,h2,_⟩:=qu.1 hi;have:(i,ks.getD i .write)∈iE ks ops.size bG:=by
    simp only[iE,List.mem_map,List.mem_filter,List.mem_range];exact⟨i,⟨h1,by rw[h2];rfl⟩,rfl⟩
   rw[ht]at this;cases this
 | succ fuel ih =>
  intro bG σ a g dk hc hlen sb cu;refine⟨fun hr=>?_,fun i hi=>?_⟩
  ·have ht:=PA bG dk hr;rw[ht]at sb;exact hQ a g (jg.rel sb cu)
  obtain⟨h1,h2,o,ho,h3⟩:=qu.1 hi;obtain⟨l1,l2,e1,e2,e3⟩:=Di ks dk h1 h2;rw[e1]at sb;have TW:=iG.front sb (fun p hp=>by
   obtain⟨q1,q2,q3⟩:=e3 p hp;have:=L0 i (List.mem_range.2 h1) p.1 (List.mem_range.2 q1);rcases this with this|this
   ·have:=rO hc _ _ _ o ho h3 this;rw[<-xt (by omega),q2]at this;cases this
   rw[q3];exact this)
  obtain⟨ji,⟨o',kY,dQ⟩,gA⟩:=TW;rw[ho]at kY;simp only[Option.some.injEq]at kY;subst kY;rw[<-e2]at gA;have oN:(bG.setIfInBounds i true).size=ops.size:=by simpa using dk
  have nO:yj ops (bG.setIfInBounds i true):=by
   intro j oj HZ Ox e he hb;have mH:∀k,bG.getD k false=true->(bG.setIfInBounds i true).getD k false=true:=fun k hk=>getD_set_true hk;by_cases VJ:j=i
   ·subst VJ;rw[ho]at HZ;simp only[Option.some.injEq]at HZ;subst HZ;exact mH _ (h3 e he hb)
   rw[getD_set_ne false (fun e=>VJ e.symm)]at Ox;exact mH _ (hc j oj HZ Ox e he hb)
  have iN:(iE ks ops.size (bG.setIfInBounds i true)).length<=fuel:=by
   rw[e1]at hlen;rw[e2];simp only[List.length_append,List.length_cons]at hlen ⊢;omega
  unfold wpOp;simp only[ho];rcases dQ with⟨hw,r,m,HE,hk,P9⟩|⟨hw,_,P9⟩
  ·rw[if_pos (k8 cu hw)];refine .inl (HE.2 base σ a g cu rfl (fun x _ y hy=>hy) (Mode.uk (.inr rfl)) _ _ fun u g' xz=>?_);subst P9;exact ih _ _ _ _ oN nO iN gA xz
  rw[if_neg (by rw[k8 cu hw];simp)];subst P9;refine ih _ _ _ g oN nO iN gA ?_;cases mj:o.dst with
  | none=>exact cu
  | some d=>exact cu.skip d
theorem tT{P:Program}(hm:P.follows .mixedOrders=true){ops:Array Oper}{ks:List Kind}(hB:fO ops ks=true){id:Nat}{base:G}{σ ρ:St}{a:Act}{g:G}{Q:Exit->Act->World->Prop}
  (sb:iG P ops ((List.range ops.size).map fun i=>(i,ks.getD i .write)) σ ρ) (cu:Rel base σ a g) (hQ:∀a g,Rel base ρ a g->Q .normal a g.w):(Code.region id ops true).wp P Q a g.w:=by
 refine wp_region_any hm ?_;have OF:iE ks ops.size (Array.replicate ops.size false)=(List.range ops.size).map fun i=>(i,ks.getD i .write):=by
  unfold iE;congr 1;rw[List.filter_eq_self];intro i hi;rw[List.mem_range]at hi;simp[Array.getD_eq_getD_getElem?,hi]
 have QN:=cu.good.heap (w':={ g.w with drawn:=g.w.drawn+1 }) rfl rfl rfl rfl;have Uj:=Le.heap (g:=g) (w':={ g.w with drawn:=g.w.drawn+1 }) rfl rfl rfl rfl;have xz:=cu.step Uj QN;have fk:(⟨σ.n,σ.bC,g.objs⟩:St)=σ:=by rw[cu.objs]
 rw[fk]at xz;refine Bt hB hQ ops.size (Array.replicate ops.size false) σ a _ (by simp) ?_ ?_ (by rw[OF];exact sb) xz
 ·intro i o ho hl;have aN:i<ops.size:=bj ho;simp[Array.getD_eq_getD_getElem?,aN]at hl
 rw[OF];simp
theorem o9{P:Program}{ops:Array Oper}{base:G}{ρ:St}{Q:Exit->Act->World->Prop}(hQ:∀a g,Rel base ρ a g->Q .normal a g.w) :
  ∀(l:List (Nat×Kind)) (σ:St) (a:Act) (g:G),iG P ops l σ ρ->Rel base σ a g->wpOps P ops Q (l.map (·.1)) a g.w
 | [],σ,a,g,sb,cu=>hQ a g (jg.rel sb cu)
 | (i,k)::r,σ,a,g,sb,cu=>by
  obtain⟨ji,⟨o,ho,dQ⟩,gA⟩:=sb;simp only[List.map_cons,wpOps,ho];rcases dQ with⟨hw,r',m,HE,hk,P9⟩|⟨hw,_,P9⟩
  ·rw[if_pos (k8 cu hw)];refine .inl (HE.2 base σ a g cu rfl (fun x _ y hy=>hy) (Mode.uk (.inr rfl)) _ _ fun u g' xz=>?_);subst P9;exact o9 hQ r _ _ _ gA xz
  rw[if_neg (by rw[k8 cu hw];simp)];subst P9;refine o9 hQ r _ _ g gA ?_;cases mj:o.dst with
  | none=>exact cu
  | some d=>exact cu.skip d
theorem pU{P:Program}{ops:Array Oper}{ks:List Kind}{id:Nat}{base:G}{σ ρ:St}{a:Act}{g:G}{Q:Exit->Act->World->Prop}
  (sb:iG P ops ((List.range ops.size).map fun i=>(i,ks.getD i .write)) σ ρ) (cu:Rel base σ a g) (hQ:∀a g,Rel base ρ a g->Q .normal a g.w):(Code.region id ops false).wp P Q a g.w:=by
 refine wp_region ?_;have:=o9 (Q:=Q) hQ _ σ a g sb cu;rw[List.map_map]at this;rw[show((List.range ops.size).map ((fun x:Nat×Kind=>x.1) ∘ fun i=>(i,ks.getD i .write)))=List.range ops.size by
  conv=>rhs;rw[<-List.map_id (List.range ops.size)]
  rfl]at this
 exact this
inductive dw where
 | norm
 | ret
 | exit (id:Nat)
def Q3(base:G)(Q:dw->St->Prop):Exit->Act->World->Prop
 | .normal,a,w=>∃g σ,g.w=w∧Rel base σ a g∧Q .norm σ
 | .ret,a,w=>∃g σ,g.w=w∧Rel base σ a g∧Q .ret σ
 | .exit id,a,w=>∃g σ,g.w=w∧Rel base σ a g∧Q (.exit id) σ
 | _,_,_=>False
def cy(P:Program)(kb:Nat)(c:Code)(Q:dw->St->Prop)(σ:St):Prop :=
 ∀(base:G) (a:Act) (g:G),base.objs.length<=kb->Rel base σ a g->c.wp P (Q3 base Q) a g.w
theorem cy.mono{P:Program}{kb:Nat}{c:Code}{Q Q':dw->St->Prop}{σ:St}(h:cy P kb c Q σ)(hq:∀e σ,Q e σ->Q' e σ):cy P kb c Q' σ:=fun base a g hb hr =>
 wp_mono (h base a g hb hr) fun e a w hp=>by
  cases e with
  | normal=>obtain⟨g,σ,h1,h2,h3⟩:=hp;exact⟨g,σ,h1,h2,hq _ _ h3⟩
  | ret=>obtain⟨g,σ,h1,h2,h3⟩:=hp;exact⟨g,σ,h1,h2,hq _ _ h3⟩
  | exit id=>obtain⟨g,σ,h1,h2,h3⟩:=hp;exact⟨g,σ,h1,h2,hq _ _ h3⟩
  | goto l=>exact hp
  | panic c=>exact hp
  | outgrown=>exact hp
theorem cy.weaken{P:Program}{kb:Nat}{c:Code}{Q:dw->St->Prop}{σ τ:St}(h:cy P kb c Q τ)(hw:∀base a g,base.objs.length<=kb->Rel base σ a g->∃g',g'.w=g.w∧Rel base τ a g'):cy P kb c Q σ:=fun base a g hb hr=>by
 obtain⟨g',h1,h2⟩:=hw base a g hb hr;rw[<-h1];exact h base a g' hb h2
def aZ(P:Program)(kb:Nat)(b:Code)(Q:dw->St->Prop):dw->St->Prop
 | .norm,σ=>cy P kb b Q σ
 | e,σ=>Q e σ
theorem aG{P:Program}{kb:Nat}{x y:Code}{Q:dw->St->Prop}{σ:St}(h:cy P kb x (aZ P kb y Q) σ):cy P kb (.seq x y) Q σ:=fun base a g hb hr =>
 wp_seq (wp_mono (h base a g hb hr) fun e a w hp=>by
  cases e with
  | normal =>
   obtain⟨g,σ,h1,h2,h3⟩:=hp;subst h1;exact h3 base a g hb h2
  | ret=>exact hp
  | exit id=>exact hp
  | goto l=>exact hp
  | panic c=>exact hp
  | outgrown=>exact hp)
theorem au{P:Program}{kb:Nat}{Q:dw->St->Prop}{σ:St}(h:Q .norm σ):cy P kb .skip Q σ:=fun base _ g _ hr=>wp_skip ⟨g,σ,rfl,hr,h⟩
theorem ak{P:Program}{kb:Nat}{Q:dw->St->Prop}{σ:St}(h:Q .ret σ):cy P kb .ret Q σ:=fun base _ g _ hr=>wp_ret ⟨g,σ,rfl,hr,h⟩
theorem aM{P:Program}{kb:Nat}{Q:dw->St->Prop}{σ:St}{id:Nat}(h:Q (.exit id) σ):cy P kb (.exit id) Q σ:=fun base _ g _ hr=>wp_exit ⟨g,σ,rfl,hr,h⟩
def bJ(id:Nat)(Q:dw->St->Prop):dw->St->Prop
 | .exit oP,σ=>if oP=id then Q .norm σ else Q (.exit oP) σ
 | e,σ=>Q e σ
theorem aj{P:Program}{kb:Nat}{id:Nat}{c:Code}{Q:dw->St->Prop}{σ:St}(h:cy P kb c (bJ id Q) σ):cy P kb (.block id c) Q σ:=fun base a g hb hr =>
 wp_block (wp_mono (h base a g hb hr) fun e a w hp=>by
  cases e with
  | normal=>exact hp
  | ret=>exact hp
  | exit oP =>
   obtain⟨g,σ,h1,h2,h3⟩:=hp;simp only[bJ]at h3;simp only[Exit.inBlock];split
   ·rename_i e;rw[if_pos e]at h3;exact⟨g,σ,h1,h2,h3⟩
   rename_i e;rw[if_neg e]at h3;exact⟨g,σ,h1,h2,h3⟩
  | goto l=>exact hp
  | panic c=>exact hp
  | outgrown=>exact hp)
theorem iI{P:Program}{kb:Nat}{c:Operand}{x y:Code}{Q:dw->St->Prop}{σ:St}{b:Bool}(hc:σ.ev c=some (.v (.bool b)))(ht:b=true->cy P kb x Q σ)(hf:b=false->cy P kb y Q σ):cy P kb (.cond c x y) Q σ:=fun base a g hb hr=>by
 have nO:=(hr.eval hc).cL.1;cases b
 ·exact wp_cond_false nO (hf rfl base a g hb hr)
 exact wp_cond_true nO (ht rfl base a g hb hr)
def Sub(O:List ay)(x y:ae):Prop:=∀(g:G) (u:Value),g.objs=O->RV g x u->RV g y u
theorem Sub.refl{O:List ay}(x:ae):Sub O x x:=fun _ _ _ h=>h
theorem Sub.of_eq{O:List ay}{x y:ae}(h:x=y):Sub O x y:=h ▸ Sub.refl x
theorem Sub.nil{O:List ay}{sz:Nat}{xs:List ae}{o:od}(h:xs=[])(ho:∀id,o≠.tok id)(hn:o≠.nn):Sub O (.v (.slice none 0 0)) (.aC sz xs o):=fun g u _ k=>by
 have:=k.cL.1;subst this;subst h;exact .nil (fun id e=>absurd e (ho id)) hn
def dy(σ:St):List (Nat×ae)->Prop
 | []=>True
 | (s,y)::r=>(∃x,σ.get s=some x∧Sub σ.objs x y)∧dy σ r
theorem sI{σ:St}{base:G}{a:Act}{g:G}(hr:Rel base σ a g):∀{l:List (Nat×ae)},dy σ l->∀s y,look l s=some y->∃u,a.tmps[s]?=some u∧RV g y u
 | [],_,s,y,h=>by cases h
 | (k,z)::l,h,s,y,hl=>by
  obtain⟨⟨x,h1,h2⟩,h3⟩:=h;simp only[look]at hl;split at hl
  ·rename_i e;subst e;simp only[Option.some.injEq]at hl;subst hl;obtain⟨u,h4,h5⟩:=hr.slot k x h1;exact⟨u,h4,h2 g u hr.objs h5⟩
  exact sI hr h3 s y hl
structure bn(σ τ:St):Prop where
 n:σ.n=τ.n
 objs:σ.objs=τ.objs
 U2:dy σ τ.bC
theorem bn.rel{σ τ:St}(h:bn σ τ){base:G}{a:Act}{g:G}(hr:Rel base σ a g):Rel base τ a g where
 le:=hr.le
 good:=hr.good
 objs:=hr.objs.trans h.objs
 size:=hr.size.trans h.n
 defers:=hr.defers
 slot:=fun s y hy=>sI hr h.U2 s y hy
theorem cy.cover{P:Program}{kb:Nat}{c:Code}{Q:dw->St->Prop}{σ τ:St}(h:cy P kb c Q τ)(hc:bn σ τ):cy P kb c Q σ:=fun base a g hb hr=>h base a g hb (hc.rel hr)
def gB{ι:Type}(L:ι->St)(μ:ι->Nat)(i:ι)(Q:dw->St->Prop):dw->St->Prop
 | .norm,σ=>∃j,μ j<μ i∧bn σ (L j)
 | e,σ=>Q e σ
theorem aO{P:Program}{kb:Nat}{c:Code}{Q:dw->St->Prop}{σ:St}{ι:Type}(L:ι->St)(μ:ι->Nat)(i0:ι)(h0:bn σ (L i0))(round:∀i,cy P kb c (gB L μ i Q) (L i)):cy P kb (.loop c) Q σ:=by
 intro base a g hb hr b k cs;have key:∀n i a g,μ i=n->Rel base (L i) a g->∃e a' w',Q3 base Q e a' w'∧Arrives P (lone (b.at a (.code c::.inLoop c::k)) cs g.w) b k cs e a' w':=by
  intro n;induction n using Nat.strongRecOn with
  | _ n ih =>
   intro i a g hn hr;obtain⟨e,O9,SX,hq,iL⟩:=round i base a g hb hr b (.inLoop c::k) cs;cases e with
   | normal =>
    obtain⟨Hy,E0,h1,h2,j,h3,h4⟩:=hq;subst h1;obtain⟨TE,Tz,U6,Sr,LM⟩:=ih (μ j) (hn ▸ h3) j O9 Hy rfl (h4.rel h2);exact⟨TE,Tz,U6,Sr,.of_steps (Steps.trans iL (.one step_inLoop)) LM⟩
   | exit id =>
    obtain⟨Hy,E0,h1,h2,h3⟩:=hq;exact⟨.exit id,O9,SX,⟨Hy,E0,h1,h2,h3⟩,.pass (x:=.inLoop c) rfl (fun _ _=>.inl (by simp)) iL⟩
   | goto l=>exact hq.elim
   | ret =>
    obtain⟨Hy,E0,h1,h2,h3⟩:=hq;exact⟨.ret,O9,SX,⟨Hy,E0,h1,h2,h3⟩,.pass (x:=.inLoop c) rfl (fun _ _=>.inl (by simp)) iL⟩
   | panic ch=>exact hq.elim
   | outgrown=>exact hq.elim
 obtain⟨e,a',w',hq,iL⟩:=key _ i0 a g rfl (h0.rel hr);exact⟨e,a',w',hq,.of_steps (.one step_loop) iL⟩
theorem j4{P:Program}{kb:Nat}{c:Code}{Q:dw->St->Prop}{n:Nat}{bC:List (Nat×ae)}{O:List ay}(s:Nat){sz:Nat}{xs:List ae}(hs:look bC s=some (.aC sz xs .ex))
  (h:cy P kb c Q ⟨n,cq s (.aC sz xs (.tok O.length)) bC,O++[.spare xs.length]⟩):cy P kb c Q ⟨n,bC,O⟩ :=
 h.weaken fun base a g hb hr=>by
  have hO:g.objs=O:=hr.objs;refine⟨g.mark (.spare xs.length),rfl,?_⟩;have hle:=Le.mark hr.good (.spare xs.length);refine { le:=hr.le.trans hle,good:=Good.mark hr.good _,objs:=by simp[G.mark,hO],size:=hr.size,defers:=hr.defers,slot:=fun k x hx=>?_ };simp only[St.get,fV]at hx;split at hx
  ·rename_i e;subst e;simp only[Option.some.injEq]at hx;subst hx;obtain⟨u,h1,h2⟩:=hr.slot s _ hs;refine⟨u,h1,?_⟩;have h3:=h2.mono hle;cases h3 with
   | nil=>exact .nil (fun id e=>by simp only[od.tok.injEq]at e;subst e;simp[G.mark,hO]) (by simp)
   | aC dk en di cZ hs f hm hr ho =>
    refine .aC dk en di cZ hs f hm hr ⟨by simp[G.mark,hO],fun m eS=>?_⟩;have:(g.mark (.spare xs.length)).objs[O.length]?=some (.spare xs.length):=by
     rw[<-hO];exact fY
    rw[this]at eS;simp only[Option.some.injEq,ay.spare.injEq]at eS;exact⟨by omega,fun _=>.inl ho⟩
  obtain⟨u,h1,h2⟩:=hr.slot k x hx;exact⟨u,h1,h2.mono hle⟩
theorem se{P:Program}{kb:Nat}{c:Code}{Q:dw->St->Prop}{n:Nat}{bC:List (Nat×ae)}{O:List ay}(k:Nat)(hk:k<=O.length)(L5:kb<=k)(cV:List (Nat×ae))(hb:∀o∈O.take k,o.upto k)(hs:dy ⟨n,bC,O⟩ cV)
  (wx:∀s x,look cV s=some x->x.upto k) (h:cy P kb c Q ⟨n,cV,O.take k⟩):cy P kb c Q ⟨n,bC,O⟩:=by
 intro base a g Ru hr;have hO:g.objs=O:=hr.objs;have xy:Rel base ⟨n,cV,O.take k⟩ a (g.cJ k):={
  le:=hr.le.cJ (by omega)
  good:=hr.good.cJ (by rw[hO];exact hk) (by rw[hO];exact hb)
  objs:=by simp only[G.cJ,hO]
  size:=hr.size
  defers:=hr.defers
  slot:=fun s x hx=>by
   obtain⟨u,h1,h2⟩:=sI hr hs s x hx;exact⟨u,h1,h2.cJ (by rw[hO];exact hk) (wx s x hx)⟩ }
 exact h base a (g.cJ k) Ru xy
theorem Gc{P:Program}{o:Oper}{x:Operand}{args:Array Operand}{sT:Array TypeId}(ho:o.op=.call ⟨.value x,args,sT⟩){a:Act}{w:World}{f:FuncId}{us vs:Array Value}(hx:a.eval x=.func (.func f) us vs)(hf:BG P f) :
  (execOp a.eval o).run P w=.ok (.enter f (us++args.map a.eval++vs)) w:=by
 obtain⟨fn,h1,h2,h3⟩:=hf;simp only[execOp,ho,resolve,hx,Deferred.ofValue,Sem.run_bind,Sem.run_pure,Result.andThen_ok,invoke,callFunc,run_program,h1,h2,h3];rfl
theorem kI.ur{g:G}{cs ds:List ae}{us vs:Array Value}(h:kI g cs us)(k:kI g ds vs):kI g (cs++ds) (us++vs):=by
 have:=kI.append (us:=us.toList) (vs:=vs.toList) (by simpa using h) (by simpa using k);have e:(us.toList++vs.toList).toArray=us++vs:=Array.ext' (by simp);rw[<-e];exact this
theorem sj{P:Program}{o:Oper}{σ:St}{x:Operand}{args:Array Operand}{sT:Array TypeId}{f:FuncId}{fs cs eK:List ae}{r:ae}(m:Mode)
  (ho:o.op=.call ⟨.value x,args,sT⟩) (hd:∀d,o.dst=some d->d<σ.n) (hx:σ.ev x=some (.fn (.func f) fs cs)) (ha:σ.Bx args.toList=some eK) {args':List ae} (dt:∀g u,kI g (fs++eK++cs) u->kI g args' u)
  (eL:∀O,(m=.pure∨O=σ.objs)->aY P f O args' fun r' O'=>r'=r∧O'=m.post O) (HH:BG P f) (hp:m.plain:=by trivial):Cert P o σ r m:=by
 refine⟨by cases m<;>first|trivial|exact hp.elim,?_⟩;intro base τ a g cu hn nW hm K Q hK;have Ld:σ.ev x=some (.fn (.func f) fs cs):=hx;have h1:=cu.eval (nW x (by simp[ho,Op.operands,Call.operands]) _ hx);obtain⟨us,vs,e1,l1,l2,r1,r2⟩:=h1.Pg;have h2:=tW (σ:=σ) (a:=a) (g:=g) (xs:=args.toList) (fun z hz y hy=>cu.eval (nW z (by
  rw[ho];simp only[Op.operands,Call.operands,Array.mem_append];exact .inr (Array.mem_toList_iff.1 hz)) y hy)) ha
 have Wa:kI g eK (args.map a.eval):=by
  have e:args.map a.eval=(args.toList.map a.eval).toArray:=Array.ext' (by rw[Array.toList_map]);rw[e];exact h2
 have bq:=dt g _ ((kI.ur (kI.ur ⟨l1,r1⟩ Wa) ⟨l2,r2⟩));have bS:=Gc (P:=P) (w:=g.w) ho e1 HH;unfold Oper.wp;rw[bS,Oper.upon_enter];refine((eL g.objs (by
  rcases m.A4 hp hm with hm|hm
  ·exact .inl hm
  exact .inr (cu.objs.trans hm))).2 g _ cu.good rfl bq).mono ?_
 rintro e w' ⟨g',v,r',q1,q2,q3,q4,q5,q6,q7⟩;subst q1;subst q2;subst q6;refine hK v g' ?_;have e:g'.objs=m.post τ.objs:=by rw[q7,cu.objs]
 cases mj:o.dst with
 | none =>
  have:=cu.step q3 q4;rw[e]at this;exact this
 | some d =>
  have:=cu.put q3 q4 (d:=d) (by rw[hn];exact hd d mj) q5;rw[e]at this;exact this
theorem kI.share{g:G}{cs:List ae}{u:Array Value}(h:kI g cs u):kI g (cs.map ae.share) u :=
 ⟨by simpa using h.1,fun j c v a b=>by
  rw[List.getElem?_map,Option.map_eq_some_iff]at a;obtain⟨c',h1,h2⟩:=a;subst h2;exact(h.2 j c' v h1 b).share⟩
theorem B5{P:Program}{o:Oper}{σ:St}{x:Operand}{args:Array Operand}{sT:Array TypeId}{f:FuncId}{fs cs eK:List ae}{r:ae}
  (ho:o.op=.call ⟨.value x,args,sT⟩) (hd:∀d,o.dst=some d->d<σ.n) (hx:σ.ev x=some (.fn (.func f) fs cs)) (ha:σ.Bx args.toList=some eK)
  (eL:aV P f ((fs++eK++cs).map ae.share) r) (bD:aq 0 ((fs++eK++cs).map ae.share)):Cert P o σ r .pure :=
 sj .pure ho hd hx ha (args':=(fs++eK++cs).map ae.share) (fun _ _ h=>h.share) (fun O _=>eL.use bD O) eL.1
theorem uO{P:Program}{o:Oper}{σ:St}{x:Operand}{args:Array Operand}{sT:Array TypeId}{f:FuncId}{fs cs eK:List ae}{r:ae}{O':List ay}
  (ho:o.op=.call ⟨.value x,args,sT⟩) (hd:∀d,o.dst=some d->d<σ.n) (hx:σ.ev x=some (.fn (.func f) fs cs)) (ha:σ.Bx args.toList=some eK)
  (eL:aY P f σ.objs (fs++eK++cs) fun r' O1=>r'=r∧O1=O'):Cert P o σ r (.write O') :=
 sj (.write O') ho hd hx ha (args':=fs++eK++cs) (fun _ _ h=>h) (fun O hO=>by
  have:O=σ.objs:=hO.resolve_left (by simp);subst this;exact eL) eL.1
theorem B6{P:Program}{o:Oper}{σ:St}{x:Operand}{args:Array Operand}{sT:Array TypeId}{f:FuncId}{fs cs eK:List ae}{r:ae}
  (ho:o.op=.call ⟨.value x,args,sT⟩) (hd:∀d,o.dst=some d->d<σ.n) (hx:σ.ev x=some (.fn (.func f) fs cs)) (ha:σ.Bx args.toList=some eK)
  (eL:aY P f σ.objs (fs++eK++cs) fun r' O1=>r'=r∧O1=σ.objs):Cert P o σ r .read :=
 sj .read ho hd hx ha (args':=fs++eK++cs) (fun _ _ h=>h) (fun O hO=>by
  have:O=σ.objs:=hO.resolve_left (by simp);subst this;exact eL) eL.1
theorem qG{g:G}{id:Nat}{o:ay}{l':Option Loc}(ho:g.objs[id]?=some o)(he:g.env[id]?=some l')(hp:¬o.aP)(hl:o.live):oe g id o l' .gone g.w where
 obj:=ho
 os:=rfl
 tape:=rfl
 output:=rfl
 size:=Nat.le_refl _
 block:=fun _ _ _=>rfl
 cell:=fun b off x hx _=>hx
 place:=fun _ _ h=>h.elim
 spare:=fun m h=>by subst h;exact absurd trivial hp
 plain:=fun _=>⟨by simp[ay.aP],he⟩
 gone:=fun h=>by subst h;exact hl
def G.freeze(g:G)(id:Nat)(l':Option Loc):G:=g.bO id l' .gone g.w
def da(O:List ay)(id:Nat)(x y:ae):Prop :=
 ∀(g:G) (u:Value) (l':Option Loc),Good g->g.objs=O->g.env[id]?=some l'->Le g (g.freeze id l')->RV g x u->RV (g.freeze id l') y u
theorem da.refl{O:List ay}{id:Nat}(x:ae):da O id x x:=fun _ _ _ _ _ _ hle h=>h.mono hle
theorem qi{g:G}(hg:Good g){id:Nat}{l:Loc}{o:ay}(he:g.env[id]?=some (some l))(ho:g.objs[id]?=some o)(hl:o.live)(off:Nat):¬lD (g.freeze id (some l)) l.block off:=by
 have aN:=ag ho;rintro(hf|⟨oP,l',o',h1,h2,h3,h4,_⟩)
 ·exact hg.fU id l o he ho hl off hf
 simp only[G.freeze,G.bO]at h1 h2;by_cases e:oP=id
 ·subst e;rw[List.getElem?_set_self (by omega)]at h2;simp only[Option.some.injEq]at h2;subst h2;exact h3
 rw[List.getElem?_set_ne (Ne.symm e)]at h1 h2;exact e (hg.apart oP id l' l o' o h1 h2 h3 he ho hl h4)
theorem da.mp{O:List ay}{id off:Nat}{cs ds:List ae}(jE:O[id]?=some (.cells cs))(hd:(cs.drop off).map ae.bp=ds):da O id (.mp id off) (.ip none ds):=fun g u l' hg hO he hle h=>by
 obtain⟨l,o1,h1,h2,_,eu⟩:=h.ny;subst eu;rw[he]at h1;simp only[Option.some.injEq]at h1;subst h1;have kM:g.objs[id]?=some (.cells cs):=by rw[hO];exact jE
 obtain⟨arr,t',kp,fc,hlen,iq,ry,_⟩:=hg.row kM he;subst hd;refine .ip (.inl rfl) (fun c hc=>by
  obtain⟨c',h1,h2⟩:=List.mem_map.1 hc;subst h2;exact ae.gb (ry c' (List.mem_of_mem_drop h1))) (fun j=>arr.getD (off+j) undef) (fun j c hj=>?_) (fun j c hj=>?_)
 ·rw[List.getElem?_map,Option.map_eq_some_iff]at hj;obtain⟨c',hj,_⟩:=hj;rw[List.getElem?_drop]at hj;have aN:=ag hj;refine⟨?_,qi hg he kM trivial _⟩;show g.w.cell? _=_;rw[cell_of_row fc];simp[Array.getD_eq_getD_getElem?,show off+j<arr.size by omega]
 rw[List.getElem?_map,Option.map_eq_some_iff]at hj;obtain⟨c',hj,e⟩:=hj;subst e;rw[List.getElem?_drop]at hj;have aN:=ag hj;exact((iq _ c' _ hj (by simp[Array.getD_eq_getD_getElem?,show off+j<arr.size by omega])).mono hle).bp
theorem da.ms{O:List ay}{id off len cap sz:Nat}{cs xs:List ae}(jE:O[id]?=some (.cells cs))(dk:∀x∈xs,x.cells.length=sz)(hlen:xs.length=len)(hd:((cs.drop off).take (len*sz)).map ae.bp=ar xs):da O id (.ms id off len cap) (.aC sz xs .sh):=fun g u l' hg hO he hle h=>by
 obtain⟨l,o1,h1,h2,_,zJ,cZ,iK,di,eu⟩:=h.qw;subst eu;rw[he]at h1;simp only[Option.some.injEq]at h1;subst h1;have kM:g.objs[id]?=some (.cells cs):=by rw[hO];exact jE
 obtain⟨arr,t',kp,fc,mT,iq,ry,_⟩:=hg.row kM he;subst hlen;have key:∀(j:Nat) (c:ae),(ar xs)[j]?=some c->∃c',cs[off+j]?=some c'∧c'.bp=c:=fun j c hj=>by
  rw[<-hd,List.getElem?_map,Option.map_eq_some_iff]at hj;obtain⟨c',hj,e⟩:=hj;have:=o4 hj;rw[List.getElem?_drop]at this;exact⟨c',this,e⟩
 refine .aC dk (fun x hx c hc=>?_) (Nat.le_trans zJ di) cZ (fun _=>rfl) (fun j=>arr.getD (off+j) undef) (fun j c hj=>?_) (fun j c hj=>?_) trivial
 ·have eN:c∈ar xs:=by
   simp only[ar,List.mem_flatMap];exact⟨x,hx,hc⟩
  obtain⟨j,hj⟩:=List.getElem?_of_mem eN;obtain⟨c',lT,e⟩:=key j c hj;subst e;exact ae.gb (ry c' (List.mem_of_getElem? lT))
 ·obtain⟨c',lT,e⟩:=key j c hj;have aN:=ag lT;refine⟨?_,qi hg he kM trivial _⟩;show g.w.cell? _=_;simp only;rw[cell_of_row fc];simp[Array.getD_eq_getD_getElem?,show off+j<arr.size by omega]
 obtain⟨c',lT,e⟩:=key j c hj;have aN:=ag lT;subst e;exact((iq _ c' _ lT (by simp[Array.getD_eq_getD_getElem?,show off+j<arr.size by omega])).mono hle).bp
theorem da.mm{O:List ay}{id:Nat}{kt:KT}{es:List (Value×ae)}(jE:O[id]?=some (.map kt es)):da O id (.mm id) (.im kt es):=fun g u l' hg hO he hle h=>by
 obtain⟨l,o1,h1,h2,_,eu⟩:=h.CS;subst eu;rw[he]at h1;simp only[Option.some.injEq]at h1;subst h1;have kM:g.objs[id]?=some (.map kt es):=by rw[hO];exact jE
 obtain⟨l2,arr,clk,e1,e2,e3,e4,e5,e6⟩:=hg.map id kt es kM;rw[he]at e1;simp only[Option.some.injEq]at e1;subst e1;exact .im (r:=l.block) (clk:=clk) (arr:=arr) e3 (fun off=>qi hg he kM trivial off) e4 (fun i e kx a b=>(e6 i e kx a b).1) e5 (fun i e kx a b=>(e6 i e kx a b).2.2.mono hle)
theorem ux{P:Program}{kb:Nat}{c:Code}{Q:dw->St->Prop}{n:Nat}{bC:List (Nat×ae)}{O:List ay}(id:Nat){o:ay}(jE:O[id]?=some o)(hp:¬o.aP)(lU:o.live)(cV:List (Nat×ae))
  (hs:∀s y,look cV s=some y->∃x,look bC s=some x∧da O id x y) (h:cy P kb c Q ⟨n,cV,O.set id .gone⟩):cy P kb c Q ⟨n,bC,O⟩ :=
 h.weaken fun base a g hb hr=>by
  have hO:g.objs=O:=hr.objs;have kM:g.objs[id]?=some o:=by rw[hO];exact jE
  have aN:=kK hr.good kM;have he:g.env[id]?=some g.env[id]:=List.getElem?_eq_getElem aN;have ht:=qG kM he hp lU;have hle:=Le.bO hr.good ht;refine⟨g.freeze id g.env[id],rfl,{ le:=hr.le.trans hle,good:=Good.bO hr.good ht trivial (fun _ _ h=>h.elim),objs:=by simp[G.freeze,G.bO,hO],size:=hr.size,defers:=hr.defers,slot:=fun s y hy=>?_ }⟩;obtain⟨x,h1,h2⟩:=hs s y hy;obtain⟨u,h3,h4⟩:=hr.slot s x h1;exact⟨u,h3,h2 g u _ hr.good hO he hle h4⟩
theorem aR{P:Program}{kb:Nat}{c:Code}{Q:dw->St->Prop}{n:Nat}{bC:List (Nat×ae)}{O:List ay}(s id:Nat){o:ay}{x:ae}(y:ae)(jE:O[id]?=some o)(hp:¬o.aP)(lU:o.live)(hx:look bC s=some x)(hf:da O id x y)
  (h:cy P kb c Q ⟨n,cq s y bC,O.set id .gone⟩):cy P kb c Q ⟨n,bC,O⟩ :=
 ux id jE hp lU (cq s y bC) (fun k z hz=>by
  rw[fV]at hz;split at hz
  ·rename_i e;subst e;simp only[Option.some.injEq]at hz;subst hz;exact⟨x,hx,hf⟩
  exact⟨z,hz,.refl z⟩) h
theorem pK{P:Program}{kb:Nat}{c:Code}{Q:dw->St->Prop}{n:Nat}{bC:List (Nat×ae)}{O:List ay}(id:Nat){o:ay}(jE:O[id]?=some o)(hp:¬o.aP)(lU:o.live)(cV:List (Nat×ae))
  (hs:∀s y,look cV s=some y->∃x,look bC s=some x∧da O id x y) (k:Nat) (hk:k≠id) (cs ds:List ae) (jh:O[k]?=some (.cells cs)) (hl:cs.length=ds.length) (en:∀d∈ds,d.scalar)
  (iq:∀(j:Nat) (c d:ae),cs[j]?=some c->ds[j]?=some d->da O id c d) (h:cy P kb c Q ⟨n,cV,(O.set id .gone).set k (.cells ds)⟩):cy P kb c Q ⟨n,bC,O⟩ :=
 h.weaken fun base a g hb hr=>by
  have hO:g.objs=O:=hr.objs;have kM:g.objs[id]?=some o:=by rw[hO];exact jE
  have aN:=kK hr.good kM;have he:g.env[id]?=some g.env[id]:=List.getElem?_eq_getElem aN;have ht:=qG kM he hp lU;have hle:=Le.bO hr.good ht;have fg:=Good.bO hr.good ht trivial (fun _ _ h=>h.elim);obtain⟨l,arr,t,e1,e2,e3,e4,e5,e6⟩:=hr.good.cells k cs (by rw[hO];exact jh);have Mh:(g.freeze id g.env[id]).objs[k]?=some (.cells cs):=by
   simp only[G.freeze,G.bO];rw[List.getElem?_set_ne (Ne.symm hk),hO];exact jh
  have RS:(g.freeze id g.env[id]).env[k]?=some (some l):=by
   simp only[G.freeze,G.bO];rw[List.getElem?_set_ne (Ne.symm hk)];exact e1
  have H6:oe (g.freeze id g.env[id]) k (.cells cs) (some l) (.cells ds) g.w:={
   obj:=Mh
   os:=rfl
   tape:=rfl
   output:=rfl
   size:=Nat.le_refl _
   block:=fun _ _ _=>rfl
   cell:=fun b off x hx _=>hx
   place:=fun l1 h1 _=>by
    simp only[Option.some.injEq]at h1;subst h1;exact .inr ⟨l,RS,trivial,rfl,Nat.le_refl _⟩
   spare:=fun m h=>by cases h
   plain:=fun _=>⟨by simp[ay.aP],RS⟩
   gone:=by simp }
  have AH:=Le.bO fg H6;have CB:=Good.bO fg H6 ⟨l,arr,t,rfl,e2,e3,by omega,fun j d u hd hu=>by
   have aN:=ag hd;have hc:cs[j]?=some cs[j]:=List.getElem?_eq_getElem (by omega);exact(iq j _ d hc hd g u _ hr.good hO he hle (e5 j _ u hc hu)).mono AH,en,e6.2⟩ (fun l1 h1 _=>by
    simp only[Option.some.injEq]at h1;subst h1;exact bj e3)
  refine⟨(g.freeze id g.env[id]).bO k (some l) (.cells ds) g.w,rfl,{ le:=(hr.le.trans hle).trans AH,good:=CB,objs:=by simp[G.freeze,G.bO,hO],size:=hr.size,defers:=hr.defers,slot:=fun s y hy=>?_ }⟩;obtain⟨x,h1,h2⟩:=hs s y hy;obtain⟨u,h3,h4⟩:=hr.slot s x h1;exact⟨u,h3,(h2 g u _ hr.good hO he hle h4).mono AH⟩
theorem jk{P:Program}{kb:Nat}{c:Code}{Q:dw->St->Prop}{n:Nat}{bC:List (Nat×ae)}{O:List ay}(s:Nat){sz:Nat}{xs:List ae}{o:od}(hs:look bC s=some (.aC sz xs o))
  (h1:xs=[]->cy P kb c Q ⟨n,cq s (.v (.slice none 0 0)) bC,O⟩) (h2:cy P kb c Q ⟨n,cq s (.aC sz xs .nn) bC,O⟩):cy P kb c Q ⟨n,bC,O⟩:=by
 intro base a g hb hr;obtain⟨u,e1,e2⟩:=hr.slot s _ hs;have key:∀y,RV g y u->Rel base ⟨n,cq s y bC,O⟩ a g:=fun y hy =>
  {le:=hr.le,good:=hr.good,objs:=hr.objs,size:=hr.size,defers:=hr.defers,slot:=fun k x hx=>by
    simp only[St.get,fV]at hx;split at hx
    ·rename_i e;subst e;simp only[Option.some.injEq]at hx;subst hx;exact⟨u,e1,hy⟩
    exact hr.slot k x hx }
 cases e2 with
 | nil ho hn=>exact h1 rfl base a g hb (key _ (.v trivial))
 | aC dk en di cZ hs f hm hr ho=>exact h2 base a g hb (key _ (.aC dk en di cZ hs f hm hr trivial))
theorem nD{P:Program}(w:World){t e:TypeId}(a:Addr)(n c:Nat)(ht:P.underlying t=some (.slice e)) :
  (binOp .neq t (.slice (some a) n c) (.slice none 0 0)).run P w=.ok (.bool true) w:=by
 have h:∀d:Nat,(Op.equalIn (d+1) t (.slice (some a) n c) (.slice none 0 0)).run P w=.ok false w:=fun d=>by
  simp[Op.equalIn,run_underlying ht]
 simp only[binOp];simp[Op.equal,Op.maxDepth,h 9999]
theorem n4{P:Program}(w:World){t e:TypeId}(n c:Nat)(ht:P.underlying t=some (.slice e)) :
  (binOp .neq t (.slice none n c) (.slice none 0 0)).run P w=.ok (.bool false) w:=by
 have h:∀d:Nat,(Op.equalIn (d+1) t (.slice none n c) (.slice none 0 0)).run P w=.ok true w:=fun d=>by
  simp[Op.equalIn,run_underlying ht]
 simp only[binOp];simp[Op.equal,Op.maxDepth,h 9999]
theorem zd{P:Program}(w:World){op:BinOp}{t e:TypeId}{u:Value}{b r:Bool}(ht:P.underlying t=some (.slice e))(hu:(∃n c,u=.slice none n c∧b=true)∨(∃a n c,u=.slice (some a) n c∧b=false))
  (hr:(op=.eql∧r=b)∨(op=.neq∧r=!b)):(binOp op t u (.slice none 0 0)).run P w=.ok (.bool r) w:=by
 rcases hu with⟨n,c,e1,e2⟩|⟨a,n,c,e1,e2⟩<;>rcases hr with⟨e3,e4⟩|⟨e3,e4⟩<;>subst e1<;>subst e2<;>subst e3<;>subst e4
 ·exact Go.Lib.run_eql_slice_nil_nil w n c ht
 ·exact n4 w n c ht
 ·exact Go.Lib.run_eql_slice_some_nil w a n c ht
 exact nD w a n c ht
theorem z8{P:Program}{aS:fM}(hT:cG P aS){o:Oper}{σ:St}{t t' e:TypeId}{x:Operand}{ti:cQ}{y:ae}{b r:Bool}{op:BinOp}
  (ho:o.op=.binOp op t x (.const (.slice none 0 0)) t') (hd:∀d,o.dst=some d->d<σ.n) (ht:aS t=some ti) (a7:ti.desc=.slice e) (hx:σ.ev x=some y)
  (hy:(y=.v (.slice none 0 0)∧b=true)∨(∃sz xs,y=.aC sz xs .nn∧b=false)∨(∃id off len cap,y=.ms id off len cap∧b=false)) (hr:(op=.eql∧r=b)∨(op=.neq∧r=!b)):Cert P o σ (.v (.bool r)) .pure :=
 Cert.bZ .pure (.inl rfl) hd fun a g _ h _=>by
  have hu:=cf hT ht a7;have iU:=h x (by simp[ho,Op.operands]) _ hx;refine⟨.bool r,?_,.v trivial⟩;have wx:(∃n c,a.eval x=.slice none n c∧b=true)∨(∃ad n c,a.eval x=.slice (some ad) n c∧b=false):=by
   rcases hy with⟨e1,e2⟩|⟨sz,xs,e1,e2⟩|⟨id,off,len,cap,e1,e2⟩
   ·subst e1;exact .inl ⟨_,_,iU.cL.1,e2⟩
   ·subst e1;cases hv:a.eval x with
    | slice ad len cap =>
     rw[hv]at iU;cases iU with
     | nil ho hn=>exact absurd rfl hn
     | aC dk en di cZ hs f hm hr ho=>exact .inr ⟨_,_,_,rfl,e2⟩
    | _=>rw[hv]at iU;cases iU
   subst e1;obtain⟨l,o1,_,_,_,_,_,iK,_,eu⟩:=iU.qw;exact .inr ⟨_,_,_,eu,e2⟩
  have bS:=zd (P:=P) g.w hu wx hr;have Ml:∃ad n c,a.eval x=.slice ad n c:=by
   rcases wx with⟨_,_,e,_⟩|⟨_,_,_,e,_⟩
   ·exact⟨_,_,_,e⟩
   exact⟨_,_,_,e⟩
  obtain⟨ad,n,c,Ml⟩:=Ml;have hg:=c8 (P:=P) op t x (.const (.slice none 0 0)) (.slice ad n c) (.slice none 0 0) g.w (by simp) (by simp);rw[Ml]at bS;have hc:a.eval (.const (.slice none 0 0))=.slice none 0 0:=rfl;simp[execOp,ho,Ml,hc,hg,bS]
theorem B4{P:Program}{aS:fM}(hT:cG P aS){o:Oper}{σ:St}{t e:TypeId}{x:Operand}{ti:cQ}{sz:Nat}{xs:List ae}
  (ho:o.op=.call ⟨.builtin .cap,#[x],#[t]⟩) (hd:∀d,o.dst=some d->d<σ.n) (ht:aS t=some ti) (a7:ti.desc=.slice e) (hx:σ.ev x=some (.aC sz xs .ex)):Cert P o σ (.v (.int .i64 xs.length)) .pure :=
 Cert.bZ .pure (.inl rfl) hd fun a g _ h _=>by
  have hu:=cf hT ht a7;have iU:=h x (by simp[ho,Op.operands,Call.operands]) _ hx;have cZ:=iU.D0;have key:∃ad,a.eval x=.slice ad xs.length xs.length:=by
   rcases iU.fR with⟨q1,q2⟩|⟨ad,cap,_,q1,_,_,_,_,_,_,_,q2⟩
   ·subst q2;exact⟨_,q1⟩
   have q3:cap=xs.length:=q2;subst q3;exact⟨_,q1⟩
  obtain⟨ad,q1⟩:=key;refine⟨.int .i64 xs.length,?_,.v ?_⟩
  ·rw[c7 ho];simp[builtin,Builtin.cap_,q1,run_underlying hu,goInt]
  simp[mi,IntKind.min,IntKind.max,IntKind.bits,IntKind.signed];omega
theorem pM{P:Program}{o:Oper}{σ:St}{x:Operand}{y:ae}(ho:o.op=.nilCheck x)(hd:∀d,o.dst=some d->d<σ.n)(hx:σ.ev x=some y)
  (hy:(∃id off,y=.mp id off)∨∃oa cs,y=.ip oa cs):Cert P o σ y .pure :=
 Cert.bZ .pure (.inl rfl) hd fun a g _ h _=>by
  have iU:=h x (by simp[ho,Op.operands]) _ hx;have key:∃ad,a.eval x=.pointer (some ad):=by
   rcases hy with⟨id,off,e⟩|⟨oa,cs,e⟩
   ·subst e;obtain⟨l,o1,_,_,_,eu⟩:=iU.ny;exact⟨_,eu⟩
   subst e;obtain⟨b,off,f,eu,_⟩:=iU.qp;exact⟨_,eu⟩
  obtain⟨ad,e⟩:=key;exact⟨a.eval x,by simp[execOp,ho,e],iU⟩
theorem tE{P:Program}{aS:fM}(hT:cG P aS){o:Oper}{σ:St}{t e:TypeId}{x:Operand}{ti te:cQ}{sz:Nat}{xs:List ae}{ow:od}{lo hi:Option Operand}
  (ho:o.op=.slice t x lo hi none) (hd:∀d,o.dst=some d->d<σ.n) (ht:aS t=some ti) (a7:ti.desc=.slice e) (he:aS e=some te) (hx:σ.ev x=some (.aC sz xs ow))
  (kp:ov σ lo 0 0) (pG:ov σ hi xs.length xs.length):Cert P o σ (.aC sz xs ow) .pure :=
 Cert.bZ .pure (.inl rfl) hd fun a g _ hh _=>by
  have hu:=cf hT ht a7;have iU:=hh x (by cases lo<;>cases hi<;>simp[ho,Op.operands]) _ hx;have hl:(lo=none)∨∃q k,lo=some q∧a.eval q=.int k (0:Int):=by
   rcases kp with q|⟨q,k,e1,e2⟩
   ·exact .inl q.1
   exact .inr ⟨q,k,e1,(hh q (by subst e1;cases hi<;>simp[ho,Op.operands]) _ e2).cL.1⟩
  have lS:(hi=none)∨∃q k,hi=some q∧a.eval q=.int k (xs.length:Int):=by
   rcases pG with q|⟨q,k,e1,e2⟩
   ·exact .inl q.1
   exact .inr ⟨q,k,e1,(hh q (by subst e1;cases lo<;>simp[ho,Op.operands]) _ e2).cL.1⟩
  have dj:execOp a.eval o=(do pure (.value (<-Instr.sliceAt t (a.eval x) (lo.map a.eval) (hi.map a.eval) none))):=by
   simp[execOp,ho]
  clear kp pG ho;have bounds:∀cap:Nat,xs.length<=cap->(Instr.sliceBounds true xs.length cap (lo.map a.eval) (hi.map a.eval) none).run P g.w=.ok (0,xs.length,cap) g.w:=by
   intro cap di;rcases hl with e1|⟨p,k,e1,hk⟩
   ·rcases lS with e3|⟨q,k',e3,mU⟩
    ·subst e1 e3;simp[Instr.sliceBounds]
    subst e1 e3;have:=bH (P:=P) k' xs.length cap .sliceAcap g.w (by omega) (by omega);simp[Instr.sliceBounds,mU,this]
   rcases lS with e3|⟨q,k',e3,mU⟩
   ·subst e1 e3;have:=bH (P:=P) k 0 xs.length .sliceB g.w (by omega) (by omega);simp[Instr.sliceBounds,hk,this]
   subst e1 e3;have e1:=bH (P:=P) k' xs.length cap .sliceAcap g.w (by omega) (by omega);have e2:=bH (P:=P) k 0 xs.length .sliceB g.w (by omega) (by omega);simp[Instr.sliceBounds,hk,mU,e1,e2]
  have mJ:=(hT e te he).sizeOf g.w;refine⟨a.eval x,?_,iU⟩;rw[dj];rcases iU.fR with⟨q1,q2⟩|⟨ad,cap,f,q1,oN,en,di,cZ,hs,hm,hr,_⟩
  ·subst q2;have b:=bounds 0 (by simp);simp only[List.length_nil]at b;simp[Instr.sliceAt,run_underlying hu,Instr.slice,q1,mJ,b]
  have b:=bounds cap di;by_cases RB:cap=0
  ·subst RB;simp[Instr.sliceAt,run_underlying hu,Instr.slice,q1,mJ,b,Addr.add]
  simp[Instr.sliceAt,run_underlying hu,Instr.slice,q1,mJ,b,RB,Addr.add]
theorem wJ{P:Program}{aS:fM}(hT:cG P aS){o:Oper}{σ:St}{t e:TypeId}{x:Operand}{ti te:cQ}{id off len cap:Nat}{lo hi:Option Operand}{l h:Nat}
  (ho:o.op=.slice t x lo hi none) (hd:∀d,o.dst=some d->d<σ.n) (ht:aS t=some ti) (a7:ti.desc=.slice e) (he:aS e=some te) (hx:σ.ev x=some (.ms id off len cap))
  (kp:ov σ lo 0 l) (pG:ov σ hi len h) (h1:l<=h) (h2:h<=cap) (h3:l<cap) (QH:h<=2 ^ 62):Cert P o σ (.ms id (off+l*te.size) (h-l) (cap-l)) .pure :=
 Cert.bZ .pure (.inl rfl) hd fun a g _ hh _=>by
  have hu:=cf hT ht a7;have iU:=hh x (by cases lo<;>cases hi<;>simp[ho,Op.operands]) _ hx;have hl:(lo=none∧l=0)∨∃q k,lo=some q∧a.eval q=.int k (l:Int):=by
   rcases kp with q|⟨q,k,e1,e2⟩
   ·exact .inl q
   exact .inr ⟨q,k,e1,(hh q (by subst e1;cases hi<;>simp[ho,Op.operands]) _ e2).cL.1⟩
  have lS:(hi=none∧h=len)∨∃q k,hi=some q∧a.eval q=.int k (h:Int):=by
   rcases pG with q|⟨q,k,e1,e2⟩
   ·exact .inl q
   exact .inr ⟨q,k,e1,(hh q (by subst e1;cases lo<;>simp[ho,Op.operands]) _ e2).cL.1⟩
  have dj:execOp a.eval o=(do pure (.value (<-Instr.sliceAt t (a.eval x) (lo.map a.eval) (hi.map a.eval) none))):=by
   simp[execOp,ho]
  clear kp pG ho;obtain⟨lc,o1,q1,q2,q3,zJ,cZ,iK,di,eu⟩:=iU.qw;have bounds:(Instr.sliceBounds true len iK (lo.map a.eval) (hi.map a.eval) none).run P g.w=.ok (l,h,iK) g.w:=by
   rcases hl with⟨e1,e2⟩|⟨p,k,e1,hk⟩
   ·rcases lS with⟨e3,e4⟩|⟨q,k',e3,mU⟩
    ·subst e1 e2 e3 e4;simp[Instr.sliceBounds]
    subst e1 e2 e3;have:=bH (P:=P) k' h iK .sliceAcap g.w (by omega) (by omega);simp[Instr.sliceBounds,mU,this]
   rcases lS with⟨e3,e4⟩|⟨q,k',e3,mU⟩
   ·subst e1 e3 e4;have:=bH (P:=P) k l h .sliceB g.w (by omega) (by omega);simp[Instr.sliceBounds,hk,this]
   subst e1 e3;have e1:=bH (P:=P) k' h iK .sliceAcap g.w (by omega) (by omega);have e2:=bH (P:=P) k l h .sliceB g.w (by omega) (by omega);simp[Instr.sliceBounds,hk,mU,e1,e2]
  have mJ:=(hT e te he).sizeOf g.w;refine⟨.slice (some ((⟨lc.block,off,none⟩:Addr).add (l*te.size))) (h-l) (iK-l),?_,?_⟩
  ·rw[dj];simp[Instr.sliceAt,run_underlying hu,Instr.slice,eu,bounds,mJ,show iK≠l by omega]
  rw[addr_add];exact .ms q1 q2 q3 (by omega) (by omega) (by omega)
theorem uT{P:Program}{aS:fM}(hT:cG P aS){o:Oper}{σ:St}{t e:TypeId}{x:Operand}{ti te:cQ}{id sz len:Nat}{lo hi:Option Operand} 
  (ho:o.op=.slice t x lo hi none) (hd:∀d,o.dst=some d->d<σ.n) (ht:aS t=some ti) (a7:ti.desc=.slice e) (he:aS e=some te) (hx:σ.ev x=some (.raw sz len id))
  (kp:ov σ lo 0 0) (pG:ov σ hi len 0) (h3:0<len):Cert P o σ (.aC sz [] (.tok id)) .pure :=
 Cert.bZ .pure (.inl rfl) hd fun a g _ hh _=>by
  have hu:=cf hT ht a7;have iU:=hh x (by cases lo<;>cases hi<;>simp[ho,Op.operands]) _ hx;have hl:(lo=none∧(0:Nat)=0)∨∃q k,lo=some q∧a.eval q=.int k ((0:Nat):Int):=by
   rcases kp with q|⟨q,k,e1,e2⟩
   ·exact .inl q
   exact .inr ⟨q,k,e1,(hh q (by subst e1;cases hi<;>simp[ho,Op.operands]) _ e2).cL.1⟩
  have lS:(hi=none∧(0:Nat)=len)∨∃q k,hi=some q∧a.eval q=.int k ((0:Nat):Int):=by
   rcases pG with q|⟨q,k,e1,e2⟩
   ·exact .inl q
   exact .inr ⟨q,k,e1,(hh q (by subst e1;cases lo<;>simp[ho,Op.operands]) _ e2).cL.1⟩
  have dj:execOp a.eval o=(do pure (.value (<-Instr.sliceAt t (a.eval x) (lo.map a.eval) (hi.map a.eval) none))):=by
   simp[execOp,ho]
  clear kp pG ho;obtain⟨ad,iK,eu,di,Ur⟩:=iU.Mz;have bounds:(Instr.sliceBounds true len iK (lo.map a.eval) (hi.map a.eval) none).run P g.w=.ok (0,0,iK) g.w:=by
   rcases hl with⟨e1,e2⟩|⟨p,k,e1,hk⟩
   ·rcases lS with⟨e3,e4⟩|⟨q,k',e3,mU⟩
    ·omega
    subst e1 e3;have:=bH (P:=P) k' 0 iK .sliceAcap g.w (by omega) (by omega);simp[Instr.sliceBounds,mU,this]
   rcases lS with⟨e3,e4⟩|⟨q,k',e3,mU⟩
   ·omega
   subst e1 e3;have e1:=bH (P:=P) k' 0 iK .sliceAcap g.w (by omega) (by omega);have e2:=bH (P:=P) k 0 0 .sliceB g.w (by omega) (by omega);simp[Instr.sliceBounds,hk,mU,e1,e2]
  have mJ:=(hT e te he).sizeOf g.w;refine⟨.slice (some (ad.add (0*te.size))) (0-0) (iK-0),?_,?_⟩
  ·rw[dj];simp[Instr.sliceAt,run_underlying hu,Instr.slice,eu,bounds,mJ,show iK≠0 by omega]
  rw[Nat.zero_mul,show ad.add 0=ad by cases ad;rfl];exact .aC (xs:=[]) (by simp) (by simp) (Nat.zero_le _) (Nat.zero_le _) (by simp) (fun _=>undef) (by simp[ar]) (by simp[ar]) Ur
theorem tx{P:Program}{aS:fM}(hT:cG P aS){o:Oper}{σ:St}{t e:TypeId}{x y:Operand}{ti te:cQ}{sz:Nat}{xs ys:List ae}{ow:od}
  (ho:o.op=.call ⟨.builtin .append,#[x,y],#[t,t]⟩) (hd:∀d,o.dst=some d->d<σ.n) (ht:aS t=some ti) (a7:ti.desc=.slice e) (he:aS e=some te) (dk:te.size=sz) (hx:σ.ev x=some (.aC sz xs .ex)) (hy:σ.ev y=some (.aC sz ys ow))
  (hn:ys.length≠0) (hlen:xs.length+ys.length<=2 ^ 62) (hb:(xs.length+ys.length)*te.bytes<=2 ^ 47) :
  Cert P o σ (.ms σ.objs.length 0 (xs.length+ys.length) (xs.length+ys.length)) (.write (σ.objs++[.cells (ar (xs++ys.map ae.share))])) :=
 Cert.jI hd fun base ji a g cu h kY=>by
  have hO:g.objs=σ.objs:=kY.resolve_left (by simp);have hg:=cu.good;have hu:=cf hT ht a7;subst dk;have iU:=h x (by simp[ho,Op.operands,Call.operands]) _ hx;have DU:=h y (by simp[ho,Op.operands,Call.operands]) _ hy;obtain⟨Bw,mf,iC,ex,yP,tY,DR,H8,Mr,DS⟩:=iU.gC (P:=P);obtain⟨Q9,GY,news,ey,AN,AO,AP,GF,DV,tZ⟩:=DU.gC (P:=P);obtain⟨⟨i,z,h1,h2,h3,h4,h5,h6,h7,h8,h9⟩,_⟩:=hT e te he;have ru:mf=xs.length:=by
   rcases iU.fR with⟨q1,q2⟩|⟨ad,cap,f,q1,_,_,_,_,_,_,_,q2⟩
   ·rw[ex]at q1;cases q2;simp at q1;simp[q1]
   rw[ex]at q1;simp only[Value.slice.injEq]at q1;rw[q1.2.2];exact q2
  subst ru;have dj:=c7 (P:=P) ho a g.w;simp only[builtin,List.map_toArray,List.map_cons,List.map_nil]at dj;have bS:=ic (P:=P) g.w t o.type e i z hu h1 h4 Bw xs.length xs.length ys.length (a.eval y) iC news AN (by rw[h2];exact AO g.w.drew rfl) (by rw[h2,<-ex];exact tY g.w.drew rfl) (by omega) hlen (by rw[h3];exact hb);rw[<-ex]at bS;obtain⟨cap,di⟩:∃cap,cap=grownCap g.w (xs.length+ys.length) xs.length e:=⟨_,rfl⟩
  obtain⟨rest,gA⟩:∃rest,rest=Builtin.zeroCells z.cells (cap-(xs.length+ys.length)):=⟨_,rfl⟩
  have ql:=grownCap_ge g.w (xs.length+ys.length) xs.length e;rw[<-di]at bS ql;rw[<-gA]at bS;obtain⟨arr,iL⟩:∃arr,arr=iC.toArray++news.toArray++rest:=⟨_,rfl⟩
  rw[<-iL]at bS;have pn:=hg.heap (w':=g.w.drew) rfl rfl rfl rfl;have oK:=Le.heap (g:=g) (w':=g.w.drew) rfl rfl rfl rfl;obtain⟨g1,nj⟩:∃g1:G,g1=⟨g.w.drew,g.fr,g.env,g.objs⟩:=⟨_,rfl⟩
  rw[<-nj]at pn oK;have qo:g1.w=g.w.drew:=by rw[nj]
  have ss:g1.objs=σ.objs:=by rw[nj];exact hO
  have kL:=DR.append AP.jX;rw[<-cT]at kL;have lB:(ar (xs++ys.map ae.share)).length=(xs.length+ys.length)*te.size:=by
   rw[bI (sz:=te.size) (fun x hx=>by
    rcases List.mem_append.1 hx with q|q
    ·exact H8 x q
    exact eg GF x q)]
   simp
  have wO:(ar (xs++ys.map ae.share)).length<=arr.size:=by
   rw[lB,iL];simp only[Array.size_append,List.size_toArray,DS,tZ,<-Nat.add_mul];omega
  have hle:=oK.trans (Le.alloc pn (.cells arr e) 0 (.cells (ar (xs++ys.map ae.share))));have fk:Fits (g1.alloc (.cells arr e) 0 (.cells (ar (xs++ys.map ae.share)))) (.cells arr e) (.cells (ar (xs++ys.map ae.share))):=by
   refine⟨arr,e,rfl,wO,fun j c u hj hu=>?_,fun c hc=>?_⟩
   ·have aN:=ag hj;rw[lB]at aN;rw[iL]at hu;have yN:=fb hu (by simp only[List.size_toArray,DS,tZ,<-Nat.add_mul];exact aN);exact(kL.2 j c u hj (by simpa using yN)).mono hle
   rw[cT]at hc;rcases List.mem_append.1 hc with q|q
   ·exact Mr c q
   exact dO DV c q
  have fg:=Good.alloc pn (.cells arr e) 0 (.cells (ar (xs++ys.map ae.share))) (.inr rfl) fk;refine⟨.slice (some ⟨g.w.heap.size,0,none⟩) (xs.length+ys.length) cap,_,.inl ?_,hle,fg,?_,?_⟩
  ·rw[dj];simp[bS,G.alloc,qo]
  ·simp[G.alloc,ss,Mode.post]
  rw[<-ss];have e1:(g.w.heap.size)=g1.w.heap.size:=by rw[qo];rfl
  rw[e1];exact .ms (l:=⟨g1.w.heap.size,0,_⟩) (j5 pn) fY (by simp[ay.aP]) (Nat.le_refl _) ql hlen
theorem nR{P:Program}(w:World)(t t' ty e:TypeId)(i:TypeInfo)(z:Value)(ht:P.underlying t=some (.slice e))(La:P.underlying t'=some (.int .i64))(hi:P.info? e=some i)(hz:i.zero=some z)(s:Option Addr)(n:Nat)
  (hs:(Builtin.firstCells i.size 0 (.slice s 0 0)).run P w.drew=.ok #[] w.drew) (hn:0<n) (Wc:n<=2 ^ 62) (iA:n*i.bytes<=2 ^ 47) (dk:0<i.size) :
  (Builtin.append_ #[t,t'] ty #[.slice s 0 0,.int .i64 n]).run P w =
   .ok (.slice (some ⟨w.heap.size,0,none⟩) n (grownCap w n 0 e)) (w.drew.alloc (.cells (Builtin.zeroCells z.cells n++Builtin.zeroCells z.cells (grownCap w n 0 e-n)) e)):=by
 have hw:IntKind.i64.wrap (n:Int)=n:=pD .i64 n (by simp[IntKind.min,IntKind.bits,IntKind.signed]<;>omega) (by simp[IntKind.max,IntKind.bits,IntKind.signed]<;>omega);have h0:¬((n:Int)<0):=by omega
 have Vi:¬((2:Int) ^ 48<(n:Int)*(i.bytes:Int)):=by
  rw[<-Int.natCast_mul];omega
 have X0:¬(n<=0):=by omega
 have cA:¬(n*i.size=0):=by
  have:=Nat.mul_pos hn dk;omega
 have h1:¬(9223372036854775807<(n:Int)):=by omega
 have di:Builtin.nextslicecap n 0=n:=by
  unfold Builtin.nextslicecap;rw[if_pos (by omega)]
 have ha:∀w:World,(asInt (.int .i64 (n:Int))).run P w=.ok (n:Int) w:=fun _=>rfl;have TJ:¬(281474976710656<(n:Int)*(i.bytes:Int)):=by
  rw[<-Int.natCast_mul];omega
 have Rk:¬(281474976710656<n*i.bytes):=by omega
 have sr:¬(n=0):=by omega
 simp[Builtin.append_,run_underlying ht,run_underlying La,Go.sizeOf,typeInfo,hi,ha,hw,sr,TJ,Rk,di,Question.forced,hs,Go.zeroValue,hz,Go.newRow,grownCap,h1];rw[if_neg h0,if_neg cA]
theorem si{P:Program}{aS:fM}(hT:cG P aS){o:Oper}{σ:St}{t t' e:TypeId}{x y:Operand}{ti te:cQ}{sz:Nat}{n:Int}
  (ho:o.op=.call ⟨.builtin .append,#[x,y],#[t,t']⟩) (hd:∀d,o.dst=some d->d<σ.n) (ht:aS t=some ti) (a7:ti.desc=.slice e) (he:aS e=some te) (La:P.underlying t'=some (.int .i64)) (hx:σ.ev x=some (.aC sz [] .ex)) (hy:σ.ev y=some (.v (.int .i64 n)))
  (hn:0<n) (hlen:n.toNat<=2 ^ 62) (hb:n.toNat*te.bytes<=2 ^ 47) (dk:0<te.size) :
  Cert P o σ (.ms σ.objs.length 0 n.toNat n.toNat) (.write (σ.objs++[.cells (List.replicate n.toNat te.zero).flatten])) :=
 Cert.jI hd fun base ji a g cu h kY=>by
  have hO:g.objs=σ.objs:=kY.resolve_left (by simp);have hg:=cu.good;have hu:=cf hT ht a7;have iU:=h x (by simp[ho,Op.operands,Call.operands]) _ hx;have ey:=(h y (by simp[ho,Op.operands,Call.operands]) _ hy).cL.1;obtain⟨Bw,mf,iC,ex,yP,tY,DR,H8,Mr,DS⟩:=iU.gC (P:=P);obtain⟨⟨i,z,h1,h2,h3,h4,h5,h6,h7,h8,h9⟩,_⟩:=hT e te he;obtain⟨m,rfl⟩:=Int.eq_ofNat_of_zero_le (show 0<=n by omega);simp only[Int.toNat_natCast]at *;have ru:mf=0:=by
   rcases iU.fR with⟨q1,q2⟩|⟨ad,cap,f,q1,_,_,_,_,_,_,_,q2⟩
   ·rw[ex]at q1;simp at q1;exact q1.2
   rw[ex]at q1;simp only[Value.slice.injEq]at q1;rw[q1.2.2];exact q2
  subst ru;simp only[List.length_nil]at ex;have dj:=c7 (P:=P) ho a g.w;simp only[builtin,List.map_toArray,List.map_cons,List.map_nil]at dj;have bS:=nR (P:=P) g.w t t' o.type e i z hu La h1 h4 Bw m (by cases Bw<;>simp[Builtin.firstCells,loadCells,loadCellsFrom]) (by omega) hlen (by rw[h3];exact hb) (by omega);rw[<-ex]at bS;obtain⟨cap,di⟩:∃cap,cap=grownCap g.w m 0 e:=⟨_,rfl⟩
  have ql:=grownCap_ge g.w m 0 e;rw[<-di]at bS ql;obtain⟨rest,gA⟩:∃rest,rest=Builtin.zeroCells z.cells (cap-m):=⟨_,rfl⟩
  rw[<-gA]at bS;obtain⟨arr,iL⟩:∃arr,arr=Builtin.zeroCells z.cells m++rest:=⟨_,rfl⟩
  rw[<-iL]at bS;have pn:=hg.heap (w':=g.w.drew) rfl rfl rfl rfl;have oK:=Le.heap (g:=g) (w':=g.w.drew) rfl rfl rfl rfl;obtain⟨g1,nj⟩:∃g1:G,g1=⟨g.w.drew,g.fr,g.env,g.objs⟩:=⟨_,rfl⟩
  rw[<-nj]at pn oK;have qo:g1.w=g.w.drew:=by rw[nj]
  have ss:g1.objs=σ.objs:=by rw[nj];exact hO
  have vh:(List.replicate m te.zero).flatten.length=m*te.size:=by simp[h6]
  have iM:∀(j:Nat) (c:ae),(List.replicate m te.zero).flatten[j]?=some c->te.zero[j % te.size]?=some c:=fun j c=>h6 ▸ rR te.zero (by omega) m j c;have hle:=oK.trans (Le.alloc pn (.cells arr e) 0 (.cells (List.replicate m te.zero).flatten));have CI:(Builtin.zeroCells z.cells m).size=m*te.size:=by rw[size_zeroCells,h5,h6]
  have fk:Fits (g1.alloc (.cells arr e) 0 (.cells (List.replicate m te.zero).flatten)) (.cells arr e) (.cells (List.replicate m te.zero).flatten):=by
   refine⟨arr,e,rfl,by rw[vh,iL,Array.size_append,CI];omega,fun j c u hj hu=>?_,fun c hc=>?_⟩
   ·have lT:=iM j c hj;have aN:=ag hj;rw[vh]at aN;rw[iL,Array.getElem?_append,if_pos (by rw[CI];exact aN)]at hu;have iB:j % te.size<z.cells.size:=by rw[h5];exact ag lT
    refine h8 _ _ _ _ lT ?_;simp only[Builtin.zeroCells,Array.getElem?_map,h5,h6,Array.getElem?_range,if_pos aN,Option.map_some,Option.some.injEq]at hu;subst hu;simp[iB]
   rw[List.mem_flatten]at hc;obtain⟨l,hl,hc⟩:=hc;rw[List.mem_replicate]at hl;exact h9 c (hl.2 ▸ hc)
  have fg:=Good.alloc pn (.cells arr e) 0 (.cells (List.replicate m te.zero).flatten) (.inr rfl) fk;refine⟨.slice (some ⟨g.w.heap.size,0,none⟩) m cap,_,.inl ?_,hle,fg,?_,?_⟩
  ·rw[dj,ey];simp[bS,G.alloc,qo]
  ·simp[G.alloc,ss,Mode.post]
  rw[<-ss];have e1:(g.w.heap.size)=g1.w.heap.size:=by rw[qo];rfl
  rw[e1];exact .ms (l:=⟨g1.w.heap.size,0,_⟩) (j5 pn) fY (by simp[ay.aP]) (Nat.le_refl _) (by omega) hlen
theorem tz{P:Program}{aS:fM}(hT:cG P aS){o:Oper}{σ:St}{t t' e:TypeId}{x y:Operand}{ti te:cQ}{sz:Nat}{n:Int}
  (ho:o.op=.call ⟨.builtin .append,#[x,y],#[t,t']⟩) (hd:∀d,o.dst=some d->d<σ.n) (ht:aS t=some ti) (a7:ti.desc=.slice e) (he:aS e=some te) (La:P.underlying t'=some (.int .i64)) (hx:σ.ev x=some (.aC sz [] .ex)) (hy:σ.ev y=some (.v (.int .i64 n)))
  (hn:0<n) (hlen:n.toNat<=2 ^ 62) (hb:n.toNat*te.bytes<=2 ^ 47) (dk:0<te.size) :
  Cert P o σ (.raw te.size n.toNat σ.objs.length) (.write (σ.objs++[.spare 0])) :=
 Cert.jI hd fun base ji a g cu h kY=>by
  have hO:g.objs=σ.objs:=kY.resolve_left (by simp);have hg:=cu.good;have hu:=cf hT ht a7;have iU:=h x (by simp[ho,Op.operands,Call.operands]) _ hx;have ey:=(h y (by simp[ho,Op.operands,Call.operands]) _ hy).cL.1;obtain⟨Bw,mf,iC,ex,yP,tY,DR,H8,Mr,DS⟩:=iU.gC (P:=P);obtain⟨⟨i,z,h1,h2,h3,h4,h5,h6,h7,h8,h9⟩,_⟩:=hT e te he;obtain⟨m,rfl⟩:=Int.eq_ofNat_of_zero_le (show 0<=n by omega);simp only[Int.toNat_natCast]at *;have ru:mf=0:=by
   rcases iU.fR with⟨q1,q2⟩|⟨ad,cap,f,q1,_,_,_,_,_,_,_,q2⟩
   ·rw[ex]at q1;simp at q1;exact q1.2
   rw[ex]at q1;simp only[Value.slice.injEq]at q1;rw[q1.2.2];exact q2
  subst ru;simp only[List.length_nil]at ex;have dj:=c7 (P:=P) ho a g.w;simp only[builtin,List.map_toArray,List.map_cons,List.map_nil]at dj;have bS:=nR (P:=P) g.w t t' o.type e i z hu La h1 h4 Bw m (by cases Bw<;>simp[Builtin.firstCells,loadCells,loadCellsFrom]) (by omega) hlen (by rw[h3];exact hb) (by omega);rw[<-ex]at bS;obtain⟨cap,di⟩:∃cap,cap=grownCap g.w m 0 e:=⟨_,rfl⟩
  have ql:=grownCap_ge g.w m 0 e;rw[<-di]at bS ql;obtain⟨rest,gA⟩:∃rest,rest=Builtin.zeroCells z.cells (cap-m):=⟨_,rfl⟩
  rw[<-gA]at bS;obtain⟨arr,iL⟩:∃arr,arr=Builtin.zeroCells z.cells m++rest:=⟨_,rfl⟩
  rw[<-iL]at bS;have pn:=hg.heap (w':=g.w.drew) rfl rfl rfl rfl;have oK:=Le.heap (g:=g) (w':=g.w.drew) rfl rfl rfl rfl;obtain⟨g1,nj⟩:∃g1:G,g1=⟨g.w.drew,g.fr,g.env,g.objs⟩:=⟨_,rfl⟩
  rw[<-nj]at pn oK;have qo:g1.w=g.w.drew:=by rw[nj]
  have ss:g1.objs=σ.objs:=by rw[nj];exact hO
  have hle:=oK.trans (Le.alloc pn (.cells arr e) 0 (.spare 0));have CI:(Builtin.zeroCells z.cells m).size=m*te.size:=by rw[size_zeroCells,h5,h6]
  have fg:=Good.alloc pn (.cells arr e) 0 (.spare 0) (.inr rfl) ⟨arr,e,rfl⟩;have wV:rest.size=(cap-m)*te.size:=by rw[gA,size_zeroCells,h5,h6]
  refine⟨.slice (some ⟨g.w.heap.size,0,none⟩) m cap,_,.inl ?_,hle,fg,?_,?_⟩
  ·rw[dj,ey];simp[bS,G.alloc,qo]
  ·simp[G.alloc,ss,Mode.post]
  rw[<-ss];have e1:(g.w.heap.size)=g1.w.heap.size:=by rw[qo];rfl
  rw[e1];refine .raw (by omega) ⟨by simp[G.alloc],fun m' eS=>?_⟩;have vm:(g1.alloc (.cells arr e) 0 (.spare 0)).objs[g1.objs.length]?=some (.spare 0):=fY;rw[vm]at eS;simp only[Option.some.injEq,ay.spare.injEq]at eS;subst eS;refine⟨Nat.le_refl _,fun _=>.inr ⟨⟨g1.w.heap.size,0,_⟩,arr,e,j5 pn,rfl,by simp,dx _ _,?_⟩⟩;rw[iL,Array.size_append,CI,wV,<-Nat.add_mul];exact Nat.mul_le_mul_right _ (by omega)
theorem uL{P:Program}{aS:fM}(hT:cG P aS){o:Oper}{σ:St}{t e:TypeId}{x y:Operand}{ti te:cQ}{id off len cap sz:Nat}{cs ys:List ae}{ow:od}
  (ho:o.op=.call ⟨.builtin .append,#[x,y],#[t,t]⟩) (hd:∀d,o.dst=some d->d<σ.n) (ht:aS t=some ti) (a7:ti.desc=.slice e) (he:aS e=some te) (dk:te.size=sz) (hx:σ.ev x=some (.ms id off len cap)) (s7:σ.objs[id]?=some (.cells cs)) (hy:σ.ev y=some (.aC sz ys ow))
  (kP:len+ys.length<=cap) (QH:len+ys.length<=2 ^ 62) (K6:off+(len+ys.length)*sz<=cs.length) :
  Cert P o σ (.ms id off (len+ys.length) cap) (.write (σ.objs.set id (.cells (bu cs (off+len*sz) (ar (ys.map ae.share)))))) :=
 Cert.jI hd fun base ji a g cu h kY=>by
  have hO:g.objs=σ.objs:=kY.resolve_left (by simp);have hg:=cu.good;have hu:=cf hT ht a7;subst dk;have iU:=h x (by simp[ho,Op.operands,Call.operands]) _ hx;have DU:=h y (by simp[ho,Op.operands,Call.operands]) _ hy;obtain⟨l,o1,q1,q2,q3,zJ,cZ,iK,di,eu⟩:=iU.qw;obtain⟨Q9,GY,news,ey,AN,AO,AP,GF,DV,tZ⟩:=DU.gC (P:=P);obtain⟨⟨i,z,h1,h2,h3,h4,h5,h6,h7,h8,h9⟩,_⟩:=hT e te he;have mI:g.objs[id]?=some (.cells cs):=by rw[hO];exact s7
  obtain⟨arr,t',kp,fc,hlen,iq,ry,L7⟩:=hg.row mI q1;have dj:=c7 (P:=P) ho a g.w;simp only[builtin,List.map_toArray,List.map_cons,List.map_nil]at dj;obtain⟨cS,jc⟩:∃cS,cS=(arr.toList.take (off+len*te.size)++news++arr.toList.drop (off+len*te.size+news.length)).toArray:=⟨_,rfl⟩
  have hmul:off+(len+ys.length)*te.size=off+len*te.size+ys.length*te.size:=by rw[Nat.add_mul];omega
  have eo:=run_storeCells_at P l.block (off+len*te.size) t' news 0 arr g.w fc (by rw[tZ];omega) (fun u hu=>by
   obtain⟨j,hj⟩:=List.getElem?_of_mem hu;have aN:=ag hj;have dk:=AP.1;simp only[List.size_toArray]at dk;rw[dk]at aN;have hc:=List.getElem?_eq_getElem aN;exact((AP.2 j _ u hc (by simpa using hj)).jd (DV _ (List.mem_of_getElem? hc))).1)
  simp only[Nat.add_zero]at eo;rw[<-jc]at eo;have bS:=iR (P:=P) g.w (g.w.setRow l.block cS) t o.type e i hu h1 ⟨l.block,off,none⟩ len iK ys.length (a.eval y) news AN (by rw[h2];exact AO g.w rfl) (by omega) (by rw[addr_add,h2];exact eo);rw[<-eu]at bS;have g8:=l8 (cs':=bu cs (off+len*te.size) (ar (ys.map ae.share))) mI q1 kp cS;have hle:=Le.bO hg g8;have ml:=AP.jX;have lB:(ar (ys.map ae.share)).length=ys.length*te.size:=by
   rw[bI (eg GF)];simp
  have wy:=kI.bu ⟨hlen,iq⟩ ml (off:=off+len*te.size) (by rw[lB];omega);simp only at wy;rw[<-jc]at wy;refine⟨.slice (some ⟨l.block,off,none⟩) (len+ys.length) iK,g.bO id (some l) (.cells (bu cs (off+len*te.size) (ar (ys.map ae.share)))) (g.w.setRow l.block cS),.inl ?_,hle,Good.bO hg g8 ?_ ?_,?_,?_⟩
  ·rw[dj];simp[bS,G.bO]
  ·refine⟨l,cS,t',rfl,kp,?_,wy.1,fun j c u a b=>(wy.2 j c u a b).mono hle,fun c hc=>?_,?_⟩
   ·exact setRow_heap g.w l.block arr cS t' (0,0) fc
   ·simp only[bu,List.mem_append]at hc;rcases hc with hc|hc|hc
    ·exact ry c (List.mem_of_mem_take hc)
    ·exact dO DV c hc
    exact ry c (List.mem_of_mem_drop hc)
   have q:=tZ;have q2:=hmul;rw[jc];simp only[List.size_toArray,List.length_append,List.length_take,List.length_drop,Array.length_toList];omega
  ·intro l1 h1 _;simp only[Option.some.injEq]at h1;subst h1;rw[setRow_size];exact bj fc
  ·simp only[G.bO,Mode.post,hO]
  have aN:id<g.objs.length:=ag mI;have PK:=kK hg mI;refine .ms (l:=l) (o:=.cells (bu cs (off+len*te.size) (ar (ys.map ae.share)))) ?_ ?_ (by simp[ay.aP]) kP di QH
  ·simp only[G.bO];rw[List.getElem?_set_self PK]
  simp only[G.bO];rw[List.getElem?_set_self aN]
theorem wC{P:Program}{aS:fM}(hT:cG P aS){o:Oper}{σ:St}{t e:TypeId}{x:Operand}{ti te:cQ}{id off len cap:Nat}{cs:List ae}
  (ho:o.op=.call ⟨.builtin .clear,#[x],#[t]⟩) (hd:o.dst=none) (ht:aS t=some ti) (a7:ti.desc=.slice e) (he:aS e=some te) (hx:σ.ev x=some (.ms id off len cap)) (s7:σ.objs[id]?=some (.cells cs))
  (lu:0<len) (hz:0<te.size) (K6:off+len*te.size<=cs.length) :
  Cert P o σ (.c5 []) (.write (σ.objs.set id (.cells (bu cs off (List.replicate len te.zero).flatten)))) :=
 Cert.jI (by simp[hd]) fun base ji a g cu h kY=>by
  have hO:g.objs=σ.objs:=kY.resolve_left (by simp);have hg:=cu.good;have hu:=cf hT ht a7;have iU:=h x (by simp[ho,Op.operands,Call.operands]) _ hx;obtain⟨l,o1,q1,q2,q3,zJ,cZ,iK,di,eu⟩:=iU.qw;obtain⟨⟨i,z,h1,h2,h3,h4,h5,h6,h7,h8,h9⟩,_⟩:=hT e te he;have mI:g.objs[id]?=some (.cells cs):=by rw[hO];exact s7
  obtain⟨arr,t',kp,fc,hlen,iq,ry,L7⟩:=hg.row mI q1;have dj:=c7 (P:=P) ho a g.w;simp only[builtin,List.map_toArray,List.map_cons,List.map_nil]at dj;have CI:(Builtin.zeroCells z.cells len).size=len*te.size:=by rw[size_zeroCells,h5,h6]
  have vh:(List.replicate len te.zero).flatten.length=len*te.size:=by simp[h6]
  have iM:∀(j:Nat) (c:ae),(List.replicate len te.zero).flatten[j]?=some c->te.zero[j % te.size]?=some c:=fun j c=>h6 ▸ rR te.zero (by omega) len j c;have Lf:kI g (List.replicate len te.zero).flatten (Builtin.zeroCells z.cells len):=⟨by rw[CI,vh],fun j c u hj hu=>by
   have lT:=iM j c hj;have aN:=ag hj;rw[vh]at aN;have iB:j % te.size<z.cells.size:=by rw[h5];exact ag lT
   refine h8 _ _ _ _ lT ?_;simp only[Builtin.zeroCells,Array.getElem?_map,h5,h6,Array.getElem?_range,if_pos aN,Option.map_some,Option.some.injEq]at hu;subst hu;simp[iB]⟩
  have H9:∀c∈(List.replicate len te.zero).flatten,c.scalar:=fun c hc=>by
   rw[List.mem_flatten]at hc;obtain⟨l,hl,hc⟩:=hc;rw[List.mem_replicate]at hl;exact h9 c (hl.2 ▸ hc)
  obtain⟨news,s6⟩:∃news,news=(Builtin.zeroCells z.cells len).toList:=⟨_,rfl⟩
  have Uo:news.length=len*te.size:=by rw[s6,Array.length_toList,CI]
  obtain⟨cS,jc⟩:∃cS,cS=(arr.toList.take off++news++arr.toList.drop (off+news.length)).toArray:=⟨_,rfl⟩
  have eo:=run_storeCells_at P l.block off t' news 0 arr g.w fc (by rw[Uo];omega) (fun u hu=>by
   obtain⟨j,hj⟩:=List.getElem?_of_mem hu;have aN:=ag hj;rw[Uo,<-vh]at aN;have hc:=List.getElem?_eq_getElem aN;exact((Lf.2 j _ u hc (by rw[s6]at hj;simpa using hj)).jd (H9 _ (List.mem_of_getElem? hc))).1)
  simp only[Nat.add_zero]at eo;rw[<-jc]at eo;have bS:(Builtin.clear_ #[t] o.type #[a.eval x]).run P g.w=.ok (.tuple #[]) (g.w.setRow l.block cS):=by
   obtain⟨k,rfl⟩:∃k,len=k+1:=⟨len-1,by omega⟩
   rw[eu];simp[Builtin.clear_,run_underlying hu,Go.zeroValue,typeInfo,h1,h4,<-s6,eo]
  have g8:=l8 (cs':=bu cs off (List.replicate len te.zero).flatten) mI q1 kp cS;have hle:=Le.bO hg g8;have wy:=kI.bu ⟨hlen,iq⟩ Lf (off:=off) (by rw[vh];omega);rw[<-s6,<-jc]at wy;refine⟨.tuple #[],g.bO id (some l) (.cells (bu cs off (List.replicate len te.zero).flatten)) (g.w.setRow l.block cS),?_,hle,Good.bO hg g8 ?_ ?_,?_,.c5 rfl (by simp)⟩
  ·refine .inl ?_;rw[dj];simp[bS,G.bO]
  ·refine⟨l,cS,t',rfl,kp,?_,wy.1,fun j c u a b=>(wy.2 j c u a b).mono hle,fun c hc=>?_,?_⟩
   ·exact setRow_heap g.w l.block arr cS t' (0,0) fc
   ·simp only[bu,List.mem_append]at hc;rcases hc with hc|hc|hc
    ·exact ry c (List.mem_of_mem_take hc)
    ·exact H9 c hc
    exact ry c (List.mem_of_mem_drop hc)
   have q:=Uo;rw[jc];simp only[List.size_toArray,List.length_append,List.length_take,List.length_drop,Array.length_toList];omega
  ·intro l1 h1 _;simp only[Option.some.injEq]at h1;subst h1;rw[setRow_size];exact bj fc
  simp only[G.bO,Mode.post,hO]
def G.nC(g:G)(id:Nat)(l:Loc)(o:ay):G:=⟨g.w,g.fr,g.env++[some l],g.objs.set id .gone++[o]⟩
theorem px{g:G}{id:Nat}{l:Loc}{o:ay}(hg:Good g)(jE:id<g.objs.length){i:Nat}{l':Loc}{o':ay}(h1:(g.nC id l o).env[i]?=some (some l'))(h2:(g.nC id l o).objs[i]?=some o')(h3:o'.live) :
  (i≠id∧g.env[i]?=some (some l')∧g.objs[i]?=some o')∨(i=g.objs.length∧l'=l∧o'=o):=by
 have hlen:=hg.len;rcases aU h1 with q1|⟨q1,QW⟩
 ·rcases aU h2 with q2|⟨q2,_⟩
  ·by_cases e:id=i
   ·subst e;rw[List.getElem?_set_self jE]at q2;simp only[Option.some.injEq]at q2;subst q2;exact h3.elim
   rw[List.getElem?_set_ne e]at q2;exact .inl ⟨Ne.symm e,q1,q2⟩
  have:=ag q1;simp only[List.length_set]at q2;omega
 rcases aU h2 with q2|⟨q2,My⟩
 ·have:=ag q2;simp only[List.length_set]at this;omega
 simp only[Option.some.injEq]at QW;exact .inr ⟨by omega,QW,My⟩
theorem kd.nC{g:G}{id:Nat}{l:Loc}{o o1:ay}(hg:Good g)(he:g.env[id]?=some (some l))(ho:g.objs[id]?=some o1)(hl:o1.live){b off:Nat}(h:kd (g.nC id l o) b off):kd g b off:=by
 obtain⟨i,l',o',h1,h2,h3,h4,h5⟩:=h;rcases px hg (ag ho) h1 h2 h3 with⟨_,q1,q2⟩|⟨_,q1,_⟩
 ·exact⟨i,l',o',q1,q2,h3,h4,h5⟩
 subst q1;exact⟨id,l',o1,he,ho,hl,h4,h5⟩
theorem gv.nC{g:G}{id:Nat}{l:Loc}{o o1:ay}(hg:Good g)(he:g.env[id]?=some (some l))(ho:g.objs[id]?=some o1)(hl:o1.live){b:Nat}(h:gv (g.nC id l o) b):gv g b:=by
 obtain⟨i,l',o',h1,h2,h3,h4⟩:=h;exact(kd.nC hg he ho hl ⟨i,l',o',h1,h2,h3,h4,Nat.le_refl _⟩).block
theorem y9{g:G}{id i:Nat}{l:Loc}{o o':ay}(cA:id≠i)(h:g.objs[i]?=some o'):(g.nC id l o).objs[i]?=some o':=by
 have:=ag h;simp only[G.nC];rw[List.getElem?_append,if_pos (by simpa using this),List.getElem?_set_ne cA];exact h
theorem A7{g:G}{id:Nat}{l:Loc}{o:ay}(h:id<g.objs.length):(g.nC id l o).objs[id]?=some .gone:=by
 simp only[G.nC];rw[List.getElem?_append,if_pos (by simpa using h),List.getElem?_set_self h]
theorem rQ{g:G}{id i:Nat}{l:Loc}{o:ay}(h:i<g.env.length):(g.nC id l o).env[i]?=g.env[i]?:=by
 simp only[G.nC];rw[List.getElem?_append,if_pos h]
theorem Le.nC{g:G}{id:Nat}{l:Loc}{o o1:ay}(hg:Good g)(he:g.env[id]?=some (some l))(ho:g.objs[id]?=some o1)(hl:o1.live)(hs:¬o1.aP):Le g (g.nC id l o) where
 os:=rfl
 tape:=rfl
 output:=rfl
 fr:=rfl
 size:=Nat.le_refl _
 block:=fun k _ h=>⟨rfl,fun q=>h (gv.nC hg he ho hl q)⟩
 cell:=fun b off x hx hn=>⟨hx,fun q=>hn (kd.nC hg he ho hl q)⟩
 len:=by simp[G.nC]
 spare:=fun i m hm=>by
  have cA:id≠i:=by
   intro e;subst e;rw[ho]at hm;simp only[Option.some.injEq]at hm;subst hm;exact hs trivial
  exact .inl ⟨m,y9 cA hm,Nat.le_refl _⟩
 plain:=fun i o' kY hn=>by
  refine⟨?_,rQ (by have:=ag kY;have:=hg.len;omega)⟩;by_cases e:id=i
  ·subst e;exact⟨.gone,A7 (ag ho),by simp[ay.aP]⟩
  exact⟨o',y9 e kY,hn⟩
 gone:=fun i hi=>by
  by_cases e:id=i
  ·subst e;exact A7 (ag ho)
  exact y9 e hi
 tok:=fun i m hm _=>⟨rQ (by have:=ag hm;have:=hg.len;omega),fun _ _=>rfl⟩
theorem Good.nC{g:G}{id:Nat}{l:Loc}{cs:List ae}(hg:Good g)(he:g.env[id]?=some (some l))(ho:g.objs[id]?=some (.cells cs)):Good (g.nC id l (.cells cs)):=by
 have aN:=ag ho;have hle:=Le.nC (o:=.cells cs) hg he ho trivial (by simp[ay.aP]);have vm:(g.nC id l (.cells cs)).env[g.objs.length]?=some (some l):=by
  simp only[G.nC];rw[<-hg.len];simp
 refine⟨hg.frlt,?_,by simp[G.nC,hg.len],?_,?_,?_,?_,?_⟩
 ·intro i l' o' h1 h2 h3;rcases px hg aN h1 h2 h3 with⟨_,q1,q2⟩|⟨_,q1,_⟩
  ·exact hg.fU i l' o' q1 q2 h3
  subst q1;exact hg.fU id l' _ he ho trivial
 ·intro i l' o' h1 h2 h3;rcases px hg aN h1 h2 h3 with⟨_,q1,q2⟩|⟨_,q1,_⟩
  ·exact hg.loc i l' o' q1 q2 h3
  subst q1;exact hg.loc id l' _ he ho trivial
 ·intro i j l1 l2 o1 o2 h1 h2 h3 k1 k2 k3 hb;rcases px hg aN h1 h2 h3 with⟨n1,q1,q2⟩|⟨n1,q1,_⟩
  ·rcases px hg aN k1 k2 k3 with⟨_,r1,r2⟩|⟨m1,r1,_⟩
   ·exact hg.apart i j l1 l2 o1 o2 q1 q2 h3 r1 r2 k3 hb
   subst r1;exact absurd (hg.apart i id l1 l2 o1 _ q1 q2 h3 he ho trivial hb) n1
  rcases px hg aN k1 k2 k3 with⟨m1,r1,r2⟩|⟨m1,r1,_⟩
  ·subst q1;exact absurd (hg.apart j id l2 l1 o2 _ r1 r2 k3 he ho trivial hb.symm) m1
  omega
 ·intro i ds h;have lU:(ay.cells ds).live:=trivial;rcases aU h with q|⟨q,q'⟩
  ·have cA:id≠i:=by
    intro e;subst e;rw[List.getElem?_set_self aN]at q;cases q
   rw[List.getElem?_set_ne cA]at q;obtain⟨l',arr,t,e1,e0,e2,e3,e4,e5⟩:=hg.cells i ds q;exact⟨l',arr,t,(rQ (by have:=ag q;have:=hg.len;omega)).trans e1,e0,e2,e3,fun j c u a b=>(e4 j c u a b).mono hle,e5⟩
  simp only[ay.cells.injEq]at q';subst q';obtain⟨l',arr,t,e1,e0,e2,e3,e4,e5⟩:=hg.cells id _ ho;rw[he]at e1;simp only[Option.some.injEq]at e1;subst e1;refine⟨l,arr,t,?_,e0,e2,e3,fun j c u a b=>(e4 j c u a b).mono hle,e5⟩;rw[q,List.length_set];exact vm
 ·intro i m l' h h1;rcases aU h with q|⟨q,q'⟩
  ·have cA:id≠i:=by
    intro e;subst e;rw[List.getElem?_set_self aN]at q;cases q
   rw[List.getElem?_set_ne cA]at q;rw[rQ (by have:=ag q;have:=hg.len;omega)]at h1;exact hg.spare i m l' q h1
  cases q'
 intro i kt es h;rcases aU h with q|⟨q,q'⟩
 ·have cA:id≠i:=by
   intro e;subst e;rw[List.getElem?_set_self aN]at q;cases q
  rw[List.getElem?_set_ne cA]at q;obtain⟨l',arr,clk,e1,e0,e2,e3,e6,e4⟩:=hg.map i kt es q;exact⟨l',arr,clk,(rQ (by have:=ag q;have:=hg.len;omega)).trans e1,e0,e2,e3,e6,fun j e kx a b=>⟨(e4 j e kx a b).1,(e4 j e kx a b).2.1,(e4 j e kx a b).2.2.mono hle⟩⟩
 cases q'
theorem qX{P:Program}{aS:fM}(hT:cG P aS){o:Oper}{σ:St}{t e:TypeId}{x i:Operand}{ti te:cQ}{id len sz:Nat}{k:IntKind}{n:Int}
  (ho:o.op=.indexAddr t x i) (hd:∀d,o.dst=some d->d<σ.n) (ht:aS t=some ti) (a7:ti.desc=.slice e) (he:aS e=some te)
  (hx:σ.ev x=some (.os id len sz)) (hi:σ.ev i=some (.v (.int k n))) (h0:0<=n) (hn:n<len):Cert P o σ (.mp id (n.toNat*te.size)) .pure :=
 Cert.bZ .pure (.inl rfl) hd fun a g _ h _=>by
  have ei:=(h i (by simp[ho,Op.operands]) _ hi).cL.1;have hu:=cf hT ht a7;obtain⟨l,o1,cap,h1,h2,h3,_,_,_,eu⟩:=(h x (by simp[ho,Op.operands]) _ hx).y2;exact⟨.pointer (some ⟨l.block,n.toNat*te.size,none⟩),by simp[execOp,ho,ei,eu,Instr.indexAt,asIntOf,run_underlying hu,h0,hn,(hT e te he).sizeOf,addr_add],.mp h1 h2 h3⟩
theorem wK{P:Program}{aS:fM}(hT:cG P aS){o:Oper}{σ:St}{t e:TypeId}{x:Operand}{ti te:cQ}{id len sz:Nat}{lo hi:Option Operand}{h:Nat}
  (ho:o.op=.slice t x lo hi none) (hd:∀d,o.dst=some d->d<σ.n) (ht:aS t=some ti) (a7:ti.desc=.slice e) (he:aS e=some te) (hx:σ.ev x=some (.os id len sz))
  (kp:ov σ lo 0 0) (pG:ov σ hi len h) (h2:h<=len) (h3:0<len):Cert P o σ (.os id h sz) .pure :=
 Cert.bZ .pure (.inl rfl) hd fun a g _ hh _=>by
  have hu:=cf hT ht a7;have iU:=hh x (by cases lo<;>cases hi<;>simp[ho,Op.operands]) _ hx;have hl:(lo=none∧(0:Nat)=0)∨∃q k,lo=some q∧a.eval q=.int k ((0:Nat):Int):=by
   rcases kp with q|⟨q,k,e1,e2⟩
   ·exact .inl q
   exact .inr ⟨q,k,e1,(hh q (by subst e1;cases hi<;>simp[ho,Op.operands]) _ e2).cL.1⟩
  have lS:(hi=none∧h=len)∨∃q k,hi=some q∧a.eval q=.int k (h:Int):=by
   rcases pG with q|⟨q,k,e1,e2⟩
   ·exact .inl q
   exact .inr ⟨q,k,e1,(hh q (by subst e1;cases lo<;>simp[ho,Op.operands]) _ e2).cL.1⟩
  have dj:execOp a.eval o=(do pure (.value (<-Instr.sliceAt t (a.eval x) (lo.map a.eval) (hi.map a.eval) none))):=by
   simp[execOp,ho]
  clear kp pG ho;obtain⟨lc,o1,iK,q1,q2,q3,zJ,TV,cZ,eu⟩:=iU.y2;have bounds:(Instr.sliceBounds true len iK (lo.map a.eval) (hi.map a.eval) none).run P g.w=.ok (0,h,iK) g.w:=by
   rcases hl with⟨e1,e2⟩|⟨p,k,e1,hk⟩
   ·rcases lS with⟨e3,e4⟩|⟨q,k',e3,mU⟩
    ·subst e1 e3 e4;simp[Instr.sliceBounds]
    subst e1 e3;have:=bH (P:=P) k' h iK .sliceAcap g.w (by omega) (by omega);simp[Instr.sliceBounds,mU,this]
   rcases lS with⟨e3,e4⟩|⟨q,k',e3,mU⟩
   ·subst e1 e3 e4;have:=bH (P:=P) k 0 h .sliceB g.w (by omega) (by omega);simp[Instr.sliceBounds,hk,this]
   subst e1 e3;have e1:=bH (P:=P) k' h iK .sliceAcap g.w (by omega) (by omega);have e2:=bH (P:=P) k 0 h .sliceB g.w (by omega) (by omega);simp[Instr.sliceBounds,hk,mU,e1,e2]
  have mJ:=(hT e te he).sizeOf g.w;refine⟨.slice (some ((⟨lc.block,0,none⟩:Addr).add (0*te.size))) (h-0) (iK-0),?_,?_⟩
  ·rw[dj];simp[Instr.sliceAt,run_underlying hu,Instr.slice,eu,bounds,mJ,show iK≠0 by omega]
  rw[addr_add];simp only[Nat.zero_mul,Nat.add_zero,Nat.sub_zero];exact .os q1 q2 q3 (by omega) TV (by omega)
theorem qT{P:Program}{aS:fM}(hT:cG P aS){o:Oper}{σ:St}{t e:TypeId}{x y:Operand}{ti te:cQ}{sz:Nat}{xs ys:List ae}{ow:od}
  (ho:o.op=.call ⟨.builtin .append,#[x,y],#[t,t]⟩) (hd:∀d,o.dst=some d->d<σ.n) (ht:aS t=some ti) (a7:ti.desc=.slice e) (he:aS e=some te) (dk:te.size=sz) (hx:σ.ev x=some (.aC sz xs .ex)) (hy:σ.ev y=some (.aC sz ys ow))
  (hn:ys.length≠0) (hlen:xs.length+ys.length<=2 ^ 62) (hb:(xs.length+ys.length)*te.bytes<=2 ^ 47) :
  Cert P o σ (.os σ.objs.length (xs.length+ys.length) sz) (.write (σ.objs++[.cells (ar (xs++ys.map ae.share))])) :=
 Cert.jI hd fun base ji a g cu h kY=>by
  have hO:g.objs=σ.objs:=kY.resolve_left (by simp);have hg:=cu.good;have hu:=cf hT ht a7;subst dk;have iU:=h x (by simp[ho,Op.operands,Call.operands]) _ hx;have DU:=h y (by simp[ho,Op.operands,Call.operands]) _ hy;obtain⟨Bw,mf,iC,ex,yP,tY,DR,H8,Mr,DS⟩:=iU.gC (P:=P);obtain⟨Q9,GY,news,ey,AN,AO,AP,GF,DV,tZ⟩:=DU.gC (P:=P);obtain⟨⟨i,z,h1,h2,h3,h4,h5,h6,h7,h8,h9⟩,_⟩:=hT e te he;have ru:mf=xs.length:=by
   rcases iU.fR with⟨q1,q2⟩|⟨ad,cap,f,q1,_,_,_,_,_,_,_,q2⟩
   ·rw[ex]at q1;cases q2;simp at q1;simp[q1]
   rw[ex]at q1;simp only[Value.slice.injEq]at q1;rw[q1.2.2];exact q2
  subst ru;have dj:=c7 (P:=P) ho a g.w;simp only[builtin,List.map_toArray,List.map_cons,List.map_nil]at dj;have bS:=ic (P:=P) g.w t o.type e i z hu h1 h4 Bw xs.length xs.length ys.length (a.eval y) iC news AN (by rw[h2];exact AO g.w.drew rfl) (by rw[h2,<-ex];exact tY g.w.drew rfl) (by omega) hlen (by rw[h3];exact hb);rw[<-ex]at bS;obtain⟨cap,di⟩:∃cap,cap=grownCap g.w (xs.length+ys.length) xs.length e:=⟨_,rfl⟩
  obtain⟨rest,gA⟩:∃rest,rest=Builtin.zeroCells z.cells (cap-(xs.length+ys.length)):=⟨_,rfl⟩
  have ql:=grownCap_ge g.w (xs.length+ys.length) xs.length e;rw[<-di]at bS ql;rw[<-gA]at bS;have wV:rest.size=(cap-(xs.length+ys.length))*te.size:=by rw[gA,size_zeroCells,h5,h6]
  obtain⟨arr,iL⟩:∃arr,arr=iC.toArray++news.toArray++rest:=⟨_,rfl⟩
  rw[<-iL]at bS;have pn:=hg.heap (w':=g.w.drew) rfl rfl rfl rfl;have oK:=Le.heap (g:=g) (w':=g.w.drew) rfl rfl rfl rfl;obtain⟨g1,nj⟩:∃g1:G,g1=⟨g.w.drew,g.fr,g.env,g.objs⟩:=⟨_,rfl⟩
  rw[<-nj]at pn oK;have qo:g1.w=g.w.drew:=by rw[nj]
  have ss:g1.objs=σ.objs:=by rw[nj];exact hO
  have kL:=DR.append AP.jX;rw[<-cT]at kL;have lB:(ar (xs++ys.map ae.share)).length=(xs.length+ys.length)*te.size:=by
   rw[bI (sz:=te.size) (fun x hx=>by
    rcases List.mem_append.1 hx with q|q
    ·exact H8 x q
    exact eg GF x q)]
   simp
  have wO:arr.size=cap*te.size:=by
   rw[iL];simp only[Array.size_append,List.size_toArray,DS,tZ,wV,<-Nat.add_mul];rw[show xs.length+ys.length+(cap-(xs.length+ys.length))=cap by omega]
  have hle:=oK.trans (Le.alloc pn (.cells arr e) 0 (.cells (ar (xs++ys.map ae.share))));have fk:Fits (g1.alloc (.cells arr e) 0 (.cells (ar (xs++ys.map ae.share)))) (.cells arr e) (.cells (ar (xs++ys.map ae.share))):=by
   refine⟨arr,e,rfl,by rw[lB,wO];exact Nat.mul_le_mul_right _ ql,fun j c u hj hu=>?_,fun c hc=>?_⟩
   ·have aN:=ag hj;rw[lB]at aN;rw[iL]at hu;have yN:=fb hu (by simp only[List.size_toArray,DS,tZ,<-Nat.add_mul];exact aN);exact(kL.2 j c u hj (by simpa using yN)).mono hle
   rw[cT]at hc;rcases List.mem_append.1 hc with q|q
   ·exact Mr c q
   exact dO DV c q
  have fg:=Good.alloc pn (.cells arr e) 0 (.cells (ar (xs++ys.map ae.share))) (.inr rfl) fk;refine⟨.slice (some ⟨g.w.heap.size,0,none⟩) (xs.length+ys.length) cap,_,.inl ?_,hle,fg,?_,?_⟩
  ·rw[dj];simp[bS,G.alloc,qo]
  ·simp[G.alloc,ss,Mode.post]
  rw[<-ss];have e1:(g.w.heap.size)=g1.w.heap.size:=by rw[qo];rfl
  rw[e1];exact .os (l:=⟨g1.w.heap.size,0,arr.size⟩) (j5 pn) fY (by simp[ay.aP]) ql (by rw[wO];exact Nat.le_refl _) hlen
theorem uM{P:Program}{aS:fM}(hT:cG P aS){o:Oper}{σ:St}{t e:TypeId}{x y:Operand}{ti te:cQ}{id len sz:Nat}{cs ys:List ae}{ow:od}
  (ho:o.op=.call ⟨.builtin .append,#[x,y],#[t,t]⟩) (hd:∀d,o.dst=some d->d<σ.n) (ht:aS t=some ti) (a7:ti.desc=.slice e) (he:aS e=some te) (dk:te.size=sz) (hx:σ.ev x=some (.os id len sz)) (s7:σ.objs[id]?=some (.cells cs)) (hy:σ.ev y=some (.aC sz ys ow))
  (K6:len*sz<=cs.length) (hn:ys.length≠0) (hlen:len+ys.length<=2 ^ 62) (hb:(len+ys.length)*te.bytes<=2 ^ 47) :
  Cert P o σ (.os σ.objs.length (len+ys.length) sz) (.write (σ.objs.set id .gone++[.cells (cs.take (len*sz)++ar (ys.map ae.share))])) :=
 Cert.jI hd fun base ji a g cu h kY=>by
  have hO:g.objs=σ.objs:=kY.resolve_left (by simp);have hg:=cu.good;have hu:=cf hT ht a7;subst dk;have iU:=h x (by simp[ho,Op.operands,Call.operands]) _ hx;have DU:=h y (by simp[ho,Op.operands,Call.operands]) _ hy;obtain⟨l,o1,cap,q1,q2,q3,zJ,TV,cZ,eu⟩:=iU.y2;obtain⟨Q9,GY,news,ey,AN,AO,AP,GF,DV,tZ⟩:=DU.gC (P:=P);obtain⟨⟨i,z,h1,h2,h3,h4,h5,h6,h7,h8,h9⟩,_⟩:=hT e te he;have mI:g.objs[id]?=some (.cells cs):=by rw[hO];exact s7
  have DI:=ag mI;obtain⟨arr,t',kp,fc,Vu,iq,ry,L7⟩:=hg.row mI q1;have dj:=c7 (P:=P) ho a g.w;simp only[builtin,List.map_toArray,List.map_cons,List.map_nil]at dj;have ml:=AP.jX;have lB:(ar (ys.map ae.share)).length=ys.length*te.size:=by
   rw[bI (eg GF)];simp
  obtain⟨m,hm⟩:∃m,m=len*te.size:=⟨_,rfl⟩
  obtain⟨iC,PQ⟩:∃iC,iC=arr.toList.take m:=⟨_,rfl⟩
  obtain⟨ds,tX⟩:∃ds,ds=cs.take (len*te.size)++ar (ys.map ae.share):=⟨_,rfl⟩
  rw[<-hm]at tX K6;have H2:iC.length=m:=by rw[PQ];simp;omega
  have holds:kI g (cs.take m) iC.toArray:=by
   refine⟨by simp[H2];omega,fun j c u hj hu=>?_⟩;have aN:=ag hj;simp only[List.length_take]at aN;rw[List.getElem?_take,if_pos (by omega)]at hj;refine iq j c u hj ?_;simp only[List.getElem?_toArray,PQ]at hu;rw[List.getElem?_take,if_pos (by omega)]at hu;simpa using hu
  have bq:kI g ds (iC++news).toArray:=by
   rw[tX];exact holds.append ml
  have pj:ds.length=m+ys.length*te.size:=by
   rw[tX,List.length_append,List.length_take,lB];omega
  have RO:∀c∈ds,c.scalar:=fun c hc=>by
   rw[tX]at hc;rcases List.mem_append.1 hc with hc|hc
   ·exact ry c (List.mem_of_mem_take hc)
   exact dO DV c hc
  have FJ:(len+ys.length)*te.size=m+ys.length*te.size:=by rw[Nat.add_mul,hm]
  rw[<-hm,<-tX];by_cases kP:len+ys.length<=cap
  ·have iA:m+ys.length*te.size<=arr.size:=by
    have:=Nat.mul_le_mul_right te.size kP;omega
   obtain⟨cS,jc⟩:∃cS,cS=(arr.toList.take m++news++arr.toList.drop (m+news.length)).toArray:=⟨_,rfl⟩
   have eo:=run_storeCells_at P l.block m t' news 0 arr g.w fc (by rw[tZ];omega) (fun u hu=>by
    obtain⟨j,hj⟩:=List.getElem?_of_mem hu;have aN:=ag hj;have dk:=AP.1;simp only[List.size_toArray]at dk;rw[dk]at aN;have hc:=List.getElem?_eq_getElem aN;exact((AP.2 j _ u hc (by simpa using hj)).jd (DV _ (List.mem_of_getElem? hc))).1)
   simp only[Nat.add_zero]at eo;rw[<-jc]at eo;have bS:=iR (P:=P) g.w (g.w.setRow l.block cS) t o.type e i hu h1 ⟨l.block,0,none⟩ len cap ys.length (a.eval y) news AN (by rw[h2];exact AO g.w rfl) (by omega) (by rw[addr_add,h2,Nat.zero_add,<-hm];exact eo);rw[<-eu]at bS;have g8:=l8 (cs':=ds) mI q1 kp cS;have hle:=Le.bO hg g8;have wO:cS.size=arr.size:=by
    rw[jc];simp only[List.size_toArray,List.length_append,List.length_take,List.length_drop,Array.length_toList,tZ];omega
   have fg:=Good.bO hg g8 (by
    refine⟨l,cS,t',rfl,kp,setRow_heap g.w l.block arr cS t' (0,0) fc,by rw[pj,wO];exact iA,fun j c u hj qm=>?_,RO,by rw[wO];exact L7⟩;have aN:=ag hj;rw[pj]at aN;have e1:cS=iC.toArray++news.toArray++(arr.toList.drop (m+news.length)).toArray:=by
     rw[jc,PQ];simp
    rw[e1]at qm;have yN:=fb qm (by simp only[List.size_toArray,H2,tZ];exact aN);exact(bq.2 j c u hj (by simpa using yN)).mono hle) (fun l1 h1 _=>by
    simp only[Option.some.injEq]at h1;subst h1;rw[setRow_size];exact bj fc)
   obtain⟨g1,nj⟩:∃g1:G,g1=g.bO id (some l) (.cells ds) (g.w.setRow l.block cS):=⟨_,rfl⟩
   rw[<-nj]at hle fg;have zG:g1.env[id]?=some (some l):=by
    rw[nj];simp only[G.bO];rw[List.getElem?_set_self (kK hg mI)]
   have ss:g1.objs[id]?=some (.cells ds):=by
    rw[nj];simp only[G.bO];rw[List.getElem?_set_self DI]
   have eZ:g1.objs.length=σ.objs.length:=by
    rw[nj,<-hO];simp[G.bO]
   refine⟨.slice (some ⟨l.block,0,none⟩) (len+ys.length) cap,g1.nC id l (.cells ds),.inl ?_,hle.trans (Le.nC fg zG ss trivial (by simp[ay.aP])),Good.nC fg zG ss,?_,?_⟩
   ·rw[dj,nj];simp[bS,G.bO,G.nC]
   ·simp only[G.nC,nj,G.bO,Mode.post,List.set_set,hO]
   refine .os (l:=l) (o:=.cells ds) ?_ ?_ (by simp[ay.aP]) kP TV hlen
   ·simp only[G.nC];rw[<-eZ,<-fg.len];simp
   simp only[G.nC];rw[<-eZ];simp
  have bS:=ic (P:=P) g.w t o.type e i z hu h1 h4 (some ⟨l.block,0,none⟩) len cap ys.length (a.eval y) iC news AN (by rw[h2];exact AO g.w.drew rfl) (by
   rw[h2];simp only[Builtin.firstCells];rw[<-hm];have:=run_loadCells (P:=P) g.w.drew ⟨l.block,0,none⟩ m (fun j=>arr.getD j undef) (fun j hj=>by
    rw[addr_add,Nat.zero_add];have:g.w.drew.cell? ⟨l.block,j,none⟩=arr[j]?:=cell_of_row (w:=g.w.drew) fc j;rw[this];simp[Array.getD_eq_getD_getElem?,show j<arr.size by omega])
   rw[w5 iC m _ H2 (fun j hj=>by
    rw[PQ,List.getElem?_take,if_pos hj];simp[Array.getD_eq_getD_getElem?,show j<arr.size by omega])]at this
   exact this) (by omega) hlen (by rw[h3];exact hb)
  rw[<-eu]at bS;obtain⟨wA,di⟩:∃wA,wA=grownCap g.w (len+ys.length) cap e:=⟨_,rfl⟩
  obtain⟨rest,gA⟩:∃rest,rest=Builtin.zeroCells z.cells (wA-(len+ys.length)):=⟨_,rfl⟩
  have ql:=grownCap_ge g.w (len+ys.length) cap e;rw[<-di]at bS ql;rw[<-gA]at bS;have wV:rest.size=(wA-(len+ys.length))*te.size:=by rw[gA,size_zeroCells,h5,h6]
  obtain⟨uv,iL⟩:∃uv,uv=iC.toArray++news.toArray++rest:=⟨_,rfl⟩
  rw[<-iL]at bS;have pn:=hg.heap (w':=g.w.drew) rfl rfl rfl rfl;have oK:=Le.heap (g:=g) (w':=g.w.drew) rfl rfl rfl rfl;obtain⟨g1,nj⟩:∃g1:G,g1=⟨g.w.drew,g.fr,g.env,g.objs⟩:=⟨_,rfl⟩
  rw[<-nj]at pn oK;have qo:g1.w=g.w.drew:=by rw[nj]
  have ss:g1.objs=σ.objs:=by rw[nj];exact hO
  have wO:uv.size=wA*te.size:=by
   rw[iL];simp only[Array.size_append,List.size_toArray,H2,tZ,wV];have:(len+ys.length)*te.size+(wA-(len+ys.length))*te.size=wA*te.size:=by
    rw[<-Nat.add_mul,show len+ys.length+(wA-(len+ys.length))=wA by omega]
   omega
  have hle:=oK.trans (Le.alloc pn (.cells uv e) 0 (.cells ds));have fk:Fits (g1.alloc (.cells uv e) 0 (.cells ds)) (.cells uv e) (.cells ds):=by
   refine⟨uv,e,rfl,by rw[pj,wO,<-FJ];exact Nat.mul_le_mul_right _ ql,fun j c u hj hu=>?_,RO⟩;have aN:=ag hj;rw[pj]at aN;rw[iL]at hu;have yN:=fb hu (by simp only[List.size_toArray,H2,tZ];exact aN);exact(bq.2 j c u hj (by simpa using yN)).mono hle
  have fg:=Good.alloc pn (.cells uv e) 0 (.cells ds) (.inr rfl) fk;obtain⟨g2,PG⟩:∃g2:G,g2=g1.alloc (.cells uv e) 0 (.cells ds):=⟨_,rfl⟩
  rw[<-PG]at hle fg;have RT:g2.env[id]?=some (some l):=by
   rw[PG];simp only[G.alloc];rw[List.getElem?_append,if_pos (by rw[nj];exact kK hg mI),nj];exact q1
  have Sg:g2.objs[id]?=some (.cells cs):=by
   rw[PG];simp only[G.alloc];rw[List.getElem?_append,if_pos (by rw[nj];exact DI),nj];exact mI
  have g8:=qG Sg RT (by simp[ay.aP]) trivial;have SF:g2.w=g.w.drew.alloc (.cells uv e):=by rw[PG,<-qo];rfl
  refine⟨.slice (some ⟨g.w.heap.size,0,none⟩) (len+ys.length) wA,g2.bO id (some l) .gone g2.w,.inl ?_,hle.trans (Le.bO fg g8),Good.bO fg g8 trivial (fun _ _ hh=>hh.elim),?_,?_⟩
  ·rw[dj];simp[bS,G.bO,SF]
  ·simp only[G.bO,PG,G.alloc,ss,Mode.post];rw[List.set_append,if_pos (by rw[<-hO];exact DI)]
  have e1:(g.w.heap.size)=g1.w.heap.size:=by rw[qo];rfl
  have Uc:id<g1.objs.length:=by rw[nj];exact DI
  rw[e1,<-ss];refine .os (l:=⟨g1.w.heap.size,0,uv.size⟩) (o:=.cells ds) ?_ ?_ (by simp[ay.aP]) ql (by rw[wO];exact Nat.le_refl _) hlen
  ·simp only[G.bO,PG,G.alloc];rw[List.getElem?_set_ne (by omega)];exact j5 pn
  simp only[G.bO,PG,G.alloc];rw[List.getElem?_set_ne (by omega)];exact fY
theorem wD{P:Program}{o:Oper}{σ:St}{op:BinOp}{t t' e:TypeId}{x y:Operand}{x':ae}{b r:Bool}
  (ho:o.op=.binOp op t x y t') (hd:∀d,o.dst=some d->d<σ.n) (ht:P.underlying t=some (.pointer e)) (hx:σ.ev x=some x') (hy:σ.ev y=some (.v (.pointer none)))
  (hb:(x'=.v (.pointer none)∧b=true)∨(∃oa cs,x'=.ip oa cs∧b=false)∨(∃id off,x'=.mp id off∧b=false))
  (hr:(op=.eql∧r=b)∨(op=.neq∧r=!b)):Cert P o σ (.v (.bool r)) .pure :=
 Cert.bZ .pure (.inl rfl) hd fun a g _ h _=>by
  have iU:=h x (by simp[ho,Op.operands]) _ hx;have ey:=(h y (by simp[ho,Op.operands]) _ hy).cL.1;have ex:∃q:Option Addr,a.eval x=.pointer q∧b=q.isNone:=by
   rcases hb with⟨e1,e2⟩|⟨oa,cs,e1,e2⟩|⟨id,off,e1,e2⟩
   ·subst e1;exact⟨none,iU.cL.1,e2⟩
   ·subst e1;obtain⟨bb,off,_,e3,_⟩:=iU.qp;exact⟨some ⟨bb,off,none⟩,e3,e2⟩
   subst e1;obtain⟨l,o1,_,_,_,e3⟩:=iU.ny;exact⟨_,e3,e2⟩
  obtain⟨q,ex,eb⟩:=ex;have hg:=c8 (P:=P) op t x y (.pointer q) (.pointer none) g.w (by simp) (by simp);refine⟨.bool r,?_,.v trivial⟩;have he:(Op.equal t (.pointer q) (.pointer none)).run P g.w=.ok q.isNone g.w:=by
   have e:∃d,Op.equal t (.pointer q) (.pointer none)=Op.equalIn (d+1) t (.pointer q) (.pointer none):=⟨9999,rfl⟩
   obtain⟨d,e⟩:=e;rw[e];cases q<;>simp[Op.equalIn,Sem.run_bind,run_underlying ht]
  rcases hr with⟨e1,e2⟩|⟨e1,e2⟩<;>subst e1<;>subst e2<;>simp[execOp,ho,ex,ey,hg,binOp,he,eb]
def q8:BinOp->Addr->Addr->Option Bool
 | .eql,a,b=>some (decide (a=b))
 | .neq,a,b=>some (!decide (a=b))
 | _,_,_=>none
theorem z5{P:Program}{o:Oper}{σ:St}{op:BinOp}{t t' e:TypeId}{n:Nat}{x y:Operand}{a b:Addr}{cs ds:List ae}{r:Bool}
  (ho:o.op=.binOp op t x y t') (hd:∀d,o.dst=some d->d<σ.n) (ht:P.underlying t=some (.pointer e)) (hn:∀w,(sizeOf e).run P w=.ok n w) (sr:n≠0) (hx:σ.ev x=some (.ip (some a) cs)) (hy:σ.ev y=some (.ip (some b) ds)) (FA:a.block=b.block)
  (hr:q8 op a b=some r):Cert P o σ (.v (.bool r)) .pure :=
 Cert.bZ .pure (.inl rfl) hd fun ac g _ h _=>by
  have ex:ac.eval x=.pointer (some a):=by
   obtain⟨b1,off,f,e1,e2,_⟩:=(h x (by simp[ho,Op.operands]) _ hx).qp;rcases e2 with e2|e2
   ·cases e2
   rw[e1,e2]
  have ey:ac.eval y=.pointer (some b):=by
   obtain⟨b1,off,f,e1,e2,_⟩:=(h y (by simp[ho,Op.operands]) _ hy).qp;rcases e2 with e2|e2
   ·cases e2
   rw[e1,e2]
  have hg:=c8 (P:=P) op t x y (.pointer (some a)) (.pointer (some b)) g.w (by simp) (by simp);refine⟨.bool r,?_,.v trivial⟩;have he:(Op.equal t (.pointer (some a)) (.pointer (some b))).run P g.w=.ok (decide (a=b)) g.w:=by
   have e0:∃d,Op.equal t (.pointer (some a)) (.pointer (some b))=Op.equalIn (d+1) t (.pointer (some a)) (.pointer (some b)):=⟨9999,rfl⟩
   obtain⟨d,e0⟩:=e0;rw[e0];simp[Op.equalIn,Sem.run_bind,run_underlying ht,hn,sr,sameAddr,FA]
   first
    | rfl
    | exact beq_eq_decide
    | (rw[Bool.eq_iff_iff]
       simp)
  have xy:(op=.eql∧r=decide (a=b))∨(op=.neq∧r=!decide (a=b)):=by
   cases op<;>simp[q8]at hr<;>simp[hr]
  rcases xy with⟨e1,e2⟩|⟨e1,e2⟩<;>subst e1<;>subst e2<;>simp[execOp,ho,ex,ey,hg,binOp,he]
end Go.Av
