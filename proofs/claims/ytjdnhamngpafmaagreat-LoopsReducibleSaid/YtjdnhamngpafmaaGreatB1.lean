/-
  Texts bound together by a program of mine: YtakdmelemfnmdaaAva, YtakdmelemfnmdaaAvb, YtakdmelemfnmdaaAvc, YtakdmelemfnmdaaAvd, YtakdmelemfnmdaaAve, YtakdmelemfnmdaaAvf, YtakdmelemfnmdaaAvg, YtakdmelemfnmdaaAvh, YtakdmelemfnmdaaAvi, YtakdmelemfnmdaaAvj, YtakdmelemfnmdaaAvk, YtakdmelemfnmdaaAvx, YtakdmelemfnmdaaAvy, YtakdmelemfnmdaaAvr.
-/
import Derived.Calls
import Derived.Orders
import Derived.Laws.AppendOwn
import Derived.Laws.OwnMore
import Derived.Laws.CopyRow
import Derived.Laws.Strings
import Derived.Lib.BufferMore
set_option linter.all false

namespace Go.Av
inductive nH where
 | sh
 | ex
 | nn
 | tok (id:Nat)
 | loc (a:Addr)
inductive KT where
 | str
 | int (k:IntKind)
def KT.ok:KT->Value->Prop
 | .str,.string _=>True
 | .int k,.int k' _=>k'=k
 | _,_=>False
inductive ae where
 | v (x:Value)
 | agg (cs:List ae)
 | aB (sz:Nat) (xs:List ae) (o:nH)
 | ip (oa:Option Addr) (cs:List ae)
 | mp (id off:Nat)
 | ms (id off len cap:Nat)
 | os (id len sz:Nat)
 | raw (sz n id:Nat)
 | mm (id:Nat)
 | im (kt:KT) (es:List (Value×ae))
 | fn (f:Fn) (first captured:List ae)
 | cx (vs:List ae)
instance:Inhabited ae:=⟨.v (.bool false)⟩
def ae.cells:ae->List ae
 | .agg cs=>cs
 | x=>[x]
def j8:Value->Prop
 | .int k n=>k.min<=n∧n<=k.max
 | .agg _=>False
 | .tuple _=>False
 | _=>True
def ae.scalar:ae->Prop
 | .agg _=>False
 | .cx _=>False
 | _=>True
inductive ai where
 | cells (cs:List ae)
 | spare (n:Nat)
 | map (kt:KT) (es:List (Value×ae))
 | gone
def ai.live:ai->Prop
 | .gone=>False
 | _=>True
def ai.aD:ai->Prop
 | .spare _=>True
 | _=>False
structure Loc where
 block:Nat
 lo:Nat
 sz:Nat
structure G where
 w:World
 fr:Nat->Nat->Prop
 env:List (Option Loc)
 objs:List ai
def G.cell(g:G)(b off:Nat):Option Value:=g.w.cell? ⟨b,off,none⟩
def jE(g:G)(b off:Nat):Prop :=
 ∃(id:Nat) (l:Loc) (o:ai),g.env[id]?=some (some l)∧g.objs[id]?=some o∧o.live∧l.block=b∧l.lo<=off
def fO(g:G)(b:Nat):Prop :=
 ∃(id:Nat) (l:Loc) (o:ai),g.env[id]?=some (some l)∧g.objs[id]?=some o∧o.live∧l.block=b
def j5(g:G)(b off:Nat):Prop:=g.fr b off∨jE g b off
theorem jE.block{g:G}{b off:Nat}(h:jE g b off):fO g b:=by
 obtain⟨id,l,o,h1,h2,h3,h4,_⟩:=h;exact⟨id,l,o,h1,h2,h3,h4⟩
def al(xs:List ae):List ae:=xs.flatMap ae.cells
def sA(g:G)(o:nH)(a:Addr)(sz len cap:Nat):Prop :=
 match o with
 | .sh=>True
 | .nn=>True
 | .ex=>cap=len
 | .loc a'=>a=a'
 | .tok id=>id<g.objs.length∧∀m:Nat,g.objs[id]?=some (.spare m)->len<=m∧(len=m->cap=len ∨
   ∃(l:Loc) (arr:Array Value) (t:TypeId),g.env[id]?=some (some l)∧a=⟨l.block,0,none⟩∧l.lo=len*sz∧g.w.heap[l.block]?=some (.cells arr t (0,0))∧cap*sz<=arr.size)
inductive RV(g:G):ae->Value->Prop
 | v {x:Value} (h:j8 x):RV g (.v x) x
 | agg {cs:List ae} {vs:Array Value} (hl:vs.size=cs.length) (dk:∀c∈cs,c.scalar)
   (h:∀(i:Nat) c u,cs[i]?=some c->vs[i]?=some u->RV g c u):RV g (.agg cs) (.agg vs)
 | nil {sz:Nat} {o:nH} (ho:∀id,o=.tok id->id<g.objs.length) (hn:o≠.nn):RV g (.aB sz [] o) (.slice none 0 0)
 | aB {sz:Nat} {xs:List ae} {o:nH} {a:Addr} {cap:Nat} (cM:∀x∈xs,x.cells.length=sz) (dk:∀x∈xs,∀c∈x.cells,c.scalar)
   (cL:xs.length<=cap) (cv:xs.length<=2 ^ 62) (hs:xs≠[]->a.spot=none) (f:Nat->Value)
   (hm:∀(j:Nat) (c:ae),(al xs)[j]?=some c->g.cell a.block (a.off+j)=some (f j)∧¬j5 g a.block (a.off+j))
   (hr:∀(j:Nat) (c:ae),(al xs)[j]?=some c->RV g c (f j)) (ho:sA g o a sz xs.length cap):RV g (.aB sz xs o) (.slice (some a) xs.length cap)
 | ip {oa:Option Addr} {cs:List ae} {b off:Nat} (ha:oa=none∨oa=some ⟨b,off,none⟩) (dk:∀c∈cs,c.scalar) (f:Nat->Value)
   (hm:∀(j:Nat) (c:ae),cs[j]?=some c->g.cell b (off+j)=some (f j)∧¬j5 g b (off+j))
   (hr:∀(j:Nat) (c:ae),cs[j]?=some c->RV g c (f j)):RV g (.ip oa cs) (.pointer (some ⟨b,off,none⟩))
 | mp {id off:Nat} {l:Loc} {o:ai} (he:g.env[id]?=some (some l)) (ho:g.objs[id]?=some o) (hn:¬o.aD) :
   RV g (.mp id off) (.pointer (some ⟨l.block,off,none⟩))
 | ms {id off len cap:Nat} {l:Loc} {o:ai} (he:g.env[id]?=some (some l)) (ho:g.objs[id]?=some o) (hn:¬o.aD) {gx:Nat} (hc:len<=cap) (oV:cap<=gx) (cv:len<=2 ^ 62) :
   RV g (.ms id off len cap) (.slice (some ⟨l.block,off,none⟩) len gx)
 | os {id len sz:Nat} {l:Loc} {o:ai} (he:g.env[id]?=some (some l)) (ho:g.objs[id]?=some o) (hn:¬o.aD) {cap:Nat} (hc:len<=cap) (hb:cap*sz<=l.sz) (cv:len<=2 ^ 62) :
   RV g (.os id len sz) (.slice (some ⟨l.block,0,none⟩) len cap)
 | raw {sz n id:Nat} {a:Addr} {cap:Nat} (hn:n<=cap) (ho:sA g (.tok id) a sz 0 cap):RV g (.raw sz n id) (.slice (some a) n cap)
 | mm {id:Nat} {l:Loc} {o:ai} (he:g.env[id]?=some (some l)) (ho:g.objs[id]?=some o) (hn:¬o.aD):RV g (.mm id) (.map (some l.block))
 | im {kt:KT} {es:List (Value×ae)} {r clk:Nat} {arr:Array MapEntry} (hh:g.w.heap[r]?=some (.map arr clk)) (hn:∀off,¬j5 g r off) (hl:arr.size=es.length)
   (hk:∀(i:Nat) e (kx:Value×ae),arr[i]?=some e->es[i]?=some kx->e.key=kx.1) (wF:∀p∈es,kt.ok p.1)
   (hr:∀(i:Nat) e (kx:Value×ae),arr[i]?=some e->es[i]?=some kx->RV g kx.2 e.val):RV g (.im kt es) (.map (some r))
 | fn {f:Fn} {fs cs:List ae} {us vs:Array Value} (hl:us.size=fs.length) (zZ:vs.size=cs.length)
   (h:∀(i:Nat) c u,fs[i]?=some c->us[i]?=some u->RV g c u) (h':∀(i:Nat) c u,cs[i]?=some c->vs[i]?=some u->RV g c u):RV g (.fn f fs cs) (.func f us vs)
 | cx {cs:List ae} {vs:Array Value} (hl:vs.size=cs.length)
   (h:∀(i:Nat) c u,cs[i]?=some c->vs[i]?=some u->RV g c u):RV g (.cx cs) (.tuple vs)
structure Le(g g':G):Prop where
 os:g'.w.os=g.w.os
 tape:g'.w.tape=g.w.tape
 output:g'.w.output=g.w.output
 fr:g'.fr=g.fr
 size:g.w.heap.size<=g'.w.heap.size
 block:∀k,k<g.w.heap.size->¬fO g k->g'.w.heap[k]?=g.w.heap[k]?∧¬fO g' k
 cell:∀b off x,g.cell b off=some x->¬jE g b off->g'.cell b off=some x∧¬jE g' b off
 len:g.objs.length<=g'.objs.length
 spare:∀(id:Nat) (m:Nat),g.objs[id]?=some (.spare m)->(∃m':Nat,g'.objs[id]?=some (.spare m')∧m<=m')∨∃o':ai,g'.objs[id]?=some o'∧¬o'.aD
 plain:∀(id:Nat) (o:ai),g.objs[id]?=some o->¬o.aD->(∃o':ai,g'.objs[id]?=some o'∧¬o'.aD)∧g'.env[id]?=g.env[id]?
 gone:∀id:Nat,g.objs[id]?=some .gone->g'.objs[id]?=some .gone
 tok:∀(id m:Nat),g.objs[id]?=some (.spare m)->g'.objs[id]?=some (.spare m)->g'.env[id]?=g.env[id]?∧∀l:Loc,g.env[id]?=some (some l)->g'.w.heap[l.block]?=g.w.heap[l.block]?
theorem Le.refl(g:G):Le g g where
 os:=rfl
 tape:=rfl
 output:=rfl
 fr:=rfl
 size:=Nat.le_refl _
 block:=fun _ _ h=>⟨rfl,h⟩
 cell:=fun _ _ _ h k=>⟨h,k⟩
 len:=Nat.le_refl _
 spare:=fun _ m h=>.inl ⟨m,h,Nat.le_refl _⟩
 plain:=fun _ o h k=>⟨⟨o,h,k⟩,rfl⟩
 gone:=fun _ h=>h
 tok:=fun _ _ _ _=>⟨rfl,fun _ _=>rfl⟩
theorem Le.trans{a b c:G}(h:Le a b)(k:Le b c):Le a c where
 os:=k.os.trans h.os
 tape:=k.tape.trans h.tape
 output:=k.output.trans h.output
 fr:=k.fr.trans h.fr
 size:=Nat.le_trans h.size k.size
 block:=fun i hi hn=>by
  obtain⟨h1,h2⟩:=h.block i hi hn;obtain⟨k1,k2⟩:=k.block i (Nat.lt_of_lt_of_le hi h.size) h2;exact⟨k1.trans h1,k2⟩
 cell:=fun b off x hx hn=>by
  obtain⟨h1,h2⟩:=h.cell b off x hx hn;exact k.cell b off x h1 h2
 len:=Nat.le_trans h.len k.len
 spare:=fun id m hm=>by
  rcases h.spare id m hm with⟨m',h1,h2⟩|⟨o',h1,h2⟩
  ·rcases k.spare id m' h1 with⟨QT,k1,k2⟩|k1
   ·exact .inl ⟨QT,k1,Nat.le_trans h2 k2⟩
   exact .inr k1
  exact .inr (k.plain id o' h1 h2).1
 plain:=fun id o ho hn=>by
  obtain⟨⟨o',h1,h2⟩,h3⟩:=h.plain id o ho hn;obtain⟨k1,k3⟩:=k.plain id o' h1 h2;exact⟨k1,k3.trans h3⟩
 gone:=fun id hg=>k.gone id (h.gone id hg)
 tok:=fun id m ha hc=>by
  rcases h.spare id m ha with⟨m',h1,h2⟩|⟨o',h1,h2⟩
  ·rcases k.spare id m' h1 with⟨QT,k1,k2⟩|⟨o',k1,k2⟩
   ·rw[k1]at hc;simp only[Option.some.injEq,ai.spare.injEq]at hc;have:m'=m:=by omega
    subst this;subst hc;obtain⟨e1,e2⟩:=h.tok id _ ha h1;obtain⟨e3,e4⟩:=k.tok id _ h1 k1;refine⟨e3.trans e1,fun l hl=>?_⟩;exact(e4 l (e1.trans hl)).trans (e2 l hl)
   rw[k1]at hc;simp only[Option.some.injEq]at hc;exact absurd (hc ▸ trivial) k2
  obtain⟨⟨Ut,k1,k2⟩,_⟩:=k.plain id o' h1 h2;rw[k1]at hc;simp only[Option.some.injEq]at hc;exact absurd (hc ▸ trivial) k2
theorem Le.Uv{g g':G}(h:Le g g'){b off:Nat}{x:Value}(hx:g.cell b off=some x)(hn:¬j5 g b off):g'.cell b off=some x∧¬j5 g' b off:=by
 obtain⟨h1,h2⟩:=h.cell b off x hx fun hh=>hn (.inr hh);refine⟨h1,?_⟩;rintro(hf|hl)
 ·exact hn (.inl (h.fr ▸ hf))
 exact h2 hl
theorem I{α:Type}{l:List α}{i:Nat}{x:α}(h:l[i]?=some x):i<l.length:=by
 rcases Nat.lt_or_ge i l.length with h1|h1
 ·exact h1
 rw[List.getElem?_eq_none h1]at h;cases h
theorem aX{α:Type}{l:Array α}{i:Nat}{x:α}(h:l[i]?=some x):i<l.size:=by
 rcases Nat.lt_or_ge i l.size with h1|h1
 ·exact h1
 rw[Array.getElem?_eq_none h1]at h;cases h
theorem sA.mono{g g':G}(h:Le g g'){o:nH}{a:Addr}{sz len cap:Nat}(k:sA g o a sz len cap):sA g' o a sz len cap:=by
 cases o with
 | sh=>trivial
 | nn=>trivial
 | ex=>exact k
 | loc a=>exact k
 | tok id =>
  obtain⟨a8,hk⟩:=k;refine⟨Nat.lt_of_lt_of_le a8 h.len,fun m' fa=>?_⟩;have ho:g.objs[id]?=some g.objs[id]:=List.getElem?_eq_getElem a8;cases ib:g.objs[id]with
  | spare m =>
   rw[ib]at ho;obtain⟨h1,h2⟩:=hk m ho;rcases h.spare id m ho with⟨QT,k1,k2⟩|⟨o',k1,k2⟩
   ·rw[k1]at fa;simp only[Option.some.injEq,ai.spare.injEq]at fa;subst fa;refine⟨Nat.le_trans h1 k2,fun e=>?_⟩;have TN:m=QT:=by omega
    subst TN;obtain⟨e1,e2⟩:=h.tok id m ho k1;rcases h2 (by omega)with e3|⟨l,arr,t,q1,q2,q3,q4,q5⟩
    ·exact .inl e3
    exact .inr ⟨l,arr,t,e1.trans q1,q2,q3,(e2 l q1).trans q4,q5⟩
   rw[k1]at fa;simp only[Option.some.injEq]at fa;exact absurd (fa ▸ trivial) k2
  | gone =>
   rw[ib]at ho;rw[h.gone id ho]at fa;simp at fa
  | cells cs =>
   rw[ib]at ho;obtain⟨⟨o',q1,q2⟩,_⟩:=h.plain id _ ho (by simp[ai.aD]);rw[q1]at fa;simp only[Option.some.injEq]at fa;subst fa;simp[ai.aD]at q2
  | map kt es =>
   rw[ib]at ho;obtain⟨⟨o',q1,q2⟩,_⟩:=h.plain id _ ho (by simp[ai.aD]);rw[q1]at fa;simp only[Option.some.injEq]at fa;subst fa;simp[ai.aD]at q2
theorem RV.mono{g g':G}(h:Le g g'){x:ae}{u:Value}(k:RV g x u):RV g' x u:=by
 induction k with
 | v hx=>exact .v hx
 | agg hl dk _ ih=>exact .agg hl dk ih
 | nil ho hn=>exact .nil (fun id e=>Nat.lt_of_lt_of_le (ho id e) h.len) hn
 | aB cM dk cL cv hs f hm _ ho ih=>exact .aB cM dk cL cv hs f (fun j c hj=>h.Uv (hm j c hj).1 (hm j c hj).2) ih (ho.mono h)
 | ip ha dk f hm _ ih=>exact .ip ha dk f (fun j c hj=>h.Uv (hm j c hj).1 (hm j c hj).2) ih
 | mp he ho hn =>
  obtain⟨⟨o',q1,q2⟩,q3⟩:=h.plain _ _ ho hn;exact .mp (q3.trans he) q1 q2
 | ms he ho hn hc oV cv =>
  obtain⟨⟨o',q1,q2⟩,q3⟩:=h.plain _ _ ho hn;exact .ms (q3.trans he) q1 q2 hc oV cv
 | os he ho hn hc hb cv =>
  obtain⟨⟨o',q1,q2⟩,q3⟩:=h.plain _ _ ho hn;exact .os (q3.trans he) q1 q2 hc hb cv
 | raw hn ho=>exact .raw hn (ho.mono h)
 | mm he ho hn =>
  obtain⟨⟨o',q1,q2⟩,q3⟩:=h.plain _ _ ho hn;exact .mm (q3.trans he) q1 q2
 | im hh hn hl hk wF _ ih =>
  have a8:=aX hh;rename_i kt es r clk arr _;have hb:¬fO g r:=by
   rintro⟨id,l,o,h1,h2,h3,h4⟩;exact hn l.lo (.inr ⟨id,l,o,h1,h2,h3,h4,Nat.le_refl _⟩)
  obtain⟨q1,q2⟩:=h.block _ a8 hb;refine .im (q1.trans hh) ?_ hl hk wF ih;rintro off (hf|hf)
  ·exact hn off (.inl (h.fr ▸ hf))
  exact q2 hf.block
 | fn hl zZ _ _ ih E4=>exact .fn hl zZ ih E4
 | cx hl _ ih=>exact .cx hl ih
structure Good(g:G):Prop where
 frlt:∀b off,g.fr b off->b<g.w.heap.size
 frown:∀(id:Nat) (l:Loc) (o:ai),g.env[id]?=some (some l)->g.objs[id]?=some o->o.live->∀off,¬g.fr l.block off
 len:g.env.length=g.objs.length
 loc:∀(id:Nat) (l:Loc) (o:ai),g.env[id]?=some (some l)->g.objs[id]?=some o->o.live->l.block<g.w.heap.size
 apart:∀(id ny:Nat) (l l':Loc) (o o':ai),g.env[id]?=some (some l)->g.objs[id]?=some o->o.live->g.env[ny]?=some (some l')->g.objs[ny]?=some o'->o'.live->l.block=l'.block->id=ny
 cells:∀(id:Nat) (cs:List ae),g.objs[id]?=some (.cells cs)->∃(l:Loc) (arr:Array Value) (t:TypeId),g.env[id]?=some (some l)∧l.lo=0∧g.w.heap[l.block]?=some (.cells arr t (0,0))∧cs.length<=arr.size ∧
  (∀(j:Nat) (c:ae) (u:Value),cs[j]?=some c->arr[j]?=some u->RV g c u)∧(∀c∈cs,c.scalar)∧l.sz<=arr.size
 spare:∀(id m:Nat) (l:Loc),g.objs[id]?=some (.spare m)->g.env[id]?=some (some l)->∃(arr:Array Value) (t:TypeId),g.w.heap[l.block]?=some (.cells arr t (0,0))
 map:∀(id:Nat) (kt:KT) (es:List (Value×ae)),g.objs[id]?=some (.map kt es)->∃(l:Loc) (arr:Array MapEntry) (clk:Nat),g.env[id]?=some (some l)∧l.lo=0∧g.w.heap[l.block]?=some (.map arr clk)∧arr.size=es.length∧(∀p∈es,kt.ok p.1) ∧
  ∀(i:Nat) (e:MapEntry) (kx:Value×ae),arr[i]?=some e->es[i]?=some kx->e.key=kx.1∧j8 kx.1∧RV g kx.2 e.val
structure St where
 n:Nat
 bn:List (Nat×ae)
 objs:List ai
def look:List (Nat×ae)->Nat->Option ae
 | [],_=>none
 | (k,x)::r,s=>if k=s then some x else look r s
def bc(d:Nat):List (Nat×ae)->List (Nat×ae)
 | []=>[]
 | (k,x)::r=>if k=d then bc d r else(k,x)::bc d r
def bt(d:Nat)(x:ae)(l:List (Nat×ae)):List (Nat×ae):=(d,x)::bc d l
theorem jA{d s:Nat}(h:d≠s):∀l:List (Nat×ae),look (bc d l) s=look l s
 | []=>rfl
 | (k,x)::r=>by
  have ih:=jA h r;unfold bc;split
  ·rename_i hk;subst hk;simp[look,h,ih]
  simp only[look,ih]
theorem lR{d:Nat}:∀l:List (Nat×ae),look (bc d l) d=none
 | []=>rfl
 | (k,x)::r=>by
  have ih:=lR (d:=d) r;unfold bc;split
  ·exact ih
  rename_i hk;simp[look,hk,ih]
theorem fT(d s:Nat)(x:ae)(l:List (Nat×ae)):look (bt d x l) s=if d=s then some x else look l s:=by
 unfold bt;simp only[look];split
 ·rfl
 rename_i h;exact jA h l
def St.get(σ:St)(s:Nat):Option ae:=look σ.bn s
structure Rel(base:G)(σ:St)(a:Act)(g:G):Prop where
 le:Le base g
 good:Good g
 objs:g.objs=σ.objs
 size:a.tmps.size=σ.n
 defers:a.defers=[]
 slot:∀(s:Nat) (x:ae),σ.get s=some x->∃u,a.tmps[s]?=some u∧RV g x u
theorem Rel.put{base:G}{σ:St}{a:Act}{g g':G}(h:Rel base σ a g)(hl:Le g g')(hg:Good g'){d:Nat}(hd:d<σ.n){r:ae}{u:Value}(hr:RV g' r u) :
  Rel base ⟨σ.n,bt d r σ.bn,g'.objs⟩ (a.put (some d) u) g' where
 le:=h.le.trans hl
 good:=hg
 objs:=rfl
 size:=by simp[Act.put,h.size]
 defers:=by simp[Act.put,h.defers]
 slot:=fun s x hx=>by
  simp only[St.get,fT]at hx;split at hx
  ·rename_i tO;subst tO;simp only[Option.some.injEq]at hx;subst hx;exact⟨u,by simp[Act.put,h.size,hd],hr⟩
  rename_i tO;obtain⟨y,hy,Ua⟩:=h.slot s x hx;exact⟨y,by simp[Act.put,Array.getElem?_setIfInBounds_ne tO,hy],Ua.mono hl⟩
theorem Rel.step{base:G}{σ:St}{a:Act}{g g':G}(h:Rel base σ a g)(hl:Le g g')(hg:Good g'):Rel base ⟨σ.n,σ.bn,g'.objs⟩ a g' where
 le:=h.le.trans hl
 good:=hg
 objs:=rfl
 size:=h.size
 defers:=h.defers
 slot:=fun s x hx=>by
  obtain⟨y,hy,Ua⟩:=h.slot s x hx;exact⟨y,hy,Ua.mono hl⟩
theorem Rel.forget{base:G}{σ:St}{a:Act}{g:G}(h:Rel base σ a g)(d:Nat)(u:Value):Rel base ⟨σ.n,bc d σ.bn,σ.objs⟩ (a.put (some d) u) g where
 le:=h.le
 good:=h.good
 objs:=h.objs
 size:=by simp[Act.put,h.size]
 defers:=by simp[Act.put,h.defers]
 slot:=fun s x hx=>by
  by_cases tO:d=s
  ·subst tO;simp[St.get,lR]at hx
  simp only[St.get,jA tO]at hx;obtain⟨y,hy,Ua⟩:=h.slot s x hx;exact⟨y,by simp[Act.put,Array.getElem?_setIfInBounds_ne tO,hy],Ua⟩
theorem Le.heap{g:G}{w':World}(h1:w'.heap=g.w.heap)(h2:w'.os=g.w.os)(h3:w'.tape=g.w.tape)(h4:w'.output=g.w.output):Le g ⟨w',g.fr,g.env,g.objs⟩ where
 os:=h2
 tape:=h3
 output:=h4
 fr:=rfl
 size:=by simp[h1]
 block:=fun k _ h=>⟨by simp[h1],h⟩
 cell:=fun b off x hx hn=>⟨by simpa[G.cell,World.cell?,h1]using hx,hn⟩
 len:=Nat.le_refl _
 spare:=fun _ m h=>.inl ⟨m,h,Nat.le_refl _⟩
 plain:=fun _ o h k=>⟨⟨o,h,k⟩,rfl⟩
 gone:=fun _ h=>h
 tok:=fun _ _ _ _=>⟨rfl,fun _ _=>by simp[h1]⟩
theorem Good.heap{g:G}{w':World}(hg:Good g)(h1:w'.heap=g.w.heap)(h2:w'.os=g.w.os)(h3:w'.tape=g.w.tape)(h4:w'.output=g.w.output):Good ⟨w',g.fr,g.env,g.objs⟩ where
 frlt:=fun b off h=>by simpa[h1]using hg.frlt b off h
 frown:=hg.frown
 len:=hg.len
 loc:=fun id l o a b c=>by simpa[h1]using hg.loc id l o a b c
 apart:=hg.apart
 cells:=fun id cs h=>by
  obtain⟨l,arr,t,e1,e0,e2,e3,e4,e5⟩:=hg.cells id cs h;exact⟨l,arr,t,e1,e0,by simpa[h1]using e2,e3,fun j c u a b=>(e4 j c u a b).mono (Le.heap h1 h2 h3 h4),e5⟩
 spare:=fun id m l a b=>by simpa[h1]using hg.spare id m l a b
 map:=fun id kt es h=>by
  obtain⟨l,arr,clk,e1,e0,e2,e3,e6,e4⟩:=hg.map id kt es h;exact⟨l,arr,clk,e1,e0,by simpa[h1]using e2,e3,e6,fun i e kx a b=>⟨(e4 i e kx a b).1,(e4 i e kx a b).2.1,(e4 i e kx a b).2.2.mono (Le.heap h1 h2 h3 h4)⟩⟩
theorem cH(w:World)(o:Obj){k:Nat}(h:k<w.heap.size):(w.alloc o).heap[k]?=w.heap[k]?:=by
 simp only[World.alloc];rw[Array.getElem?_push,if_neg (by omega)]
theorem cG(w:World)(o:Obj):(w.alloc o).heap[w.heap.size]?=some o:=by
 simp only[World.alloc];rw[Array.getElem?_push,if_pos rfl]
theorem oL{g:G}{b off:Nat}{x:Value}(h:g.cell b off=some x):b<g.w.heap.size:=by
 simp only[G.cell,World.cell?]at h;split at h
 ·rename_i hh;exact aX hh
 cases h
theorem jb{w w':World}{b:Nat}(h:w'.heap[b]?=w.heap[b]?)(off:Nat):w'.cell? ⟨b,off,none⟩=w.cell? ⟨b,off,none⟩:=by
 simp only[World.cell?,h]
def G.push(g:G)(o:Obj):G:=⟨g.w.alloc o,g.fr,g.env,g.objs⟩
theorem Le.push(g:G)(hg:Good g)(o:Obj):Le g (g.push o) where
 os:=rfl
 tape:=rfl
 output:=rfl
 fr:=rfl
 size:=by show g.w.heap.size<=(g.w.heap.push o).size;rw[Array.size_push];omega
 block:=fun k hk h=>⟨cH _ _ hk,h⟩
 cell:=fun b off x hx hn=>⟨by
  have:=oL hx;simpa[G.cell,G.push,jb (cH g.w o this)]using hx,hn⟩
 len:=Nat.le_refl _
 spare:=fun _ m h=>.inl ⟨m,h,Nat.le_refl _⟩
 plain:=fun _ o h k=>⟨⟨o,h,k⟩,rfl⟩
 gone:=fun _ h=>h
 tok:=fun id m h _=>⟨rfl,fun l hl=>cH _ _ (hg.loc id l _ hl h trivial)⟩
theorem Good.push{g:G}(hg:Good g)(o:Obj):Good (g.push o) where
 frlt:=fun b off h=>by
  have:=hg.frlt b off h;show b<(g.w.heap.push o).size;rw[Array.size_push];omega
 frown:=hg.frown
 len:=hg.len
 loc:=fun id l o' a b c=>by
  have:=hg.loc id l o' a b c;show l.block<(g.w.heap.push o).size;rw[Array.size_push];omega
 apart:=hg.apart
 cells:=fun id cs h=>by
  obtain⟨l,arr,t,e1,e0,e2,e3,e4,e5⟩:=hg.cells id cs h;exact⟨l,arr,t,e1,e0,(cH _ _ (aX e2)).trans e2,e3,fun j c u a b=>(e4 j c u a b).mono (Le.push g hg o),e5⟩
 spare:=fun id m l a b=>by
  obtain⟨arr,t,e⟩:=hg.spare id m l a b;exact⟨arr,t,(cH _ _ (aX e)).trans e⟩
 map:=fun id kt es h=>by
  obtain⟨l,arr,clk,e1,e0,e2,e3,e6,e4⟩:=hg.map id kt es h;exact⟨l,arr,clk,e1,e0,(cH _ _ (aX e2)).trans e2,e3,e6,fun i e kx a b=>⟨(e4 i e kx a b).1,(e4 i e kx a b).2.1,(e4 i e kx a b).2.2.mono (Le.push g hg o)⟩⟩
def G.add(g:G)(l:Option Loc)(o:ai):G:=⟨g.w,g.fr,g.env++[l],g.objs++[o]⟩
theorem aO{α:Type}{l:List α}{x:α}{i:Nat}{y:α}(h:(l++[x])[i]?=some y):l[i]?=some y∨(i=l.length∧y=x):=by
 rw[List.getElem?_append]at h;split at h
 ·exact .inl h
 rename_i hh;have:i-l.length<1:=by
  rcases Nat.lt_or_ge (i-l.length) 1 with q|q
  ·exact q
  rw[List.getElem?_eq_none (by simpa using q)]at h;cases h
 have e:i=l.length:=by omega
 subst e;simp at h;exact .inr ⟨rfl,h.symm⟩
theorem da{α:Type}{l:List α}{x:α}{i:Nat}{y:α}(h:l[i]?=some y):(l++[x])[i]?=some y:=by
 rw[List.getElem?_append,if_pos (I h)];exact h
theorem jE.add{g:G}(hg:Good g){l:Option Loc}{o:ai}{b off:Nat}(h:jE (g.add l o) b off):jE g b off∨∃l',l=some l'∧o.live∧l'.block=b∧l'.lo<=off:=by
 obtain⟨id,l',o',h1,h2,h3,h4,h5⟩:=h;rcases aO h1 with q1|⟨q1,Pr⟩
 ·rcases aO h2 with q2|⟨q2,MY⟩
  ·exact .inl ⟨id,l',o',q1,q2,h3,h4,h5⟩
  have:=I q1;have:=hg.len;omega
 rcases aO h2 with q2|⟨q2,MY⟩
 ·have:=I q2;have:=hg.len;omega
 subst MY;exact .inr ⟨l',Pr.symm,h3,h4,h5⟩
theorem fO.add{g:G}(hg:Good g){l:Option Loc}{o:ai}{b:Nat}(h:fO (g.add l o) b):fO g b∨∃l',l=some l'∧o.live∧l'.block=b:=by
 obtain⟨id,l',o',h1,h2,h3,h4⟩:=h;rcases jE.add hg ⟨id,l',o',h1,h2,h3,h4,Nat.le_refl _⟩with q|⟨q,q1,q2,q3,_⟩
 ·exact .inl q.block
 exact .inr ⟨q,q1,q2,q3⟩
def l6:Obj->Nat
 | .cells arr _=>arr.size
 | _=>0
def G.alloc(g:G)(ob:Obj)(lo:Nat)(o:ai):G:=⟨g.w.alloc ob,g.fr,g.env++[some ⟨g.w.heap.size,lo,l6 ob⟩],g.objs++[o]⟩
def G.mark(g:G)(o:ai):G:=⟨g.w,g.fr,g.env++[none],g.objs++[o]⟩
theorem Le.HP{g g':G}(hg:Good g)(l:Option Loc)(o:ai)(h:Le g g')(he:g'.env=g.env)(ho:g'.objs=g.objs)
  (hn:∀l',l=some l'->g.w.heap.size<=l'.block):Le g (g'.add l o) where
 os:=h.os
 tape:=h.tape
 output:=h.output
 fr:=h.fr
 size:=h.size
 block:=fun k hk hh=>⟨(h.block k hk hh).1,fun q=>by
  obtain⟨id,l',o',h1,h2,h3,h4⟩:=q;rw[show(g'.add l o).env=g.env++[l] by simp[G.add,he]]at h1;rw[show(g'.add l o).objs=g.objs++[o] by simp[G.add,ho]]at h2;rcases fO.add (l:=l) (o:=o) (b:=k) hg ⟨id,l',o',h1,h2,h3,h4⟩with q|⟨l',q1,_,q3⟩
  ·exact hh q
  have:=hn l' q1;omega⟩
 cell:=fun b off x hx hh=>⟨(h.cell b off x hx hh).1,fun q=>by
  obtain⟨id,l',o',h1,h2,h3,h4⟩:=q;rw[show(g'.add l o).env=g.env++[l] by simp[G.add,he]]at h1;rw[show(g'.add l o).objs=g.objs++[o] by simp[G.add,ho]]at h2;have hk:=oL hx;rcases jE.add (l:=l) (o:=o) (b:=b) (off:=off) hg ⟨id,l',o',h1,h2,h3,h4⟩with q|⟨l',q1,_,q3,_⟩
  ·exact hh q
  have:=hn l' q1;omega⟩
 len:=by simp[G.add,ho]
 spare:=fun id m hm=>.inl ⟨m,by simp only[G.add,ho];exact da hm,Nat.le_refl _⟩
 plain:=fun id o' iT k=>⟨⟨o',by simp only[G.add,ho];exact da iT,k⟩,by
  have a8:=I iT;simp only[G.add,he];rw[List.getElem?_append,if_pos (by have:=hg.len;omega)]⟩
 gone:=fun id hm=>by simp only[G.add,ho];exact da hm
 tok:=fun id m hm _=>⟨by
  have a8:=I hm;simp only[G.add,he];rw[List.getElem?_append,if_pos (by have:=hg.len;omega)],fun l hl=>(h.tok id m hm (by rw[ho];exact hm)).2 l hl⟩
theorem Le.alloc{g:G}(hg:Good g)(ob:Obj)(lo:Nat)(o:ai):Le g (g.alloc ob lo o) :=
 Le.HP (g':=g.push ob) hg (some ⟨g.w.heap.size,lo,l6 ob⟩) o (Le.push g hg ob) rfl rfl (fun l' h=>by simp at h;subst h;exact Nat.le_refl _)
theorem Le.mark{g:G}(hg:Good g)(o:ai):Le g (g.mark o) :=
 Le.HP (g':=g) hg none o (Le.refl g) rfl rfl (fun l' h=>by simp at h)
def Fits(g':G)(ob:Obj)(o:ai):Prop :=
 match o with
 | .cells cs=>∃(arr:Array Value) (t:TypeId),ob=.cells arr t (0,0)∧cs.length<=arr.size∧(∀(j:Nat) (c:ae) (u:Value),cs[j]?=some c->arr[j]?=some u->RV g' c u)∧∀c∈cs,c.scalar
 | .spare _=>∃(arr:Array Value) (t:TypeId),ob=.cells arr t (0,0)
 | .map kt es=>∃(arr:Array MapEntry) (clk:Nat),ob=.map arr clk∧arr.size=es.length∧(∀p∈es,kt.ok p.1) ∧
   ∀(i:Nat) (e:MapEntry) (kx:Value×ae),arr[i]?=some e->es[i]?=some kx->e.key=kx.1∧j8 kx.1∧RV g' kx.2 e.val
 | .gone=>True
theorem Good.alloc{g:G}(hg:Good g)(ob:Obj)(lo:Nat)(o:ai)(iJ:o.aD∨lo=0)(hf:Fits (g.alloc ob lo o) ob o):Good (g.alloc ob lo o) where
 frlt:=fun b off h=>by
  have:=hg.frlt b off h;show b<(g.w.heap.push ob).size;rw[Array.size_push];omega
 frown:=fun id l o' a b c off hf=>by
  rcases aO a with a|⟨a,a'⟩
  ·rcases aO b with b|⟨b,b'⟩
   ·exact hg.frown id l o' a b c off hf
   have:=I a;have:=hg.len;omega
  simp only[Option.some.injEq]at a';subst a';have fi:g.fr g.w.heap.size off:=hf;have:=hg.frlt _ _ fi;omega
 len:=by simp[G.alloc,hg.len]
 loc:=fun id l o' a b c=>by
  show l.block<(g.w.heap.push ob).size;rw[Array.size_push];rcases aO a with a|⟨a,a'⟩
  ·rcases aO b with b|⟨b,b'⟩
   ·have:=hg.loc id l o' a b c;omega
   have:=I a;have:=hg.len;omega
  simp only[Option.some.injEq]at a';subst a';show g.w.heap.size<_;omega
 apart:=fun id ny l l' o' Ut a b c a' b' c' hb=>by
  rcases aO a with a|⟨a1,a2⟩
  ·rcases aO a' with a'|⟨RH,Ss⟩
   ·rcases aO b with b|⟨b1,b2⟩
    ·rcases aO b' with b'|⟨Xz,XA⟩
     ·exact hg.apart id ny l l' o' Ut a b c a' b' c' hb
     have:=I a';have:=hg.len;omega
    have:=I a;have:=hg.len;omega
   simp only[Option.some.injEq]at Ss;subst Ss;rcases aO b with b|⟨b1,b2⟩
   ·have:=hg.loc id l o' a b c;simp at hb;omega
   have:=I a;have:=hg.len;omega
  rcases aO a' with a'|⟨RH,Ss⟩
  ·simp only[Option.some.injEq]at a2;subst a2;rcases aO b' with b'|⟨Xz,XA⟩
   ·have:=hg.loc ny l' Ut a' b' c';simp at hb;omega
   have:=I a';have:=hg.len;omega
  omega
 cells:=fun id cs h=>by
  rcases aO h with h|⟨hq,h'⟩
  ·obtain⟨l,arr,t,e1,e0,e2,e3,e4,e5⟩:=hg.cells id cs h;exact⟨l,arr,t,da e1,e0,(cH _ _ (aX e2)).trans e2,e3,fun j c u a b=>(e4 j c u a b).mono (Le.alloc hg ob lo o),e5⟩
  subst h';obtain⟨arr,t,e1,e2,e3,e4⟩:=hf;refine⟨⟨g.w.heap.size,lo,l6 ob⟩,arr,t,?_,?_,?_,e2,e3,e4,by rw[e1];exact Nat.le_refl _⟩
  ·subst hq;simp only[G.alloc];rw[<-hg.len];simp
  ·rcases iJ with q|q
   ·exact q.elim
   exact q
  rw[<-e1];exact cG _ _
 spare:=fun id m l a b=>by
  rcases aO a with a|⟨a,a'⟩
  ·rcases aO b with b|⟨b1,b2⟩
   ·obtain⟨arr,t,e⟩:=hg.spare id m l a b;exact⟨arr,t,(cH _ _ (aX e)).trans e⟩
   have:=I a;have:=hg.len;omega
  rcases aO b with b|⟨b1,b2⟩
  ·have:=I b;have:=hg.len;omega
  subst a';simp only[Option.some.injEq]at b2;subst b2;obtain⟨arr,t,e⟩:=hf;exact⟨arr,t,by rw[<-e];exact cG _ _⟩
 map:=fun id kt es h=>by
  rcases aO h with h|⟨hq,h'⟩
  ·obtain⟨l,arr,clk,e1,e0,e2,e3,e6,e4⟩:=hg.map id kt es h;exact⟨l,arr,clk,da e1,e0,(cH _ _ (aX e2)).trans e2,e3,e6,fun i e kx a b=>⟨(e4 i e kx a b).1,(e4 i e kx a b).2.1,(e4 i e kx a b).2.2.mono (Le.alloc hg ob lo o)⟩⟩
  subst h';obtain⟨arr,clk,e1,e2,e3⟩:=hf;refine⟨⟨g.w.heap.size,lo,l6 ob⟩,arr,clk,?_,?_,?_,e2,e3⟩
  ·subst hq;simp only[G.alloc];rw[<-hg.len];simp
  ·rcases iJ with q|q
   ·exact q.elim
   exact q
  rw[<-e1];exact cG _ _
theorem Good.mark{g:G}(hg:Good g)(m:Nat):Good (g.mark (.spare m)) where
 frlt:=hg.frlt
 frown:=fun id l o' a b c off hf=>by
  rcases aO a with a|⟨a,a'⟩
  ·rcases aO b with b|⟨b,b'⟩
   ·exact hg.frown id l o' a b c off hf
   have:=I a;have:=hg.len;omega
  cases a'
 len:=by simp[G.mark,hg.len]
 loc:=fun id l o' a b c=>by
  rcases aO a with a|⟨a,a'⟩
  ·rcases aO b with b|⟨b,b'⟩
   ·exact hg.loc id l o' a b c
   have:=I a;have:=hg.len;omega
  cases a'
 apart:=fun id ny l l' o' Ut a b c a' b' c' hb=>by
  rcases aO a with a|⟨a1,a2⟩
  ·rcases aO a' with a'|⟨RH,Ss⟩
   ·rcases aO b with b|⟨b1,b2⟩
    ·rcases aO b' with b'|⟨Xz,XA⟩
     ·exact hg.apart id ny l l' o' Ut a b c a' b' c' hb
     have:=I a';have:=hg.len;omega
    have:=I a;have:=hg.len;omega
   cases Ss
  cases a2
 cells:=fun id cs h=>by
  rcases aO h with h|⟨h,h'⟩
  ·obtain⟨l,arr,t,e1,e0,e2,e3,e4,e5⟩:=hg.cells id cs h;exact⟨l,arr,t,da e1,e0,e2,e3,fun j c u a b=>(e4 j c u a b).mono (Le.mark hg _),e5⟩
  cases h'
 spare:=fun id m' l a b=>by
  rcases aO b with b|⟨b1,b2⟩
  ·rcases aO a with a|⟨a,a'⟩
   ·exact hg.spare id m' l a b
   have:=I b;have:=hg.len;omega
  cases b2
 map:=fun id kt es h=>by
  rcases aO h with h|⟨h,h'⟩
  ·obtain⟨l,arr,clk,e1,e0,e2,e3,e6,e4⟩:=hg.map id kt es h;exact⟨l,arr,clk,da e1,e0,e2,e3,e6,fun i e kx a b=>⟨(e4 i e kx a b).1,(e4 i e kx a b).2.1,(e4 i e kx a b).2.2.mono (Le.mark hg _)⟩⟩
  cases h'
def G.bw(g:G)(id:Nat)(l':Option Loc)(o':ai)(w':World):G:=⟨w',g.fr,g.env.set id l',g.objs.set id o'⟩
structure lb(g:G)(id:Nat)(o:ai)(l':Option Loc)(o':ai)(w':World):Prop where
 obj:g.objs[id]?=some o
 os:w'.os=g.w.os
 tape:w'.tape=g.w.tape
 output:w'.output=g.w.output
 size:g.w.heap.size<=w'.heap.size
 block:∀k,k<g.w.heap.size->(∀l:Loc,g.env[id]?=some (some l)->o.live->l.block≠k)->w'.heap[k]?=g.w.heap[k]?
 cell:∀b off x,g.cell b off=some x->(∀l:Loc,g.env[id]?=some (some l)->o.live->l.block=b->off<l.lo)->w'.cell? ⟨b,off,none⟩=some x
 place:∀l1:Loc,l'=some l1->o'.live->g.w.heap.size<=l1.block∨∃l:Loc,g.env[id]?=some (some l)∧o.live∧l.block=l1.block∧l.lo<=l1.lo
 spare:∀m,o=.spare m->(∃m',o'=.spare m'∧m<m')∨¬o'.aD
 plain:¬o.aD->¬o'.aD∧g.env[id]?=some l'
 gone:o≠.gone
theorem iF{g:G}(hg:Good g){id:Nat}{o:ai}(h:g.objs[id]?=some o):id<g.env.length:=by
 have:=I h;have:=hg.len;omega
theorem jE.bw{g:G}{id:Nat}{o:ai}{l':Option Loc}{o':ai}{w':World}(hg:Good g)(ht:lb g id o l' o' w'){b off:Nat}(h:jE (g.bw id l' o' w') b off) :
  jE g b off∨g.w.heap.size<=b:=by
 obtain⟨i,l1,o1,h1,h2,h3,h4,h5⟩:=h;simp only[G.bw]at h1 h2;by_cases e:id=i
 ·subst e;rw[List.getElem?_set_self (iF hg ht.obj)]at h1;rw[List.getElem?_set_self (I ht.obj)]at h2;simp only[Option.some.injEq]at h1 h2;subst h2;rcases ht.place l1 h1 h3 with q|⟨l,q1,q2,q3,q4⟩
  ·exact .inr (h4 ▸ q)
  exact .inl ⟨id,l,o,q1,ht.obj,q2,q3.trans h4,Nat.le_trans q4 h5⟩
 rw[List.getElem?_set_ne e]at h1 h2;exact .inl ⟨i,l1,o1,h1,h2,h3,h4,h5⟩
theorem fO.bw{g:G}{id:Nat}{o:ai}{l':Option Loc}{o':ai}{w':World}(hg:Good g)(ht:lb g id o l' o' w'){b:Nat}(h:fO (g.bw id l' o' w') b) :
  fO g b∨g.w.heap.size<=b:=by
 obtain⟨i,l1,o1,h1,h2,h3,h4⟩:=h;rcases jE.bw hg ht ⟨i,l1,o1,h1,h2,h3,h4,Nat.le_refl _⟩with q|q
 ·exact .inl q.block
 exact .inr q
theorem Le.bw{g:G}{id:Nat}{o:ai}{l':Option Loc}{o':ai}{w':World}(hg:Good g)(ht:lb g id o l' o' w'):Le g (g.bw id l' o' w') where
 os:=ht.os
 tape:=ht.tape
 output:=ht.output
 fr:=rfl
 size:=ht.size
 block:=fun k hk hn=>⟨ht.block k hk fun l hl lv e=>hn ⟨id,l,o,hl,ht.obj,lv,e⟩,fun hh=>by
  rcases fO.bw hg ht hh with q|q
  ·exact hn q
  omega⟩
 cell:=fun b off x hx hn=>⟨ht.cell b off x hx fun l hl lv e=>by
   rcases Nat.lt_or_ge off l.lo with q|q
   ·exact q
   exact absurd ⟨id,l,o,hl,ht.obj,lv,e,q⟩ hn,fun hh=>by
  rcases jE.bw hg ht hh with q|q
  ·exact hn q
  have:=oL hx;omega⟩
 len:=by simp[G.bw]
 spare:=fun i m hm=>by
  by_cases e:id=i
  ·subst e;have fa:=hm.symm.trans ht.obj;simp only[Option.some.injEq]at fa;rcases ht.spare m fa.symm with⟨m',q1,q2⟩|q1
   ·exact .inl ⟨m',by simp only[G.bw];rw[List.getElem?_set_self (I ht.obj),q1],by omega⟩
   exact .inr ⟨o',by simp only[G.bw];rw[List.getElem?_set_self (I ht.obj)],q1⟩
  exact .inl ⟨m,by simp only[G.bw];rw[List.getElem?_set_ne e];exact hm,Nat.le_refl _⟩
 plain:=fun i o1 ho hn=>by
  by_cases e:id=i
  ·subst e;have iT:=ho.symm.trans ht.obj;simp only[Option.some.injEq]at iT;subst iT;obtain⟨q1,q2⟩:=ht.plain hn;exact⟨⟨o',by simp only[G.bw];rw[List.getElem?_set_self (I ht.obj)],q1⟩,by simp only[G.bw];rw[List.getElem?_set_self (iF hg ht.obj),q2]⟩
  exact⟨⟨o1,by simp only[G.bw];rw[List.getElem?_set_ne e];exact ho,hn⟩,by simp only[G.bw];rw[List.getElem?_set_ne e]⟩
 gone:=fun i hi=>by
  by_cases e:id=i
  ·subst e;have:=hi.symm.trans ht.obj;simp only[Option.some.injEq]at this;exact absurd this.symm ht.gone
  simp only[G.bw];rw[List.getElem?_set_ne e];exact hi
 tok:=fun i m hm fa=>by
  by_cases e:id=i
  ·subst e;have h1:=hm.symm.trans ht.obj;simp only[Option.some.injEq]at h1;simp only[G.bw]at fa;rw[List.getElem?_set_self (I ht.obj)]at fa;simp only[Option.some.injEq]at fa;rcases ht.spare m h1.symm with⟨m',q1,q2⟩|q1
   ·rw[q1]at fa;simp only[ai.spare.injEq]at fa;omega
   exact absurd (fa ▸ trivial) q1
  refine⟨by simp only[G.bw];rw[List.getElem?_set_ne e],fun l hl=>ht.block _ (hg.loc i l _ hl hm trivial) fun l1 OS lv eb=>?_⟩;exact e (hg.apart id i l1 l o _ OS ht.obj lv hl hm trivial eb)
def Pz(g':G)(l':Option Loc)(o:ai):Prop :=
 match o with
 | .cells cs=>∃(l:Loc) (arr:Array Value) (t:TypeId),l'=some l∧l.lo=0∧g'.w.heap[l.block]?=some (.cells arr t (0,0))∧cs.length<=arr.size ∧
   (∀(j:Nat) (c:ae) (u:Value),cs[j]?=some c->arr[j]?=some u->RV g' c u)∧(∀c∈cs,c.scalar)∧l.sz<=arr.size
 | .spare _=>∀l,l'=some l->∃(arr:Array Value) (t:TypeId),g'.w.heap[l.block]?=some (.cells arr t (0,0))
 | .map kt es=>∃(l:Loc) (arr:Array MapEntry) (clk:Nat),l'=some l∧l.lo=0∧g'.w.heap[l.block]?=some (.map arr clk)∧arr.size=es.length∧(∀p∈es,kt.ok p.1) ∧
   ∀(i:Nat) (e:MapEntry) (kx:Value×ae),arr[i]?=some e->es[i]?=some kx->e.key=kx.1∧j8 kx.1∧RV g' kx.2 e.val
 | .gone=>True
theorem Good.bw{g:G}{id:Nat}{o:ai}{l':Option Loc}{o':ai}{w':World}(hg:Good g)(ht:lb g id o l' o' w')(hf:Pz (g.bw id l' o' w') l' o')
  (cM:∀l1,l'=some l1->o'.live->l1.block<w'.heap.size):Good (g.bw id l' o' w'):=by
 have hle:=Le.bw hg ht;have A1:∀i l1,i≠id->(g.bw id l' o' w').env[i]?=some (some l1)->g.env[i]?=some (some l1):=fun i l1 bD h=>by
  simp only[G.bw]at h
  rwa [List.getElem?_set_ne (Ne.symm bD)]at h
 have ib:∀i o1,i≠id->(g.bw id l' o' w').objs[i]?=some o1->g.objs[i]?=some o1:=fun i l1 bD h=>by
  simp only[G.bw]at h
  rwa [List.getElem?_set_ne (Ne.symm bD)]at h
 have A2:∀l1,(g.bw id l' o' w').env[id]?=some l1->l'=l1:=fun l1 h=>by
  simp only[G.bw]at h;rw[List.getElem?_set_self (iF hg ht.obj)]at h;simpa using h
 have uY:∀o1,(g.bw id l' o' w').objs[id]?=some o1->o'=o1:=fun l1 h=>by
  simp only[G.bw]at h;rw[List.getElem?_set_self (I ht.obj)]at h;simpa using h
 have yO:∀i l1 o1,i≠id->g.env[i]?=some (some l1)->g.objs[i]?=some o1->o1.live->w'.heap[l1.block]?=g.w.heap[l1.block]?:=fun i l1 o1 bD h1 h2 h3 =>
  ht.block _ (hg.loc i l1 o1 h1 h2 h3) fun l2 yR lv eb=>bD (hg.apart id i l2 l1 o o1 yR ht.obj lv h1 h2 h3 eb).symm
 refine⟨fun b off h=>Nat.lt_of_lt_of_le (hg.frlt b off h) ht.size,?_,?_,?_,?_,?_,?_,?_⟩
 ·intro i l1 o1 h1 h2 h3 off Tm;have nD:g.fr l1.block off:=Tm;by_cases e:i=id
  ·subst e;have q1:=A2 _ h1;have q2:=uY _ h2;subst q2;rcases ht.place l1 q1 h3 with q|⟨l,p1,p2,p3,_⟩
   ·have:=hg.frlt _ _ nD;omega
   exact hg.frown i l o p1 ht.obj p2 off (p3 ▸ nD)
  exact hg.frown i l1 o1 (A1 i l1 e h1) (ib i o1 e h2) h3 off nD
 ·simp[G.bw,hg.len]
 ·intro i l1 o1 h1 h2 h3;by_cases e:i=id
  ·subst e;have:=A2 _ h1;have:=uY _ h2;subst this;exact cM l1 (by assumption) h3
  have:=hg.loc i l1 o1 (A1 i l1 e h1) (ib i o1 e h2) h3;exact Nat.lt_of_lt_of_le this ht.size
 ·intro i j l1 l2 o1 o2 h1 h2 h3 k1 k2 k3 hb;by_cases e:i=id
  ·by_cases e':j=id
   ·omega
   subst e;have q1:=A2 _ h1;have q2:=uY _ h2;subst q2;have r1:=A1 j l2 e' k1;have r2:=ib j o2 e' k2;rcases ht.place l1 q1 h3 with q|⟨l,p1,p2,p3,_⟩
   ·have:=hg.loc j l2 o2 r1 r2 k3;omega
   exact hg.apart i j l l2 o o2 p1 ht.obj p2 r1 r2 k3 (p3.trans hb)
  by_cases e':j=id
  ·subst e';have q1:=A2 _ k1;have q2:=uY _ k2;subst q2;have r1:=A1 i l1 e h1;have r2:=ib i o1 e h2;rcases ht.place l2 q1 k3 with q|⟨l,p1,p2,p3,_⟩
   ·have:=hg.loc i l1 o1 r1 r2 h3;omega
   exact hg.apart i j l1 l o1 o r1 r2 h3 p1 ht.obj p2 (hb.trans p3.symm)
  exact hg.apart i j l1 l2 o1 o2 (A1 i l1 e h1) (ib i o1 e h2) h3 (A1 j l2 e' k1) (ib j o2 e' k2) k3 hb
 ·intro i cs h;by_cases e:i=id
  ·subst e;have q:=uY _ h;subst q;obtain⟨l,arr,t,p1,p2,p3,p4,p5,p6⟩:=hf;exact⟨l,arr,t,by simp only[G.bw];rw[List.getElem?_set_self (iF hg ht.obj),p1],p2,p3,p4,p5,p6⟩
  obtain⟨l,arr,t,p1,p2,p3,p4,p5,p6⟩:=hg.cells i cs (ib i _ e h);exact⟨l,arr,t,by simp only[G.bw];rw[List.getElem?_set_ne (Ne.symm e)];exact p1,p2,(yO i l _ e p1 (ib i _ e h) trivial).trans p3,p4,fun j c u a b=>(p5 j c u a b).mono hle,p6⟩
 ·intro i m l1 h h1;by_cases e:i=id
  ·subst e;have q:=uY _ h;subst q;exact hf l1 (A2 _ h1)
  obtain⟨arr,t,p⟩:=hg.spare i m l1 (ib i _ e h) (A1 i l1 e h1);exact⟨arr,t,(yO i l1 _ e (A1 i l1 e h1) (ib i _ e h) trivial).trans p⟩
 intro i kt es h;by_cases e:i=id
 ·subst e;have q:=uY _ h;subst q;obtain⟨l,arr,clk,p1,p2,p3,p4,p6,p5⟩:=hf;exact⟨l,arr,clk,by simp only[G.bw];rw[List.getElem?_set_self (iF hg ht.obj),p1],p2,p3,p4,p6,p5⟩
 obtain⟨l,arr,clk,p1,p2,p3,p4,p6,p5⟩:=hg.map i kt es (ib i _ e h);exact⟨l,arr,clk,by simp only[G.bw];rw[List.getElem?_set_ne (Ne.symm e)];exact p1,p2,(yO i l _ e p1 (ib i _ e h) trivial).trans p3,p4,p6,fun j e kx a b=>⟨(p5 j e kx a b).1,(p5 j e kx a b).2.1,(p5 j e kx a b).2.2.mono hle⟩⟩
end Go.Av
namespace Go.Av
inductive TD where
 | other
 | struct (fs:List (Nat×TypeId))
 | slice (e:TypeId)
 | array (n:Nat) (e:TypeId)
 | map (k e:TypeId)
structure cc where
 size:Nat
 bytes:Nat
 zero:List ae
 desc:TD
def TD.agg:TD->Bool
 | .struct _ | .array _ _=>true
 | _=>false
def rX(d:TypeDesc):TD->Prop
 | .struct fs=>∃fields:Array Field,d=.struct fields∧fields.toList.map (fun f=>(f.offset,f.type))=fs
 | .slice e=>d=.slice e
 | .array n e=>d=.array n e
 | .map k e=>d=.map k e
 | .other=>(match d with | .struct _=>False | .array _ _=>False | _=>True)
structure Er(P:Program)(t:TypeId)(ti:cc):Prop where
 info:∃(i:TypeInfo) (z:Value),P.info? t=some i∧i.size=ti.size∧i.bytes=ti.bytes∧i.zero=some z∧z.cells.size=ti.zero.length∧ti.zero.length=ti.size ∧
  ((ti.desc.agg=true->∃cs,z=.agg cs)∧(ti.desc.agg=false->z.cells = #[z]))∧(∀g:G,∀(j:Nat) (c:ae) (u:Value),ti.zero[j]?=some c->z.cells[j]?=some u->RV g c u)∧∀c∈ti.zero,c.scalar
 desc:∃d,P.underlying t=some d∧rX d ti.desc
abbrev eh:=TypeId->Option cc
def b7(P:Program)(aT:eh):Prop:=∀t ti,aT t=some ti->Er P t ti
def Lr:IntKind->Int
 | .i8=>-128
 | .i16=>-32768
 | .i32=>-2147483648
 | .i64=>-9223372036854775808
 | _=>0
def Gk:IntKind->Int
 | .i8=>127
 | .i16=>32767
 | .i32=>2147483647
 | .i64=>9223372036854775807
 | .u8=>255
 | .u16=>65535
 | .u32=>4294967295
 | .u64=>18446744073709551615
theorem yZ(k:IntKind):Lr k=k.min:=by cases k<;>rfl
theorem yQ(k:IntKind):Gk k=k.max:=by cases k<;>rfl
def rO:Value->Option ae
 | .int k n=>if Lr k<=n∧n<=Gk k then some (.v (.int k n))else none
 | .agg _=>none
 | .tuple _=>none
 | x=>some (.v x)
def St.ev(σ:St):Operand->Option ae
 | .tmp t=>σ.get t
 | .const x=>rO x
 | .func f=>some (.fn (.func f) [] [])
 | .global _=>none
theorem Rel.eval{base:G}{σ:St}{a:Act}{g:G}(h:Rel base σ a g){x:Operand}{y:ae}(hx:σ.ev x=some y):RV g y (a.eval x):=by
 cases x with
 | tmp t =>
  obtain⟨u,h1,h2⟩:=h.slot t y hx;have:a.eval (.tmp t)=u:=by simp[Act.eval,Array.getD_eq_getD_getElem?,h1]
  rw[this];exact h2
 | const v =>
  simp only[St.ev]at hx;unfold rO at hx;split at hx
  ·split at hx
   ·rename_i hh;simp only[Option.some.injEq]at hx;subst hx;rw[yZ,yQ]at hh;exact .v hh
   cases hx
  ·cases hx
  ·cases hx
  rename_i h1 h2 h3;simp only[Option.some.injEq]at hx;subst hx;refine .v ?_;unfold j8;split
  ·rename_i k n;exact absurd rfl (h1 k n)
  ·rename_i cs;exact absurd rfl (h2 cs)
  ·rename_i vs;exact absurd rfl (h3 vs)
  trivial
 | func f =>
  simp only[St.ev,Option.some.injEq]at hx;subst hx;exact .fn rfl rfl (by simp) (by simp)
 | global _=>cases hx
inductive Mode where
 | pure
 | read
 | rd (id:Nat)
 | write (O:List ai)
 | wr (n:Nat) (l:List Nat) (O:List ai)
 | new (id:Nat) (o:ai)
def Mode.post(m:Mode)(O:List ai):List ai :=
 match m with
 | .write O'=>O'
 | .wr _ _ O'=>O'
 | .new id o=>O.set id o
 | _=>O
def Mode.agree(m:Mode)(O O0:List ai):Prop :=
 match m with
 | .pure=>True
 | .rd id=>O[id]?=O0[id]?
 | .new id _=>O[id]?=O0[id]?
 | _=>O=O0
def Mode.ok(m:Mode)(O:List ai):Prop :=
 match m with
 | .wr n l O'=>∀i,i<n->i ∉ l->O'[i]?=O[i]?
 | _=>True
theorem Mode.qA{m:Mode}{O O0:List ai}(h:m=.pure∨O=O0):m.agree O O0:=by
 rcases h with h|h
 ·subst h;trivial
 subst h;cases m<;>first|trivial|rfl
def pq(d:Option Nat)(r:ae)(l:List (Nat×ae)):List (Nat×ae) :=
 match d with
 | some d=>bt d r l
 | none=>l
def Cert(P:Program)(o:Oper)(pv:St)(r:ae)(m:Mode):Prop :=
 m.ok pv.objs∧∀(base:G) (σ:St) (a:Act) (g:G),Rel base σ a g->σ.n=pv.n->(∀x∈o.op.operands,∀y,pv.ev x=some y->σ.ev x=some y)->m.agree σ.objs pv.objs ->
  ∀(K:Act->World->Prop) (Q:Exit->Act->World->Prop),(∀u g',Rel base ⟨σ.n,pq o.dst r σ.bn,m.post σ.objs⟩ (a.put o.dst u) g'->K (a.put o.dst u) g'.w)->o.wp P a g.w K Q
theorem Cert.tU{P:Program}{o:Oper}{pv:St}{r:ae}{m:Mode}(ka:m.ok pv.objs)(hd:∀d,o.dst=some d->d<pv.n)
  (h:∀(base:G) (σ:St) (a:Act) (g:G),Rel base σ a g->(∀x∈o.op.operands,∀y,pv.ev x=some y->RV g y (a.eval x))->m.agree g.objs pv.objs ->
   ∃u g',((execOp a.eval o).run P g.w=.ok (.value u) g'.w∨(o.dst=none∧(execOp a.eval o).run P g.w=.ok .skip g'.w))∧Le g g'∧Good g'∧g'.objs=m.post g.objs∧RV g' r u):Cert P o pv r m:=by
 refine⟨ka,?_⟩;intro base σ a g bH hn nh hm K Q hK;obtain⟨u,g',bI,hle,dg,TU,wJ⟩:=h base σ a g bH (fun x hx y hy=>bH.eval (nh x hx y hy)) (by rw[bH.objs];exact hm);have key:Rel base ⟨σ.n,pq o.dst r σ.bn,m.post σ.objs⟩ (a.put o.dst u) g':=by
  have e:g'.objs=m.post σ.objs:=by rw[TU,bH.objs]
  cases jL:o.dst with
  | none =>
   have:=bH.step hle dg;rw[e]at this;exact this
  | some d =>
   have:=bH.put hle dg (d:=d) (by rw[hn];exact hd d jL) wJ;rw[e]at this;exact this
 unfold Oper.wp;rcases bI with bI|⟨vU,bI⟩
 ·rw[bI,Oper.upon_value];exact hK u g' key
 rw[bI,Oper.upon_skip];have:=hK u g' key;rw[vU]at this ⊢;exact this
def Mode.plain:Mode->Prop
 | .rd _=>False
 | .wr _ _ _=>False
 | .new _ _=>False
 | _=>True
theorem Mode.By{m:Mode}(hp:m.plain){O O0:List ai}(h:m.agree O O0):m=.pure∨O=O0:=by
 cases m<;>first|exact .inl rfl|exact .inr h|exact hp.elim
theorem Cert.iN{P:Program}{o:Oper}{pv:St}{r:ae}{m:Mode}(hd:∀d,o.dst=some d->d<pv.n)
  (h:∀(base:G) (σ:St) (a:Act) (g:G),Rel base σ a g->(∀x∈o.op.operands,∀y,pv.ev x=some y->RV g y (a.eval x))->(m=.pure∨g.objs=pv.objs) ->
   ∃u g',((execOp a.eval o).run P g.w=.ok (.value u) g'.w∨(o.dst=none∧(execOp a.eval o).run P g.w=.ok .skip g'.w))∧Le g g'∧Good g'∧g'.objs=m.post g.objs∧RV g' r u) (hp:m.plain:=by trivial):Cert P o pv r m :=
 Cert.tU (by cases m<;>first|trivial|exact hp.elim) hd fun base σ a g bH nh hm=>h base σ a g bH nh (m.By hp hm)
theorem Cert.close{P:Program}{o:Oper}{pv:St}{r:ae}{O':List ai}(h:Cert P o pv r (.write O')){n:Nat}{l:List Nat}(hk:∀i,i<n->i ∉ l->O'[i]?=pv.objs[i]?):Cert P o pv r (.wr n l O'):=⟨hk,h.2⟩
theorem Cert.bN{P:Program}{o:Oper}{pv:St}{r:ae}(m:Mode)(hm:m=.pure∨m=.read)(hd:∀d,o.dst=some d->d<pv.n)
  (h:∀(a:Act) (g:G),Good g->(∀x∈o.op.operands,∀y,pv.ev x=some y->RV g y (a.eval x))->(m=.pure∨g.objs=pv.objs) ->
   ∃u,(execOp a.eval o).run P g.w=.ok (.value u) g.w∧RV g r u):Cert P o pv r m :=
 Cert.iN (hp:=by rcases hm with hm|hm<;>subst hm<;>trivial) hd fun base σ a g bH nh ho=>by
  obtain⟨u,h1,h2⟩:=h a g bH.good nh ho;refine⟨u,g,.inl h1,Le.refl g,bH.good,?_,h2⟩;rcases hm with hm|hm<;>subst hm<;>rfl
theorem Cert.QW{P:Program}{o:Oper}{pv:St}{r:ae}{id:Nat}(hd:∀d,o.dst=some d->d<pv.n)
  (h:∀(a:Act) (g:G),Good g->(∀x∈o.op.operands,∀y,pv.ev x=some y->RV g y (a.eval x))->g.objs[id]?=pv.objs[id]? ->
   ∃u,(execOp a.eval o).run P g.w=.ok (.value u) g.w∧RV g r u):Cert P o pv r (.rd id) :=
 Cert.tU trivial hd fun base σ a g bH nh ho=>by
  obtain⟨u,h1,h2⟩:=h a g bH.good nh ho;exact⟨u,g,.inl h1,Le.refl g,bH.good,rfl,h2⟩
theorem addr_add(b off j:Nat):(⟨b,off,none⟩:Addr).add j=⟨b,off+j,none⟩:=by
 unfold Addr.add;split
 ·rename_i h;subst h;rfl
 rfl
section
variable {P:Program} {t:TypeId} {ti:cc}
theorem Er.sizeOf(h:Er P t ti)(w:World):(Go.sizeOf t).run P w=.ok ti.size w:=by
 obtain⟨⟨i,z,h1,h2,_⟩,_⟩:=h;simp[Go.sizeOf,typeInfo,h1,h2]
theorem Er.isAgg(h:Er P t ti)(w:World):(Go.isAgg t).run P w=.ok ti.desc.agg w:=by
 obtain⟨_,d,h1,h2⟩:=h;simp only[Go.isAgg,Go.underlying,Sem.run_bind,run_program,Result.andThen_ok,h1];cases hd:ti.desc<;>rw[hd]at h2<;>simp only[rX]at h2
 ·cases d<;>simp_all [TD.agg]
 ·obtain⟨fs,h3,_⟩:=h2;subst h3;simp[TD.agg]
 ·subst h2;simp[TD.agg]
 ·subst h2;simp[TD.agg]
 subst h2;simp[TD.agg]
theorem Er.zeroValue(h:Er P t ti):∃z,(∀w,(Go.zeroValue t).run P w=.ok z w)∧z.cells.size=ti.zero.length∧ti.zero.length=ti.size∧(ti.desc.agg=true->∃cs,z=.agg cs) ∧
  (∀g:G,∀(j:Nat) (c:ae) (u:Value),ti.zero[j]?=some c->z.cells[j]?=some u->RV g c u)∧∀c∈ti.zero,c.scalar:=by
 obtain⟨⟨i,z,h1,h2,h3,h4,h5,h6,h7,h8,h9⟩,_⟩:=h;exact⟨z,fun w=>by simp[Go.zeroValue,typeInfo,h1,h4],h5,h6,h7.1,h8,h9⟩
theorem Er.n7(h:Er P t ti)(eH:ti.desc.agg=true)(w:World)(b off:Nat)(f:Nat->Value)(hc:∀j,j<ti.size->w.cell? ⟨b,off+j,none⟩=some (f j)) :
  (loadVar t ⟨b,off,none⟩).run P w=.ok (.agg ((List.range ti.size).map f).toArray) w:=by
 have hl:=run_loadCells (P:=P) w ⟨b,off,none⟩ ti.size f (fun j hj=>by rw[addr_add];exact hc j hj);simp[loadVar,h.isAgg,h.sizeOf,eH,hl]
theorem Er.mQ(h:Er P t ti)(eH:ti.desc.agg=false)(w:World)(a:Addr)(u:Value)(hc:w.cell? a=some u):(loadVar t a).run P w=.ok u w:=by
 simp[loadVar,h.isAgg,eH,hc]
end
theorem nc(k:IntKind)(n:Int)(h1:k.min<=n)(h2:n<=k.max):k.wrap n=n:=by
 cases k<;>simp[IntKind.min,IntKind.max,IntKind.wrap,IntKind.bits,IntKind.signed]at *<;>omega
theorem RV.ir{g:G}{x:ae}{u:Value}(h:RV g x u)(hs:x.scalar):u.oneCell'=true∧u.cells = #[u]:=by
 cases h with
 | v hx =>
  cases u<;>simp[j8]at hx<;>simp[Value.oneCell',Value.cells]
 | agg=>exact hs.elim
 | cx=>exact hs.elim
 | nil=>simp[Value.oneCell',Value.cells]
 | aB=>simp[Value.oneCell',Value.cells]
 | ip=>simp[Value.oneCell',Value.cells]
 | mp=>simp[Value.oneCell',Value.cells]
 | ms=>simp[Value.oneCell',Value.cells]
 | os=>simp[Value.oneCell',Value.cells]
 | raw=>simp[Value.oneCell',Value.cells]
 | mm=>simp[Value.oneCell',Value.cells]
 | im=>simp[Value.oneCell',Value.cells]
 | fn=>simp[Value.oneCell',Value.cells]
theorem RV.cells{g:G}{x:ae}{u:Value}(h:RV g x u)(hs:∀c∈x.cells,c.scalar):u.cells.size=x.cells.length∧∀(j:Nat) (c:ae) (e:Value),x.cells[j]?=some c->u.cells[j]?=some e->RV g c e:=by
 by_cases hx:x.scalar
 ·have:=(h.ir hx).2;have hc:x.cells=[x]:=by
   cases x<;>simp[ae.scalar]at hx<;>rfl
  rw[this,hc];refine⟨rfl,fun j c e h1 h2=>?_⟩
  match j,h1,h2 with
  | 0,h1,h2 =>
   simp at h1 h2;subst h1;subst h2;exact h
 cases h with
 | agg hl dk hh=>exact⟨hl,hh⟩
 | cx=>exact absurd (hs _ (List.mem_singleton.2 rfl)) (by simp[ae.scalar])
 | _=>exact absurd trivial hx
theorem wO{α:Type}(l:List α)(n:Nat)(f:Nat->α)(hn:l.length=n)(h:∀j,j<n->l[j]?=some (f j)):(List.range n).map f=l:=by
 apply List.ext_getElem?;intro i;rcases Nat.lt_or_ge i n with hi|hi
 ·rw[h i hi];simp[hi]
 rw[List.getElem?_eq_none (by simpa using hi),List.getElem?_eq_none (by omega)]
theorem RV.ofRow{g:G}(cs:List ae)(f:Nat->Value)(dk:∀c∈cs,c.scalar)(hr:∀(j:Nat)(c:ae),cs[j]?=some c->RV g c (f j)):RV g (.agg cs) (.agg ((List.range cs.length).map f).toArray) :=
 .agg (by simp) dk fun i c u h1 h2=>by
  have hi:=I h1;simp[hi]at h2;subst h2;exact hr i c h1
theorem RV.bX{g:G}{x u:Value}(h:RV g (.v x) u):u=x∧j8 x:=by
 cases h with
 | v h=>exact⟨rfl,h⟩
theorem RV.nZ{g:G}{oa:Option Addr}{cs:List ae}{u:Value}(h:RV g (.ip oa cs) u):∃(b off:Nat) (f:Nat->Value),u=.pointer (some ⟨b,off,none⟩)∧(oa=none∨oa=some ⟨b,off,none⟩)∧(∀c∈cs,c.scalar) ∧
  (∀(j:Nat) (c:ae),cs[j]?=some c->g.cell b (off+j)=some (f j)∧¬j5 g b (off+j))∧∀(j:Nat) (c:ae),cs[j]?=some c->RV g c (f j):=by
 cases h with
 | ip ha dk f hm hr=>exact⟨_,_,f,rfl,ha,dk,hm,hr⟩
theorem RV.mU{g:G}{id off:Nat}{u:Value}(h:RV g (.mp id off) u):∃(l:Loc) (o:ai),g.env[id]?=some (some l)∧g.objs[id]?=some o∧¬o.aD∧u=.pointer (some ⟨l.block,off,none⟩):=by
 cases h with
 | mp he ho hn=>exact⟨_,_,he,ho,hn,rfl⟩
theorem RV.oe{g:G}{id off len cap:Nat}{u:Value}(h:RV g (.ms id off len cap) u):∃(l:Loc) (o:ai),g.env[id]?=some (some l)∧g.objs[id]?=some o∧¬o.aD∧len<=cap∧len<=2 ^ 62∧∃gx,cap<=gx∧u=.slice (some ⟨l.block,off,none⟩) len gx:=by
 cases h with
 | ms he ho hn hc oV cv=>exact⟨_,_,he,ho,hn,hc,cv,_,oV,rfl⟩
theorem RV.qd{g:G}{id len sz:Nat}{u:Value}(h:RV g (.os id len sz) u):∃(l:Loc) (o:ai) (cap:Nat),g.env[id]?=some (some l)∧g.objs[id]?=some o∧¬o.aD∧len<=cap∧cap*sz<=l.sz∧len<=2 ^ 62∧u=.slice (some ⟨l.block,0,none⟩) len cap:=by
 cases h with
 | os he ho hn hc hb cv=>exact⟨_,_,_,he,ho,hn,hc,hb,cv,rfl⟩
theorem RV.M3{g:G}{sz n id:Nat}{u:Value}(h:RV g (.raw sz n id) u):∃(a:Addr) (cap:Nat),u=.slice (some a) n cap∧n<=cap∧sA g (.tok id) a sz 0 cap:=by
 cases h with
 | raw hn ho=>exact⟨_,_,rfl,hn,ho⟩
theorem RV.DH{g:G}{id:Nat}{u:Value}(h:RV g (.mm id) u):∃(l:Loc) (o:ai),g.env[id]?=some (some l)∧g.objs[id]?=some o∧¬o.aD∧u=.map (some l.block):=by
 cases h with
 | mm he ho hn=>exact⟨_,_,he,ho,hn,rfl⟩
theorem RV.yj{g:G}{cs:List ae}{u:Value}(h:RV g (.agg cs) u):∃vs:Array Value,u=.agg vs∧vs.size=cs.length∧(∀c∈cs,c.scalar)∧∀(i:Nat) (c:ae) (e:Value),cs[i]?=some c->vs[i]?=some e->RV g c e:=by
 cases h with
 | agg hl dk h=>exact⟨_,rfl,hl,dk,h⟩
theorem RV.Oj{g:G}{cs:List ae}{u:Value}(h:RV g (.cx cs) u):∃vs:Array Value,u=.tuple vs∧vs.size=cs.length∧∀(i:Nat) (c:ae) (e:Value),cs[i]?=some c->vs[i]?=some e->RV g c e:=by
 cases h with
 | cx hl h=>exact⟨_,rfl,hl,h⟩
theorem RV.IQ{g:G}{f:Fn}{fs cs:List ae}{u:Value}(h:RV g (.fn f fs cs) u):∃us vs:Array Value,u=.func f us vs∧us.size=fs.length∧vs.size=cs.length ∧
  (∀(i:Nat) (c:ae) (e:Value),fs[i]?=some c->us[i]?=some e->RV g c e)∧∀(i:Nat) (c:ae) (e:Value),cs[i]?=some c->vs[i]?=some e->RV g c e:=by
 cases h with
 | fn hl zZ h h'=>exact⟨_,_,rfl,hl,zZ,h,h'⟩
theorem RV.QQ{g:G}{kt:KT}{es:List (Value×ae)}{u:Value}(h:RV g (.im kt es) u):∃(r clk:Nat) (arr:Array MapEntry),u=.map (some r)∧g.w.heap[r]?=some (.map arr clk)∧arr.size=es.length ∧
  (∀(i:Nat) (e:MapEntry) (kx:Value×ae),arr[i]?=some e->es[i]?=some kx->e.key=kx.1)∧(∀p∈es,kt.ok p.1)∧∀(i:Nat) (e:MapEntry) (kx:Value×ae),arr[i]?=some e->es[i]?=some kx->RV g kx.2 e.val:=by
 cases h with
 | im hh hn hl hk wF hr=>exact⟨_,_,_,rfl,hh,hl,hk,wF,hr⟩
theorem RV.eQ{g:G}{sz:Nat}{xs:List ae}{o:nH}{u:Value}(h:RV g (.aB sz xs o) u) :
  (u=.slice none 0 0∧xs=[])∨∃(a:Addr) (cap:Nat) (f:Nat->Value),u=.slice (some a) xs.length cap∧(∀x∈xs,x.cells.length=sz)∧(∀x∈xs,∀c∈x.cells,c.scalar)∧xs.length<=cap∧xs.length<=2 ^ 62∧(xs≠[]->a.spot=none) ∧
   (∀(j:Nat) (c:ae),(al xs)[j]?=some c->g.cell a.block (a.off+j)=some (f j)∧¬j5 g a.block (a.off+j))∧(∀(j:Nat) (c:ae),(al xs)[j]?=some c->RV g c (f j))∧sA g o a sz xs.length cap:=by
 cases h with
 | nil=>exact .inl ⟨rfl,rfl⟩
 | aB cM dk cL cv hs f hm hr ho=>exact .inr ⟨_,_,f,rfl,cM,dk,cL,cv,hs,hm,hr,ho⟩
theorem RV.Fa{g:G}{sz:Nat}{xs:List ae}{o:nH}{u:Value}(h:RV g (.aB sz xs o) u):xs.length<=2 ^ 62:=by
 rcases h.eQ with⟨_,h⟩|⟨_,_,_,_,_,_,_,h,_⟩
 ·subst h;simp
 exact h
theorem RV.sd{g:G}{sz:Nat}{xs:List ae}{o:nH}{u:Value}(h:RV g (.aB sz xs o) u):RV g (.aB sz xs .sh) u:=by
 cases h with
 | nil=>exact .nil (fun id e=>by cases e) (by simp)
 | aB cM dk cL cv hs f hm hr ho=>exact .aB cM dk cL cv hs f hm hr trivial
theorem lj{sz:Nat}{xs:List ae}(cM:∀x∈xs,x.cells.length=sz){i j:Nat}{x c:ae}(hx:xs[i]?=some x)(hc:x.cells[j]?=some c):(al xs)[i*sz+j]?=some c:=by
 induction xs generalizing i with
 | nil=>simp at hx
 | cons y ys ih =>
  have hy:=cM y (by simp);cases i with
  | zero =>
   simp at hx;subst hx;simp only[al,List.flatMap_cons,Nat.zero_mul,Nat.zero_add];rw[List.getElem?_append,if_pos (I hc)];exact hc
  | succ i =>
   simp at hx;have:=ih (fun x hx=>cM x (by simp[hx])) hx;simp only[al,List.flatMap_cons]at this ⊢;rw[List.getElem?_append,if_neg (by rw[hy,Nat.succ_mul];omega),hy];rw[show(i+1)*sz+j-sz=i*sz+j by rw[Nat.succ_mul];omega];exact this
theorem bV{sz:Nat}{xs:List ae}(cM:∀x∈xs,x.cells.length=sz):(al xs).length=xs.length*sz:=by
 induction xs with
 | nil=>simp[al]
 | cons y ys ih =>
  have hy:=cM y (by simp);have:=ih (fun x hx=>cM x (by simp[hx]));simp only[al,List.flatMap_cons,List.length_append,List.length_cons]at this ⊢;rw[this,hy,Nat.succ_mul];omega
theorem FV{P:Program}{o:Oper}{σ:St}{x:Operand}{y:ae}(ho:o.op=.move x∨o.op=.assign x)(hd:∀d,o.dst=some d->d<σ.n)(hx:σ.ev x=some y):Cert P o σ y .pure :=
 Cert.bN .pure (.inl rfl) hd fun a g _ h _=>⟨a.eval x,by rcases ho with ho|ho<;>simp[execOp,ho],h x (by rcases ho with ho|ho<;>simp[ho,Op.operands]) y hx⟩
theorem Ie{P:Program}{o:Oper}{σ:St}(sz:Nat)(ho:o.op=.move (.const (.slice none 0 0))∨o.op=.assign (.const (.slice none 0 0)))(hd:∀d,o.dst=some d->d<σ.n):Cert P o σ (.aB sz [] .ex) .pure :=
 Cert.bN .pure (.inl rfl) hd fun a g _ _ _=>⟨.slice none 0 0,by rcases ho with ho|ho<;>simp[execOp,ho,Act.eval],.nil (fun id e=>by cases e) (by simp)⟩
theorem xf{P:Program}{o:Oper}{σ:St}{c x z:Operand}{b:Bool}{y:ae}(ho:o.op=.pick c x z)(hd:∀d,o.dst=some d->d<σ.n)(hc:σ.ev c=some (.v (.bool b)))
  (hx:b=true->σ.ev x=some y) (hz:b=false->σ.ev z=some y):Cert P o σ y .pure :=
 Cert.bN .pure (.inl rfl) hd fun a g _ h _=>by
  have e2:=(h c (by simp[ho,Op.operands]) _ hc).bX.1;cases b
  ·exact⟨a.eval z,by simp[execOp,ho,e2,asBool],h z (by simp[ho,Op.operands]) y (hz rfl)⟩
  exact⟨a.eval x,by simp[execOp,ho,e2,asBool],h x (by simp[ho,Op.operands]) y (hx rfl)⟩
theorem my{α:Type}{l:List α}{n j:Nat}{c:α}(h:(l.take n)[j]?=some c):l[j]?=some c:=by
 rw[List.getElem?_take]at h;split at h
 ·exact h
 cases h
theorem yw{P:Program}{aT:eh}(hT:b7 P aT){o:Oper}{σ:St}{t:TypeId}{x:Operand}{ti:cc}{oa:Option Addr}{cs:List ae}(ho:o.op=.load t x)(hd:∀d,o.dst=some d->d<σ.n)
  (ht:aT t=some ti) (hx:σ.ev x=some (.ip oa cs)) (eH:ti.desc.agg=true) (hs:ti.size<=cs.length):Cert P o σ (.agg (cs.take ti.size)) .pure :=
 Cert.bN .pure (.inl rfl) hd fun a g _ h _=>by
  obtain⟨b,off,f,e,_,dk,hm,hr⟩:=(h x (by simp[ho,Op.operands]) _ hx).nZ;have bI:=(hT t ti ht).n7 eH g.w b off f (fun j hj=>(hm j _ (List.getElem?_eq_getElem (by omega))).1);have hlen:(cs.take ti.size).length=ti.size:=by simp;omega
  refine⟨.agg ((List.range ti.size).map f).toArray,by simp[execOp,ho,e,Instr.loadAt,Instr.sureAddr,bI],?_⟩;have:=RV.ofRow (g:=g) (cs.take ti.size) f (fun c hc=>dk c (List.mem_of_mem_take hc)) (fun j c hj=>hr j c (my hj));rw[hlen]at this;exact this
theorem wv{P:Program}{aT:eh}(hT:b7 P aT){o:Oper}{σ:St}{t:TypeId}{x:Operand}{ti:cc}{oa:Option Addr}{cs:List ae}{c:ae}(ho:o.op=.load t x)(hd:∀d,o.dst=some d->d<σ.n)
  (ht:aT t=some ti) (hx:σ.ev x=some (.ip oa cs)) (eH:ti.desc.agg=false) (hs:cs[0]?=some c):Cert P o σ c .pure :=
 Cert.bN .pure (.inl rfl) hd fun a g _ h _=>by
  obtain⟨b,off,f,e,_,dk,hm,hr⟩:=(h x (by simp[ho,Op.operands]) _ hx).nZ;have bI:=(hT t ti ht).mQ eH g.w ⟨b,off,none⟩ (f 0) (hm 0 c hs).1;exact⟨f 0,by simp[execOp,ho,e,Instr.loadAt,Instr.sureAddr,bI],hr 0 c hs⟩
theorem Good.row{g:G}(hg:Good g){id:Nat}{cs:List ae}{l:Loc}(ho:g.objs[id]?=some (.cells cs))(he:g.env[id]?=some (some l)) :
  ∃(arr:Array Value) (t:TypeId),l.lo=0∧g.w.heap[l.block]?=some (.cells arr t (0,0))∧cs.length<=arr.size∧(∀(j:Nat) (c:ae) (u:Value),cs[j]?=some c->arr[j]?=some u->RV g c u)∧(∀c∈cs,c.scalar)∧l.sz<=arr.size:=by
 obtain⟨l',arr,t,h1,h2,h3,h4,h5,h6⟩:=hg.cells id cs ho;rw[he]at h1;simp only[Option.some.injEq]at h1;subst h1;exact⟨arr,t,h2,h3,h4,h5,h6⟩
theorem cell_of_row{w:World}{b:Nat}{arr:Array Value}{t:TypeId}{fz:Nat×Nat}(h:w.heap[b]?=some (.cells arr t fz))(off:Nat):w.cell? ⟨b,off,none⟩=arr[off]?:=by
 simp[World.cell?,h]
theorem yx{P:Program}{aT:eh}(hT:b7 P aT){o:Oper}{σ:St}{t:TypeId}{x:Operand}{ti:cc}{id off:Nat}{cs:List ae}(ho:o.op=.load t x)(hd:∀d,o.dst=some d->d<σ.n)
  (ht:aT t=some ti) (hx:σ.ev x=some (.mp id off)) (tD:σ.objs[id]?=some (.cells cs)) (eH:ti.desc.agg=true) (hs:off+ti.size<=cs.length):Cert P o σ (.agg ((cs.drop off).take ti.size)) (.rd id) :=
 Cert.QW hd fun a g hg h hO=>by
  obtain⟨l,o1,he,h1,_,e⟩:=(h x (by simp[ho,Op.operands]) _ hx).mU;obtain⟨arr,t',_,dq,hlen,wJ,dk,_⟩:=hg.row (by rw[hO];exact tD) he;obtain⟨f,hf⟩:∃f:Nat->Value,∀j,off+j<arr.size->arr[off+j]?=some (f j):=⟨fun j=>arr.getD (off+j) undef,fun j hj=>by simp[Array.getD_eq_getD_getElem?,hj]⟩
  have bI:=(hT t ti ht).n7 eH g.w l.block off f (fun j hj=>by
   rw[cell_of_row dq];exact hf j (by omega))
  have hl:((cs.drop off).take ti.size).length=ti.size:=by simp;omega
  refine⟨.agg ((List.range ti.size).map f).toArray,by simp[execOp,ho,e,Instr.loadAt,Instr.sureAddr,bI],?_⟩;have:=RV.ofRow (g:=g) ((cs.drop off).take ti.size) f (fun c hc=>dk c (List.mem_of_mem_drop (List.mem_of_mem_take hc))) (fun j c hj=>by
   have gV:=my hj;rw[List.getElem?_drop]at gV;have a8:=I gV;exact wJ (off+j) c _ gV (hf j (by omega)))
  rw[hl]at this;exact this
theorem wx{P:Program}{aT:eh}(hT:b7 P aT){o:Oper}{σ:St}{t:TypeId}{x:Operand}{ti:cc}{id off:Nat}{cs:List ae}{c:ae}(ho:o.op=.load t x)(hd:∀d,o.dst=some d->d<σ.n)
  (ht:aT t=some ti) (hx:σ.ev x=some (.mp id off)) (tD:σ.objs[id]?=some (.cells cs)) (eH:ti.desc.agg=false) (hs:cs[off]?=some c):Cert P o σ c (.rd id) :=
 Cert.QW hd fun a g hg h hO=>by
  obtain⟨l,o1,he,h1,_,e⟩:=(h x (by simp[ho,Op.operands]) _ hx).mU;obtain⟨arr,t',_,dq,hlen,wJ,dk,_⟩:=hg.row (by rw[hO];exact tD) he;have a8:=I hs;have dp:g.w.cell? ⟨l.block,off,none⟩=some arr[off]:=by
   rw[cell_of_row dq];simp[show off<arr.size by omega]
  have bI:=(hT t ti ht).mQ eH g.w ⟨l.block,off,none⟩ _ dp;exact⟨arr[off],by simp[execOp,ho,e,Instr.loadAt,Instr.sureAddr,bI],wJ off c _ hs (by simp[show off<arr.size by omega])⟩
theorem ot{P:Program}{aT:eh}(hT:b7 P aT){f:Field}{tf:cc}(hf:aT f.type=some tf)(hs:tf.size≠0)(w:World)(b off:Nat) :
  (fieldPlace ⟨b,off,none⟩ f).run P w=.ok ⟨b,off+f.offset,none⟩ w:=by
 have:=(hT _ _ hf).sizeOf w;simp[fieldPlace,this,hs,addr_add]
theorem m8{P:Program}{aT:eh}(hT:b7 P aT){s:TypeId}{ti:cc}{fs:List (Nat×TypeId)}{k sf:Nat}{ft:TypeId}(ht:aT s=some ti)(aR:ti.desc=.struct fs)(hk:fs[k]?=some (sf,ft)) :
  ∃(fields:Array Field) (f:Field),P.underlying s=some (.struct fields)∧fields[k]?=some f∧f.offset=sf∧f.type=ft:=by
 obtain⟨_,d,h1,h2⟩:=hT s ti ht;rw[aR]at h2;obtain⟨fields,h3,h4⟩:=h2;subst h3;rw[<-h4]at hk;simp only[List.getElem?_map,Option.map_eq_some_iff,Prod.mk.injEq,Array.getElem?_toList]at hk;obtain⟨f,e1,e2,e3⟩:=hk;exact⟨fields,f,h1,e1,e2,e3⟩
theorem qI{P:Program}{aT:eh}(hT:b7 P aT){o:Oper}{σ:St}{s:TypeId}{x:Operand}{k sf:Nat}{ft:TypeId}{ti tf:cc}{fs:List (Nat×TypeId)}{oa:Option Addr}{cs:List ae}
  (ho:o.op=.fieldAddr s x k) (hd:∀d,o.dst=some d->d<σ.n) (ht:aT s=some ti) (aR:ti.desc=.struct fs) (hk:fs[k]?=some (sf,ft)) (hf:aT ft=some tf) (hz:tf.size≠0)
  (hx:σ.ev x=some (.ip oa cs)):Cert P o σ (.ip (oa.map (·.add sf)) (cs.drop sf)) .pure :=
 Cert.bN .pure (.inl rfl) hd fun a g _ h _=>by
  obtain⟨b,off,f,e,ha,dk,hm,hr⟩:=(h x (by simp[ho,Op.operands]) _ hx).nZ;obtain⟨fields,fl,h1,h2,h3,h4⟩:=m8 hT ht aR hk;subst h3;subst h4;refine⟨.pointer (some ⟨b,off+fl.offset,none⟩),by simp[execOp,ho,e,Instr.fieldAt,run_underlying h1,h2,Instr.sureAddr,ot hT hf hz],?_⟩;refine .ip ?_ (fun c hc=>dk c (List.mem_of_mem_drop hc)) (fun j=>f (fl.offset+j)) (fun j c hj=>?_) (fun j c hj=>?_)
  ·rcases ha with ha|ha<;>subst ha<;>simp[addr_add]
  ·rw[List.getElem?_drop]at hj;rw[Nat.add_assoc];exact hm _ c hj
  rw[List.getElem?_drop]at hj;exact hr _ c hj
theorem qJ{P:Program}{aT:eh}(hT:b7 P aT){o:Oper}{σ:St}{s:TypeId}{x:Operand}{k sf:Nat}{ft:TypeId}{ti tf:cc}{fs:List (Nat×TypeId)}{id off:Nat}
  (ho:o.op=.fieldAddr s x k) (hd:∀d,o.dst=some d->d<σ.n) (ht:aT s=some ti) (aR:ti.desc=.struct fs) (hk:fs[k]?=some (sf,ft)) (hf:aT ft=some tf) (hz:tf.size≠0)
  (hx:σ.ev x=some (.mp id off)):Cert P o σ (.mp id (off+sf)) .pure :=
 Cert.bN .pure (.inl rfl) hd fun a g _ h _=>by
  obtain⟨l,o1,he,h1,hn,e⟩:=(h x (by simp[ho,Op.operands]) _ hx).mU;obtain⟨fields,fl,h2,h3,h4,h5⟩:=m8 hT ht aR hk;subst h4;subst h5;exact⟨.pointer (some ⟨l.block,off+fl.offset,none⟩),by simp[execOp,ho,e,Instr.fieldAt,run_underlying h2,h3,Instr.sureAddr,ot hT hf hz],.mp he h1 hn⟩
theorem bR{P:Program}{aT:eh}(hT:b7 P aT){t e:TypeId}{ti:cc}(ht:aT t=some ti)(aR:ti.desc=.slice e):P.underlying t=some (.slice e):=by
 obtain⟨_,d,h1,h2⟩:=hT t ti ht;rw[aR]at h2;simp only[rX]at h2;rw[h1,h2]
def rk:nH->Nat->Option Addr
 | .sh,_=>none
 | .ex,_=>none
 | .nn,_=>none
 | .tok _,_=>none
 | .loc a,k=>some ⟨a.block,a.off+k,none⟩
theorem pQ{P:Program}{aT:eh}(hT:b7 P aT){o:Oper}{σ:St}{t e:TypeId}{x i:Operand}{ti te:cc}{sz:Nat}{xs:List ae}{ow:nH}{k:IntKind}{n:Int}{y:ae}
  (ho:o.op=.indexAddr t x i) (hd:∀d,o.dst=some d->d<σ.n) (ht:aT t=some ti) (aR:ti.desc=.slice e) (he:aT e=some te) (cM:te.size=sz)
  (hx:σ.ev x=some (.aB sz xs ow)) (hi:σ.ev i=some (.v (.int k n))) (h0:0<=n) (hy:xs[n.toNat]?=some y):Cert P o σ (.ip (rk ow (n.toNat*te.size)) y.cells) .pure :=
 Cert.bN .pure (.inl rfl) hd fun a g _ h _=>by
  have ei:=(h i (by simp[ho,Op.operands]) _ hi).bX.1;have hu:=bR hT ht aR;have a8:=I hy;rcases(h x (by simp[ho,Op.operands]) _ hx).eQ with⟨_,e0⟩|⟨ad,cap,f,eu,nV,dk,_,cv,hs,hm,hr,nS⟩
  ·subst e0;simp at a8
  have pA:=hs (by intro e;subst e;simp at a8);obtain⟨b,off,sp⟩:=ad;simp only at pA;subst pA;subst cM;have iw:y∈xs:=List.mem_of_getElem? hy;refine⟨.pointer (some ⟨b,off+n.toNat*te.size,none⟩),?_,?_⟩
  ·have j':n<(xs.length:Int):=by omega
   simp[execOp,ho,ei,eu,Instr.indexAt,asIntOf,run_underlying hu,h0,j',(hT e te he).sizeOf,addr_add]
  have SR:rk ow (n.toNat*te.size)=none∨rk ow (n.toNat*te.size)=some ⟨b,off+n.toNat*te.size,none⟩:=by
   cases ow with
   | loc a' =>
    have e:(⟨b,off,none⟩:Addr)=a':=nS;subst e;exact .inr rfl
   | _=>exact .inl rfl
  refine .ip SR (dk y iw) (fun j=>f (n.toNat*te.size+j)) (fun j c hj=>?_) (fun j c hj=>?_)
  ·rw[Nat.add_assoc];exact hm _ c (lj nV hy hj)
  exact hr _ c (lj nV hy hj)
theorem qK{P:Program}{aT:eh}(hT:b7 P aT){o:Oper}{σ:St}{t e:TypeId}{x i:Operand}{ti te:cc}{id off len cap:Nat}{k:IntKind}{n:Int}
  (ho:o.op=.indexAddr t x i) (hd:∀d,o.dst=some d->d<σ.n) (ht:aT t=some ti) (aR:ti.desc=.slice e) (he:aT e=some te)
  (hx:σ.ev x=some (.ms id off len cap)) (hi:σ.ev i=some (.v (.int k n))) (h0:0<=n) (hn:n<len):Cert P o σ (.mp id (off+n.toNat*te.size)) .pure :=
 Cert.bN .pure (.inl rfl) hd fun a g _ h _=>by
  have ei:=(h i (by simp[ho,Op.operands]) _ hi).bX.1;have hu:=bR hT ht aR;obtain⟨l,o1,h1,h2,h3,_,_,_,_,eu⟩:=(h x (by simp[ho,Op.operands]) _ hx).oe;exact⟨.pointer (some ⟨l.block,off+n.toNat*te.size,none⟩),by simp[execOp,ho,ei,eu,Instr.indexAt,asIntOf,run_underlying hu,h0,hn,(hT e te he).sizeOf,addr_add],.mp h1 h2 h3⟩
end Go.Av
namespace Go.Av
theorem uB{P:Program}{aT:eh}(hT:b7 P aT){o:Oper}{σ:St}{s:TypeId}{x:Operand}{k sf:Nat}{ft:TypeId}{ti tf:cc}{fs:List (Nat×TypeId)}{cs:List ae}{r:ae}
  (ho:o.op=.field s x k) (hd:∀d,o.dst=some d->d<σ.n) (ht:aT s=some ti) (aR:ti.desc=.struct fs) (hk:fs[k]?=some (sf,ft)) (hf:aT ft=some tf)
  (hx:σ.ev x=some (.agg cs)) (hr:if tf.desc.agg then r=.agg ((cs.drop sf).take tf.size)else cs[sf]?=some r):Cert P o σ r .pure :=
 Cert.bN .pure (.inl rfl) hd fun a g _ h _=>by
  obtain⟨vs,e,hl,dk,hh⟩:=(h x (by simp[ho,Op.operands]) _ hx).yj;obtain⟨fields,fl,h1,h2,h3,h4⟩:=m8 hT ht aR hk;subst h3;subst h4;have nh:=(hT _ _ hf).isAgg g.w;have cM:=(hT _ _ hf).sizeOf g.w;split at hr
  ·rename_i eH;subst hr;refine⟨.agg (vs.extract fl.offset (fl.offset+tf.size)),by simp[execOp,ho,e,Instr.field,run_underlying h1,h2,asAgg,part,nh,eH,cM],?_⟩;refine .agg ?_ (fun c hc=>dk c (List.mem_of_mem_drop (List.mem_of_mem_take hc))) (fun i c u hi hu=>?_)
   ·simp[hl];omega
   have ia:=my hi;rw[List.getElem?_drop]at ia;refine hh (fl.offset+i) c u ia ?_;have:i<tf.size:=by
    have:=I hi;simp at this;omega
   rw[Array.getElem?_extract]at hu;split at hu
   ·exact hu
   cases hu
  rename_i eH;have a8:fl.offset<vs.size:=by
   rw[hl];exact I hr
  exact⟨vs[fl.offset],by simp[execOp,ho,e,Instr.field,run_underlying h1,h2,asAgg,part,nh,eH,a8],hh _ _ _ hr (by simp[a8])⟩
theorem yv{P:Program}{o:Oper}{σ:St}{x:Operand}{k:Nat}{cs:List ae}{r:ae}
  (ho:o.op=.extract x k) (hd:∀d,o.dst=some d->d<σ.n) (hx:σ.ev x=some (.cx cs)) (hr:cs[k]?=some r):Cert P o σ r .pure :=
 Cert.bN .pure (.inl rfl) hd fun a g _ h _=>by
  obtain⟨vs,e,hl,hh⟩:=(h x (by simp[ho,Op.operands]) _ hx).Oj;have a8:k<vs.size:=by
   rw[hl];exact I hr
  exact⟨vs[k],by simp[execOp,ho,e,Instr.extract,a8],hh _ _ _ hr (by simp[a8])⟩
theorem cJ{P:Program}(op:BinOp)(t:TypeId)(x y:Operand)(a b:Value)(w:World)(h1:a≠.nilIface)(h2:∀cs,a≠.agg cs):(eqGuard op t x y a b).run P w=.ok () w:=by
 cases op<;>first|rfl|(cases a<;>first|rfl|exact absurd rfl h1|exact absurd rfl (h2 _))
def kI:BinOp->Int->Int->Option Bool
 | .eql,a,b=>some (decide (a=b))
 | .neq,a,b=>some (!decide (a=b))
 | .lss,a,b=>some (decide (a<b))
 | .leq,a,b=>some (decide (a<=b))
 | .gtr,a,b=>some (decide (b<a))
 | .geq,a,b=>some (decide (b<=a))
 | _,_,_=>none
theorem Ar{P:Program}{o:Oper}{σ:St}{op:BinOp}{t t':TypeId}{x y:Operand}{k:IntKind}{m n:Int}{r:Bool}
  (ho:o.op=.binOp op t x y t') (hd:∀d,o.dst=some d->d<σ.n) (hx:σ.ev x=some (.v (.int k m))) (hy:σ.ev y=some (.v (.int k n))) (hr:kI op m n=some r):Cert P o σ (.v (.bool r)) .pure :=
 Cert.bN .pure (.inl rfl) hd fun a g _ h _=>by
  have ex:=(h x (by simp[ho,Op.operands]) _ hx).bX.1;have ey:=(h y (by simp[ho,Op.operands]) _ hy).bX.1;have hg:=cJ (P:=P) op t x y (.int k m) (.int k n) g.w (by simp) (by simp);refine⟨.bool r,?_,.v trivial⟩;have hb:(binOp op t (.int k m) (.int k n)).run P g.w=.ok (.bool r) g.w:=by
   cases op<;>first|(cases hr;done)|(obtain rfl:=Option.some.inj hr;simp[binOp,Op.intCmp];try (rw[Bool.eq_iff_iff];simp))
  simp[execOp,ho,ex,ey,hg,hb]
def bitsOf(k:IntKind)(f:BitVec k.bits->BitVec k.bits->BitVec k.bits)(a b:Int):Int:=k.wrap (f (BitVec.ofInt k.bits a) (BitVec.ofInt k.bits b)).toNat
def ed(k:IntKind):BinOp->Int->Int->Option Int
 | .add,a,b=>some (a+b)
 | .sub,a,b=>some (a-b)
 | .mul,a,b=>some (a*b)
 | .quo,a,b=>if b=0 then none else some (a.tdiv b)
 | .rem,a,b=>if b=0 then none else some (a.tmod b)
 | .and,a,b=>some (bitsOf k (fun x y=>x&&& y) a b)
 | .or,a,b=>some (bitsOf k (fun x y=>x ||| y) a b)
 | .xor,a,b=>some (bitsOf k (fun x y=>x ^^^ y) a b)
 | .andNot,a,b=>some (bitsOf k (fun x y=>x&&& ~~~y) a b)
 | _,_,_=>none
theorem wm{P:Program}{o:Oper}{σ:St}{op:BinOp}{t t':TypeId}{x y:Operand}{k:IntKind}{m n r:Int}
  (ho:o.op=.binOp op t x y t') (hd:∀d,o.dst=some d->d<σ.n) (hx:σ.ev x=some (.v (.int k m))) (hy:σ.ev y=some (.v (.int k n))) (hr:ed k op m n=some r) (h1:k.min<=r) (h2:r<=k.max) :
  Cert P o σ (.v (.int k r)) .pure :=
 Cert.bN .pure (.inl rfl) hd fun a g _ h _=>by
  have ex:=(h x (by simp[ho,Op.operands]) _ hx).bX.1;have ey:=(h y (by simp[ho,Op.operands]) _ hy).bX.1;have hg:=cJ (P:=P) op t x y (.int k m) (.int k n) g.w (by simp) (by simp);have hw:=nc k r h1 h2;refine⟨.int k r,?_,.v ⟨h1,h2⟩⟩;have hb:(binOp op t (.int k m) (.int k n)).run P g.w=.ok (.int k r) g.w:=by
   cases op with
   | add | sub | mul=>simp[ed]at hr;subst hr;simp[binOp,Op.intArith,hw]
   | quo | rem =>
    simp only[ed]at hr;split at hr
    ·cases hr
    rename_i z6;simp only[Option.some.injEq]at hr;subst hr;simp[binOp,Op.intDiv,z6,hw]
   | and | or | xor | andNot=>simp[ed]at hr;subst hr;simp[binOp,Op.intBits,bitsOf]
   | _=>simp[ed]at hr
  simp[execOp,ho,ex,ey,hg,hb]
def dx:BinOp->Bool
 | .add=>false
 | .sub=>false
 | .mul=>false
 | .quo=>false
 | .rem=>false
 | .and=>false
 | .or=>false
 | .xor=>false
 | .shl=>true
 | .shr=>true
 | .andNot=>false
 | .eql=>false
 | .neq=>false
 | .lss=>false
 | .leq=>false
 | .gtr=>false
 | .geq=>false
def eV(k:IntKind):BinOp->Int->Int->Int
 | .shl,a,n=>k.wrap (a*2 ^ (min n.toNat k.bits))
 | _,a,n=>a.fdiv (2 ^ (min n.toNat k.bits))
theorem wz{P:Program}{o:Oper}{σ:St}{op:BinOp}{t t':TypeId}{x y:Operand}{k k':IntKind}{m n:Int}
  (ho:o.op=.binOp op t x y t') (hd:∀d,o.dst=some d->d<σ.n) (hx:σ.ev x=some (.v (.int k m))) (hy:σ.ev y=some (.v (.int k' n))) (hs:dx op=true) (hn:0<=n) (h1:k.min<=eV k op m n) (h2:eV k op m n<=k.max) :
  Cert P o σ (.v (.int k (eV k op m n))) .pure :=
 Cert.bN .pure (.inl rfl) hd fun a g _ h _=>by
  have ex:=(h x (by simp[ho,Op.operands]) _ hx).bX.1;have ey:=(h y (by simp[ho,Op.operands]) _ hy).bX.1;have hg:=cJ (P:=P) op t x y (.int k m) (.int k' n) g.w (by simp) (by simp);have ko:¬n<0:=by omega
  refine⟨.int k (eV k op m n),?_,.v ⟨h1,h2⟩⟩;have hb:(binOp op t (.int k m) (.int k' n)).run P g.w=.ok (.int k (eV k op m n)) g.w:=by
   cases op with
   | shl | shr=>simp[binOp,Op.shift,ko,eV]
   | _=>simp[dx]at hs
  simp[execOp,ho,ex,ey,hg,hb]
theorem HY(a b:ByteArray):(a.toList == b.toList)=decide (a=b):=by
 rw[Bool.eq_iff_iff];simp only[beq_iff_eq,decide_eq_true_eq];refine⟨fun h=>?_,fun h=>by rw[h]⟩;rw[ByteArray.toList_eq,ByteArray.toList_eq]at h;exact ByteArray.ext (Array.toList_inj.1 h)
theorem wu{P:Program}{o:Oper}{σ:St}{op:BinOp}{t t':TypeId}{x y:Operand}{m n:ByteArray}{r:Bool}
  (ho:o.op=.binOp op t x y t') (hd:∀d,o.dst=some d->d<σ.n) (hx:σ.ev x=some (.v (.string m))) (hy:σ.ev y=some (.v (.string n)))
  (hr:(op=.eql∧r=decide (m=n))∨(op=.neq∧r=!decide (m=n))):Cert P o σ (.v (.bool r)) .pure :=
 Cert.bN .pure (.inl rfl) hd fun a g _ h _=>by
  have ex:=(h x (by simp[ho,Op.operands]) _ hx).bX.1;have ey:=(h y (by simp[ho,Op.operands]) _ hy).bX.1;have hg:=cJ (P:=P) op t x y (.string m) (.string n) g.w (by simp) (by simp);refine⟨.bool r,?_,.v trivial⟩;have hb:(binOp op t (.string m) (.string n)).run P g.w=.ok (.bool r) g.w:=by
   have P4:=HY m n;rcases hr with⟨e1,e2⟩|⟨e1,e2⟩<;>subst e1<;>subst e2
   ·simp only[binOp,Op.stringOp,Sem.run_pure,P4]
   simp only[binOp,Op.stringOp,Sem.run_pure,P4]
  simp[execOp,ho,ex,ey,hg,hb]
theorem Au{P:Program}{o:Oper}{σ:St}{op:BinOp}{t t':TypeId}{x y:Operand}{m n r:Bool}
  (ho:o.op=.binOp op t x y t') (hd:∀d,o.dst=some d->d<σ.n) (ht:P.underlying t=some .bool) (hx:σ.ev x=some (.v (.bool m))) (hy:σ.ev y=some (.v (.bool n)))
  (hr:(op=.eql∧r=(m == n))∨(op=.neq∧r=!(m == n))):Cert P o σ (.v (.bool r)) .pure :=
 Cert.bN .pure (.inl rfl) hd fun a g _ h _=>by
  have ex:=(h x (by simp[ho,Op.operands]) _ hx).bX.1;have ey:=(h y (by simp[ho,Op.operands]) _ hy).bX.1;have hg:=cJ (P:=P) op t x y (.bool m) (.bool n) g.w (by simp) (by simp);refine⟨.bool r,?_,.v trivial⟩;have he:(Op.equal t (.bool m) (.bool n)).run P g.w=.ok (m == n) g.w:=by
   have e:∃d,Op.equal t (.bool m) (.bool n)=Op.equalIn (d+1) t (.bool m) (.bool n):=⟨9999,rfl⟩
   obtain⟨d,e⟩:=e;rw[e];simp only[Op.equalIn,Sem.run_bind,run_underlying ht,Result.andThen_ok,Sem.run_pure]
  rcases hr with⟨e1,e2⟩|⟨e1,e2⟩<;>subst e1<;>subst e2<;>simp[execOp,ho,ex,ey,hg,binOp,he]
theorem Ig{P:Program}{o:Oper}{σ:St}{t:TypeId}{x:Operand}{m:Bool}
  (ho:o.op=.unOp .not t x) (hd:∀d,o.dst=some d->d<σ.n) (hx:σ.ev x=some (.v (.bool m))):Cert P o σ (.v (.bool !m)) .pure :=
 Cert.bN .pure (.inl rfl) hd fun a g _ h _=>by
  have ex:=(h x (by simp[ho,Op.operands]) _ hx).bX.1;exact⟨.bool !m,by simp[execOp,ho,ex,Op.unary],.v trivial⟩
theorem Ic{P:Program}{o:Oper}{σ:St}{t:TypeId}{x:Operand}{k:IntKind}{m:Int}
  (ho:o.op=.unOp .neg t x) (hd:∀d,o.dst=some d->d<σ.n) (hx:σ.ev x=some (.v (.int k m))) (h1:k.min<=-m) (h2:-m<=k.max):Cert P o σ (.v (.int k (-m))) .pure :=
 Cert.bN .pure (.inl rfl) hd fun a g _ h _=>by
  have ex:=(h x (by simp[ho,Op.operands]) _ hx).bX.1;have hw:=nc k (-m) h1 h2;exact⟨.int k (-m),by simp[execOp,ho,ex,Op.unary,Op.intArith,hw],.v ⟨h1,h2⟩⟩
theorem cI{P:Program}{o:Oper}{b:Builtin}{args:Array Operand}{rL:Array TypeId}(ho:o.op=.call ⟨.builtin b,args,rL⟩)(a:Act)(w:World) :
  (execOp a.eval o).run P w=(builtin b rL o.type (args.map fun | .const _=>true|_=>false) (args.map a.eval)).run P w:=by
 simp[execOp,ho,resolve,invoke];rfl
theorem Ia{P:Program}{aT:eh}(hT:b7 P aT){o:Oper}{σ:St}{t e:TypeId}{x:Operand}{ti:cc}{n:Nat}{y:ae}
  (ho:o.op=.call ⟨.builtin .len,#[x],#[t]⟩) (hd:∀d,o.dst=some d->d<σ.n) (ht:aT t=some ti) (aR:ti.desc=.slice e) (hx:σ.ev x=some y)
  (hy:(∃sz xs ow,y=.aB sz xs ow∧n=xs.length)∨(∃id off cap,y=.ms id off n cap)∨∃id sz,y=.os id n sz):Cert P o σ (.v (.int .i64 n)) .pure :=
 Cert.bN .pure (.inl rfl) hd fun a g _ h _=>by
  have hu:=bR hT ht aR;have gW:=h x (by simp[ho,Op.operands,Call.operands]) _ hx;have key:∃ad cap,a.eval x=.slice ad n cap∧n<=2 ^ 62:=by
   rcases hy with⟨sz,xs,ow,e1,e2⟩|⟨id,off,cap,e1⟩|⟨id,sz,e1⟩
   ·subst e1;subst e2;rcases gW.eQ with⟨q1,q2⟩|⟨ad,cap,_,q1,_,_,_,q2,_⟩
    ·subst q2;exact⟨_,_,q1,by simp⟩
    exact⟨_,_,q1,q2⟩
   ·subst e1;obtain⟨l,_,_,_,_,_,q2,_,_,q1⟩:=gW.oe;exact⟨_,_,q1,q2⟩
   subst e1;obtain⟨l,_,_,_,_,_,_,_,q2,q1⟩:=gW.qd;exact⟨_,_,q1,q2⟩
  obtain⟨ad,cap,q1,q2⟩:=key;refine⟨.int .i64 n,?_,.v ?_⟩
  ·rw[cI ho];simp[builtin,Builtin.len_,q1,run_underlying hu,goInt]
  simp[j8,IntKind.min,IntKind.max,IntKind.bits,IntKind.signed];omega
theorem run_sliceBound{P:Program}(k:IntKind)(n:Int)(y:Nat)(c:BoundsCode)(w:World)(h0:0<=n)(h1:n<=y):(Instr.sliceBound (.int k n) y c).run P w=.ok n.toNat w:=by
 simp[Instr.sliceBound,asIntOf,h0,h1]
theorem Ez{sz:Nat}{xs:List ae}(cM:∀x∈xs,x.cells.length=sz)(lo hi j:Nat)(c:ae)(h:(al ((xs.take hi).drop lo))[j]?=some c):(al xs)[lo*sz+j]?=some c:=by
 induction xs generalizing lo hi j with
 | nil=>simp[al]at h
 | cons y ys ih =>
  have hy:=cM y (by simp);have E4:=ih (fun x hx=>cM x (by simp[hx]));cases hi with
  | zero=>simp[al]at h
  | succ hi =>
   cases lo with
   | zero =>
    simp only[List.take_succ_cons,List.drop_zero,al,List.flatMap_cons,Nat.zero_mul,Nat.zero_add]at h ⊢;rw[List.getElem?_append]at h ⊢;split at h
    ·rename_i hj;rw[if_pos hj];exact h
    rename_i hj;rw[if_neg hj];have:=E4 0 hi (j-y.cells.length) (by simpa[al]using h);simpa[al]using this
   | succ lo =>
    simp only[List.take_succ_cons,List.drop_succ_cons]at h;have:=E4 lo hi j h;simp only[al,List.flatMap_cons]at this ⊢;rw[List.getElem?_append,if_neg (by rw[hy,Nat.succ_mul];omega),hy,show(lo+1)*sz+j-sz=lo*sz+j by rw[Nat.succ_mul];omega];exact this
def nK(σ:St)(p:Option Operand)(CP n:Nat):Prop:=(p=none∧n=CP)∨∃q k,p=some q∧σ.ev q=some (.v (.int k (n:Int)))
theorem CH{P:Program}{aT:eh}(hT:b7 P aT){o:Oper}{σ:St}{t e:TypeId}{x:Operand}{ti te:cc}{sz:Nat}{xs:List ae}{ow:nH}{lo hi:Option Operand}{l h:Nat}
  (ho:o.op=.slice t x lo hi none) (hd:∀d,o.dst=some d->d<σ.n) (ht:aT t=some ti) (aR:ti.desc=.slice e) (he:aT e=some te) (cM:te.size=sz) (hx:σ.ev x=some (.aB sz xs ow))
  (iJ:nK σ lo 0 l) (po:nK σ hi xs.length h) (h1:l<=h) (h2:h<=xs.length):Cert P o σ (.aB sz ((xs.take h).drop l) .sh) .pure :=
 Cert.bN .pure (.inl rfl) hd fun a g _ hh _=>by
  have hu:=bR hT ht aR;have gW:=hh x (by cases lo<;>cases hi<;>simp[ho,Op.operands]) _ hx;have hl:(lo=none∧l=0)∨∃q k,lo=some q∧a.eval q=.int k (l:Int):=by
   rcases iJ with q|⟨q,k,e1,e2⟩
   ·exact .inl q
   exact .inr ⟨q,k,e1,(hh q (by subst e1;cases hi<;>simp[ho,Op.operands]) _ e2).bX.1⟩
  have ia:(hi=none∧h=xs.length)∨∃q k,hi=some q∧a.eval q=.int k (h:Int):=by
   rcases po with q|⟨q,k,e1,e2⟩
   ·exact .inl q
   exact .inr ⟨q,k,e1,(hh q (by subst e1;cases lo<;>simp[ho,Op.operands]) _ e2).bX.1⟩
  have cZ:execOp a.eval o=(do pure (.value (<-Instr.sliceAt t (a.eval x) (lo.map a.eval) (hi.map a.eval) none))):=by
   simp[execOp,ho]
  clear iJ po ho;have bounds:∀cap:Nat,xs.length<=cap->(Instr.sliceBounds true xs.length cap (lo.map a.eval) (hi.map a.eval) none).run P g.w=.ok (l,h,cap) g.w:=by
   intro cap cL;rcases hl with⟨e1,e2⟩|⟨p,k,e1,hk⟩
   ·rcases ia with⟨e3,e4⟩|⟨q,k',e3,nF⟩
    ·subst e1 e2 e3 e4;simp[Instr.sliceBounds]
    subst e1 e2 e3;have:=run_sliceBound (P:=P) k' h cap .sliceAcap g.w (by omega) (by omega);simp[Instr.sliceBounds,nF,this]
   rcases ia with⟨e3,e4⟩|⟨q,k',e3,nF⟩
   ·subst e1 e3 e4;have:=run_sliceBound (P:=P) k l xs.length .sliceB g.w (by omega) (by omega);simp[Instr.sliceBounds,hk,this]
   subst e1 e3;have e1:=run_sliceBound (P:=P) k' h cap .sliceAcap g.w (by omega) (by omega);have e2:=run_sliceBound (P:=P) k l h .sliceB g.w (by omega) (by omega);simp[Instr.sliceBounds,hk,nF,e1,e2]
  have kM:=(hT e te he).sizeOf g.w;rcases gW.eQ with⟨q1,q2⟩|⟨ad,cap,f,q1,nV,dk,cL,cv,hs,hm,hr,_⟩
  ·subst q2;have b:=bounds 0 (by simp);simp at h2;subst h2;have:l=0:=by omega
   subst this;refine⟨.slice none 0 0,?_,.nil (fun id e=>by cases e) (by simp)⟩;rw[cZ];simp only[List.length_nil]at b;simp[Instr.sliceAt,run_underlying hu,Instr.slice,q1,kM,b]
  obtain⟨b0,Uu,sp⟩:=ad;have hlen:((xs.take h).drop l).length=h-l:=by simp;omega
  subst cM;by_cases hZ:cap=l
  ·-- the cut is empty and keeps the address
   have e1:l=xs.length:=by omega
   have e2:h=xs.length:=by omega
   subst hZ;subst e2;have b:=bounds cap cL;refine⟨.slice (some ⟨b0,Uu,sp⟩) (xs.length-cap) (cap-cap),?_,?_⟩
   ·rw[cZ];simp[Instr.sliceAt,run_underlying hu,Instr.slice,q1,b,kM]
   have MF:(xs.take xs.length).drop cap=[]:=by simp;omega
   rw[MF];have h0:xs.length-cap=0:=by omega
   rw[h0];exact .aB (by simp) (by simp) (by simp) (by simp) (by simp) f (by simp[al]) (by simp[al]) trivial
  have b:=bounds cap cL;refine⟨.slice (some ((⟨b0,Uu,sp⟩:Addr).add (l*te.size))) (h-l) (cap-l),?_,?_⟩
  ·rw[cZ];simp[Instr.sliceAt,run_underlying hu,Instr.slice,q1,b,kM,hZ]
  rw[<-hlen];have iw:∀y,y∈(xs.take h).drop l->y∈xs:=fun y hy=>List.mem_of_mem_take (List.mem_of_mem_drop hy);by_cases bD:xs=[]
  ·subst bD;simp only[List.take_nil,List.drop_nil];exact .aB (by simp) (by simp) (by simp) (by simp) (by simp) f (by simp[al]) (by simp[al]) trivial
  have nv:=hs bD;simp only at nv;subst nv;rw[addr_add];refine .aB (fun y hy=>nV y (iw y hy)) (fun y hy=>dk y (iw y hy)) (by rw[hlen];omega) (by rw[hlen];omega) (fun _=>rfl) (fun j=>f (l*te.size+j)) (fun j c hj=>?_) (fun j c hj=>?_) trivial
  ·have:=hm _ c (Ez nV l h j c hj);simpa[Nat.add_assoc]using this
  exact hr _ c (Ez nV l h j c hj)
def ae.bf:ae->ae
 | .aB sz xs _=>.aB sz xs .sh
 | x=>x
def ae.share:ae->ae
 | .aB sz xs _=>.aB sz xs .sh
 | .agg cs=>.agg (cs.map ae.bf)
 | x=>x
theorem RV.bf{g:G}{x:ae}{u:Value}(h:RV g x u):RV g x.bf u:=by
 unfold ae.bf;split
 ·exact h.sd
 exact h
theorem ae.ec{x:ae}(h:x.scalar):x.bf.scalar:=by
 cases x<;>first|exact h|trivial
theorem RV.share{g:G}{x:ae}{u:Value}(h:RV g x u):RV g x.share u:=by
 unfold ae.share;split
 ·exact h.sd
 ·obtain⟨vs,e,hl,dk,hh⟩:=h.yj;subst e;refine .agg (by simpa using hl) (fun c hc=>?_) (fun i c w h1 h2=>?_)
  ·rw[List.mem_map]at hc;obtain⟨c',h1,h2⟩:=hc;subst h2;exact ae.ec (dk c' h1)
  rw[List.getElem?_map,Option.map_eq_some_iff]at h1;obtain⟨c',h3,h4⟩:=h1;subst h4;exact(hh i c' w h3 h2).bf
 exact h
def iW(g:G)(cs:List ae)(arr:Array Value):Prop:=arr.size=cs.length∧∀(j:Nat) (c:ae) (u:Value),cs[j]?=some c->arr[j]?=some u->RV g c u
theorem iW.mono{g g':G}(h:Le g g'){cs:List ae}{arr:Array Value}(k:iW g cs arr):iW g' cs arr:=⟨k.1,fun j c u a b=>(k.2 j c u a b).mono h⟩
theorem iW.agg{g:G}{cs:List ae}{arr:Array Value}(k:iW g cs arr)(dk:∀c∈cs,c.scalar):RV g (.agg cs) (.agg arr):=.agg k.1 dk k.2
theorem RV.CB{g:G}{x:ae}{u:Value}(h:RV g x u)(hs:∀c∈x.cells,c.scalar):iW g x.cells u.cells:=h.cells hs
def ae.flat:ae->Prop
 | .cx _=>False
 | _=>True
theorem RV.iB{g:G}{x:ae}{u:Value}(h:RV g x u)(hx:x.flat):∀c∈x.cells,c.scalar:=by
 cases h with
 | agg hl dk hh=>exact dk
 | cx=>exact hx.elim
 | _=>intro c hc;simp only[ae.cells,List.mem_singleton]at hc;subst hc;trivial
def bp(cs:List ae)(off:Nat)(xs:List ae):List ae:=cs.take off++(xs++cs.drop (off+xs.length))
theorem gS{cs:List ae}{off:Nat}{xs:List ae}(h:off+xs.length<=cs.length):(bp cs off xs).length=cs.length:=by
 simp[bp];omega
theorem jo{cs:List ae}{off:Nat}{xs:List ae}(h:off+xs.length<=cs.length)(k:Nat) :
  (bp cs off xs)[k]?=if off<=k∧k<off+xs.length then xs[k-off]? else cs[k]?:=by
 simp only[bp];rw[List.getElem?_append,List.getElem?_append,List.getElem?_take,List.getElem?_drop];have hl:(cs.take off).length=off:=by simp;omega
 rw[hl];by_cases h1:k<off
 ·rw[if_pos h1,if_pos h1,if_neg (by omega)]
 rw[if_neg h1];by_cases h2:k-off<xs.length
 ·rw[if_pos h2,if_pos (by omega)]
 rw[if_neg h2,if_neg (by omega)];congr 1;omega
theorem xq(off:Nat):∀(vs:List Value) (n:Nat) (arr:Array Value),off+n+vs.length<=arr.size->∀k,((vs.zipIdx n).foldl (fun cs p=>cs.setIfInBounds (off+p.2) p.1) arr).size=arr.size ∧
  ((vs.zipIdx n).foldl (fun cs p=>cs.setIfInBounds (off+p.2) p.1) arr)[k]?=if off+n<=k∧k<off+n+vs.length then vs[k-(off+n)]? else arr[k]?
 | [],n,arr,_,k=>by
  refine⟨rfl,?_⟩;rw[if_neg (by simp only[List.length_nil];omega)];rfl
 | v::vs,n,arr,h,k=>by
  simp only[List.length_cons]at h;obtain⟨h1,h2⟩:=xq off vs (n+1) (arr.setIfInBounds (off+n) v) (by rw[Array.size_setIfInBounds];omega) k;simp only[List.zipIdx_cons,List.foldl_cons];refine⟨h1.trans (by simp),?_⟩;rw[h2];simp only[List.length_cons];by_cases e1:off+(n+1)<=k∧k<off+(n+1)+vs.length
  ·rw[if_pos e1,if_pos (by omega),show k-(off+n)=(k-(off+(n+1)))+1 by omega];simp
  rw[if_neg e1];by_cases e2:k=off+n
  ·subst e2;rw[if_pos (by omega),Nat.sub_self];rw[Array.getElem?_setIfInBounds_self_of_lt (by omega)];rfl
  rw[if_neg (by omega),Array.getElem?_setIfInBounds_ne (by omega)]
def iH(place:Nat->Option (Nat×Nat)):List ae->List (Nat×ae)->Option (List ae)
 | cs,[]=>some cs
 | cs,(i,x)::r =>
  match place i with
  | none=>none
  | some (off,size)=>if x.cells.length=size∧off+size<=cs.length then iH place (bp cs off x.cells) r else none
inductive Cg(g:G):List (Nat×ae)->List (Nat×Value)->Prop
 | nil:Cg g [] []
 | cons {i:Nat} {x:ae} {u:Value} {ps:List (Nat×ae)} {vs:List (Nat×Value)} (h:RV g x u) (hf:x.flat) (r:Cg g ps vs):Cg g ((i,x)::ps) ((i,u)::vs)
theorem oQ{g:G}(place:Nat->Option (Nat×Nat)){ps:List (Nat×ae)}{vs:List (Nat×Value)}(hp:Cg g ps vs):∀{cs cs':List ae} {arr:Array Value},iW g cs arr->iH place cs ps=some cs' ->
  ∃cf,Instr.fill place arr vs=some cf∧iW g cs' cf∧((∀c∈cs,c.scalar)->∀c∈cs',c.scalar):=by
 induction hp with
 | nil =>
  intro cs cs' arr h e;simp only[iH,Option.some.injEq]at e;subst e;exact⟨arr,rfl,h,fun h=>h⟩
 | cons hx hf r ih =>
  rename_i i x u ps vs;intro cs cs' arr h e;simp only[iH]at e;cases tQ:place i with
  | none=>simp[tQ]at e
  | some p =>
   obtain⟨off,size⟩:=p;simp only[tQ]at e;split at e
   ·rename_i hc;obtain⟨q9,ZG⟩:=hc;have fw:=hx.iB hf;obtain⟨q1,q2⟩:=hx.CB fw;have cM:off+0+u.cells.toList.length<=arr.size:=by
     simp only[Array.length_toList,q1,q9,h.1];omega
    have ga:=xq off u.cells.toList 0 arr cM;have yT:iW g (bp cs off x.cells) (u.cells.zipIdx.foldl (fun cs p=>cs.setIfInBounds (off+p.2) p.1) arr):=by
     have xy:u.cells.zipIdx.foldl (fun cs p=>cs.setIfInBounds (off+p.2) p.1) arr=(u.cells.toList.zipIdx 0).foldl (fun cs p=>cs.setIfInBounds (off+p.2) p.1) arr:=by
      rw[<-Array.foldl_toList];congr 1;simp[Array.toList_zipIdx]
     rw[xy];refine⟨?_,fun j c w hj hw=>?_⟩
     ·rw[(ga 0).1,gS (by omega),h.1]
     rw[(ga j).2]at hw;rw[jo (by omega)]at hj;simp only[Nat.add_zero,Array.length_toList,q1]at hw;by_cases sN:off<=j∧j<off+x.cells.length
     ·rw[if_pos sN]at hj hw;exact q2 _ c w hj (by simpa using hw)
     rw[if_neg sN]at hj hw;exact h.2 j c w hj hw
    obtain⟨cf,e1,e2,e3⟩:=ih yT e;refine⟨cf,?_,e2,fun cB=>e3 fun c hc=>?_⟩
    ·simp only[Instr.fill,tQ];rw[if_neg (by simp[q1,q9,h.1];omega)];exact e1
    simp only[bp,List.mem_append]at hc;rcases hc with hc|hc|hc
    ·exact cB c (List.mem_of_mem_take hc)
    ·exact fw c hc
    exact cB c (List.mem_of_mem_drop hc)
   cases e
def St.eL(σ:St):List (Nat×Operand)->Option (List (Nat×ae))
 | []=>some []
 | (i,x)::r =>
  match σ.ev x,σ.eL r with
  | some y,some ys=>some ((i,y)::ys)
  | _,_=>none
theorem jK{σ:St}{a:Act}{g:G}:∀{parts:List (Nat×Operand)} {ps:List (Nat×ae)},(∀x∈parts.map (·.2),∀y,σ.ev x=some y->RV g y (a.eval x))->σ.eL parts=some ps->(∀p∈ps,p.2.flat) ->
  Cg g ps (parts.map fun p=>(p.1,a.eval p.2))
 | [],ps,_,h,_=>by
  simp only[St.eL,Option.some.injEq]at h;subst h;exact .nil
 | (i,x)::r,ps,nh,h,hf=>by
  simp only[St.eL]at h;cases hx:σ.ev x with
  | none=>simp[hx]at h
  | some y =>
   cases hr:σ.eL r with
   | none=>simp[hx,hr]at h
   | some ys =>
    simp only[hx,hr,Option.some.injEq]at h;subst h;exact .cons (nh x (by simp) y hx) (hf (i,y) (List.mem_cons_self)) (jK (fun z hz=>nh z (by simp only[List.map_cons,List.mem_cons];exact .inr hz)) hr fun p hp=>hf p (List.mem_cons_of_mem _ hp))
def iP(aT:eh):List (Nat×TypeId)->Option (List (Nat×Nat))
 | []=>some []
 | (off,t)::r =>
  match aT t,iP aT r with
  | some ti,some ps=>some ((off,ti.size)::ps)
  | _,_=>none
theorem sZ{P:Program}{aT:eh}(hT:b7 P aT):∀{fields:List Field} {ps:List (Nat×Nat)},iP aT (fields.map fun f=>(f.offset,f.type))=some ps ->
  fields.mapM (fun f=>(P.info? f.type).map fun i=>(f.offset,i.size))=some ps
 | [],ps,h=>by
  simp only[List.map_nil,iP,Option.some.injEq]at h;subst h;rfl
 | f::r,ps,h=>by
  simp only[List.map_cons,iP]at h;cases ht:aT f.type with
  | none=>simp[ht]at h
  | some ti =>
   cases hr:iP aT (r.map fun f=>(f.offset,f.type))with
   | none=>simp[ht,hr]at h
   | some qs =>
    simp only[ht,hr,Option.some.injEq]at h;subst h;obtain⟨⟨i,z,h1,h2,_⟩,_⟩:=hT _ _ ht;have ih:=sZ hT hr;simp only[List.mapM_cons,h1,Option.map_some,ih];simp[h2]
theorem CD{P:Program}{aT:eh}(hT:b7 P aT){o:Oper}{σ:St}{t:TypeId}{parts:Array (Nat×Operand)}{ti:cc}{fs:List (Nat×TypeId)}{zd:List (Nat×Nat)}{ps:List (Nat×ae)}{cs:List ae}
  (ho:o.op=.build t parts) (hd:∀d,o.dst=some d->d<σ.n) (ht:aT t=some ti) (aR:ti.desc=.struct fs) (tQ:iP aT fs=some zd) (xB:σ.eL parts.toList=some ps) (gG:∀p∈ps,p.2.flat)
  (fw:iH (fun i=>zd[i]?) ti.zero ps=some cs):Cert P o σ (.agg cs) .pure :=
 Cert.bN .pure (.inl rfl) hd fun a g _ h _=>by
  have bH:=jK (a:=a) (g:=g) (fun x hx y hy=>h x (by simpa[ho,Op.operands]using hx) y hy) xB gG;obtain⟨⟨i,z,h1,h2,h3,h4,h5,h6,h7,h8,h9⟩,d,Mc,Vp⟩:=hT t ti ht;rw[aR]at Vp;obtain⟨fields,e1,e2⟩:=Vp;subst e1;obtain⟨cf,q1,q2,q3⟩:=oQ (fun i=>zd[i]?) bH (cs:=ti.zero) (arr:=z.cells) ⟨h5,h8 g⟩ fw;have hp:=sZ hT (fields:=fields.toList) (ps:=zd) (by rw[e2];exact tQ);have hb:P.built t (parts.map fun(i,x)=>(i,a.eval x)).toList=some cf:=by
   unfold Program.built;simp only[h1,Mc,h4,hp];rw[Array.toList_map];simpa using q1
  have bI:=run_build g.w t _ cf hb;exact⟨.agg cf,by simp[execOp,ho,bI],q2.agg (q3 h9)⟩
theorem RV.newRow{g:G}(hg:Good g){xs:List ae}{sz:Nat}{arr:Array Value}{t:TypeId}(cM:∀x∈xs,x.cells.length=sz)(dk:∀x∈xs,∀c∈x.cells,c.scalar)(cv:xs.length<=2 ^ 62)
  (hr:iW g (al xs) arr):RV (g.push (.cells arr t)) (.aB sz xs .ex) (.slice (some ⟨g.w.heap.size,0,none⟩) xs.length xs.length):=by
 have hle:=Le.push g hg (.cells arr t);have lY:=hg.push (.cells arr t);refine .aB cM dk (Nat.le_refl _) cv (fun _=>rfl) (fun j=>arr.getD j undef) (fun j c hj=>?_) (fun j c hj=>?_) rfl
 ·have a8:=I hj;rw[<-hr.1]at a8;refine⟨?_,?_⟩
  ·simp only[G.cell,G.push,Nat.zero_add];rw[cell_of_row (cG _ _)];simp[Array.getD_eq_getD_getElem?,a8]
  rintro(hf|⟨id,l,o,h1,h2,h3,h4,_⟩)
  ·have fi:g.fr g.w.heap.size (0+j):=hf;have:=hg.frlt _ _ fi;omega
  have:=hg.loc id l o h1 h2 h3;have h4':l.block=g.w.heap.size:=h4;omega
 have a8:=I hj;rw[<-hr.1]at a8;exact(hr.2 j c _ hj (by simp[Array.getD_eq_getD_getElem?,a8])).mono hle
theorem r5{sz:Nat}:∀(ys:List ae) (k:Nat) (cs cs':List ae),iH (fun i=>some (i*sz,sz)) cs ((ys.zipIdx k).map fun p=>(p.2,p.1))=some cs'->(k+ys.length)*sz<=cs.length ->
  cs'=cs.take (k*sz)++(al ys++cs.drop ((k+ys.length)*sz))∧∀y∈ys,y.cells.length=sz
 | [],k,cs,cs',h,hl=>by
  simp only[List.zipIdx_nil,List.map_nil,iH,Option.some.injEq]at h;subst h;simp[al]
 | y::ys,k,cs,cs',h,hl=>by
  simp only[List.zipIdx_cons,List.map_cons,iH]at h;split at h
  ·rename_i hc;obtain⟨q9,ZG⟩:=hc;have zZ:(k+1+ys.length)*sz<=(bp cs (k*sz) y.cells).length:=by
    rw[gS (by omega)];simp only[List.length_cons]at hl;rw[show k+1+ys.length=k+(ys.length+1) by omega];exact hl
   obtain⟨e1,e2⟩:=r5 ys (k+1) _ cs' h zZ;refine⟨?_,fun z hz=>?_⟩
   ·rw[e1];apply List.ext_getElem?;intro j;simp only[List.length_cons]at hl ⊢;have Ll:(k+1)*sz=k*sz+sz:=Nat.succ_mul k sz;have nv:(bp cs (k*sz) y.cells).take ((k+1)*sz)=cs.take (k*sz)++y.cells:=by
     simp only[bp];rw[Ll,List.take_append];have hlen:(cs.take (k*sz)).length=k*sz:=by simp;omega
     have Ui:(cs.take (k*sz)).take (k*sz+sz)=cs.take (k*sz):=List.take_of_length_le (by omega);rw[hlen,Ui,show k*sz+sz-k*sz=sz by omega,List.take_append,List.take_of_length_le (Nat.le_of_eq q9),q9,Nat.sub_self];simp
    have ZO:(bp cs (k*sz) y.cells).drop ((k+1+ys.length)*sz)=cs.drop ((k+(ys.length+1))*sz):=by
     simp only[bp];have hlen:(cs.take (k*sz)).length=k*sz:=by simp;omega
     have hmul:(k+1+ys.length)*sz=k*sz+sz+ys.length*sz:=by rw[Nat.add_mul,Ll]
     have TO:(k+(ys.length+1))*sz=k*sz+sz+ys.length*sz:=by rw[Nat.add_mul,Nat.succ_mul];omega
     have ni:(cs.take (k*sz)).drop (k*sz+sz+ys.length*sz)=[]:=List.drop_of_length_le (by rw[hlen];omega);have kW:y.cells.drop (k*sz+sz+ys.length*sz-k*sz)=[]:=List.drop_of_length_le (by omega);rw[hmul,TO,List.drop_append,ni,hlen,List.nil_append,List.drop_append,kW,List.nil_append,List.drop_drop,q9];congr 1;omega
    rw[nv,ZO];simp[al,List.append_assoc]
   rcases List.mem_cons.1 hz with hz|hz
   ·subst hz;exact q9
   exact e2 z hz
  cases h
def gp:Nat->List (Nat×ae)->Option (List ae)
 | _,[]=>some []
 | k,(i,x)::r =>
  if i=k then
   match gp (k+1) r with
   | some xs=>some (x::xs)
   | none=>none
  else none
theorem ox:∀{ps:List (Nat×ae)} {k:Nat} {xs:List ae},gp k ps=some xs->ps=(xs.zipIdx k).map fun p=>(p.2,p.1)
 | [],k,xs,h=>by
  simp only[gp,Option.some.injEq]at h;subst h;rfl
 | (i,x)::r,k,xs,h=>by
  simp only[gp]at h;split at h
  ·rename_i hi;subst hi;cases hr:gp (i+1) r with
   | none=>simp[hr]at h
   | some ys =>
    simp only[hr,Option.some.injEq]at h;subst h;simp[ox hr]
  cases h
theorem ae.lk(x:ae):x.share.cells=x.cells.map ae.bf:=by
 cases x<;>rfl
theorem iW.dj{g:G}{cs:List ae}{arr:Array Value}(h:iW g cs arr):iW g (cs.map ae.bf) arr :=
 ⟨by simpa using h.1,fun j c u h1 h2=>by
  rw[List.getElem?_map,Option.map_eq_some_iff]at h1;obtain⟨c',h3,h4⟩:=h1;subst h4;exact(h.2 j c' u h3 h2).bf⟩
theorem fk(xs:List ae):al (xs.map ae.share)=(al xs).map ae.bf:=by
 induction xs with
 | nil=>rfl
 | cons y ys ih =>
  simp only[al,List.map_cons,List.flatMap_cons,List.map_append,ae.lk]at ih ⊢;rw[ih]
theorem tn{P:Program}{aT:eh}(hT:b7 P aT){o:Oper}{σ:St}{t e:TypeId}{len:Nat}{parts:Array (Nat×Operand)}{ti te:cc}{ps:List (Nat×ae)}{xs:List ae}
  (ho:o.op=.buildSlice t len parts) (hd:∀d,o.dst=some d->d<σ.n) (ht:aT t=some ti) (aR:ti.desc=.slice e) (he:aT e=some te) (mi:0<te.size) (xB:σ.eL parts.toList=some ps) (gG:∀p∈ps,p.2.flat)
  (Jp:gp 0 ps=some xs) (hlen:xs.length=len) (cM:∀x∈xs,x.cells.length=te.size) (Ub:len*te.size<=2 ^ 24):Cert P o σ (.aB te.size (xs.map ae.share) .ex) .pure :=
 Cert.iN hd fun base fN a g bH h _=>by
  have hg:=bH.good;have kc:=jK (a:=a) (g:=g) (fun x hx y hy=>h x (by simpa[ho,Op.operands]using hx) y hy) xB gG;have hu:=bR hT ht aR;obtain⟨⟨i,z,h1,h2,h3,h4,h5,h6,h7,h8,h9⟩,_⟩:=hT e te he;have mO:=ox Jp;have dk:∀x∈xs,∀c∈x.cells,c.scalar:=by
   have aux:∀{ps:List (Nat×ae)} {vs:List (Nat×Value)},Cg g ps vs->∀p∈ps,∀c∈p.2.cells,c.scalar:=by
    intro ps vs hr;induction hr with
    | nil=>intro p hp;cases hp
    | cons hx hf r ih =>
     intro p hp;rcases List.mem_cons.1 hp with hp|hp
     ·subst hp;exact hx.iB hf
     exact ih p hp
   intro x hx c hc;have iw:∃k,(k,x)∈ps:=by
    obtain⟨k,hk⟩:=List.getElem?_of_mem hx;refine⟨0+k,?_⟩;rw[mO,List.mem_map];refine⟨(x,0+k),?_,rfl⟩;rw[List.mem_iff_getElem?];exact⟨k,by simp[hk]⟩
   obtain⟨k,hk⟩:=iw;exact aux kc _ hk c hc
  by_cases hz:len=0
  ·subst hz;have GA:xs=[]:=List.length_eq_zero_iff.1 hlen;subst GA;have WJ:ps=[]:=by rw[mO];rfl
   subst WJ;have TZ:parts.toList=[]:=by
    cases hp:parts.toList with
    | nil=>rfl
    | cons p r =>
     obtain⟨i,x⟩:=p;rw[hp]at xB;simp only[St.eL]at xB;cases hx:σ.ev x with
     | none=>simp[hx]at xB
     | some y =>
      cases hr:σ.eL r with
      | none=>simp[hx,hr]at xB
      | some ys=>simp[hx,hr]at xB
   have Qu:parts = #[]:=Array.toList_eq_nil_iff.1 TZ;subst Qu;refine⟨.slice (some ⟨g.w.heap.size,0,none⟩) 0 0,g.push (.cells #[] e),.inl ?_,Le.push g hg _,hg.push _,rfl,?_⟩
   ·have er:Array.range 0 = #[]:=rfl;simp[execOp,ho,Instr.buildSlice,run_underlying hu,Go.sizeOf,typeInfo,h1,Instr.fill,Go.newRow,G.push,er]
   exact RV.newRow (xs:=[]) hg (by simp) (by simp) (by simp) ⟨by simp[al],by simp[al]⟩
  have bD:¬len*i.size=0:=by
   rw[h2];intro e0;rcases Nat.mul_eq_zero.1 e0 with q|q<;>omega
  obtain⟨zs,yW⟩:∃zs:Array Value,zs=(Array.range (len*i.size)).map (z.cells[· % z.cells.size]!):=⟨_,rfl⟩
  have Dt:zs.size=len*te.size:=by rw[yW];simp[h2]
  obtain⟨zc,Xc,xH,rM⟩:∃zc:List ae,(∀c∈zc,c.scalar)∧iW g zc zs∧zc.length=len*te.size:=by
   refine⟨(List.range (len*te.size)).map fun j=>te.zero.getD (j % te.size) (.v (.bool false)),fun c hc=>?_,⟨by simp[Dt],fun j c u hj MB=>?_⟩,by simp⟩
   ·rw[List.mem_map]at hc;obtain⟨j,_,e⟩:=hc;subst e;have a8:j % te.size<te.zero.length:=by rw[h6];exact Nat.mod_lt _ mi
    rw[List.getD_eq_getElem?_getD,List.getElem?_eq_getElem a8];exact h9 _ (List.getElem_mem a8)
   have gV:=I hj;simp only[List.length_map,List.length_range]at gV;rw[List.getElem?_map,List.getElem?_range gV]at hj;simp only[Option.map_some,Option.some.injEq]at hj;subst hj;have a8:j % te.size<te.zero.length:=by rw[h6];exact Nat.mod_lt _ mi
   have j':j % te.size<z.cells.size:=by rw[h5];exact a8
   rw[yW]at MB;simp only[Array.getElem?_map,h2,Array.getElem?_range,if_pos gV,Option.map_some,Option.some.injEq]at MB;subst MB;rw[List.getD_eq_getElem?_getD,List.getElem?_eq_getElem a8];refine h8 g (j % te.size) _ _ (List.getElem?_eq_getElem a8) ?_;rw[h5,h6];simp[j']
  have I6:∃cs',iH (fun i=>some (i*te.size,te.size)) zc ps=some cs':=by
   have aux:∀(ys:List ae) (k:Nat) (cs:List ae),(∀y∈ys,y.cells.length=te.size)->(k+ys.length)*te.size<=cs.length->∃cs',iH (fun i=>some (i*te.size,te.size)) cs ((ys.zipIdx k).map fun p=>(p.2,p.1))=some cs':=by
    intro ys;induction ys with
    | nil=>intro k cs _ _;exact⟨cs,rfl⟩
    | cons y ys ih =>
     intro k cs hy hl;simp only[List.zipIdx_cons,List.map_cons,iH];simp only[List.length_cons]at hl;have Ll:(k+1)*te.size=k*te.size+te.size:=Nat.succ_mul k te.size;have ES:(k+1)*te.size<=(k+(ys.length+1))*te.size:=Nat.mul_le_mul_right _ (by omega);have hc:y.cells.length=te.size∧k*te.size+te.size<=cs.length:=⟨hy y (by simp),by omega⟩
     rw[if_pos hc];refine ih (k+1) _ (fun z hz=>hy z (List.mem_cons_of_mem _ hz)) ?_;rw[gS (by omega),show k+1+ys.length=k+(ys.length+1) by omega];exact hl
   rw[mO];exact aux xs 0 zc cM (by rw[rM,hlen,Nat.zero_add];exact Nat.le_refl _)
  obtain⟨cs',De⟩:=I6;obtain⟨cf,q1,q2,_⟩:=oQ (fun i=>some (i*te.size,te.size)) kc xH De;obtain⟨e1,_⟩:=r5 xs 0 zc cs' (by rw[<-mO];exact De) (by rw[rM,hlen,Nat.zero_add];exact Nat.le_refl _);have e2:cs'=al xs:=by
   rw[e1];simp only[Nat.zero_mul,List.take_zero,List.nil_append,Nat.zero_add];rw[List.drop_of_length_le (by rw[rM,hlen];omega),List.append_nil]
  subst e2;have bI:(Instr.buildSlice t len (parts.map fun(i,x)=>(i,a.eval x))).run P g.w=.ok (.slice (some ⟨g.w.heap.size,0,none⟩) len len) (g.w.alloc (.cells cf e)):=by
   have AW:¬len*i.size > 2 ^ 24:=by rw[h2];omega
   rw[yW,<-h2]at q1;have Pr:Instr.fill (fun Xd=>some (Xd*i.size,i.size)) ((Array.range (len*i.size)).map (z.cells[· % z.cells.size]!)) (parts.map fun(i,x)=>(i,a.eval x)).toList=some cf:=by
    rw[Array.toList_map];exact q1
   simp only[Instr.buildSlice,run_underlying hu,Go.sizeOf,typeInfo,Go.zeroValue,Sem.run_bind,run_program,Result.andThen_ok,h1,Sem.run_pure,Go.newRow];rw[if_neg AW,if_neg bD];simp only[Sem.run_bind,Sem.run_pure,Result.andThen_ok,run_program,h1,h4,Pr,run_newObj];rfl
  refine⟨.slice (some ⟨g.w.heap.size,0,none⟩) len len,g.push (.cells cf e),.inl (by simp[execOp,ho,bI,G.push]),Le.push g hg _,hg.push _,rfl,?_⟩;have:=RV.newRow (xs:=xs.map ae.share) (sz:=te.size) (arr:=cf) (t:=e) hg (fun x hx=>by
   rw[List.mem_map]at hx;obtain⟨y,h1,h2⟩:=hx;subst h2;rw[ae.lk,List.length_map];exact cM y h1) (fun x hx c hc=>by
   rw[List.mem_map]at hx;obtain⟨y,h1,h2⟩:=hx;subst h2;rw[ae.lk,List.mem_map]at hc;obtain⟨c',h3,h4⟩:=hc;subst h4;exact ae.ec (dk y h1 c' h3)) (by
    simp only[List.length_map,hlen];have:len<=len*te.size:=Nat.le_mul_of_pos_right _ mi;omega) (by rw[fk];exact q2.dj)
  rw[List.length_map,hlen]at this;exact this
end Go.Av
namespace Go.Av
theorem eS{g:G}{o:ai}:(g.objs++[o])[g.objs.length]?=some o:=by simp
theorem iG{g:G}(hg:Good g){l:Option Loc}:(g.env++[l])[g.objs.length]?=some l:=by
 rw[<-hg.len];simp
theorem H'{P:Program}{o:Oper}{σ:St}{t:TypeId}{x:Operand}{y:ae}(ho:o.op=.box t x)(hd:∀d,o.dst=some d->d<σ.n)(hx:σ.ev x=some y)(hf:y.flat) :
  Cert P o σ (.mp σ.objs.length 0) (.write (σ.objs++[.cells y.cells])) :=
 Cert.iN hd fun base fN a g bH h iT=>by
  have hO:g.objs=σ.objs:=iT.resolve_left (by simp);have hg:=bH.good;have gW:=h x (by simp[ho,Op.operands]) _ hx;have dk:=gW.iB hf;have wJ:=gW.CB dk;have hle:=Le.alloc hg (.cells (a.eval x).cells t) 0 (.cells y.cells);refine⟨.pointer (some ⟨g.w.heap.size,0,none⟩),g.alloc (.cells (a.eval x).cells t) 0 (.cells y.cells),.inl ?_,hle,Good.alloc hg _ 0 _ (.inr rfl) ⟨_,t,rfl,by rw[wJ.1];exact Nat.le_refl _,(wJ.mono hle).2,dk⟩,?_,?_⟩
  ·simp[execOp,ho,Instr.box,Go.newVar,Go.newRow,G.alloc]
  ·simp[G.alloc,hO,Mode.post]
  rw[<-hO];exact .mp (l:=⟨g.w.heap.size,0,_⟩) (iG hg) eS (by simp[ai.aD])
theorem CC{P:Program}{aT:eh}(hT:b7 P aT){o:Oper}{σ:St}{t:TypeId}{ti:cc}(ho:o.op=.alloc t)(hd:∀d,o.dst=some d->d<σ.n)(ht:aT t=some ti) :
  Cert P o σ (.mp σ.objs.length 0) (.write (σ.objs++[.cells ti.zero])) :=
 Cert.iN hd fun base fN a g bH h iT=>by
  have hO:g.objs=σ.objs:=iT.resolve_left (by simp);have hg:=bH.good;obtain⟨z,hz,h5,_,_,h8,h9⟩:=(hT t ti ht).zeroValue;have hle:=Le.alloc hg (.cells z.cells t) 0 (.cells ti.zero);refine⟨.pointer (some ⟨g.w.heap.size,0,none⟩),g.alloc (.cells z.cells t) 0 (.cells ti.zero),.inl ?_,hle,Good.alloc hg _ 0 _ (.inr rfl) ⟨_,t,rfl,by rw[h5];exact Nat.le_refl _,fun j c u a b=>h8 _ j c u a b,h9⟩,?_,?_⟩
  ·simp[execOp,ho,Instr.alloc,hz,Go.newVar,Go.newRow,G.alloc]
  ·simp[G.alloc,hO,Mode.post]
  rw[<-hO];exact .mp (l:=⟨g.w.heap.size,0,_⟩) (iG hg) eS (by simp[ai.aD])
theorem yy{P:Program}{o:Oper}{σ:St}{t:TypeId}(kt:KT)(ho:o.op=.makeMap t none)(hd:∀d,o.dst=some d->d<σ.n) :
  Cert P o σ (.mm σ.objs.length) (.write (σ.objs++[.map kt []])) :=
 Cert.iN hd fun base fN a g bH h iT=>by
  have hO:g.objs=σ.objs:=iT.resolve_left (by simp);have hg:=bH.good;have hle:=Le.alloc hg (.map #[] 0) 0 (.map kt []);refine⟨.map (some g.w.heap.size),g.alloc (.map #[] 0) 0 (.map kt []),.inl ?_,hle,Good.alloc hg _ 0 _ (.inr rfl) ⟨#[],0,rfl,rfl,by simp,by simp⟩,?_,?_⟩
  ·simp[execOp,ho,Instr.makeMap,G.alloc]
  ·simp[G.alloc,hO,Mode.post]
  rw[<-hO];exact .mm (l:=⟨g.w.heap.size,0,_⟩) (iG hg) eS (by simp[ai.aD])
theorem o9(z:List ae)(hz:0<z.length):∀(m j:Nat) (c:ae),(List.replicate m z).flatten[j]?=some c->z[j % z.length]?=some c
 | 0,j,c=>by simp
 | m+1,j,c=>by
  intro hj;rw[List.replicate_succ,List.flatten_cons,List.getElem?_append]at hj;split at hj
  ·rename_i a8;rw[Nat.mod_eq_of_lt a8];exact hj
  rename_i pY;have:=o9 z hz m _ c hj;rw[Nat.mod_eq_sub_mod (by omega)];exact this
theorem uE{P:Program}{aT:eh}(hT:b7 P aT){o:Oper}{σ:St}{t e:TypeId}{x y:Operand}{ti te:cc}{k k':IntKind}{n:Int}
  (ho:o.op=.makeSlice t x y) (hd:∀d,o.dst=some d->d<σ.n) (ht:aT t=some ti) (aR:ti.desc=.slice e) (he:aT e=some te) (hx:σ.ev x=some (.v (.int k n))) (hy:σ.ev y=some (.v (.int k' n)))
  (h0:0<=n) (hb:te.bytes*n.toNat<=2 ^ 48) (OD:n.toNat<=2 ^ 62) (hs:0<te.size) :
  Cert P o σ (.ms σ.objs.length 0 n.toNat n.toNat) (.write (σ.objs++[.cells (List.replicate n.toNat te.zero).flatten])) :=
 Cert.iN hd fun base fN a g bH h iT=>by
  have hO:g.objs=σ.objs:=iT.resolve_left (by simp);have hg:=bH.good;have ex:=(h x (by simp[ho,Op.operands]) _ hx).bX.1;have ey:=(h y (by simp[ho,Op.operands]) _ hy).bX.1;have hu:=bR hT ht aR;obtain⟨⟨i,z,h1,h2,h3,h4,h5,h6,h7,h8,h9⟩,_⟩:=hT e te he;obtain⟨m,rfl⟩:=Int.eq_ofNat_of_zero_le h0;simp only[Int.toNat_natCast]at *;have Db:(i.bytes:Int)*(m:Int)<=281474976710656:=by
   rw[h3,<-Int.natCast_mul];omega
  have bI:=run_make (P:=P) g.w t e i z hu h1 h4 k k' m m (by omega) (Int.le_refl _) Db (by omega);simp only[Int.toNat_natCast]at bI;have hlen:(List.replicate m te.zero).flatten.length=m*te.size:=by simp[h6]
  have e9:∀(j:Nat) (c:ae),(List.replicate m te.zero).flatten[j]?=some c->te.zero[j % te.size]?=some c:=fun j c=>h6 ▸ o9 te.zero (by omega) m j c;have hle:=Le.alloc hg (.cells (madeCells z.cells (m*i.size)) e) 0 (.cells (List.replicate m te.zero).flatten);refine⟨.slice (some ⟨g.w.heap.size,0,none⟩) m m,g.alloc (.cells (madeCells z.cells (m*i.size)) e) 0 (.cells (List.replicate m te.zero).flatten),.inl ?_,hle,Good.alloc hg _ 0 _ (.inr rfl) ⟨_,e,rfl,?_,?_,?_⟩,?_,?_⟩
  ·simp[execOp,ho,ex,ey,bI,G.alloc]
  ·rw[hlen,size_madeCells,h2];exact Nat.le_refl _
  ·intro j c u hj nk;have gV:=e9 j c hj;have a8:=I hj;rw[hlen]at a8;have j':j % te.size<z.cells.size:=by rw[h5];exact I gV
   refine h8 _ _ _ _ gV ?_;simp only[madeCells,Array.getElem?_map,h2,Array.getElem?_range,if_pos a8,Option.map_some,Option.some.injEq]at nk;subst nk;rw[h5,h6];simp[j']
  ·intro c hc;rw[List.mem_flatten]at hc;obtain⟨l,hl,hc⟩:=hc;rw[List.mem_replicate]at hl;exact h9 c (hl.2 ▸ hc)
  ·simp[G.alloc,hO,Mode.post]
  rw[<-hO];exact .ms (l:=⟨g.w.heap.size,0,_⟩) (iG hg) eS (by simp[ai.aD]) (Nat.le_refl _) (Nat.le_refl _) OD
theorem iW.bp{g:G}{cs xs:List ae}{arr vs:Array Value}(h:cs.length<=arr.size∧∀(j:Nat)(c:ae)(u:Value),cs[j]?=some c->arr[j]?=some u->RV g c u)(k:iW g xs vs){off:Nat}(ho:off+xs.length<=cs.length) :
  (bp cs off xs).length<=(arr.toList.take off++vs.toList++arr.toList.drop (off+vs.toList.length)).toArray.size ∧
  ∀(j:Nat) (c:ae) (u:Value),(bp cs off xs)[j]?=some c->(arr.toList.take off++vs.toList++arr.toList.drop (off+vs.toList.length)).toArray[j]?=some u->RV g c u:=by
 obtain⟨h1,h2⟩:=h;obtain⟨k1,k2⟩:=k;have hl:(arr.toList.take off).length=off:=by simp;omega
 refine⟨?_,fun j c u hj hu=>?_⟩
 ·rw[gS ho];simp[k1];omega
 rw[jo ho]at hj;have nk:(arr.toList.take off++vs.toList++arr.toList.drop (off+vs.toList.length))[j]?=some u:=by simpa using hu
 rw[List.append_assoc,List.getElem?_append,hl,List.getElem?_append,Array.length_toList,k1]at nk;by_cases e1:j<off
 ·rw[if_pos e1]at nk;rw[if_neg (by omega)]at hj;rw[List.getElem?_take,if_pos e1]at nk;exact h2 j c u hj (by simpa using nk)
 rw[if_neg e1]at nk;by_cases e2:j-off<xs.length
 ·rw[if_pos e2]at nk;rw[if_pos (by omega)]at hj;exact k2 _ c u hj (by simpa using nk)
 rw[if_neg e2]at nk;rw[if_neg (by omega)]at hj;rw[List.getElem?_drop]at nk;refine h2 j c u hj ?_;rw[show off+xs.length+(j-off-xs.length)=j by omega]at nk;simpa using nk
theorem setRow_other(w:World)(b k:Nat)(cs:Array Value)(h:k≠b):(w.setRow b cs).heap[k]?=w.heap[k]?:=by
 simp only[World.setRow,Array.getElem?_modify];rw[if_neg (by omega)]
theorem setRow_size(w:World)(b:Nat)(cs:Array Value):(w.setRow b cs).heap.size=w.heap.size:=by
 simp[World.setRow]
theorem lB{g:G}{id:Nat}{cs cs':List ae}{l:Loc}(ho:g.objs[id]?=some (.cells cs))(he:g.env[id]?=some (some l))(iJ:l.lo=0)(cf:Array Value):lb g id (.cells cs) (some l) (.cells cs') (g.w.setRow l.block cf) where
 obj:=ho
 os:=rfl
 tape:=rfl
 output:=rfl
 size:=by rw[setRow_size];exact Nat.le_refl _
 block:=fun k _ hk=>setRow_other _ _ _ _ (fun e=>hk l he trivial e.symm)
 cell:=fun b off x hx hb=>by
  by_cases e:b=l.block
  ·have:=hb l he trivial e.symm;omega
  rw[jb (setRow_other g.w l.block b cf e)];exact hx
 place:=fun l1 h1 _=>by
  simp only[Option.some.injEq]at h1;subst h1;exact .inr ⟨l,he,trivial,rfl,Nat.le_refl _⟩
 spare:=fun m h=>by cases h
 plain:=fun _=>⟨by simp[ai.aD],he⟩
 gone:=by simp
theorem CI{P:Program}{aT:eh}(hT:b7 P aT){o:Oper}{σ:St}{t:TypeId}{x y:Operand}{ti:cc}{id off:Nat}{cs:List ae}{v:ae}(ho:o.op=.store t x y)(jL:o.dst=none)
  (ht:aT t=some ti) (hx:σ.ev x=some (.mp id off)) (tD:σ.objs[id]?=some (.cells cs)) (hy:σ.ev y=some v) (hf:v.flat) (cM:v.cells.length=ti.size) (hs:off+ti.size<=cs.length) :
  Cert P o σ (.v (.bool false)) (.write (σ.objs.set id (.cells (bp cs off v.cells)))) :=
 Cert.iN (by simp[jL]) fun base fN a g bH h iT=>by
  have hO:g.objs=σ.objs:=iT.resolve_left (by simp);have hg:=bH.good;obtain⟨l,o1,he,h1,_,ex⟩:=(h x (by simp[ho,Op.operands]) _ hx).mU;have Cb:=h y (by simp[ho,Op.operands]) _ hy;have dk:=Cb.iB hf;have wJ:=Cb.CB dk;have mh:g.objs[id]?=some (.cells cs):=by rw[hO];exact tD
  obtain⟨arr,t',iJ,dq,hlen,fw,nt,Dj⟩:=hg.row mh he;obtain⟨cf,ij⟩:∃cf,cf=(arr.toList.take off++(a.eval y).cells.toList++arr.toList.drop (off+(a.eval y).cells.toList.length)).toArray:=⟨_,rfl⟩
  have dG:=run_storeCells_at P l.block off t' (a.eval y).cells.toList 0 arr g.w dq (by simp[wJ.1];omega) (fun u hu=>by
   obtain⟨j,hj⟩:=List.getElem?_of_mem hu;have gV:(a.eval y).cells[j]?=some u:=by simpa using hj
   have a8:=aX gV;rw[wJ.1]at a8;have hc:=List.getElem?_eq_getElem a8;exact((wJ.2 j _ u hc gV).ir (dk _ (List.mem_of_getElem? hc))).1)
  simp only[Nat.add_zero]at dG;rw[<-ij]at dG;have eN:=lB (cs':=bp cs off v.cells) mh he iJ cf;have hle:=Le.bw hg eN;have nv:=iW.bp ⟨hlen,fw⟩ wJ (off:=off) (by omega);rw[<-ij]at nv;refine⟨.bool false,g.bw id (some l) (.cells (bp cs off v.cells)) (g.w.setRow l.block cf),.inr ⟨jL,?_⟩,hle,Good.bw hg eN ?_ ?_,?_,.v trivial⟩
  ·have Pa:((a.eval y).cells.size≠ti.size)=False:=by simp[wJ.1,cM]
   simp[execOp,ho,ex,Instr.storeAt,Instr.sureAddr,Go.storeVar,(hT t ti ht).sizeOf,wJ.1,cM,dG,G.bw]
  ·refine⟨l,cf,t',rfl,iJ,?_,nv.1,fun j c u a b=>(nv.2 j c u a b).mono hle,fun c hc=>?_,?_⟩
   ·exact setRow_heap g.w l.block arr cf t' (0,0) dq
   ·simp only[bp,List.mem_append]at hc;rcases hc with hc|hc|hc
    ·exact nt c (List.mem_of_mem_take hc)
    ·exact dk c hc
    exact nt c (List.mem_of_mem_drop hc)
   have q:=wJ.1;rw[ij];simp only[List.size_toArray,List.length_append,List.length_take,List.length_drop,Array.length_toList];omega
  ·intro l1 h1 _;simp only[Option.some.injEq]at h1;subst h1;rw[setRow_size];exact aX dq
  simp only[G.bw,Mode.post,hO]
section
variable {P:Program}
theorem gQ(w w':World)(t ty e:TypeId)(i:TypeInfo)(ht:P.underlying t=some (.slice e))(hi:P.info? e=some i)(a:Addr)(nB vE n:Nat)(x:Value)(news:List Value)
  (EY:∀w,(Builtin.lenOf x).run P w=.ok n w) (EZ:(Builtin.firstCells i.size n x).run P w=.ok news.toArray w) (nj:nB+n<=vE) (dG:(storeCells (a.add (nB*i.size)) news).run P w=.ok () w') :
  (Builtin.append_ #[t,t] ty #[.slice (some a) nB vE,x]).run P w=.ok (.slice (some a) (nB+n) vE) w':=by
 simp[Builtin.append_,run_underlying ht,Go.sizeOf,typeInfo,hi,EY,nj,EZ,dG]
theorem gn(w:World)(t ty e:TypeId)(i:TypeInfo)(z:Value)(ht:P.underlying t=some (.slice e))(hi:P.info? e=some i)(hz:i.zero=some z)(s:Option Addr)(nB vE n:Nat)(x:Value)(gH news:List Value)
  (EY:∀w,(Builtin.lenOf x).run P w=.ok n w) (EZ:(Builtin.firstCells i.size n x).run P w.drew=.ok news.toArray w.drew) (hs:(Builtin.firstCells i.size nB (.slice s nB vE)).run P w.drew=.ok gH.toArray w.drew)
  (nj:vE<nB+n) (YZ:nB+n<=2 ^ 62) (bJ:(nB+n)*i.bytes<=2 ^ 47) :
  (Builtin.append_ #[t,t] ty #[.slice s nB vE,x]).run P w =
   .ok (.slice (some ⟨w.heap.size,0,none⟩) (nB+n) (grownCap w (nB+n) vE e)) (w.drew.alloc (.cells (gH.toArray++news.toArray++Builtin.zeroCells z.cells (grownCap w (nB+n) vE e-(nB+n))) e)):=by
 have hn:¬(nB+n<=vE):=by omega
 have Vt:¬(9223372036854775807<((nB:Int)+(n:Int))):=by omega
 have XE:¬(281474976710656<Builtin.nextslicecap (nB+n) vE*i.bytes):=by
  have h1:=nextslicecap_le nj;have h2:=Nat.mul_le_mul_right i.bytes h1;rw[Nat.mul_assoc]at h2;omega
 simp[Builtin.append_,run_underlying ht,Go.sizeOf,typeInfo,Go.zeroValue,hi,hz,EY,hn,Vt,XE,Question.forced,EZ,hs,Go.newRow,grownCap];congr 2;apply Array.ext';simp[List.append_assoc]
end
theorem RV.fQ{P:Program}{g:G}{sz:Nat}{xs:List ae}{o:nH}{u:Value}(h:RV g (.aB sz xs o) u):∃(ad:Option Addr) (cap:Nat) (vs:List Value),u=.slice ad xs.length cap∧(∀w,(Builtin.lenOf u).run P w=.ok xs.length w) ∧
  (∀w:World,w.heap=g.w.heap->(Builtin.firstCells sz xs.length u).run P w=.ok vs.toArray w)∧iW g (al xs) vs.toArray∧(∀x∈xs,x.cells.length=sz)∧(∀c∈al xs,c.scalar)∧vs.length=xs.length*sz:=by
 rcases h.eQ with⟨e1,e2⟩|⟨a,cap,f,e1,cM,dk,_,_,hs,hm,hr,_⟩
 ·subst e1 e2;exact⟨none,0,[],rfl,fun w=>rfl,fun w _=>by simp[Builtin.firstCells],⟨by simp[al],by simp[al]⟩,by simp,by simp[al],by simp⟩
 subst e1;have hl:=bV cM;refine⟨some a,cap,(List.range (xs.length*sz)).map f,rfl,fun w=>rfl,fun w hw=>?_,⟨by simp[hl],fun j c u hj hu=>?_⟩,cM,fun c hc=>?_,by simp⟩
 ·simp only[Builtin.firstCells];refine run_loadCells w a (xs.length*sz) f fun j hj=>?_;have gV:j<(al xs).length:=by omega
  have bD:xs≠[]:=by
   intro e;subst e;simp[al]at gV
  have:=(hm j _ (List.getElem?_eq_getElem gV)).1;obtain⟨b,off,sp⟩:=a;have nv:=hs bD;simp only at nv;subst nv;rw[addr_add];simp only[World.cell?,hw];exact this
 ·have a8:=I hj;rw[hl]at a8;have nk:((List.range (xs.length*sz)).map f)[j]?=some u:=by simpa using hu
  rw[List.getElem?_map,List.getElem?_range a8]at nk;simp only[Option.map_some,Option.some.injEq]at nk;subst nk;exact hr j c hj
 simp only[al,List.mem_flatMap]at hc;obtain⟨x,hx,hc⟩:=hc;exact dk x hx c hc
theorem cW(xs ys:List ae):al (xs++ys)=al xs++al ys:=by simp[al]
theorem iW.append{g:G}{cs ds:List ae}{us vs:List Value}(h:iW g cs us.toArray)(k:iW g ds vs.toArray):iW g (cs++ds) (us++vs).toArray:=by
 obtain⟨h1,h2⟩:=h;obtain⟨k1,k2⟩:=k;simp only[List.size_toArray]at h1 k1;refine⟨by simp[h1,k1],fun j c u hj hu=>?_⟩;have nk:(us++vs)[j]?=some u:=by simpa using hu
 rw[List.getElem?_append]at hj nk;by_cases e:j<cs.length
 ·rw[if_pos e]at hj;rw[if_pos (by omega)]at nk;exact h2 j c u hj (by simpa using nk)
 rw[if_neg e]at hj;rw[if_neg (by omega),h1]at nk;exact k2 _ c u hj (by simpa using nk)
theorem RV.zv{g:G}{zs:List ae}{sz cap:Nat}{l:Loc}{arr:Array Value}{t:TypeId}{id:Nat}(hg:Good g)(cM:∀x∈zs,x.cells.length=sz)(dk:∀c∈al zs,c.scalar)(cv:zs.length<=2 ^ 62)(cL:zs.length<=cap)
  (he:g.env[id]?=some (some l)) (gC:g.objs[id]?=some (.spare zs.length)) (iJ:l.lo=zs.length*sz) (dq:g.w.heap[l.block]?=some (.cells arr t (0,0))) (hc:cap*sz<=arr.size) (dK:∀off,¬g.fr l.block off)
  (hr:∀(j:Nat) (c:ae) (u:Value),(al zs)[j]?=some c->arr[j]?=some u->RV g c u):RV g (.aB sz zs (.tok id)) (.slice (some ⟨l.block,0,none⟩) zs.length cap):=by
 have hl:=bV cM;have hle:zs.length*sz<=cap*sz:=Nat.mul_le_mul_right _ cL;refine .aB cM (fun x hx c hc=>dk c (by simp only[al,List.mem_flatMap];exact⟨x,hx,hc⟩)) cL cv (fun _=>rfl) (fun j=>arr.getD j undef) (fun j c hj=>?_) (fun j c hj=>?_) ⟨I gC,fun m hm=>?_⟩
 ·have a8:=I hj;rw[hl]at a8;refine⟨?_,?_⟩
  ·simp only[G.cell,Nat.zero_add];rw[cell_of_row dq];simp[Array.getD_eq_getD_getElem?,show j<arr.size by omega]
  rintro(hf|⟨ny,l',o',h1,h2,h3,h4,h5⟩)
  ·exact dK _ hf
  have hb:l'.block=l.block:=h4;have:=hg.apart ny id l' l o' _ h1 h2 h3 he gC trivial hb;subst this;rw[he]at h1;simp only[Option.some.injEq]at h1;subst h1;simp only[Nat.zero_add]at h5;omega
 ·have a8:=I hj;rw[hl]at a8;exact hr j c _ hj (by simp[Array.getD_eq_getD_getElem?,show j<arr.size by omega])
 rw[gC]at hm;simp only[Option.some.injEq,ai.spare.injEq]at hm;subst hm;exact⟨Nat.le_refl _,fun _=>.inr ⟨l,arr,t,he,rfl,iJ,dq,hc⟩⟩
theorem iW.jn{g:G}{ys:List ae}{vs:List Value}(h:iW g (al ys) vs.toArray):iW g (al (ys.map ae.share)) vs.toArray:=by
 rw[fk];exact h.dj
theorem dH{ys:List ae}{sz:Nat}(h:∀x∈ys,x.cells.length=sz):∀x∈ys.map ae.share,x.cells.length=sz:=fun x hx=>by
 rw[List.mem_map]at hx;obtain⟨y,h1,h2⟩:=hx;subst h2;rw[ae.lk,List.length_map];exact h y h1
theorem du{ys:List ae}(h:∀c∈al ys,c.scalar):∀c∈al (ys.map ae.share),c.scalar:=fun c hc=>by
 rw[fk,List.mem_map]at hc;obtain⟨c',h1,h2⟩:=hc;subst h2;exact ae.ec (h c' h1)
theorem dX{gH news rest:Array Value}{j:Nat}{u:Value}(h:(gH++news++rest)[j]?=some u)(hj:j<gH.size+news.size):(gH++news)[j]?=some u:=by
 rw[Array.getElem?_append]at h;rw[if_pos (by simpa using hj)]at h;exact h
theorem uw{P:Program}{aT:eh}(hT:b7 P aT){o:Oper}{σ:St}{t e:TypeId}{x y:Operand}{ti te:cc}{sz:Nat}{xs ys:List ae}{ow:nH}
  (ho:o.op=.call ⟨.builtin .append,#[x,y],#[t,t]⟩) (hd:∀d,o.dst=some d->d<σ.n) (ht:aT t=some ti) (aR:ti.desc=.slice e) (he:aT e=some te) (cM:te.size=sz) (hx:σ.ev x=some (.aB sz xs .ex)) (hy:σ.ev y=some (.aB sz ys ow))
  (hlen:xs.length+ys.length<=2 ^ 62) (hb:(xs.length+ys.length)*te.bytes<=2 ^ 47) :
  Cert P o σ (.aB sz (xs++ys.map ae.share) (.tok σ.objs.length)) (.write (σ.objs++[.spare (xs.length+ys.length)])) :=
 Cert.iN hd fun base fN a g bH h iT=>by
  have hO:g.objs=σ.objs:=iT.resolve_left (by simp);have hg:=bH.good;have hu:=bR hT ht aR;subst cM;have gW:=h x (by simp[ho,Op.operands,Call.operands]) _ hx;have Cb:=h y (by simp[ho,Op.operands,Call.operands]) _ hy;obtain⟨B2,lH,gH,ex,EY,EZ,ML,Jt,HF,E0⟩:=gW.fQ (P:=P);obtain⟨Su,H3,news,ey,A',Ba,Bb,HG,E2,tS⟩:=Cb.fQ (P:=P);obtain⟨⟨i,z,h1,h2,h3,h4,h5,h6,h7,h8,h9⟩,_⟩:=hT e te he;have re:lH=xs.length:=by
   rcases gW.eQ with⟨q1,q2⟩|⟨ad,cap,f,q1,_,_,_,_,_,_,_,q2⟩
   ·rw[ex]at q1;cases q2;simp at q1;simp[q1]
   rw[ex]at q1;simp only[Value.slice.injEq]at q1;rw[q1.2.2];exact q2
  subst re;have cZ:=cI (P:=P) ho a g.w;simp only[builtin,List.map_toArray,List.map_cons,List.map_nil]at cZ;by_cases hn:ys.length=0
  ·have W8:ys=[]:=List.length_eq_zero_iff.1 hn;subst W8;have sP:news=[]:=by
    have:news.length=0:=by simpa using tS
    exact List.length_eq_zero_iff.1 this
   subst sP;have bI:(Builtin.append_ #[t,t] o.type #[a.eval x,a.eval y]).run P g.w=.ok (a.eval x) g.w:=by
    rw[ex];cases B2 with
    | none =>
     have Dr:xs=[]:=by
      rcases gW.eQ with⟨_,q2⟩|⟨ad,cap,f,q1,_⟩
      ·exact q2
      rw[ex]at q1;simp at q1
     subst Dr;have q:=Ba g.w rfl;simp only[List.length_nil]at q;simp[Builtin.append_,run_underlying hu,Go.sizeOf,typeInfo,h1,A',h2,q]
    | some ad =>
     have:=gQ (P:=P) g.w g.w t o.type e i hu h1 ad xs.length xs.length 0 (a.eval y) [] (fun w=>by simpa using A' w) (by rw[h2];simpa using Ba g.w rfl) (by omega) (by simp[storeCells]);simpa using this
   refine⟨a.eval x,g.mark (.spare (xs.length+0)),.inl (by rw[cZ];simp[bI,G.mark]),Le.mark hg _,Good.mark hg _,by simp[G.mark,hO,Mode.post],?_⟩;simp only[List.map_nil,List.append_nil];have Pm:=gW.mono (Le.mark hg (.spare (xs.length+0)));cases nk:a.eval x with
   | slice ad len cap =>
    rw[nk]at Pm;cases Pm with
    | nil=>exact .nil (fun id e=>by simp only[nH.tok.injEq]at e;subst e;simp[G.mark,hO]) (by simp)
    | aB cM dk cL cv hs f hm hr WA =>
     refine .aB cM dk cL cv hs f hm hr ⟨by simp[G.mark,hO],fun m fa=>?_⟩;have:(g.mark (.spare (xs.length+0))).objs[σ.objs.length]?=some (.spare (xs.length+0)):=by
      rw[<-hO];exact eS
     rw[this]at fa;simp only[Option.some.injEq,ai.spare.injEq]at fa;exact⟨by omega,fun _=>.inl WA⟩
   | _=>rw[ex]at nk;cases nk
  have bI:=gn (P:=P) g.w t o.type e i z hu h1 h4 B2 xs.length xs.length ys.length (a.eval y) gH news A' (by rw[h2];exact Ba g.w.drew rfl) (by rw[h2,<-ex];exact EZ g.w.drew rfl) (by omega) hlen (by rw[h3];exact hb);rw[<-ex]at bI;obtain⟨cap,cL⟩:∃cap,cap=grownCap g.w (xs.length+ys.length) xs.length e:=⟨_,rfl⟩
  obtain⟨rest,fe⟩:∃rest,rest=Builtin.zeroCells z.cells (cap-(xs.length+ys.length)):=⟨_,rfl⟩
  have pY:=grownCap_ge g.w (xs.length+ys.length) xs.length e;rw[<-cL]at bI pY;rw[<-fe]at bI;have xD:rest.size=(cap-(xs.length+ys.length))*te.size:=by rw[fe,size_zeroCells,h5,h6]
  obtain⟨arr,gi⟩:∃arr,arr=gH.toArray++news.toArray++rest:=⟨_,rfl⟩
  rw[<-gi]at bI;have nE:=hg.heap (w':=g.w.drew) rfl rfl rfl rfl;have nR:=Le.heap (g:=g) (w':=g.w.drew) rfl rfl rfl rfl;obtain⟨g1,mc⟩:∃g1:G,g1=⟨g.w.drew,g.fr,g.env,g.objs⟩:=⟨_,rfl⟩
  rw[<-mc]at nE nR;have tF:g1.w=g.w.drew:=by rw[mc]
  have r7:g1.objs=σ.objs:=by rw[mc];exact hO
  have ib:Fits (g1.alloc (.cells arr e) ((xs.length+ys.length)*te.size) (.spare (xs.length+ys.length))) (.cells arr e) (.spare (xs.length+ys.length)):=⟨arr,e,rfl⟩
  have dg:=Good.alloc nE (.cells arr e) ((xs.length+ys.length)*te.size) (.spare (xs.length+ys.length)) (.inl trivial) ib;have hle:=nR.trans (Le.alloc nE (.cells arr e) ((xs.length+ys.length)*te.size) (.spare (xs.length+ys.length)));refine⟨.slice (some ⟨g.w.heap.size,0,none⟩) (xs.length+ys.length) cap,_,.inl ?_,hle,dg,?_,?_⟩
  ·rw[cZ];simp[bI,G.alloc,tF]
  ·simp[G.alloc,r7,Mode.post]
  have gP:(xs++ys.map ae.share).length=xs.length+ys.length:=by simp
  have j9:=ML.append Bb.jn;rw[<-cW]at j9;have hZ:(al (xs++ys.map ae.share)).length=(xs.length+ys.length)*te.size:=by
   rw[bV (sz:=te.size) (fun x hx=>by
    rcases List.mem_append.1 hx with q|q
    ·exact Jt x q
    exact dH HG x q),gP]
  have:=RV.zv (g:=g1.alloc (.cells arr e) ((xs.length+ys.length)*te.size) (.spare (xs.length+ys.length))) (zs:=xs++ys.map ae.share) (sz:=te.size) (cap:=cap) (l:=⟨g.w.heap.size,(xs.length+ys.length)*te.size,arr.size⟩) (arr:=arr) (t:=e) (id:=σ.objs.length) dg
   (fun x hx=>by
    rcases List.mem_append.1 hx with q|q
    ·exact Jt x q
    exact dH HG x q)
   (fun c hc=>by
    rw[cW]at hc;rcases List.mem_append.1 hc with q|q
    ·exact HF c q
    exact du E2 c q)
   (by rw[gP];exact hlen) (by rw[gP];exact pY) (by
    have:=iG nE (l:=some ⟨g1.w.heap.size,(xs.length+ys.length)*te.size,l6 (.cells arr e)⟩);rw[r7]at this;simp only[G.alloc];rw[this,tF];rfl) (by rw[gP,<-r7];exact eS) (by rw[gP]) (by
    have:=cG g1.w (.cells arr e);rw[tF]at this;simp only[G.alloc,tF];exact this) (by
    rw[gi];simp only[Array.size_append,List.size_toArray,E0,tS,xD,<-Nat.add_mul];rw[show xs.length+ys.length+(cap-(xs.length+ys.length))=cap by omega];exact Nat.le_refl _) (fun off hf=>by
    have fi:g.fr g.w.heap.size off:=by rw[mc]at hf;exact hf
    have:=hg.frlt _ _ fi;omega) (fun j c u hj hu=>by
    have a8:=I hj;rw[hZ]at a8;rw[gi]at hu;have wL:=dX hu (by simp only[List.size_toArray,E0,tS,<-Nat.add_mul];exact a8);exact(j9.2 j c u hj (by simpa using wL)).mono hle)
  rw[gP]at this;exact this
theorem tm{P:Program}{aT:eh}(hT:b7 P aT){o:Oper}{σ:St}{t e:TypeId}{x y:Operand}{ti te:cc}{sz:Nat}{xs ys:List ae}{ow:nH}{id:Nat}
  (ho:o.op=.call ⟨.builtin .append,#[x,y],#[t,t]⟩) (hd:∀d,o.dst=some d->d<σ.n) (ht:aT t=some ti) (aR:ti.desc=.slice e) (he:aT e=some te) (cM:te.size=sz) (hx:σ.ev x=some (.aB sz xs (.tok id))) (hy:σ.ev y=some (.aB sz ys ow))
  (gC:σ.objs[id]?=some (.spare xs.length)) (hlen:xs.length+ys.length<=2 ^ 62) (hb:(xs.length+ys.length)*te.bytes<=2 ^ 47) :
  Cert P o σ (.aB sz (xs++ys.map ae.share) (.tok id)) (.write (σ.objs.set id (.spare (xs.length+ys.length)))) :=
 Cert.iN hd fun base fN a g bH h iT=>by
  have hO:g.objs=σ.objs:=iT.resolve_left (by simp);have hg:=bH.good;have hu:=bR hT ht aR;subst cM;have gW:=h x (by simp[ho,Op.operands,Call.operands]) _ hx;have Cb:=h y (by simp[ho,Op.operands,Call.operands]) _ hy;obtain⟨B2,lH,gH,ex,EY,EZ,ML,Jt,HF,E0⟩:=gW.fQ (P:=P);obtain⟨Su,H3,news,ey,A',Ba,Bb,HG,E2,tS⟩:=Cb.fQ (P:=P);obtain⟨⟨i,z,h1,h2,h3,h4,h5,h6,h7,h8,h9⟩,_⟩:=hT e te he;have fZ:g.objs[id]?=some (.spare xs.length):=by rw[hO];exact gC
  have cZ:=cI (P:=P) ho a g.w;simp only[builtin,List.map_toArray,List.map_cons,List.map_nil]at cZ;have ga:∀m,m=xs.length->g.objs.set id (.spare m)=g.objs:=fun m hm=>by
   subst hm;apply List.ext_getElem?;intro k;by_cases e:id=k
   ·subst e;rw[List.getElem?_set_self (I fZ),fZ]
   rw[List.getElem?_set_ne e]
  have gP:(xs++ys.map ae.share).length=xs.length+ys.length:=by simp
  have Dt:∀x∈xs++ys.map ae.share,x.cells.length=te.size:=fun x hx=>by
   rcases List.mem_append.1 hx with q|q
   ·exact Jt x q
   exact dH HG x q
  have Jv:∀c∈al (xs++ys.map ae.share),c.scalar:=fun c hc=>by
   rw[cW]at hc;rcases List.mem_append.1 hc with q|q
   ·exact HF c q
   exact du E2 c q
  have hZ:(al (xs++ys.map ae.share)).length=(xs.length+ys.length)*te.size:=by
   rw[bV Dt,gP]
  have j9:=ML.append Bb.jn;rw[<-cW]at j9;by_cases hn:ys.length=0
  ·have W8:ys=[]:=List.length_eq_zero_iff.1 hn;subst W8;have sP:news=[]:=by
    have:news.length=0:=by simpa using tS
    exact List.length_eq_zero_iff.1 this
   subst sP;have cL:xs.length<=lH:=by
    rcases gW.eQ with⟨_,q2⟩|⟨ad,cap,f,q1,_,_,q2,_⟩
    ·simp[q2]
    rw[ex]at q1;simp only[Value.slice.injEq]at q1;rw[q1.2.2];exact q2
   have bI:(Builtin.append_ #[t,t] o.type #[a.eval x,a.eval y]).run P g.w=.ok (a.eval x) g.w:=by
    rw[ex];cases B2 with
    | none =>
     have Dr:xs=[]∧lH=0:=by
      rcases gW.eQ with⟨q1,q2⟩|⟨ad,cap,f,q1,_⟩
      ·rw[ex]at q1;simp only[Value.slice.injEq]at q1;exact⟨q2,q1.2.2⟩
      rw[ex]at q1;simp at q1
     obtain⟨e1,e2⟩:=Dr;subst e1;subst e2;have q:=Ba g.w rfl;simp only[List.length_nil]at q;simp[Builtin.append_,run_underlying hu,Go.sizeOf,typeInfo,h1,A',h2,q]
    | some ad =>
     have:=gQ (P:=P) g.w g.w t o.type e i hu h1 ad xs.length lH 0 (a.eval y) [] (fun w=>by simpa using A' w) (by rw[h2];simpa using Ba g.w rfl) (by omega) (by simp[storeCells]);simpa using this
   refine⟨a.eval x,g,.inl (by rw[cZ];simp[bI]),Le.refl g,hg,?_,?_⟩
   ·simp only[Mode.post,<-hO];exact(ga _ (by simp)).symm
   simpa using gW
  have hm:xs.length<xs.length+ys.length:=by omega
  by_cases nj:xs.length+ys.length<=lH
  ·-- in place
   obtain⟨l,arr,t',q1,q2,q3,q4,q5⟩:∃(l:Loc) (arr:Array Value) (t':TypeId),g.env[id]?=some (some l)∧B2=some ⟨l.block,0,none⟩∧l.lo=xs.length*te.size∧g.w.heap[l.block]?=some (.cells arr t' (0,0))∧lH*te.size<=arr.size:=by
    rcases gW.eQ with⟨q1,q2⟩|⟨ad,cap,f,q1,_,_,_,_,_,_,_,q2⟩
    ·rw[ex]at q1;simp only[Value.slice.injEq]at q1;omega
    rw[ex]at q1;simp only[Value.slice.injEq]at q1;obtain⟨e1,_,e3⟩:=q1;subst e1;subst e3;rcases(q2.2 _ fZ).2 rfl with q|⟨l,arr,t',q1,q2,q3,q4,q5⟩
    ·omega
    exact⟨l,arr,t',q1,by rw[q2],q3,q4,q5⟩
   subst q2;have bJ:xs.length*te.size+0+news.length<=arr.size:=by
    rw[tS,Nat.add_zero,<-Nat.add_mul];exact Nat.le_trans (Nat.mul_le_mul_right _ nj) q5
   have Jk:∀v∈news,v.oneCell'=true:=fun v hv=>by
    obtain⟨j,hj⟩:=List.getElem?_of_mem hv;have a8:=I hj;have hs:=Bb.1;simp only[List.size_toArray]at hs;rw[hs]at a8;have hc:=List.getElem?_eq_getElem a8;exact((Bb.2 j _ v hc (by simpa using hj)).ir (E2 _ (List.mem_of_getElem? hc))).1
   have dG:=run_storeCells_at P l.block (xs.length*te.size) t' news 0 arr g.w q4 bJ Jk;simp only[Nat.add_zero]at dG;obtain⟨cf,ij⟩:∃cf,cf=(arr.toList.take (xs.length*te.size)++news++arr.toList.drop (xs.length*te.size+news.length)).toArray:=⟨_,rfl⟩
   rw[<-ij]at dG;have nV:cf.size=arr.size:=by
    rw[ij];simp;omega
   have MC:∀j,j<xs.length*te.size->cf[j]?=arr[j]?:=fun j hj=>by
    rw[ij];simp only[List.append_assoc,List.getElem?_toArray];rw[List.getElem?_append,if_pos (by simp;omega),List.getElem?_take,if_pos hj];simp
   have yT:∀j u,cf[j]?=some u->xs.length*te.size<=j->j<(xs.length+ys.length)*te.size->news[j-xs.length*te.size]?=some u:=fun j u hj h1 h2=>by
    rw[ij]at hj;simp only[List.append_assoc,List.getElem?_toArray]at hj;have Di:(arr.toList.take (xs.length*te.size)).length=xs.length*te.size:=by simp;omega
    rw[List.getElem?_append,Di,if_neg (by omega),List.getElem?_append,if_pos (by rw[tS];rw[Nat.add_mul]at h2;omega)]at hj;exact hj
   have bI:=gQ (P:=P) g.w (g.w.setRow l.block cf) t o.type e i hu h1 ⟨l.block,0,none⟩ xs.length lH ys.length (a.eval y) news A' (by rw[h2];exact Ba g.w rfl) nj (by rw[h2,addr_add,Nat.zero_add];exact dG);rw[<-ex]at bI;have eN:lb g id (.spare xs.length) (some ⟨l.block,(xs.length+ys.length)*te.size,0⟩) (.spare (xs.length+ys.length)) (g.w.setRow l.block cf):={
    obj:=fZ
    os:=rfl
    tape:=rfl
    output:=rfl
    size:=by rw[setRow_size];exact Nat.le_refl _
    block:=fun k _ hk=>setRow_other _ _ _ _ (fun e=>hk l q1 trivial e.symm)
    cell:=fun b off x hx hb=>by
     by_cases e:b=l.block
     ·subst e;have a8:=hb l q1 trivial rfl;rw[q3]at a8;rw[cell_of_row (setRow_heap g.w l.block arr cf t' (0,0) q4),MC off a8];simp only[G.cell]at hx;rw[cell_of_row q4]at hx;exact hx
     rw[jb (setRow_other g.w l.block b cf e)];exact hx
    place:=fun l1 h1 _=>by
     simp only[Option.some.injEq]at h1;subst h1;exact .inr ⟨l,q1,trivial,rfl,by rw[q3];exact Nat.mul_le_mul_right _ (by omega)⟩
    spare:=fun m h=>by
     simp only[ai.spare.injEq]at h;subst h;exact .inl ⟨_,rfl,hm⟩
    plain:=fun h=>absurd trivial h
    gone:=by simp }
   have hle:=Le.bw hg eN;have dg:=Good.bw hg eN (fun l1 h1=>by
    simp only[Option.some.injEq]at h1;subst h1;exact⟨cf,t',setRow_heap g.w l.block arr cf t' (0,0) q4⟩) (fun l1 h1 _=>by
    simp only[Option.some.injEq]at h1;subst h1;rw[setRow_size];exact aX q4)
   refine⟨.slice (some ⟨l.block,0,none⟩) (xs.length+ys.length) lH,_,.inl ?_,hle,dg,by simp only[G.bw,Mode.post,hO],?_⟩
   ·rw[cZ];simp[bI,G.bw]
   have:=RV.zv (g:=g.bw id (some ⟨l.block,(xs.length+ys.length)*te.size,0⟩) (.spare (xs.length+ys.length)) (g.w.setRow l.block cf)) (zs:=xs++ys.map ae.share) (sz:=te.size) (cap:=lH)
    (l:=⟨l.block,(xs.length+ys.length)*te.size,0⟩) (arr:=cf) (t:=t') (id:=id) dg Dt Jv (by rw[gP];exact hlen) (by rw[gP];exact nj)
    (by simp only[G.bw];rw[List.getElem?_set_self (iF hg fZ)]) (by rw[gP];simp only[G.bw];rw[List.getElem?_set_self (I fZ)]) (by rw[gP])
    (setRow_heap g.w l.block arr cf t' (0,0) q4) (by rw[nV];exact q5) (fun off hf=>?_) (fun j c u hj hu=>?_)
   ·rw[gP]at this;exact this
   ·have fi:g.fr l.block off:=hf;exact absurd fi (hg.frown id l _ q1 fZ trivial off)
   have a8:=I hj;rw[hZ]at a8;refine(j9.2 j c u hj ?_).mono hle;have Gu:gH.length=xs.length*te.size:=E0;simp only[List.getElem?_toArray];rw[List.getElem?_append];by_cases e:j<gH.length
   ·rw[if_pos e];have gV:(al xs)[j]?=some c:=by
     rw[cW,List.getElem?_append,if_pos (by rw[bV Jt];omega)]at hj;exact hj
    rw[MC j (by omega)]at hu;have I5:=EZ g.w rfl;rw[ex]at I5;simp only[Builtin.firstCells]at I5;have TF:=run_loadCells (P:=P) g.w ⟨l.block,0,none⟩ (xs.length*te.size) (fun k=>arr.getD k undef) (fun k hk=>by
     rw[addr_add,cell_of_row q4,Nat.zero_add];simp[Array.getD_eq_getD_getElem?,show k<arr.size by omega])
    rw[TF]at I5;simp only[Result.ok.injEq,and_true]at I5;have holds:gH=(List.range (xs.length*te.size)).map (fun k=>arr.getD k undef):=by
     have:=congrArg Array.toList I5;simpa using this.symm
    rw[holds,List.getElem?_map,List.getElem?_range (by omega)];simp only[Option.map_some,Option.some.injEq];have Lk:j<arr.size:=by omega
    simp only[Array.getElem?_eq_getElem Lk,Option.some.injEq]at hu;simp[Array.getD_eq_getD_getElem?,Lk,hu]
   rw[if_neg e,Gu];exact yT j u hu (by omega) a8
  -- a new row
  have bI:=gn (P:=P) g.w t o.type e i z hu h1 h4 B2 xs.length lH ys.length (a.eval y) gH news A' (by rw[h2];exact Ba g.w.drew rfl) (by rw[h2,<-ex];exact EZ g.w.drew rfl) (by omega) hlen (by rw[h3];exact hb);rw[<-ex]at bI;obtain⟨cap,cL⟩:∃cap,cap=grownCap g.w (xs.length+ys.length) lH e:=⟨_,rfl⟩
  obtain⟨rest,fe⟩:∃rest,rest=Builtin.zeroCells z.cells (cap-(xs.length+ys.length)):=⟨_,rfl⟩
  have pY:=grownCap_ge g.w (xs.length+ys.length) lH e;rw[<-cL]at bI pY;rw[<-fe]at bI;have xD:rest.size=(cap-(xs.length+ys.length))*te.size:=by rw[fe,size_zeroCells,h5,h6]
  obtain⟨arr,gi⟩:∃arr,arr=gH.toArray++news.toArray++rest:=⟨_,rfl⟩
  rw[<-gi]at bI;have eN:lb g id (.spare xs.length) (some ⟨g.w.heap.size,(xs.length+ys.length)*te.size,0⟩) (.spare (xs.length+ys.length)) (g.w.drew.alloc (.cells arr e)):={
   obj:=fZ
   os:=rfl
   tape:=rfl
   output:=rfl
   size:=by show g.w.heap.size<=(g.w.heap.push _).size;rw[Array.size_push];omega
   block:=fun k hk _=>cH g.w.drew _ hk
   cell:=fun b off x hx _=>by
    have:=oL hx;rw[jb (cH g.w.drew (.cells arr e) this)];exact hx
   place:=fun l1 h1 _=>by
    simp only[Option.some.injEq]at h1;subst h1;exact .inl (Nat.le_refl _)
   spare:=fun m h=>by
    simp only[ai.spare.injEq]at h;subst h;exact .inl ⟨_,rfl,hm⟩
   plain:=fun h=>absurd trivial h
   gone:=by simp }
  have hle:=Le.bw hg eN;have dg:=Good.bw hg eN (fun l1 h1=>by
   simp only[Option.some.injEq]at h1;subst h1;exact⟨arr,e,cG g.w.drew _⟩) (fun l1 h1 _=>by
   simp only[Option.some.injEq]at h1;subst h1;exact aX (cG g.w.drew (.cells arr e)))
  refine⟨.slice (some ⟨g.w.heap.size,0,none⟩) (xs.length+ys.length) cap,_,.inl ?_,hle,dg,by simp only[G.bw,Mode.post,hO],?_⟩
  ·rw[cZ];simp[bI,G.bw]
  have:=RV.zv (g:=g.bw id (some ⟨g.w.heap.size,(xs.length+ys.length)*te.size,0⟩) (.spare (xs.length+ys.length)) (g.w.drew.alloc (.cells arr e))) (zs:=xs++ys.map ae.share) (sz:=te.size) (cap:=cap)
   (l:=⟨g.w.heap.size,(xs.length+ys.length)*te.size,0⟩) (arr:=arr) (t:=e) (id:=id) dg Dt Jv (by rw[gP];exact hlen) (by rw[gP];exact pY)
   (by simp only[G.bw];rw[List.getElem?_set_self (iF hg fZ)]) (by rw[gP];simp only[G.bw];rw[List.getElem?_set_self (I fZ)]) (by rw[gP])
   (cG g.w.drew _) (by
    rw[gi];simp only[Array.size_append,List.size_toArray,E0,tS,xD,<-Nat.add_mul];rw[show xs.length+ys.length+(cap-(xs.length+ys.length))=cap by omega];exact Nat.le_refl _) (fun off hf=>by
    have fi:g.fr g.w.heap.size off:=hf;have:=hg.frlt _ _ fi;omega) (fun j c u hj hu=>by
    have a8:=I hj;rw[hZ]at a8;rw[gi]at hu;have wL:=dX hu (by simp only[List.size_toArray,E0,tS,<-Nat.add_mul];exact a8);exact(j9.2 j c u hj (by simpa using wL)).mono hle)
  rw[gP]at this;exact this
end Go.Av
namespace Go.Av
def ng:Value->Value->Bool
 | .string a,.string b=>decide (a=b)
 | .int _ a,.int _ b=>decide (a=b)
 | _,_=>false
def kh:List (Value×ae)->Value->Option ae
 | [],_=>none
 | (k,x)::r,key=>if ng k key then some x else kh r key
def mX:List (Value×ae)->Value->ae->List (Value×ae)
 | [],key,y=>[(key,y)]
 | (k,x)::r,key,y=>if ng k key then(key,y)::r else(k,x)::mX r key y
def KT.desc:KT->TypeDesc->Prop
 | .str,d=>d=.string
 | .int k,d=>d=.int k
theorem bytes_beq(s t:ByteArray):(s == t)=decide (s=t):=by
 obtain⟨a⟩:=s;obtain⟨b⟩:=t;have e:((⟨a⟩:ByteArray) == ⟨b⟩)=(a == b):=rfl;rw[e,Bool.eq_iff_iff];simp
theorem D5{kt:KT}{d:TypeDesc}(hd:kt.desc d){a b:Value}(ha:kt.ok a)(hb:kt.ok b):Instr.sameNow d a b=some (ng b a):=by
 cases kt with
 | str =>
  simp only[KT.desc]at hd;subst hd;cases a<;>simp only[KT.ok]at ha;cases b<;>simp only[KT.ok]at hb;rename_i s t;simp only[Instr.sameNow,ng,Option.some.injEq,bytes_beq];rw[Bool.eq_iff_iff];simp only[decide_eq_true_eq];exact⟨Eq.symm,Eq.symm⟩
 | int k =>
  simp only[KT.desc]at hd;subst hd;cases a<;>simp only[KT.ok]at ha;cases b<;>simp only[KT.ok]at hb;rename_i s t;subst ha;subst hb;simp only[Instr.sameNow,ng,if_true,Option.some.injEq];rw[Bool.eq_iff_iff];simp only[beq_iff_eq,decide_eq_true_eq];exact⟨Eq.symm,Eq.symm⟩
theorem findNow_spec{kt:KT}{d:TypeDesc}(hd:kt.desc d){key:Value}(hk:kt.ok key):∀(arr:List MapEntry) (es:List (Value×ae)) (i:Nat),arr.length=es.length ->
  (∀(j:Nat) (e:MapEntry) (kx:Value×ae),arr[j]?=some e->es[j]?=some kx->e.key=kx.1)->(∀p∈es,kt.ok p.1) ->
  ∃r,Instr.findNow d key arr i=some r ∧
   ((r=none∧kh es key=none∧∀y,mX es key y=es++[(key,y)]) ∨
    ∃(j:Nat) (e:MapEntry) (x:ae) (k0:Value),r=some (i+j,e.val)∧arr[j]?=some e∧es[j]?=some (k0,x)∧ng k0 key=true∧kh es key=some x∧∀y,mX es key y=es.set j (key,y))
 | [],[],i,_,_,_=>⟨none,rfl,.inl ⟨rfl,rfl,fun _=>rfl⟩⟩
 | [],_::_,i,hl,_,_=>by simp at hl
 | _::_,[],i,hl,_,_=>by simp at hl
 | e::arr,(k0,x)::es,i,hl,Gn,ka=>by
  have he:e.key=k0:=Gn 0 e (k0,x) rfl rfl;have HD:kt.ok k0:=ka (k0,x) (by simp);have hs:=D5 hd hk (he ▸ HD:kt.ok e.key);simp only[Instr.findNow,hs];cases hq:ng e.key key with
  | true =>
   refine⟨some (i,e.val),by rfl,.inr ⟨0,e,x,k0,by simp,rfl,rfl,he ▸ hq,?_,fun y=>?_⟩⟩
   ·rw[he]at hq;simp[kh,hq]
   rw[he]at hq;simp[mX,hq]
  | false =>
   rw[he]at hq;obtain⟨r,h1,h2⟩:=findNow_spec hd hk arr es (i+1) (by simpa using hl) (fun j e' kx a b=>Gn (j+1) e' kx (by simpa using a) (by simpa using b)) (fun p hp=>ka p (by simp[hp]));refine⟨r,h1,?_⟩;rcases h2 with⟨q1,q2,q3⟩|⟨j,e',x',k',q1,q2,q3,q4,q5,q6⟩
   ·exact .inl ⟨q1,by simp[kh,hq,q2],fun y=>by simp[mX,hq,q3]⟩
   refine .inr ⟨j+1,e',x',k',?_,by simpa using q2,by simpa using q3,q4,by simp[kh,hq,q5],fun y=>by simp[mX,hq,q6]⟩;rw[q1];simp only[Option.some.injEq,Prod.mk.injEq,and_true];omega
theorem oc{P:Program}{aT:eh}(hT:b7 P aT){t k e:TypeId}{ti:cc}(ht:aT t=some ti)(aR:ti.desc=.map k e):P.underlying t=some (.map k e):=by
 obtain⟨_,d,h1,h2⟩:=hT t ti ht;rw[aR]at h2;simp only[rX]at h2;rw[h1,h2]
theorem run_checkKey{P:Program}{kt:KT}{k:TypeId}{d:TypeDesc}(hu:P.underlying k=some d)(hd:kt.desc d){key:Value}(w:World)(b:Bool)(n:Nat):(Instr.checkKey b (n+1) k key).run P w=.ok () w:=by
 cases kt<;>simp only[KT.desc]at hd<;>subst hd<;>simp[Instr.checkKey,run_underlying hu]
def zeroOf(ti:cc):ae:=if ti.desc.agg then .agg ti.zero else ti.zero.getD 0 (.v (.bool false))
theorem oG{P:Program}{t:TypeId}{ti:cc}(h:Er P t ti)(hs:ti.desc.agg=true∨ti.size=1):∃z,(∀w,(Go.zeroValue t).run P w=.ok z w)∧∀g,RV g (zeroOf ti) z:=by
 obtain⟨⟨i,z,h1,h2,h3,h4,h5,h6,h7,h8,h9⟩,_⟩:=h;refine⟨z,fun w=>by simp[Go.zeroValue,typeInfo,h1,h4],fun g=>?_⟩;unfold zeroOf;split
 ·rename_i eH;obtain⟨cs,e⟩:=h7.1 eH;subst e;exact .agg h5 h9 (h8 g)
 rename_i eH;have cM:ti.zero.length=1:=by
  rcases hs with q|q
  ·exact absurd q eH
  omega
 match hz:ti.zero,cM with
 | [c],_ =>
  have q9:z.cells.size=1:=by rw[h5,hz];rfl
  have dk:c.scalar:=h9 c (by rw[hz];simp);have hr:=h8 g 0 c (z.cells[0]) (by rw[hz];rfl) (by simp[q9]);have Jw:=h7.2 (by simpa using eH);have Xc:z.cells[0]=z:=by simp[Jw]
  rw[Xc]at hr;exact hr
theorem zU{P:Program}{t:TypeId}{ti:cc}(h:Er P t ti)(hs:ti.desc.agg=true∨ti.size=1):(zeroOf ti).cells=ti.zero∧ti.zero.length=ti.size∧∀c∈ti.zero,c.scalar:=by
 obtain⟨⟨i,z,h1,h2,h3,h4,h5,h6,h7,h8,h9⟩,_⟩:=h;refine⟨?_,h6,h9⟩;unfold zeroOf;split
 ·rfl
 rename_i eH;have cM:ti.zero.length=1:=by
  rcases hs with q|q
  ·exact absurd q eH
  omega
 match hz:ti.zero,cM with
 | [c],_ =>
  have dk:c.scalar:=h9 c (by rw[hz];simp);simp only[List.getD_cons_zero];cases c<;>first|rfl|exact dk.elim
theorem RV.y1{g:G}{sz:Nat}{xs:List ae}{o:nH}{u:Value}(h:RV g (.aB sz xs o) u):RV g (.aB sz (xs.map ae.share) o) u:=by
 cases h with
 | nil ho hn=>exact .nil ho hn
 | aB cM dk cL cv hs f hm hr ho =>
  have key:∀(j:Nat) (c:ae),(al (xs.map ae.share))[j]?=some c->∃c',(al xs)[j]?=some c'∧c'.bf=c:=fun j c hj=>by
   rw[fk,List.getElem?_map,Option.map_eq_some_iff]at hj;exact hj
  have hl:(xs.map ae.share).length=xs.length:=List.length_map _;rw[<-hl]at cL cv ho ⊢;refine .aB (dH cM) (fun x hx c hc=>?_) cL cv (fun bD=>hs fun e=>bD (by rw[e];rfl)) f (fun j c hj=>?_) (fun j c hj=>?_) ho
  ·exact du (fun c hc=>by
    simp only[al,List.mem_flatMap]at hc;obtain⟨x,hx,hc⟩:=hc;exact dk x hx c hc) c (by
    simp only[al,List.mem_flatMap];exact⟨x,hx,hc⟩)
  ·obtain⟨c',oV,_⟩:=key j c hj;exact hm j c' oV
  obtain⟨c',oV,rfl⟩:=key j c hj;exact(hr j c' oV).bf
theorem tq{P:Program}{aT:eh}(hT:b7 P aT){o:Oper}{σ:St}{t e:TypeId}{x y:Operand}{ti te:cc}{k k':IntKind}{n:Int}
  (ho:o.op=.makeSlice t x y) (hd:∀d,o.dst=some d->d<σ.n) (ht:aT t=some ti) (aR:ti.desc=.slice e) (he:aT e=some te) (hx:σ.ev x=some (.v (.int k n))) (hy:σ.ev y=some (.v (.int k' n)))
  (h0:0<=n) (hb:te.bytes*n.toNat<=2 ^ 48) (OD:n.toNat<=2 ^ 62) (hs:0<te.size) (Jk:te.desc.agg=true∨te.size=1) :
  Cert P o σ (.aB te.size (List.replicate n.toNat (zeroOf te).share) .ex) .pure :=
 Cert.iN hd fun base fN a g bH h _=>by
  have hg:=bH.good;have ex:=(h x (by simp[ho,Op.operands]) _ hx).bX.1;have ey:=(h y (by simp[ho,Op.operands]) _ hy).bX.1;have hu:=bR hT ht aR;obtain⟨c1,c2,c3⟩:=zU (hT e te he) Jk;obtain⟨⟨i,z,h1,h2,h3,h4,h5,h6,h7,h8,h9⟩,_⟩:=hT e te he;obtain⟨m,rfl⟩:=Int.eq_ofNat_of_zero_le h0;simp only[Int.toNat_natCast]at *;have Db:(i.bytes:Int)*(m:Int)<=281474976710656:=by
   rw[h3,<-Int.natCast_mul];omega
  have bI:=run_make (P:=P) g.w t e i z hu h1 h4 k k' m m (by omega) (Int.le_refl _) Db (by omega);simp only[Int.toNat_natCast]at bI;have S6:al (List.replicate m (zeroOf te))=(List.replicate m te.zero).flatten:=by
   rw[al,List.flatMap_replicate,c1]
  have hlen:(List.replicate m te.zero).flatten.length=m*te.size:=by simp[h6]
  have e9:∀(j:Nat) (c:ae),(List.replicate m te.zero).flatten[j]?=some c->te.zero[j % te.size]?=some c:=fun j c=>h6 ▸ o9 te.zero (by omega) m j c;have hle:=Le.push g hg (.cells (madeCells z.cells (m*i.size)) e);have yT:=cG g.w (.cells (madeCells z.cells (m*i.size)) e (0,0));have Jr:RV (g.push (.cells (madeCells z.cells (m*i.size)) e)) (.aB te.size (List.replicate m (zeroOf te)) .ex) (.slice (some ⟨g.w.heap.size,0,none⟩) m m):=by
   have key:=@RV.aB (g.push (.cells (madeCells z.cells (m*i.size)) e)) te.size (List.replicate m (zeroOf te)) .ex ⟨g.w.heap.size,0,none⟩ m (fun x hx=>by
    rw[(List.mem_replicate.1 hx).2,c1,c2]) (fun x hx c hc=>by
    rw[(List.mem_replicate.1 hx).2,c1]at hc;exact c3 c hc) (by simp) (by simpa using OD) (fun _=>rfl) (fun j=>(madeCells z.cells (m*i.size)).getD j undef) (fun j c hj=>by
     rw[S6]at hj;have a8:=I hj;rw[hlen]at a8;refine⟨?_,?_⟩
     ·show(g.w.alloc _).cell? _=_;rw[cell_of_row yT,Nat.zero_add];have cM:j<(madeCells z.cells (m*i.size)).size:=by rw[size_madeCells,h2];exact a8
      simp[Array.getD_eq_getD_getElem?,cM]
     ·rintro(hf|⟨id,l,o',q1,q2,q3,q4,_⟩)
      ·have:=hg.frlt _ _ hf;simp at this
      have:=hg.loc id l o' q1 q2 q3;simp only at q4;omega) (fun j c hj=>by
     rw[S6]at hj;have gV:=e9 j c hj;have a8:=I hj;rw[hlen]at a8;have j':j % te.size<z.cells.size:=by rw[h5];exact I gV
     refine h8 _ _ _ _ gV ?_;have cM:j<(madeCells z.cells (m*i.size)).size:=by rw[size_madeCells,h2];exact a8
     have:(madeCells z.cells (m*i.size))[j]?=some (z.cells[j % te.size]'j'):=by
      simp only[madeCells,Array.getElem?_map,h2,Array.getElem?_range,if_pos a8,Option.map_some,Option.some.injEq];rw[h5,h6];simp[Array.getD_eq_getD_getElem?,j']
     rw[Array.getD_eq_getD_getElem?,this,Option.getD_some];exact Array.getElem?_eq_getElem j') (by simp[sA])
   simpa using key
  refine⟨.slice (some ⟨g.w.heap.size,0,none⟩) m m,g.push (.cells (madeCells z.cells (m*i.size)) e),.inl ?_,hle,Good.push hg _,rfl,by simpa using Jr.y1⟩;simp[execOp,ho,ex,ey,bI,G.push]
theorem vC{P:Program}{kt:KT}{t k e:TypeId}{d:TypeDesc}(hu:P.underlying t=some (.map k e))(hk:P.underlying k=some d)(hd:kt.desc d){g:G}{r clk:Nat}{arr:Array MapEntry}{es:List (Value×ae)}{z:Value}{zx:ae}
  (hh:g.w.heap[r]?=some (.map arr clk)) (hl:arr.size=es.length) (Gn:∀(i:Nat) (e:MapEntry) (kx:Value×ae),arr[i]?=some e->es[i]?=some kx->e.key=kx.1) (ka:∀p∈es,kt.ok p.1)
  (hr:∀(i:Nat) (e:MapEntry) (kx:Value×ae),arr[i]?=some e->es[i]?=some kx->RV g kx.2 e.val) {key:Value} (ik:kt.ok key) (hz:(Go.zeroValue e).run P g.w=.ok z g.w) (hzx:RV g zx z) (ok:Bool) :
  ∃u,(Instr.lookup t (.map (some r)) key ok).run P g.w=.ok (if ok then .tuple #[u,.bool (kh es key).isSome]else u) g.w∧RV g ((kh es key).getD zx) u:=by
 obtain⟨fr,h1,h2⟩:=findNow_spec hd ik arr.toList es 0 (by simpa using hl) (fun j e kx a b=>Gn j e kx (by simpa using a) b) ka;have Dd:∀b,(Instr.checkKey b 10000 k key).run P g.w=.ok () g.w:=fun b=>run_checkKey hk hd g.w b 9999;have e9:(getObj r).run P g.w=.ok (.map arr clk) g.w:=by
  simp[Go.getObj,Sem.run,hh]
 have A3:(Instr.findKey k key arr.toList).run P g.w=.ok fr g.w:=by
  simp[Instr.findKey,run_underlying hk,h1]
 rcases h2 with⟨q1,q2,_⟩|⟨j,e',x,k0,q1,q2,q3,_,q5,_⟩
 ·subst q1;refine⟨z,?_,by rw[q2];exact hzx⟩;simp only[Instr.lookup,Sem.run_bind,run_underlying hu,Result.andThen_ok,e9,Sem.run_pure,Dd,A3,hz,q2];cases ok<;>rfl
 subst q1;refine⟨e'.val,?_,by rw[q5];exact hr j e' (k0,x) (by simpa using q2) q3⟩;simp only[Instr.lookup,Sem.run_bind,run_underlying hu,Result.andThen_ok,e9,Sem.run_pure,Dd,A3,q5];cases ok<;>rfl
def ly(ok:Bool)(x:Option ae)(z:ae):ae:=if ok then .cx [x.getD z,.v (.bool x.isSome)]else x.getD z
theorem mR{g:G}{ok:Bool}{x:Option ae}{z:ae}{u:Value}(h:RV g (x.getD z) u):RV g (ly ok x z) (if ok then .tuple #[u,.bool x.isSome]else u):=by
 cases ok
 ·exact h
 refine .cx rfl (fun i c v h1 h2=>?_)
 match i,h1,h2 with
 | 0,h1,h2 =>
  simp at h1 h2;subst h1;subst h2;exact h
 | 1,h1,h2 =>
  simp at h1 h2;subst h1;subst h2;exact .v trivial
theorem uC{P:Program}{aT:eh}(hT:b7 P aT){o:Oper}{σ:St}{t k e:TypeId}{x y:Operand}{ok:Bool}{ti te:cc}{kt:KT}{es:List (Value×ae)}{key:Value}{d:TypeDesc}
  (ho:o.op=.lookup t x y ok) (hd:∀d,o.dst=some d->d<σ.n) (ht:aT t=some ti) (aR:ti.desc=.map k e) (hk:P.underlying k=some d) (zY:kt.desc d) (he:aT e=some te) (cM:te.desc.agg=true∨te.size=1)
  (hx:σ.ev x=some (.im kt es)) (hy:σ.ev y=some (.v key)) (ik:kt.ok key):Cert P o σ (ly ok (kh es key) (zeroOf te)) .pure :=
 Cert.bN .pure (.inl rfl) hd fun a g _ h _=>by
  obtain⟨r,clk,arr,ex,hh,hl,Gn,ka,hr⟩:=(h x (by simp[ho,Op.operands]) _ hx).QQ;have ey:=(h y (by simp[ho,Op.operands]) _ hy).bX.1;obtain⟨z,hz,xH⟩:=oG (hT e te he) cM;obtain⟨u,h1,h2⟩:=vC (oc hT ht aR) hk zY hh hl Gn ka hr ik (hz g.w) (xH g) ok;exact⟨_,by simp only[execOp,ho,ex,ey,Sem.run_bind,h1,Result.andThen_ok,Sem.run_pure],mR h2⟩
theorem uD{P:Program}{aT:eh}(hT:b7 P aT){o:Oper}{σ:St}{t k e:TypeId}{x y:Operand}{ok:Bool}{ti te:cc}{kt:KT}{es:List (Value×ae)}{id:Nat}{key:Value}{d:TypeDesc}
  (ho:o.op=.lookup t x y ok) (hd:∀d,o.dst=some d->d<σ.n) (ht:aT t=some ti) (aR:ti.desc=.map k e) (hk:P.underlying k=some d) (zY:kt.desc d) (he:aT e=some te) (cM:te.desc.agg=true∨te.size=1)
  (hx:σ.ev x=some (.mm id)) (tD:σ.objs[id]?=some (.map kt es)) (hy:σ.ev y=some (.v key)) (ik:kt.ok key):Cert P o σ (ly ok (kh es key) (zeroOf te)) (.rd id) :=
 Cert.QW hd fun a g hg h hO=>by
  obtain⟨l,o1,tz,h1,_,ex⟩:=(h x (by simp[ho,Op.operands]) _ hx).DH;have ey:=(h y (by simp[ho,Op.operands]) _ hy).bX.1;obtain⟨l',arr,clk,e1,_,hh,hl,ka,hr⟩:=hg.map id kt es (by rw[hO];exact tD);rw[tz]at e1;simp only[Option.some.injEq]at e1;subst e1;obtain⟨z,hz,xH⟩:=oG (hT e te he) cM;obtain⟨u,h1,h2⟩:=vC (oc hT ht aR) hk zY hh hl (fun i e kx a b=>(hr i e kx a b).1) ka (fun i e kx a b=>(hr i e kx a b).2.2) ik (hz g.w) (xH g) ok;exact⟨_,by simp only[execOp,ho,ex,ey,Sem.run_bind,h1,Result.andThen_ok,Sem.run_pure],mR h2⟩
theorem tp{P:Program}{aT:eh}(hT:b7 P aT){o:Oper}{σ:St}{t k e:TypeId}{x y:Operand}{ok:Bool}{ti te:cc}{kt:KT}{key:Value}{d:TypeDesc}
  (ho:o.op=.lookup t x y ok) (hd:∀d,o.dst=some d->d<σ.n) (ht:aT t=some ti) (aR:ti.desc=.map k e) (hk:P.underlying k=some d) (zY:kt.desc d) (he:aT e=some te) (cM:te.desc.agg=true∨te.size=1)
  (hx:σ.ev x=some (.v (.map none))) (hy:σ.ev y=some (.v key)):Cert P o σ (ly ok none (zeroOf te)) .pure :=
 Cert.bN .pure (.inl rfl) hd fun a g _ h _=>by
  have ex:=(h x (by simp[ho,Op.operands]) _ hx).bX.1;have ey:=(h y (by simp[ho,Op.operands]) _ hy).bX.1;obtain⟨z,hz,xH⟩:=oG (hT e te he) cM;have Dd:∀b,(Instr.checkKey b 10000 k key).run P g.w=.ok () g.w:=fun b=>run_checkKey hk zY g.w b 9999;have h1:(Instr.lookup t (.map none) key ok).run P g.w=.ok (if ok then .tuple #[z,.bool (none:Option ae).isSome]else z) g.w:=by
   simp only[Instr.lookup,Sem.run_bind,run_underlying (oc hT ht aR),Result.andThen_ok,Sem.run_pure,Dd,Instr.findKey,run_underlying hk,Instr.findNow,hz g.w];cases ok<;>rfl
  exact⟨_,by simp only[execOp,ho,ex,ey,Sem.run_bind,h1,Result.andThen_ok,Sem.run_pure],mR (xH g)⟩
theorem IH{kt:KT}{a b:Value}(ha:kt.ok a)(hb:kt.ok b)(h:ng a b=true):a=b:=by
 cases kt with
 | str =>
  cases a<;>simp only[KT.ok]at ha;cases b<;>simp only[KT.ok]at hb;simp only[ng,decide_eq_true_eq]at h;rw[h]
 | int k =>
  cases a<;>simp only[KT.ok]at ha;cases b<;>simp only[KT.ok]at hb;simp only[ng,decide_eq_true_eq]at h;rw[h,ha,hb]
theorem sameBits_self{kt:KT}{a:Value}(ha:kt.ok a)(n:Nat):Instr.sameBits n a a=true:=by
 cases kt with
 | str =>
  cases a<;>simp only[KT.ok]at ha;cases n<;>simp[Instr.sameBits,bytes_beq]
 | int k =>
  cases a<;>simp only[KT.ok]at ha;cases n<;>simp[Instr.sameBits]
theorem MX{kt:KT}{es:List (Value×ae)}{key:Value}{y:ae}(h:∀p∈es,kt.ok p.1)(hk:kt.ok key):∀p∈mX es key y,kt.ok p.1:=by
 induction es with
 | nil=>simp[mX,hk]
 | cons q r ih =>
  obtain⟨k,x⟩:=q;simp only[mX];split
  ·intro p hp;rcases List.mem_cons.1 hp with e|e
   ·subst e;exact hk
   exact h p (by simp[e])
  intro p hp;rcases List.mem_cons.1 hp with e|e
  ·subst e;exact h _ (by simp)
  exact ih (fun p hp=>h p (by simp[hp])) p e
theorem nL{P:Program}{aT:eh}(hT:b7 P aT){o:Oper}{σ:St}{t k e:TypeId}{x y v:Operand}{ti:cc}{kt:KT}{es:List (Value×ae)}{id:Nat}{key:Value}{d:TypeDesc}{val:ae}
  (ho:o.op=.mapUpdate t x y v∨o.op=.insert t x y v) (jL:o.dst=none) (ht:aT t=some ti) (aR:ti.desc=.map k e) (hk:P.underlying k=some d) (zY:kt.desc d)
  (hx:σ.ev x=some (.mm id)) (tD:σ.objs[id]?=some (.map kt es)) (hy:σ.ev y=some (.v key)) (ik:kt.ok key) (hv:σ.ev v=some val) :
  Cert P o σ (.v (.bool false)) (.write (σ.objs.set id (.map kt (mX es key val)))) :=
 Cert.iN (by simp[jL]) fun base fN a g bH h iT=>by
  have IV:g.objs=σ.objs:=iT.resolve_left (by simp);have hg:=bH.good;obtain⟨l,o1,tz,h1,_,ex⟩:=(h x (by rcases ho with ho|ho<;>simp[ho,Op.operands]) _ hx).DH;have V4:=(h y (by rcases ho with ho|ho<;>simp[ho,Op.operands]) _ hy).bX;have ey:=V4.1;have Pg:=h v (by rcases ho with ho|ho<;>simp[ho,Op.operands]) _ hv;have mh:g.objs[id]?=some (.map kt es):=by rw[IV];exact tD
  obtain⟨l',arr,clk,e1,iJ,hh,hl,ka,hr⟩:=hg.map id kt es mh;rw[tz]at e1;simp only[Option.some.injEq]at e1;subst e1;obtain⟨fr,f1,f2⟩:=findNow_spec zY ik arr.toList es 0 (by simpa using hl) (fun j e kx a b=>(hr j e kx (by simpa using a) b).1) ka;have Dd:∀b,(Instr.checkKey b 10000 k key).run P g.w=.ok () g.w:=fun b=>run_checkKey hk zY g.w b 9999;have e9:(getObj l.block).run P g.w=.ok (.map arr clk) g.w:=by
   simp[Go.getObj,Sem.run,hh]
  have A3:(Instr.findKey k key arr.toList).run P g.w=.ok fr g.w:=by
   simp[Instr.findKey,run_underlying hk,f1]
  have ga:∀o',(setObj l.block o').run P g.w=.ok () { g.w with heap:=g.w.heap.setIfInBounds l.block o' }:=fun o'=>by
   simp[Go.setObj,Sem.run,hh]
  have a8:=aX hh;have Xe:∃cf FW,(Instr.mapUpdate t (.map (some l.block)) key (a.eval v)).run P g.w=.ok () { g.w with heap:=g.w.heap.setIfInBounds l.block (.map cf FW) }∧cf.size=(mX es key val).length ∧
    ∀(i:Nat) (e:MapEntry) (kx:Value×ae),cf[i]?=some e->(mX es key val)[i]?=some kx->e.key=kx.1∧j8 kx.1∧RV g kx.2 e.val:=by
   rcases f2 with⟨q1,q2,q3⟩|⟨j,e',x',k0,q1,q2,q3,q4,q5,q6⟩
   ·subst q1;refine⟨arr.push { key,val:=a.eval v,born:=clk },clk+1,?_,by rw[q3];simp[hl],fun i e kx a1 a2=>?_⟩
    ·simp only[Instr.mapUpdate,Sem.run_bind,run_underlying (oc hT ht aR),Result.andThen_ok,e9,Dd,A3,ga]
    rw[q3]at a2;rcases aO a2 with b|⟨b1,b2⟩
    ·have hi:=I b;rw[Array.getElem?_push,if_neg (by omega)]at a1;exact hr i e kx a1 b
    subst b2;rw[Array.getElem?_push,if_pos (by omega)]at a1;simp only[Option.some.injEq]at a1;subst a1;exact⟨rfl,V4.2,Pg⟩
   subst q1;have HD:k0=key:=IH (ka (k0,x') (List.mem_of_getElem? q3)) ik q4;have MY:arr[j]?=some e':=by simpa using q2
   have ZR:e'.key=key:=(hr j e' (k0,x') MY q3).1.trans HD;refine⟨arr.modify j fun e=>{ e with key,val:=a.eval v },clk,?_,by rw[q6];simp[hl],fun i e kx a1 a2=>?_⟩
   ·have Ud:∀w,(Instr.keyThatStays key key).run P w=.ok key w:=fun w=>by simp[Instr.keyThatStays,sameBits_self ik]
    simp only[Instr.mapUpdate,Sem.run_bind,run_underlying (oc hT ht aR),Result.andThen_ok,e9,Dd,A3,Nat.zero_add,MY,Option.map_some,Option.getD_some,ZR,Ud,ga]
   rw[q6]at a2;rw[Array.getElem?_modify]at a1;by_cases e:j=i
   ·subst e;rw[if_pos rfl,MY]at a1;rw[List.getElem?_set_self (by rw[<-hl];exact aX MY)]at a2;simp only[Option.map_some,Option.some.injEq]at a1 a2;subst a1;subst a2;exact⟨rfl,V4.2,Pg⟩
   rw[if_neg e]at a1;rw[List.getElem?_set_ne e]at a2;exact hr i _ kx a1 a2
  obtain⟨cf,FW,bI,nV,Qe⟩:=Xe;have Jm:∀k,k≠l.block->(g.w.heap.setIfInBounds l.block (.map cf FW))[k]?=g.w.heap[k]?:=fun k hk=>Array.getElem?_setIfInBounds_ne (fun e=>hk e.symm);have eN:lb g id (.map kt es) (some l) (.map kt (mX es key val)) { g.w with heap:=g.w.heap.setIfInBounds l.block (.map cf FW) }:={
   obj:=mh
   os:=rfl
   tape:=rfl
   output:=rfl
   size:=by simp
   block:=fun k _ hk=>Jm k (fun e=>hk l tz trivial e.symm)
   cell:=fun b off x hx _=>by
    by_cases e:b=l.block
    ·subst e;simp only[G.cell,World.cell?,hh]at hx;cases hx
    simp only[World.cell?,Jm b e];exact hx
   place:=fun l1 h1 _=>by
    simp only[Option.some.injEq]at h1;subst h1;exact .inr ⟨l,tz,trivial,rfl,Nat.le_refl _⟩
   spare:=fun m h=>by cases h
   plain:=fun _=>⟨by simp[ai.aD],tz⟩
   gone:=by simp }
  have hle:=Le.bw hg eN;refine⟨.bool false,g.bw id (some l) (.map kt (mX es key val)) { g.w with heap:=g.w.heap.setIfInBounds l.block (.map cf FW) },.inr ⟨jL,?_⟩,hle,Good.bw hg eN ?_ ?_,by simp only[G.bw,Mode.post,IV],.v trivial⟩
  ·rcases ho with ho|ho<;>simp only[execOp,ho,ex,ey,Sem.run_bind,bI,Result.andThen_ok,Sem.run_pure,G.bw]
  ·refine⟨l,cf,FW,rfl,iJ,?_,nV,MX ka ik,fun i e kx a b=>⟨(Qe i e kx a b).1,(Qe i e kx a b).2.1,(Qe i e kx a b).2.2.mono hle⟩⟩;simp only[G.bw];rw[Array.getElem?_setIfInBounds_self_of_lt a8]
  intro l1 h1 _;simp only[Option.some.injEq]at h1;subst h1;simpa using a8
def St.AM(σ:St):List Operand->Option (List ae)
 | []=>some []
 | x::r =>
  match σ.ev x,σ.AM r with
  | some y,some ys=>some (y::ys)
  | _,_=>none
theorem qS{σ:St}{a:Act}{g:G}:∀{xs:List Operand} {ys:List ae},(∀x∈xs,∀y,σ.ev x=some y->RV g y (a.eval x))->σ.AM xs=some ys->iW g ys (xs.map a.eval).toArray
 | [],ys,_,h=>by
  simp only[St.AM,Option.some.injEq]at h;subst h;exact⟨rfl,by simp⟩
 | x::r,ys,nh,h=>by
  simp only[St.AM]at h;cases hx:σ.ev x with
  | none=>simp[hx]at h
  | some y =>
   cases hr:σ.AM r with
   | none=>simp[hx,hr]at h
   | some zs =>
    simp only[hx,hr,Option.some.injEq]at h;subst h;obtain⟨h1,h2⟩:=qS (g:=g) (a:=a) (fun z hz=>nh z (List.mem_cons_of_mem _ hz)) hr;refine⟨by simpa using h1,fun j c u a1 a2=>?_⟩;cases j with
    | zero =>
     simp at a1 a2;subst a1;subst a2;exact nh x (List.mem_cons_self) y hx
    | succ j=>exact h2 j c u (by simpa using a1) (by simpa using a2)
theorem wy{P:Program}{o:Oper}{σ:St}{f:Fn}{first captured:Array Operand}{fs cs:List ae}(ho:o.op=.makeFunc f first captured)(hd:∀d,o.dst=some d->d<σ.n)
  (hf:σ.AM first.toList=some fs) (hc:σ.AM captured.toList=some cs):Cert P o σ (.fn f fs cs) .pure :=
 Cert.bN .pure (.inl rfl) hd fun a g _ h _=>by
  have m1:∀x∈first.toList,x∈o.op.operands:=fun x hx=>by
   rw[ho];simp only[Op.operands,Array.mem_append];exact .inl (Array.mem_toList_iff.1 hx)
  have m2:∀x∈captured.toList,x∈o.op.operands:=fun x hx=>by
   rw[ho];simp only[Op.operands,Array.mem_append];exact .inr (Array.mem_toList_iff.1 hx)
  have h1:=qS (g:=g) (a:=a) (fun x hx y hy=>h x (m1 x hx) y hy) hf;have h2:=qS (g:=g) (a:=a) (fun x hx y hy=>h x (m2 x hx) y hy) hc;refine⟨.func f (first.map a.eval) (captured.map a.eval),by simp[execOp,ho,Instr.makeFunc],?_⟩;have e1:first.map a.eval=(first.toList.map a.eval).toArray:=Array.ext' (by rw[Array.toList_map])
  have e2:captured.map a.eval=(captured.toList.map a.eval).toArray:=Array.ext' (by rw[Array.toList_map]);rw[e1,e2];exact .fn h1.1 h2.1 h1.2 h2.2
mutual
def ae.upto(n:Nat):ae->Prop
 | .v _=>True
 | .agg cs=>av n cs
 | .aB _ xs o=>av n xs∧(match o with | .tok id=>id<n | _=>True)
 | .ip _ cs=>av n cs
 | .mp id _=>id<n
 | .ms id _ _ _=>id<n
 | .os id _ _=>id<n
 | .raw _ _ id=>id<n
 | .mm id=>id<n
 | .im _ es=>lC n es
 | .fn _ fs cs=>av n fs∧av n cs
 | .cx cs=>av n cs
def av(n:Nat):List ae->Prop
 | []=>True
 | x::r=>x.upto n∧av n r
def lC(n:Nat):List (Value×ae)->Prop
 | []=>True
 | x::r=>Pw n x∧lC n r
def Pw(n:Nat):Value×ae->Prop
 | (_,x)=>x.upto n
end
theorem aQ{n:Nat}{l:List ae}:av n l↔∀x∈l,x.upto n:=by
 induction l with
 | nil=>simp[av]
 | cons x r ih=>simp[av,ih]
theorem mz{n:Nat}{l:List (Value×ae)}:lC n l↔∀x∈l,x.2.upto n:=by
 induction l with
 | nil=>simp[lC]
 | cons x r ih =>
  obtain⟨k,x⟩:=x;simp[lC,Pw,ih]
def G.cr(g:G)(n:Nat):G:=⟨g.w,g.fr,g.env.take n,g.objs.take n⟩
theorem cT{α:Type}{l:List α}{n i:Nat}{x:α}(h:(l.take n)[i]?=some x):l[i]?=some x∧i<n:=by
 rw[List.getElem?_take]at h;split at h
 ·rename_i hh;exact⟨h,hh⟩
 cases h
theorem jE.cr{g:G}{n b off:Nat}(h:jE (g.cr n) b off):jE g b off:=by
 obtain⟨id,l,o,h1,h2,h3,h4,h5⟩:=h;exact⟨id,l,o,(cT h1).1,(cT h2).1,h3,h4,h5⟩
theorem j5.cr{g:G}{n b off:Nat}(h:j5 (g.cr n) b off):j5 g b off:=h.imp id jE.cr
theorem fO.cr{g:G}{n b:Nat}(h:fO (g.cr n) b):fO g b:=by
 obtain⟨id,l,o,h1,h2,h3,h4⟩:=h;exact⟨id,l,o,(cT h1).1,(cT h2).1,h3,h4⟩
theorem RV.cr{g:G}{n:Nat}{x:ae}{u:Value}(h:RV g x u)(hn:n<=g.objs.length)(hb:x.upto n):RV (g.cr n) x u:=by
 have e9:∀(id:Nat),id<n->(g.cr n).objs[id]?=g.objs[id]?:=fun id gC=>by
  simp only[G.cr];rw[List.getElem?_take,if_pos gC]
 have xC:∀(id:Nat),id<n->(g.cr n).env[id]?=g.env[id]?:=fun id gC=>by
  simp only[G.cr];rw[List.getElem?_take,if_pos gC]
 induction h with
 | v hx=>exact .v hx
 | agg hl dk _ ih =>
  simp only[ae.upto,aQ]at hb;exact .agg hl dk fun i c u a b=>ih i c u a b (hb c (List.mem_of_getElem? a))
 | nil ho uX =>
  simp only[ae.upto]at hb;refine .nil (fun id e=>?_) uX;subst e;have:=hb.2;simp only[G.cr,List.length_take];omega
 | aB cM dk cL cv hs f hm hr ho ih =>
  rename_i sz xs o a cap;simp only[ae.upto,aQ]at hb;refine .aB cM dk cL cv hs f (fun j c hj=>⟨(hm j c hj).1,fun q=>(hm j c hj).2 q.cr⟩) (fun j c hj=>ih j c hj ?_) ?_
  ·have hc:=List.mem_of_getElem? hj;simp only[al,List.mem_flatMap]at hc;obtain⟨x,hx,hc⟩:=hc;have:=hb.1 x hx;cases x with
   | agg cs =>
    simp only[ae.upto,aQ]at this;exact this c hc
   | _=>simp only[ae.cells,List.mem_singleton]at hc;subst hc;exact this
  cases o with
  | sh=>trivial
  | nn=>trivial
  | ex=>exact ho
  | loc a=>exact ho
  | tok id =>
   have gC:=hb.2;simp only at gC;obtain⟨q1,q2⟩:=ho;refine⟨by simp only[G.cr,List.length_take];omega,fun m fa=>?_⟩;rw[e9 id gC]at fa;obtain⟨r1,r2⟩:=q2 m fa;refine⟨r1,fun e=>(r2 e).imp (fun h=>h) ?_⟩;rintro⟨l,arr,t,p1,p2,p3,p4,p5⟩;exact⟨l,arr,t,(xC id gC).trans p1,p2,p3,p4,p5⟩
 | ip ha dk f hm hr ih =>
  simp only[ae.upto,aQ]at hb;exact .ip ha dk f (fun j c hj=>⟨(hm j c hj).1,fun q=>(hm j c hj).2 q.cr⟩) fun j c hj=>ih j c hj (hb c (List.mem_of_getElem? hj))
 | mp he ho ko=>exact .mp ((xC _ hb).trans he) ((e9 _ hb).trans ho) ko
 | ms he ho ko hc oV cv=>exact .ms ((xC _ hb).trans he) ((e9 _ hb).trans ho) ko hc oV cv
 | os he ho ko hc oV cv=>exact .os ((xC _ hb).trans he) ((e9 _ hb).trans ho) ko hc oV cv
 | raw uX ho =>
  rename_i sz n0 id a cap;have gC:id<n:=hb;obtain⟨q1,q2⟩:=ho;refine .raw uX ⟨by simp only[G.cr,List.length_take];omega,fun m fa=>?_⟩;rw[e9 id gC]at fa;obtain⟨r1,r2⟩:=q2 m fa;refine⟨r1,fun e=>(r2 e).imp (fun h=>h) ?_⟩;rintro⟨l,arr,t,p1,p2,p3,p4,p5⟩;exact⟨l,arr,t,(xC id gC).trans p1,p2,p3,p4,p5⟩
 | mm he ho ko=>exact .mm ((xC _ hb).trans he) ((e9 _ hb).trans ho) ko
 | im hh ko hl hk wF _ ih =>
  simp only[ae.upto,mz]at hb;exact .im hh (fun off q=>ko off q.cr) hl hk wF fun i e kx a b=>ih i e kx a b (hb kx (List.mem_of_getElem? b))
 | fn hl zZ _ _ ih E4 =>
  simp only[ae.upto,aQ]at hb;exact .fn hl zZ (fun i c u a b=>ih i c u a b (hb.1 c (List.mem_of_getElem? a))) fun i c u a b=>E4 i c u a b (hb.2 c (List.mem_of_getElem? a))
 | cx hl _ ih =>
  simp only[ae.upto,aQ]at hb;exact .cx hl fun i c u a b=>ih i c u a b (hb c (List.mem_of_getElem? a))
def ai.upto(n:Nat):ai->Prop
 | .cells cs=>av n cs
 | .map _ es=>lC n es
 | _=>True
theorem Good.cr{g:G}(hg:Good g){n:Nat}(hn:n<=g.objs.length)(hb:∀o∈g.objs.take n,o.upto n):Good (g.cr n) where
 frlt:=hg.frlt
 frown:=fun id l o h1 h2 h3=>hg.frown id l o (cT h1).1 (cT h2).1 h3
 len:=by simp only[G.cr,List.length_take,hg.len]
 loc:=fun id l o h1 h2 h3=>hg.loc id l o (cT h1).1 (cT h2).1 h3
 apart:=fun id ny l l' o o' h1 h2 h3 h4 h5 h6 h7=>hg.apart id ny l l' o o' (cT h1).1 (cT h2).1 h3 (cT h4).1 (cT h5).1 h6 h7
 cells:=fun id cs h=>by
  obtain⟨l,arr,t,e1,e0,e2,e3,e4,e5⟩:=hg.cells id cs (cT h).1;have OI:=hb _ (List.mem_of_getElem? h);simp only[ai.upto,aQ]at OI;exact⟨l,arr,t,by simp only[G.cr];rw[List.getElem?_take,if_pos (cT h).2,e1],e0,e2,e3,fun j c u a b=>(e4 j c u a b).cr hn (OI c (List.mem_of_getElem? a)),e5⟩
 spare:=fun id m l h1 h2=>hg.spare id m l (cT h1).1 (cT h2).1
 map:=fun id kt es h=>by
  obtain⟨l,arr,clk,e1,e0,e2,e3,e6,e4⟩:=hg.map id kt es (cT h).1;have OI:=hb _ (List.mem_of_getElem? h);simp only[ai.upto,mz]at OI;exact⟨l,arr,clk,by simp only[G.cr];rw[List.getElem?_take,if_pos (cT h).2,e1],e0,e2,e3,e6,fun i e kx a b=>⟨(e4 i e kx a b).1,(e4 i e kx a b).2.1,(e4 i e kx a b).2.2.cr hn (OI kx (List.mem_of_getElem? b))⟩⟩
theorem Le.cr{g0 g:G}(h:Le g0 g){n:Nat}(hn:g0.objs.length<=n):Le g0 (g.cr n) where
 os:=h.os
 tape:=h.tape
 output:=h.output
 fr:=h.fr
 size:=h.size
 block:=fun k hk hh=>⟨(h.block k hk hh).1,fun q=>(h.block k hk hh).2 q.cr⟩
 cell:=fun b off x hx hh=>⟨(h.cell b off x hx hh).1,fun q=>(h.cell b off x hx hh).2 q.cr⟩
 len:=by
  have:=h.len;simp only[G.cr,List.length_take];omega
 spare:=fun id m hm=>by
  have a8:=I hm;have e:(g.cr n).objs[id]?=g.objs[id]?:=by
   simp only[G.cr];rw[List.getElem?_take,if_pos (by omega)]
  rw[e];exact h.spare id m hm
 plain:=fun id o ho hs=>by
  have a8:=I ho;have e:(g.cr n).objs[id]?=g.objs[id]?:=by
   simp only[G.cr];rw[List.getElem?_take,if_pos (by omega)]
  have e':(g.cr n).env[id]?=g.env[id]?:=by
   simp only[G.cr];rw[List.getElem?_take,if_pos (by omega)]
  rw[e,e'];exact h.plain id o ho hs
 gone:=fun id ho=>by
  have a8:=I ho;have e:(g.cr n).objs[id]?=g.objs[id]?:=by
   simp only[G.cr];rw[List.getElem?_take,if_pos (by omega)]
  rw[e];exact h.gone id ho
 tok:=fun id m hm fa=>by
  have a8:=I hm;have e:(g.cr n).objs[id]?=g.objs[id]?:=by
   simp only[G.cr];rw[List.getElem?_take,if_pos (by omega)]
  have e':(g.cr n).env[id]?=g.env[id]?:=by
   simp only[G.cr];rw[List.getElem?_take,if_pos (by omega)]
  rw[e]at fa;rw[e'];exact h.tok id m hm fa
def Enters (P : Program) (f : FuncId) : Prop := ∃ fn, P.funcs[f]? = some fn ∧ (fn.name == "runtime.NumGoroutine") = false ∧ fn.body.isNone = false
def bh(P:Program)(f:FuncId)(O:List ai)(args:List ae)(R:ae->List ai->Prop):Prop :=
 Enters P f∧∀(g:G) (vs:Array Value),Good g->g.objs=O->iW g args vs->Calls P f vs g.w fun e w'=>∃g' v r,e=.returned v∧g'.w=w'∧Le g g'∧Good g'∧RV g' r v∧R r g'.objs
def bq(P:Program)(f:FuncId)(args:List ae)(r:ae):Prop:=bh P f [] args fun r' O'=>r'=r∧O'=[]
theorem bh.mono{P:Program}{f:FuncId}{O:List ai}{args:List ae}{R R':ae->List ai->Prop}(h:bh P f O args R)(hr:∀r O',R r O'->R' r O'):bh P f O args R' :=
 ⟨h.1,fun g vs hg ho ha=>(h.2 g vs hg ho ha).mono fun _ _ ⟨g',v,r,h1,h2,h3,h4,h5,h6⟩=>⟨g',v,r,h1,h2,h3,h4,h5,hr _ _ h6⟩⟩
def G.bare(g:G):G:=⟨g.w,j5 g,[],[]⟩
theorem uh{g:G}{b off:Nat}:j5 g.bare b off↔j5 g b off:=by
 constructor
 ·rintro(h|⟨id,l,o,h1,_⟩)
  ·exact h
  simp[G.bare]at h1
 exact .inl
theorem RV.bare{g:G}{x:ae}{u:Value}(h:RV g x u)(hb:x.upto 0):RV g.bare x u:=by
 induction h with
 | v hx=>exact .v hx
 | agg hl dk _ ih =>
  simp only[ae.upto,aQ]at hb;exact .agg hl dk fun i c u a b=>ih i c u a b (hb c (List.mem_of_getElem? a))
 | nil ho uX =>
  simp only[ae.upto]at hb;refine .nil (fun id e=>?_) uX;subst e;have:=hb.2;simp only at this;omega
 | aB cM dk cL cv hs f hm hr ho ih =>
  rename_i sz xs o a cap;simp only[ae.upto,aQ]at hb;refine .aB cM dk cL cv hs f (fun j c hj=>⟨(hm j c hj).1,fun q=>(hm j c hj).2 (uh.1 q)⟩) (fun j c hj=>ih j c hj ?_) ?_
  ·have hc:=List.mem_of_getElem? hj;simp only[al,List.mem_flatMap]at hc;obtain⟨x,hx,hc⟩:=hc;have:=hb.1 x hx;cases x with
   | agg cs =>
    simp only[ae.upto,aQ]at this;exact this c hc
   | _=>simp only[ae.cells,List.mem_singleton]at hc;subst hc;exact this
  cases o with
  | sh=>trivial
  | nn=>trivial
  | ex=>exact ho
  | loc a=>exact ho
  | tok id =>
   have gC:=hb.2;simp only at gC;omega
 | ip ha dk f hm hr ih =>
  simp only[ae.upto,aQ]at hb;exact .ip ha dk f (fun j c hj=>⟨(hm j c hj).1,fun q=>(hm j c hj).2 (uh.1 q)⟩) fun j c hj=>ih j c hj (hb c (List.mem_of_getElem? hj))
 | mp he ho ko=>simp only[ae.upto]at hb;omega
 | ms he ho ko hc oV cv=>simp only[ae.upto]at hb;omega
 | os he ho ko hc oV cv=>simp only[ae.upto]at hb;omega
 | raw uX ho=>simp only[ae.upto]at hb;omega
 | mm he ho ko=>simp only[ae.upto]at hb;omega
 | im hh ko hl hk wF _ ih =>
  simp only[ae.upto,mz]at hb;exact .im hh (fun off q=>ko off (uh.1 q)) hl hk wF fun i e kx a b=>ih i e kx a b (hb kx (List.mem_of_getElem? b))
 | fn hl zZ _ _ ih E4 =>
  simp only[ae.upto,aQ]at hb;exact .fn hl zZ (fun i c u a b=>ih i c u a b (hb.1 c (List.mem_of_getElem? a))) fun i c u a b=>E4 i c u a b (hb.2 c (List.mem_of_getElem? a))
 | cx hl _ ih =>
  simp only[ae.upto,aQ]at hb;exact .cx hl fun i c u a b=>ih i c u a b (hb c (List.mem_of_getElem? a))
theorem Good.bare{g:G}(hg:Good g):Good g.bare where
 frlt:=fun b off h=>by
  rcases h with h|⟨id,l,o,h1,h2,h3,h4,_⟩
  ·exact hg.frlt b off h
  exact h4 ▸ hg.loc id l o h1 h2 h3
 frown:=fun id l o h1=>by simp[G.bare]at h1
 len:=rfl
 loc:=fun id l o h1=>by simp[G.bare]at h1
 apart:=fun id ny l l' o o' h1=>by simp[G.bare]at h1
 cells:=fun id cs h1=>by simp[G.bare]at h1
 spare:=fun id m l h1=>by simp[G.bare]at h1
 map:=fun id kt es h1=>by simp[G.bare]at h1
def G.back(g g':G):G:=⟨g'.w,g.fr,g.env,g.objs⟩
theorem y5{g:G}(he:g.env=[]){b:Nat}:¬fO g b:=by
 rintro⟨id,l,o,h1,_⟩;simp[he]at h1
theorem Le.back{g g':G}(hg:Good g)(h:Le g.bare g'):Le g (g.back g') where
 os:=h.os
 tape:=h.tape
 output:=h.output
 fr:=rfl
 size:=h.size
 block:=fun k hk hh=>⟨(h.block k hk (y5 rfl)).1,hh⟩
 cell:=fun b off x hx hh=>⟨(h.cell b off x hx (fun q=>y5 rfl q.block)).1,hh⟩
 len:=Nat.le_refl _
 spare:=fun id m hm=>.inl ⟨m,hm,Nat.le_refl _⟩
 plain:=fun id o ho hs=>⟨⟨o,ho,hs⟩,rfl⟩
 gone:=fun id ho=>ho
 tok:=fun id m hm fa=>⟨rfl,fun l hl=>(h.block _ (hg.loc id l _ hl hm trivial) (y5 rfl)).1⟩
theorem Good.back{g g':G}(hg:Good g)(h:Le g.bare g'):Good (g.back g'):=by
 have hle:=Le.back hg h;have yO:∀k,k<g.w.heap.size->g'.w.heap[k]?=g.w.heap[k]?:=fun k hk=>(h.block k hk (y5 rfl)).1;exact {
  frlt:=fun b off hf=>Nat.lt_of_lt_of_le (hg.frlt b off hf) h.size
  frown:=hg.frown
  len:=hg.len
  loc:=fun id l o h1 h2 h3=>Nat.lt_of_lt_of_le (hg.loc id l o h1 h2 h3) h.size
  apart:=hg.apart
  cells:=fun id cs h1=>by
   obtain⟨l,arr,t,e1,e0,e2,e3,e4,e5⟩:=hg.cells id cs h1;exact⟨l,arr,t,e1,e0,(yO _ (aX e2)).trans e2,e3,fun j c u a b=>(e4 j c u a b).mono hle,e5⟩
  spare:=fun id m l h1 h2=>by
   obtain⟨arr,t,e⟩:=hg.spare id m l h1 h2;exact⟨arr,t,(yO _ (aX e)).trans e⟩
  map:=fun id kt es h1=>by
   obtain⟨l,arr,clk,e1,e0,e2,e3,e6,e4⟩:=hg.map id kt es h1;exact⟨l,arr,clk,e1,e0,(yO _ (aX e2)).trans e2,e3,e6,fun i e kx a b=>⟨(e4 i e kx a b).1,(e4 i e kx a b).2.1,(e4 i e kx a b).2.2.mono hle⟩⟩ }
theorem RV.back{g g':G}{x:ae}{u:Value}(dK:g'.fr=j5 g)(Gg:g'.env=[])(tD:g'.objs=[])(h:RV g' x u):RV (g.back g') x u:=by
 have nS:∀b off,j5 (g.back g') b off->j5 g' b off:=fun b off q=>by
  refine .inl ?_;rw[dK];exact q
 induction h with
 | v hx=>exact .v hx
 | agg hl dk _ ih=>exact .agg hl dk ih
 | nil ho uX =>
  refine .nil (fun id e=>?_) uX;have:=ho id e;simp[tD]at this
 | aB cM dk cL cv hs f hm hr ho ih =>
  rename_i sz xs o a cap;refine .aB cM dk cL cv hs f (fun j c hj=>⟨(hm j c hj).1,fun q=>(hm j c hj).2 (nS _ _ q)⟩) ih ?_;cases o with
  | sh=>trivial
  | nn=>trivial
  | ex=>exact ho
  | loc a=>exact ho
  | tok id =>
   have:=ho.1;simp[tD]at this
 | ip ha dk f hm hr ih=>exact .ip ha dk f (fun j c hj=>⟨(hm j c hj).1,fun q=>(hm j c hj).2 (nS _ _ q)⟩) ih
 | mp he ho ko=>simp[Gg]at he
 | ms he ho ko hc oV cv=>simp[Gg]at he
 | os he ho ko hc oV cv=>simp[Gg]at he
 | raw uX ho =>
  have:=ho.1;simp[tD]at this
 | mm he ho ko=>simp[Gg]at he
 | im hh ko hl hk wF _ ih=>exact .im hh (fun off q=>ko off (nS _ _ q)) hl hk wF ih
 | fn hl zZ _ _ ih E4=>exact .fn hl zZ ih E4
 | cx hl _ ih=>exact .cx hl ih
theorem bq.use{P:Program}{f:FuncId}{args:List ae}{r:ae}(h:bq P f args r)(hb:av 0 args)(O:List ai):bh P f O args fun r' O'=>r'=r∧O'=O:=by
 refine⟨h.1,?_⟩;intro g vs hg ho ha;have EM:iW g.bare args vs:=⟨ha.1,fun j c u a b=>(ha.2 j c u a b).bare (aQ.1 hb c (List.mem_of_getElem? a))⟩
 refine(h.2 g.bare vs hg.bare rfl EM).mono ?_;rintro e w' ⟨g',v,r',h1,h2,h3,h4,h5,h6,h7⟩;subst h6;have Gg:g'.env=[]:=by
  have:=h4.len;rw[h7]at this;exact List.length_eq_zero_iff.1 this
 exact⟨g.back g',v,r',h1,h2,Le.back hg h3,Good.back hg h3,h5.back h3.fr Gg h7,rfl,ho⟩
inductive Kind where
 | pure
 | read
 | rd (id:Nat)
 | write
 | wr (n:Nat) (l:List Nat)
 | new (id:Nat)
 deriving DecidableEq
def Sj(k:Kind)(F:List ai->List ai):Prop :=
 match k with
 | .write=>∀O O',F O=F O'
 | .wr _ _=>∀O O',F O=F O'
 | .new id=>∃o,∀O,F O=O.set id o
 | _=>∀O,F O=O
def Mode.kind:Mode->Kind
 | .pure=>.pure
 | .read=>.read
 | .rd id=>.rd id
 | .write _=>.write
 | .wr n l _=>.wr n l
 | .new id _=>.new id
def qR(n:Nat)(d:Option Nat)(l:List (Nat×ae)):List (Nat×ae) :=
 match d with
 | some d=>if d<n then bt d (.cx []) l else bc d l
 | none=>l
structure gK(σ τ:St):Prop where
 n:σ.n=τ.n
 objs:σ.objs=τ.objs
 get:∀s,σ.get s=τ.get s
theorem gK.refl(σ:St):gK σ σ:=⟨rfl,rfl,fun _=>rfl⟩
theorem gK.symm{σ τ:St}(h:gK σ τ):gK τ σ:=⟨h.n.symm,h.objs.symm,fun s=>(h.get s).symm⟩
theorem gK.trans{σ τ ρ:St}(h:gK σ τ)(k:gK τ ρ):gK σ ρ:=⟨h.n.trans k.n,h.objs.trans k.objs,fun s=>(h.get s).trans (k.get s)⟩
theorem gK.ev{σ τ:St}(h:gK σ τ)(x:Operand):σ.ev x=τ.ev x:=by
 cases x with
 | tmp t=>exact h.get t
 | _=>rfl
theorem gK.rel{σ τ:St}(h:gK σ τ){base:G}{a:Act}{g:G}(k:Rel base σ a g):Rel base τ a g where
 le:=k.le
 good:=k.good
 objs:=k.objs.trans h.objs
 size:=k.size.trans h.n
 defers:=k.defers
 slot:=fun s x hx=>k.slot s x ((h.get s).trans hx)
def St.put(σ:St)(d:Option Nat)(r:ae)(O:List ai):St:=⟨σ.n,pq d r σ.bn,O⟩
def St.skip(σ:St)(d:Option Nat):St:=⟨σ.n,qR σ.n d σ.bn,σ.objs⟩
theorem oU(σ:St)(d:Option Nat)(r:ae)(O:List ai)(s:Nat):(σ.put d r O).get s=if d=some s then some r else σ.get s:=by
 cases d with
 | none=>simp[St.put,St.get,pq]
 | some d =>
  simp only[St.put,St.get,pq,fT];by_cases e:d=s
  ·simp[e]
  simp[e]
theorem mb(σ:St)(d:Option Nat)(s:Nat):(σ.skip d).get s=if d=some s then(if s<σ.n then some (.cx [])else none)else σ.get s:=by
 cases d with
 | none=>simp[St.skip,St.get,qR]
 | some d =>
  simp only[St.skip,St.get,qR];by_cases e:d=s
  ·subst e;by_cases h:d<σ.n
   ·simp[h,fT]
   simp[h,lR]
  by_cases h:d<σ.n
  ·simp[e,h,fT]
  simp[e,h,jA e]
theorem Rel.skip{base:G}{σ:St}{a:Act}{g:G}(h:Rel base σ a g)(d:Nat):Rel base (σ.skip (some d)) (a.put (some d) undef) g:=by
 by_cases hd:d<σ.n
 ·have:=h.put (Le.refl g) h.good hd (r:=.cx []) (u:=undef) (.cx rfl (by simp));rw[show σ.skip (some d)=⟨σ.n,bt d (.cx []) σ.bn,g.objs⟩ by simp[St.skip,qR,hd,h.objs]];exact this
 have:=h.forget d undef;rw[show σ.skip (some d)=⟨σ.n,bc d σ.bn,σ.objs⟩ by simp[St.skip,qR,hd]];exact this
theorem gK.put{σ τ:St}(h:gK σ τ)(d:Option Nat)(r:ae)(O:List ai):gK (σ.put d r O) (τ.put d r O) :=
 ⟨h.n,rfl,fun s=>by rw[oU,oU,h.get]⟩
theorem gK.skip{σ τ:St}(h:gK σ τ)(d:Option Nat):gK (σ.skip d) (τ.skip d) :=
 ⟨h.n,h.objs,fun s=>by rw[mb,mb,h.get,h.n]⟩
def cX(ops:Array Oper)(o:Oper)(σ:St):Option Bool :=
 match o.guard with
 | none=>some true
 | some (j,want) =>
  match (ops[j]?).bind (·.dst)with
  | some t =>
   match σ.get t with
   | some (.v (.bool b))=>some (b == want)
   | some (.cx [])=>some false
   | _=>none
  | none=>none
theorem fM{ops:Array Oper}{o:Oper}{σ:St}{base:G}{a:Act}{g:G}{b:Bool}(h:Rel base σ a g)(hw:cX ops o σ=some b):Region.wanted o (yielded ops a.tmps)=b:=by
 unfold cX at hw;unfold Region.wanted;cases hg:o.guard with
 | none =>
  simp only[hg,Option.some.injEq]at hw;exact hw
 | some p =>
  obtain⟨j,want⟩:=p;simp only[hg]at hw;cases ht:(ops[j]?).bind (·.dst)with
  | none=>simp[ht]at hw
  | some t =>
   simp only[ht]at hw;split at hw
   ·rename_i c hc;simp only[Option.some.injEq]at hw;obtain⟨u,h1,h2⟩:=h.slot t _ hc;have:=h2.bX.1;subst this;have hy:yielded ops a.tmps j=some c:=by
     unfold yielded;simp[ht,h1]
    simp only[hy];rw[<-hw];cases c<;>cases want<;>rfl
   ·rename_i hc;simp only[Option.some.injEq]at hw;obtain⟨u,h1,h2⟩:=h.slot t _ hc;cases h2 with
    | cx hl _ =>
     rename_i vs;have hy:yielded ops a.tmps j=none:=by
      unfold yielded;simp[ht,h1]
     simp only[hy];rw[<-hw];rfl
   cases hw
theorem lV{ops:Array Oper}{o:Oper}{σ τ:St}(h:∀j want t,o.guard=some (j,want)->(ops[j]?).bind (·.dst)=some t->σ.get t=τ.get t):cX ops o σ=cX ops o τ:=by
 unfold cX;cases hg:o.guard with
 | none=>rfl
 | some p =>
  obtain⟨j,want⟩:=p;simp only;cases ht:(ops[j]?).bind (·.dst)with
  | none=>rfl
  | some t =>
   simp only;rw[h j want t hg ht]
theorem Cert.congr{P:Program}{o:Oper}{σ τ:St}{r:ae}{m:Mode}(h:Cert P o σ r m)(hn:σ.n=τ.n)(xB:∀x∈o.op.operands,σ.ev x=τ.ev x)(ho:m.agree τ.objs σ.objs):Cert P o τ r m:=by
 refine⟨?_,?_⟩
 ·have:=h.1;cases m with
  | wr n l O' =>
   intro i hi hl;rw[this i hi hl,show τ.objs=σ.objs from ho]
  | _=>trivial
 intro base ρ a g bH h1 h2 h3;refine h.2 base ρ a g bH (h1.trans hn.symm) (fun x hx y hy=>h2 x hx y ((xB x hx).symm.trans hy)) ?_;cases m with
 | pure=>trivial
 | rd id=>exact Eq.trans h3 ho
 | new id _=>exact Eq.trans h3 ho
 | _=>exact Eq.trans h3 ho
def lF(P:Program)(ops:Array Oper)(i:Nat)(k:Kind)(σ fN:St):Prop :=
 ∃o,ops[i]?=some o ∧
  ((cX ops o σ=some true∧∃r m,Cert P o σ r m∧m.kind=k∧fN=σ.put o.dst r (m.post σ.objs)) ∨
   (cX ops o σ=some false∧k=.pure∧fN=σ.skip o.dst))
def eJ(P:Program)(ops:Array Oper):List (Nat×Kind)->St->St->Prop
 | [],σ,τ=>gK σ τ
 | (i,k)::r,σ,τ=>∃fN,lF P ops i k σ fN∧eJ P ops r fN τ
theorem lF.same{P:Program}{ops:Array Oper}{i:Nat}{k:Kind}{σ fN τ:St}(h:lF P ops i k σ fN)(hs:gK σ τ):∃Lc,lF P ops i k τ Lc∧gK fN Lc:=by
 obtain⟨o,ho,h⟩:=h;rcases h with⟨h1,r,m,h2,h3,h4⟩|⟨h1,h2,h3⟩
 ·refine⟨τ.put o.dst r (m.post τ.objs),⟨o,ho,.inl ⟨?_,r,m,h2.congr hs.n (fun x _=>hs.ev x) (Mode.qA (.inr hs.objs.symm)),h3,rfl⟩⟩,?_⟩
  ·rw[<-h1];exact lV fun _ _ t _ _=>(hs.get t).symm
  subst h4;rw[hs.objs];exact hs.put _ _ _
 refine⟨τ.skip o.dst,⟨o,ho,.inr ⟨?_,h2,rfl⟩⟩,?_⟩
 ·rw[<-h1];exact lV fun _ _ t _ _=>(hs.get t).symm
 subst h3;exact hs.skip _
theorem eJ.same{P:Program}{ops:Array Oper}:∀{l:List (Nat×Kind)} {σ τ ρ:St},eJ P ops l σ ρ->gK σ τ->eJ P ops l τ ρ
 | [],_,_,_,h,hs=>hs.symm.trans h
 | (i,k)::r,σ,τ,ρ,h,hs=>by
  obtain⟨fN,h1,h2⟩:=h;obtain⟨Lc,h3,h4⟩:=h1.same hs;exact⟨Lc,h3,h2.same h4⟩
def bO(k k':Kind):Bool :=
 match k,k' with
 | .pure,_=>true
 | _,.pure=>true
 | .read,.read=>true
 | .rd _,.read=>true
 | .read,.rd _=>true
 | .rd _,.rd _=>true
 | .rd id,.wr n l=>decide (id<n)&&!l.contains id
 | .wr n l,.rd id=>decide (id<n)&&!l.contains id
 | .new i,.new j=>!decide (i=j)
 | .new i,.rd j=>!decide (i=j)
 | .rd i,.new j=>!decide (i=j)
 | _,_=>false
def Kind.agree(k:Kind)(O O0:List ai):Prop :=
 match k with
 | .pure=>True
 | .rd id=>O[id]?=O0[id]?
 | .new id=>O[id]?=O0[id]?
 | _=>O=O0
theorem Mode.Cl{m:Mode}{O O0:List ai}(h:m.kind.agree O O0):m.agree O O0:=by
 cases m<;>exact h
theorem wP{ops:Array Oper}{o:Oper}{t:Nat}(h:(.tmp t:Operand)∈o.op.operands):t∈o.looksAt ops :=
 List.mem_append_left _ (List.mem_filterMap.2 ⟨.tmp t,Array.mem_toList_iff.2 h,rfl⟩)
theorem Bf{ops:Array Oper}{o:Oper}{j:Nat}{want:Bool}{t:Nat}(h:o.guard=some (j,want))(ht:(ops[j]?).bind (·.dst)=some t):t∈o.looksAt ops:=by
 refine List.mem_append_right _ ?_;simp[h,ht]
structure Sn(P:Program)(ops:Array Oper)(o:Oper)(k:Kind)(F:List ai->List ai)(σ fN:St):Prop where
 n:fN.n=σ.n
 get:∀s,o.dst≠some s->fN.get s=σ.get s
 SE:Sj k F
 objs:fN.objs=F σ.objs
 lQ:∀n l,k=.wr n l->∀i,i<n->i ∉ l->(F σ.objs)[i]?=σ.objs[i]?
 move:∀τ:St,τ.n=σ.n->(∀t∈o.looksAt ops,τ.get t=σ.get t)->k.agree τ.objs σ.objs ->
  ∃Lc,(cX ops o τ=some true∧(∃r m,Cert P o τ r m∧m.kind=k∧Lc=τ.put o.dst r (m.post τ.objs))∨cX ops o τ=some false∧k=.pure∧Lc=τ.skip o.dst) ∧
   (∀s,o.dst=some s->Lc.get s=fN.get s)∧(∀s,o.dst≠some s->Lc.get s=τ.get s)∧Lc.n=τ.n∧Lc.objs=F τ.objs
theorem Pv{P:Program}{ops:Array Oper}{o:Oper}{k:Kind}{σ fN:St}
  (h:(cX ops o σ=some true∧∃r m,Cert P o σ r m∧m.kind=k∧fN=σ.put o.dst r (m.post σ.objs))∨(cX ops o σ=some false∧k=.pure∧fN=σ.skip o.dst)):∃F,Sn P ops o k F σ fN:=by
 have xB:∀τ:St,(∀t∈o.looksAt ops,τ.get t=σ.get t)->∀x∈o.op.operands,σ.ev x=τ.ev x:=fun τ ht x hx=>by
  cases x with
  | tmp t=>exact(ht t (wP hx)).symm
  | _=>rfl
 have Pk:∀τ:St,(∀t∈o.looksAt ops,τ.get t=σ.get t)->cX ops o τ=cX ops o σ:=fun τ ht=>lV fun j w t hg hd=>ht t (Bf hg hd);rcases h with⟨h1,r,m,h2,h3,h4⟩|⟨h1,h2,h3⟩
 ·subst h4;subst h3;have Mw:Sj m.kind m.post:=by
   cases m with
   | new id o=>exact⟨o,fun _=>rfl⟩
   | write O=>exact fun _ _=>rfl
   | wr n l O=>exact fun _ _=>rfl
   | _=>exact fun _=>rfl
  refine⟨m.post,rfl,fun s hs=>by rw[oU,if_neg hs],Mw,rfl,fun n l hk i hi hl=>?_,fun τ hn ht ho=>⟨τ.put o.dst r (m.post τ.objs),.inl ⟨(Pk τ ht).trans h1,r,m,?_,rfl,rfl⟩,?_,?_,rfl,rfl⟩⟩
  ·cases m with
   | wr n' l' O' =>
    simp only[Mode.kind,Kind.wr.injEq]at hk;obtain⟨rfl,rfl⟩:=hk;exact h2.1 i hi hl
   | _=>simp[Mode.kind]at hk
  ·exact h2.congr hn.symm (xB τ ht) (Mode.Cl ho)
  ·intro s hs;rw[oU,oU,if_pos hs,if_pos hs]
  intro s hs;rw[oU,if_neg hs]
 subst h3;subst h2;refine⟨id,rfl,fun s hs=>by rw[mb,if_neg hs],fun _=>rfl,rfl,fun n l hk=>(by cases hk),fun τ hn ht ho=>⟨τ.skip o.dst,.inr ⟨(Pk τ ht).trans h1,rfl,rfl⟩,?_,?_,rfl,rfl⟩⟩
 ·intro s hs;rw[mb,mb,if_pos hs,if_pos hs,hn]
 intro s hs;rw[mb,if_neg hs]
theorem Cm{k:Kind}{O O':List ai}(h:k.agree O O'):k.agree O' O:=by
 cases k<;>first|trivial|exact Eq.symm h
theorem xa{kj ki:Kind}{F:List ai->List ai}{O:List ai}(hk:bO kj ki=true)(hF:Sj kj F)(sO:∀n l,kj=.wr n l->∀i,i<n->i ∉ l->(F O)[i]?=O[i]?):ki.agree O (F O):=by
 cases ki with
 | pure=>trivial
 | rd id =>
  show O[id]?=(F O)[id]?;cases kj with
  | write=>simp[bO]at hk
  | wr n l =>
   simp only[bO,Bool.and_eq_true,decide_eq_true_eq,Bool.not_eq_true',List.contains_eq_mem,decide_eq_false_iff_not]at hk;exact(sO n l rfl id hk.1 hk.2).symm
  | new j =>
   obtain⟨o,hF⟩:=hF;simp only[bO,Bool.not_eq_true',decide_eq_false_iff_not]at hk;rw[hF,List.getElem?_set_ne hk]
  | _=>rw[hF O]
 | new id =>
  show O[id]?=(F O)[id]?;cases kj with
  | new j =>
   obtain⟨o,hF⟩:=hF;simp only[bO,Bool.not_eq_true',decide_eq_false_iff_not]at hk;rw[hF,List.getElem?_set_ne hk]
  | pure=>rw[hF O]
  | rd j=>rw[hF O]
  | _=>simp[bO]at hk
 | read=>cases kj<;>first | exact(hF O).symm | simp[bO]at hk
 | write=>cases kj<;>first | exact(hF O).symm | simp[bO]at hk
 | wr n l=>cases kj<;>first | exact(hF O).symm | simp[bO]at hk
theorem Cn{k k':Kind}(h:bO k k'=true):bO k' k=true:=by
 cases k<;>cases k'<;>first|exact h|(simp only[bO,Bool.not_eq_true',decide_eq_false_iff_not]at h ⊢;exact fun e=>h e.symm)
theorem IB{kj ki:Kind}{Fj Fi:List ai->List ai}(hk:bO kj ki=true)(hj:Sj kj Fj)(hi:Sj ki Fi)(O:List ai):Fi (Fj O)=Fj (Fi O):=by
 cases kj with
 | new j =>
  obtain⟨oj,hj⟩:=hj;cases ki with
  | new i =>
   obtain⟨oi,hi⟩:=hi;simp only[bO,Bool.not_eq_true',decide_eq_false_iff_not]at hk;rw[hj,hi,hj,hi,List.set_comm _ _ hk]
  | pure=>rw[hi,hi]
  | rd _=>rw[hi,hi]
  | _=>simp[bO]at hk
 | pure=>rw[hj,hj]
 | read=>rw[hj,hj]
 | rd _=>rw[hj,hj]
 | write=>cases ki<;>first | (rw[hi,hi];done) | simp[bO]at hk
 | wr _ _=>cases ki<;>first | (rw[hi,hi];done) | simp[bO]at hk
theorem swap{P:Program}{ops:Array Oper}{i j:Nat}{oi oj:Oper}{ki kj:Kind}{σ Xt Xu:St}(hi:ops[i]?=some oi)(hj:ops[j]?=some oj)(Ml:oj.apart ops oi=true)(hk:bO kj ki=true)
  (h1:lF P ops j kj σ Xt) (h2:lF P ops i ki Xt Xu):∃RB Si,lF P ops i ki σ RB∧lF P ops j kj RB Si∧gK Xu Si:=by
 obtain⟨a1,a2,a3⟩:=Oper.apart_spec Ml;obtain⟨oj',gV,h1⟩:=h1;rw[hj]at gV;simp only[Option.some.injEq]at gV;subst gV;obtain⟨oi',ia,h2⟩:=h2;rw[hi]at ia;simp only[Option.some.injEq]at ia;subst ia;obtain⟨Fj,s1⟩:=Pv h1;obtain⟨Fi,s2⟩:=Pv h2;have Ta:∀s,oj.dst=some s->oi.dst≠some s:=fun s hs e=>a2 s hs e;have nh:=xa hk s1.SE s1.lQ;rw[<-s1.objs]at nh;obtain⟨RB,t1,t2,t3,t4,t5⟩:=s2.move σ s1.n.symm (fun t ht=>(s1.get t (fun e=>a1 t e ht)).symm) nh;obtain⟨Si,u1,u2,u3,u4,u5⟩:=s1.move RB t4 (fun t ht=>t3 t (fun e=>a3 t e ht)) (by
  rw[t5];refine Cm (xa (Cn hk) s2.SE fun n l e i hi hl=>?_);subst e;have h4:=s2.lQ n l rfl i hi hl;rw[s1.objs]at h4;have Zc:∀O,Fj O=O:=by
   have he:=s1.SE;clear s1 h1 nh;cases kj with
   | pure=>exact he
   | rd _=>exact he
   | _=>simp[bO]at hk
  rw[Zc]at h4;exact h4)
 refine⟨RB,Si,⟨oi,hi,t1⟩,⟨oj,hj,u1⟩,⟨?_,?_,fun s=>?_⟩⟩
 ·rw[s2.n,s1.n,u4,t4]
 ·rw[s2.objs,s1.objs,u5,t5];exact IB hk s1.SE s2.SE _
 by_cases ei:oi.dst=some s
 ·have ej:oj.dst≠some s:=fun e=>Ta s e ei;rw[u3 s ej,t2 s ei]
 rw[s2.get s ei];by_cases ej:oj.dst=some s
 ·rw[u2 s ej]
 rw[u3 s ej,t3 s ei,s1.get s ej]
def indep(ops:Array Oper)(j i:Nat)(kj ki:Kind):Bool :=
 match ops[j]?,ops[i]? with
 | some oj,some oi=>oj.apart ops oi&&bO kj ki
 | _,_=>false
theorem eJ.front{P:Program}{ops:Array Oper}{i:Nat}{ki:Kind}{l2:List (Nat×Kind)}:∀{l1:List (Nat×Kind)} {σ ρ:St},eJ P ops (l1++(i,ki)::l2) σ ρ->(∀p∈l1,indep ops p.1 i p.2 ki=true)->eJ P ops ((i,ki)::(l1++l2)) σ ρ
 | [],_,_,h,_=>h
 | (j,kj)::l1,σ,ρ,h,MA=>by
  obtain⟨Xt,h1,h2⟩:=h;obtain⟨Xu,h3,h4⟩:=eJ.front h2 (fun p hp=>MA p (by simp[hp]));have tP:=MA (j,kj) (by simp);simp only[indep]at tP;have R2:∃oi,ops[i]?=some oi:=by
   obtain⟨oi,R2,_⟩:=h3;exact⟨oi,R2⟩
  have Jj:∃oj,ops[j]?=some oj:=by
   obtain⟨oj,Jj,_⟩:=h1;exact⟨oj,Jj⟩
  obtain⟨oi,R2⟩:=R2;obtain⟨oj,Jj⟩:=Jj;simp only[R2,Jj,Bool.and_eq_true]at tP;obtain⟨RB,Si,q1,q2,q3⟩:=swap R2 Jj tP.1 tP.2 h1 h3;exact⟨RB,q1,Si,q2,h4.same q3⟩
def qj(ops:Array Oper):Nat->Nat->Nat->Bool
 | 0,_,_=>false
 | n+1,j,i =>
  match ops[i]? with
  | some o=>o.after.toList.any fun e=>Region.binds .any e&&(e.on == j || qj ops n j e.on)
  | none=>false
def Ou(ops:Array Oper):Bool :=
 (List.range ops.size).all fun i =>
  match ops[i]? with
  | some o=>o.after.toList.all fun e=>!Region.binds .any e || decide (e.on<i)
  | none=>true
def oh(ops:Array Oper)(ks:List Kind):Bool :=
 Ou ops&&(ks.length == ops.size) &&
 (List.range ops.size).all fun i=>(List.range i).all fun j=>qj ops ops.size j i ||indep ops j i (ks.getD j .write) (ks.getD i .write)
def yz(ops:Array Oper)(bz:Array Bool):Prop :=
 ∀i o,ops[i]?=some o->bz.getD i false=true->∀e∈o.after.toList,Region.binds .any e=true->bz.getD e.on false=true
theorem ry{ops:Array Oper}{bz:Array Bool}(hc:yz ops bz):∀(n j i:Nat) (o:Oper),ops[i]?=some o->(∀e∈o.after.toList,Region.binds .any e=true->bz.getD e.on false=true)->qj ops n j i=true->bz.getD j false=true
 | 0,j,i,o,_,_,h=>by simp[qj]at h
 | n+1,j,i,o,ho,cB,h=>by
  simp only[qj,ho,List.any_eq_true,Bool.and_eq_true,Bool.or_eq_true,beq_iff_eq]at h;obtain⟨e,he,hb,h⟩:=h;have Yq:=cB e he hb;rcases h with h|h
  ·rw[<-h];exact Yq
  cases Lm:ops[e.on]? with
  | none =>
   cases n with
   | zero=>simp[qj]at h
   | succ n=>simp[qj,Lm]at h
  | some o'=>exact ry hc n j e.on o' Lm (fun e' Gf Db=>hc e.on o' Lm Yq e' Gf Db) h
theorem qb{ops:Array Oper}{bz:Array Bool}{i:Nat}:i∈Region.ready .any ops bz↔i<ops.size∧bz.getD i true=false∧∃o,ops[i]?=some o∧∀e∈o.after.toList,Region.binds .any e=true->bz.getD e.on false=true:=by
 unfold Region.ready;rw[List.mem_filter,List.mem_range];constructor
 ·rintro⟨h1,h2⟩;rw[Bool.and_eq_true]at h2;obtain⟨h2,h3⟩:=h2;refine⟨h1,by simpa using h2,?_⟩;cases ho:ops[i]? with
  | none=>simp[ho]at h3
  | some o =>
   refine⟨o,rfl,fun e he hb=>?_⟩;simp only[ho,Option.map_some,Option.getD_some]at h3;have:=Array.all_eq_true_iff_forall_mem.1 h3 e (Array.mem_toList_iff.1 he);simpa[hb]using this
 rintro⟨h1,h2,o,ho,h3⟩;refine⟨h1,?_⟩;rw[Bool.and_eq_true];refine⟨by simpa using h2,?_⟩;simp only[ho,Option.map_some,Option.getD_some];refine Array.all_eq_true_iff_forall_mem.2 fun e he=>?_;by_cases hb:Region.binds .any e=true
 ·simp only[hb,Bool.not_true,Bool.false_or];exact h3 e (Array.mem_toList_iff.2 he) hb
 simp[hb]
theorem range_split{n i:Nat}(h:i<n):List.range n=List.range i++i::(List.range n).drop (i+1):=by
 apply List.ext_getElem?;intro j;rw[List.getElem?_append];simp only[List.length_range];by_cases h1:j<i
 ·rw[if_pos h1,List.getElem?_range h1,List.getElem?_range (by omega)]
 rw[if_neg h1];by_cases h2:j=i
 ·subst h2;simp[h]
 obtain⟨m,hm⟩:∃m,j-i=m+1:=⟨j-i-1,by omega⟩
 rw[hm,List.getElem?_cons_succ,List.getElem?_drop];congr 1;omega
theorem uN{n i j:Nat}(h:j∈(List.range n).drop (i+1)):i<j∧j<n:=by
 obtain⟨k,hk⟩:=List.getElem?_of_mem h;rw[List.getElem?_drop]at hk;have:=I hk;simp only[List.length_range]at this;rw[List.getElem?_range this]at hk;simp only[Option.some.injEq]at hk;omega
def gJ(ks:List Kind)(n:Nat)(bz:Array Bool):List (Nat×Kind) :=
 ((List.range n).filter fun i=>!bz.getD i true).map fun i=>(i,ks.getD i .write)
theorem Ef(ks:List Kind){n:Nat}{bz:Array Bool}(cM:bz.size=n){i:Nat}(hi:i<n)(hl:bz.getD i true=false) :
  ∃l1 l2,gJ ks n bz=l1++(i,ks.getD i .write)::l2∧gJ ks n (bz.setIfInBounds i true)=l1++l2∧∀p∈l1,p.1<i∧bz.getD p.1 true=false∧p.2=ks.getD p.1 .write:=by
 refine⟨((List.range i).filter fun j=>!bz.getD j true).map fun j=>(j,ks.getD j .write),(((List.range n).drop (i+1)).filter fun j=>!bz.getD j true).map fun j=>(j,ks.getD j .write),?_,?_,?_⟩
 ·unfold gJ;rw[range_split hi];rw[List.filter_append,List.map_append,List.filter_cons];simp only[hl,Bool.not_false,if_true,List.map_cons];rw[<-range_split hi]
 ·unfold gJ;rw[range_split hi];rw[List.filter_append,List.map_append,List.filter_cons];have Wa:(bz.setIfInBounds i true).getD i true=true:=by
   simp[Array.getD_eq_getD_getElem?,Array.getElem?_setIfInBounds_self_of_lt (by omega:i<bz.size)]
  simp only[Wa,Bool.not_true,Bool.false_eq_true,if_false];rw[<-range_split hi];have bD:∀j,j≠i->(bz.setIfInBounds i true).getD j true=bz.getD j true:=fun j hj=>by
   simp[Array.getD_eq_getD_getElem?,Array.getElem?_setIfInBounds_ne (fun e=>hj e.symm)]
  congr 2
  ·apply List.filter_congr;intro j hj;rw[List.mem_range]at hj;rw[bD j (by omega)]
  apply List.filter_congr;intro j hj;have:=uN hj;rw[bD j (by omega)]
 intro p hp;rw[List.mem_map]at hp;obtain⟨j,hj,e⟩:=hp;subst e;rw[List.mem_filter,List.mem_range]at hj;exact⟨hj.1,by simpa using hj.2,rfl⟩
theorem xu{bz:Array Bool}{i:Nat}(h:i<bz.size):bz.getD i true=bz.getD i false:=by
 simp[Array.getD_eq_getD_getElem?,h]
theorem BZ{P:Program}{ops:Array Oper}{ks:List Kind}(hB:oh ops ks=true){base:G}{ρ:St}{Q:Exit->Act->World->Prop}(hQ:∀a g,Rel base ρ a g->Q .normal a g.w) :
  ∀(fuel:Nat) (bz:Array Bool) (σ:St) (a:Act) (g:G),bz.size=ops.size->yz ops bz->(gJ ks ops.size bz).length<=fuel->eJ P ops (gJ ks ops.size bz) σ ρ->Rel base σ a g ->
   wpAny P .any ops Q fuel bz a g.w:=by
 simp only[oh,Bool.and_eq_true,List.all_eq_true,Bool.or_eq_true]at hB;obtain⟨⟨OH,_⟩,MA⟩:=hB;have P3:∀i o,ops[i]?=some o->∀e∈o.after.toList,Region.binds .any e=true->e.on<i:=by
  intro i o ho e he hb;simp only[Ou,List.all_eq_true]at OH;have a8:i<ops.size:=aX ho;have:=OH i (List.mem_range.2 a8);simp only[ho,List.all_eq_true,Bool.or_eq_true,decide_eq_true_eq]at this;have:=this e he;simpa[hb]using this
 have Qd:∀bz:Array Bool,bz.size=ops.size->Region.ready .any ops bz=[]->gJ ks ops.size bz=[]:=by
  intro bz cM hr;refine Classical.byContradiction fun bD=>?_;have hex:∃i,i<ops.size∧bz.getD i true=false:=by
   cases ht:gJ ks ops.size bz with
   | nil=>exact absurd ht bD
   | cons p r =>
    have hm:p∈gJ ks ops.size bz:=by rw[ht];simp
    simp only[gJ,List.mem_map,List.mem_filter,List.mem_range]at hm;obtain⟨i,⟨h1,h2⟩,_⟩:=hm;exact⟨i,h1,by simpa using h2⟩
  have Ws:∃i,i<ops.size∧bz.getD i true=false∧∀j,j<i->bz.getD j true=true:=by
   obtain⟨i,h1,h2⟩:=hex;induction i using Nat.strongRecOn with
   | _ i ih =>
    by_cases h:∃j,j<i∧bz.getD j true=false
    ·obtain⟨j,h3,h4⟩:=h;exact ih j h3 (by omega) h4
    refine⟨i,h1,h2,fun j hj=>?_⟩;cases hc:bz.getD j true with
    | true=>rfl
    | false=>exact absurd ⟨j,hj,hc⟩ h
  obtain⟨i,h1,h2,h3⟩:=Ws;have hi:i∈Region.ready .any ops bz:=by
   refine qb.2 ⟨h1,h2,ops[i],Array.getElem?_eq_getElem h1,fun e he hb=>?_⟩;have a8:=P3 i _ (Array.getElem?_eq_getElem h1) e he hb;rw[<-xu (by omega)];exact h3 _ a8
  rw[hr]at hi;cases hi
 intro fuel;induction fuel with
 | zero =>
  intro bz σ a g cM hc hlen qt bH;have ht:gJ ks ops.size bz=[]:=List.length_eq_zero_iff.1 (by omega);rw[ht]at qt;refine⟨?_,hQ a g (gK.rel qt bH)⟩;cases hr:Region.ready .any ops bz with
  | nil=>rfl
  | cons i r =>
   have hi:i∈Region.ready .any ops bz:=by rw[hr];simp
   obtain⟨h1,h2,_⟩:=qb.1 hi;have:(i,ks.getD i .write)∈gJ ks ops.size bz:=by
    simp only[gJ,List.mem_map,List.mem_filter,List.mem_range];exact⟨i,⟨h1,by rw[h2];rfl⟩,rfl⟩
   rw[ht]at this;cases this
 | succ fuel ih =>
  intro bz σ a g cM hc hlen qt bH;refine⟨fun hr=>?_,fun i hi=>?_⟩
  ·have ht:=Qd bz cM hr;rw[ht]at qt;exact hQ a g (gK.rel qt bH)
  obtain⟨h1,h2,o,ho,h3⟩:=qb.1 hi;obtain⟨l1,l2,e1,e2,e3⟩:=Ef ks cM h1 h2;rw[e1]at qt;have VS:=eJ.front qt (fun p hp=>by
   obtain⟨q1,q2,q3⟩:=e3 p hp;have:=MA i (List.mem_range.2 h1) p.1 (List.mem_range.2 q1);rcases this with this|this
   ·have:=ry hc _ _ _ o ho h3 this;rw[<-xu (by omega),q2]at this;cases this
   rw[q3];exact this)
  obtain⟨fN,⟨o',iT,bG⟩,fe⟩:=VS;rw[ho]at iT;simp only[Option.some.injEq]at iT;subst iT;rw[<-e2]at fe;have nV:(bz.setIfInBounds i true).size=ops.size:=by simpa using cM
  have oV:yz ops (bz.setIfInBounds i true):=by
   intro j oj Jj Jd e he hb;have ES:∀k,bz.getD k false=true->(bz.setIfInBounds i true).getD k false=true:=fun k hk=>getD_set_true hk;by_cases U0:j=i
   ·subst U0;rw[ho]at Jj;simp only[Option.some.injEq]at Jj;subst Jj;exact ES _ (h3 e he hb)
   rw[getD_set_ne false (fun e=>U0 e.symm)]at Jd;exact ES _ (hc j oj Jj Jd e he hb)
  have gP:(gJ ks ops.size (bz.setIfInBounds i true)).length<=fuel:=by
   rw[e1]at hlen;rw[e2];simp only[List.length_append,List.length_cons]at hlen ⊢;omega
  unfold wpOp;simp only[ho];rcases bG with⟨hw,r,m,AZ,hk,Jx⟩|⟨hw,_,Jx⟩
  ·rw[if_pos (fM bH hw)];refine .inl (AZ.2 base σ a g bH rfl (fun x _ y hy=>hy) (Mode.qA (.inr rfl)) _ _ fun u g' pz=>?_);subst Jx;exact ih _ _ _ _ nV oV gP fe pz
  rw[if_neg (by rw[fM bH hw];simp)];subst Jx;refine ih _ _ _ g nV oV gP fe ?_;cases jL:o.dst with
  | none=>exact bH
  | some d=>exact bH.skip d
theorem nq{P:Program}(hm:P.follows .mixedOrders=true){ops:Array Oper}{ks:List Kind}(hB:oh ops ks=true){id:Nat}{base:G}{σ ρ:St}{a:Act}{g:G}{Q:Exit->Act->World->Prop}
  (qt:eJ P ops ((List.range ops.size).map fun i=>(i,ks.getD i .write)) σ ρ) (bH:Rel base σ a g) (hQ:∀a g,Rel base ρ a g->Q .normal a g.w):(Code.region id ops true).wp P Q a g.w:=by
 refine wp_region_any hm ?_;have Pe:gJ ks ops.size (Array.replicate ops.size false)=(List.range ops.size).map fun i=>(i,ks.getD i .write):=by
  unfold gJ;congr 1;rw[List.filter_eq_self];intro i hi;rw[List.mem_range]at hi;simp[Array.getD_eq_getD_getElem?,hi]
 have lY:=bH.good.heap (w':={ g.w with drawn:=g.w.drawn+1 }) rfl rfl rfl rfl;have Wo:=Le.heap (g:=g) (w':={ g.w with drawn:=g.w.drawn+1 }) rfl rfl rfl rfl;have pz:=bH.step Wo lY;have ib:(⟨σ.n,σ.bn,g.objs⟩:St)=σ:=by rw[bH.objs]
 rw[ib]at pz;refine BZ hB hQ ops.size (Array.replicate ops.size false) σ a _ (by simp) ?_ ?_ (by rw[Pe];exact qt) pz
 ·intro i o ho hl;have a8:i<ops.size:=aX ho;simp[Array.getD_eq_getD_getElem?,a8]at hl
 rw[Pe];simp
theorem oF{P:Program}{ops:Array Oper}{base:G}{ρ:St}{Q:Exit->Act->World->Prop}(hQ:∀a g,Rel base ρ a g->Q .normal a g.w) :
  ∀(l:List (Nat×Kind)) (σ:St) (a:Act) (g:G),eJ P ops l σ ρ->Rel base σ a g->wpOps P ops Q (l.map (·.1)) a g.w
 | [],σ,a,g,qt,bH=>hQ a g (gK.rel qt bH)
 | (i,k)::r,σ,a,g,qt,bH=>by
  obtain⟨fN,⟨o,ho,bG⟩,fe⟩:=qt;simp only[List.map_cons,wpOps,ho];rcases bG with⟨hw,r',m,AZ,hk,Jx⟩|⟨hw,_,Jx⟩
  ·rw[if_pos (fM bH hw)];refine .inl (AZ.2 base σ a g bH rfl (fun x _ y hy=>hy) (Mode.qA (.inr rfl)) _ _ fun u g' pz=>?_);subst Jx;exact oF hQ r _ _ _ fe pz
  rw[if_neg (by rw[fM bH hw];simp)];subst Jx;refine oF hQ r _ _ g fe ?_;cases jL:o.dst with
  | none=>exact bH
  | some d=>exact bH.skip d
theorem lW{P:Program}{ops:Array Oper}{ks:List Kind}{id:Nat}{base:G}{σ ρ:St}{a:Act}{g:G}{Q:Exit->Act->World->Prop}
  (qt:eJ P ops ((List.range ops.size).map fun i=>(i,ks.getD i .write)) σ ρ) (bH:Rel base σ a g) (hQ:∀a g,Rel base ρ a g->Q .normal a g.w):(Code.region id ops false).wp P Q a g.w:=by
 refine wp_region ?_;have:=oF (Q:=Q) hQ _ σ a g qt bH;rw[List.map_map]at this;rw[show((List.range ops.size).map ((fun x:Nat×Kind=>x.1) ∘ fun i=>(i,ks.getD i .write)))=List.range ops.size by
  conv=>rhs;rw[<-List.map_id (List.range ops.size)]
  rfl]at this
 exact this
inductive dR where
 | norm
 | ret
 | exit (id:Nat)
def PA(base:G)(Q:dR->St->Prop):Exit->Act->World->Prop
 | .normal,a,w=>∃g σ,g.w=w∧Rel base σ a g∧Q .norm σ
 | .ret,a,w=>∃g σ,g.w=w∧Rel base σ a g∧Q .ret σ
 | .exit id,a,w=>∃g σ,g.w=w∧Rel base σ a g∧Q (.exit id) σ
 | _,_,_=>False
def cn(P:Program)(kb:Nat)(c:Code)(Q:dR->St->Prop)(σ:St):Prop :=
 ∀(base:G) (a:Act) (g:G),base.objs.length<=kb->Rel base σ a g->c.wp P (PA base Q) a g.w
theorem cn.mono{P:Program}{kb:Nat}{c:Code}{Q Q':dR->St->Prop}{σ:St}(h:cn P kb c Q σ)(hq:∀e σ,Q e σ->Q' e σ):cn P kb c Q' σ:=fun base a g hb hr =>
 wp_mono (h base a g hb hr) fun e a w hp=>by
  cases e with
  | normal=>obtain⟨g,σ,h1,h2,h3⟩:=hp;exact⟨g,σ,h1,h2,hq _ _ h3⟩
  | ret=>obtain⟨g,σ,h1,h2,h3⟩:=hp;exact⟨g,σ,h1,h2,hq _ _ h3⟩
  | exit id=>obtain⟨g,σ,h1,h2,h3⟩:=hp;exact⟨g,σ,h1,h2,hq _ _ h3⟩
  | goto l=>exact hp
  | panic c=>exact hp
  | outgrown=>exact hp
theorem cn.weaken{P:Program}{kb:Nat}{c:Code}{Q:dR->St->Prop}{σ τ:St}(h:cn P kb c Q τ)(hw:∀base a g,base.objs.length<=kb->Rel base σ a g->∃g',g'.w=g.w∧Rel base τ a g'):cn P kb c Q σ:=fun base a g hb hr=>by
 obtain⟨g',h1,h2⟩:=hw base a g hb hr;rw[<-h1];exact h base a g' hb h2
def bM(P:Program)(kb:Nat)(b:Code)(Q:dR->St->Prop):dR->St->Prop
 | .norm,σ=>cn P kb b Q σ
 | e,σ=>Q e σ
theorem aG{P:Program}{kb:Nat}{x y:Code}{Q:dR->St->Prop}{σ:St}(h:cn P kb x (bM P kb y Q) σ):cn P kb (.seq x y) Q σ:=fun base a g hb hr =>
 wp_seq (wp_mono (h base a g hb hr) fun e a w hp=>by
  cases e with
  | normal =>
   obtain⟨g,σ,h1,h2,h3⟩:=hp;subst h1;exact h3 base a g hb h2
  | ret=>exact hp
  | exit id=>exact hp
  | goto l=>exact hp
  | panic c=>exact hp
  | outgrown=>exact hp)
theorem ba{P:Program}{kb:Nat}{Q:dR->St->Prop}{σ:St}(h:Q .norm σ):cn P kb .skip Q σ:=fun base _ g _ hr=>wp_skip ⟨g,σ,rfl,hr,h⟩
theorem aq{P:Program}{kb:Nat}{Q:dR->St->Prop}{σ:St}(h:Q .ret σ):cn P kb .ret Q σ:=fun base _ g _ hr=>wp_ret ⟨g,σ,rfl,hr,h⟩
theorem aF{P:Program}{kb:Nat}{Q:dR->St->Prop}{σ:St}{id:Nat}(h:Q (.exit id) σ):cn P kb (.exit id) Q σ:=fun base _ g _ hr=>wp_exit ⟨g,σ,rfl,hr,h⟩
def bC(id:Nat)(Q:dR->St->Prop):dR->St->Prop
 | .exit ny,σ=>if ny=id then Q .norm σ else Q (.exit ny) σ
 | e,σ=>Q e σ
theorem ag{P:Program}{kb:Nat}{id:Nat}{c:Code}{Q:dR->St->Prop}{σ:St}(h:cn P kb c (bC id Q) σ):cn P kb (.block id c) Q σ:=fun base a g hb hr =>
 wp_block (wp_mono (h base a g hb hr) fun e a w hp=>by
  cases e with
  | normal=>exact hp
  | ret=>exact hp
  | exit ny =>
   obtain⟨g,σ,h1,h2,h3⟩:=hp;simp only[bC]at h3;simp only[Exit.inBlock];split
   ·rename_i e;rw[if_pos e]at h3;exact⟨g,σ,h1,h2,h3⟩
   rename_i e;rw[if_neg e]at h3;exact⟨g,σ,h1,h2,h3⟩
  | goto l=>exact hp
  | panic c=>exact hp
  | outgrown=>exact hp)
theorem nI{P:Program}{kb:Nat}{c:Operand}{x y:Code}{Q:dR->St->Prop}{σ:St}{b:Bool}(hc:σ.ev c=some (.v (.bool b)))(ht:b=true->cn P kb x Q σ)(hf:b=false->cn P kb y Q σ):cn P kb (.cond c x y) Q σ:=fun base a g hb hr=>by
 have oV:=(hr.eval hc).bX.1;cases b
 ·exact wp_cond_false oV (hf rfl base a g hb hr)
 exact wp_cond_true oV (ht rfl base a g hb hr)
def Sub(O:List ai)(x y:ae):Prop:=∀(g:G) (u:Value),g.objs=O->RV g x u->RV g y u
theorem Sub.refl{O:List ai}(x:ae):Sub O x x:=fun _ _ _ h=>h
theorem Sub.of_eq{O:List ai}{x y:ae}(h:x=y):Sub O x y:=h ▸ Sub.refl x
theorem Sub.nil{O:List ai}{sz:Nat}{xs:List ae}{o:nH}(h:xs=[])(ho:∀id,o≠.tok id)(hn:o≠.nn):Sub O (.v (.slice none 0 0)) (.aB sz xs o):=fun g u _ k=>by
 have:=k.bX.1;subst this;subst h;exact .nil (fun id e=>absurd e (ho id)) hn
def iv(σ:St):List (Nat×ae)->Prop
 | []=>True
 | (s,y)::r=>(∃x,σ.get s=some x∧Sub σ.objs x y)∧iv σ r
theorem sq{σ:St}{base:G}{a:Act}{g:G}(hr:Rel base σ a g):∀{l:List (Nat×ae)},iv σ l->∀s y,look l s=some y->∃u,a.tmps[s]?=some u∧RV g y u
 | [],_,s,y,h=>by cases h
 | (k,z)::l,h,s,y,hl=>by
  obtain⟨⟨x,h1,h2⟩,h3⟩:=h;simp only[look]at hl;split at hl
  ·rename_i e;subst e;simp only[Option.some.injEq]at hl;subst hl;obtain⟨u,h4,h5⟩:=hr.slot k x h1;exact⟨u,h4,h2 g u hr.objs h5⟩
  exact sq hr h3 s y hl
structure bj(σ τ:St):Prop where
 n:σ.n=τ.n
 objs:σ.objs=τ.objs
 Xm:iv σ τ.bn
theorem bj.rel{σ τ:St}(h:bj σ τ){base:G}{a:Act}{g:G}(hr:Rel base σ a g):Rel base τ a g where
 le:=hr.le
 good:=hr.good
 objs:=hr.objs.trans h.objs
 size:=hr.size.trans h.n
 defers:=hr.defers
 slot:=fun s y hy=>sq hr h.Xm s y hy
theorem cn.cover{P:Program}{kb:Nat}{c:Code}{Q:dR->St->Prop}{σ τ:St}(h:cn P kb c Q τ)(hc:bj σ τ):cn P kb c Q σ:=fun base a g hb hr=>h base a g hb (hc.rel hr)
def fP{ι:Type}(L:ι->St)(μ:ι->Nat)(i:ι)(Q:dR->St->Prop):dR->St->Prop
 | .norm,σ=>∃j,μ j<μ i∧bj σ (L j)
 | e,σ=>Q e σ
theorem aM{P:Program}{kb:Nat}{c:Code}{Q:dR->St->Prop}{σ:St}{ι:Type}(L:ι->St)(μ:ι->Nat)(i0:ι)(h0:bj σ (L i0))(round:∀i,cn P kb c (fP L μ i Q) (L i)):cn P kb (.loop c) Q σ:=by
 intro base a g hb hr b k cs;have key:∀n i a g,μ i=n->Rel base (L i) a g->∃e a' w',PA base Q e a' w'∧Arrives P (lone (b.at a (.code c::.inLoop c::k)) cs g.w) b k cs e a' w':=by
  intro n;induction n using Nat.strongRecOn with
  | _ n ih =>
   intro i a g hn hr;obtain⟨e,PD,UH,hq,gi⟩:=round i base a g hb hr b (.inLoop c::k) cs;cases e with
   | normal =>
    obtain⟨IT,FH,h1,h2,j,h3,h4⟩:=hq;subst h1;obtain⟨Vn,Vk,Xr,T6,Mm⟩:=ih (μ j) (hn ▸ h3) j PD IT rfl (h4.rel h2);exact⟨Vn,Vk,Xr,T6,.of_steps (Steps.trans gi (.one step_inLoop)) Mm⟩
   | exit id =>
    obtain⟨IT,FH,h1,h2,h3⟩:=hq;exact⟨.exit id,PD,UH,⟨IT,FH,h1,h2,h3⟩,.pass (x:=.inLoop c) rfl (fun _ _=>.inl (by simp)) gi⟩
   | goto l=>exact hq.elim
   | ret =>
    obtain⟨IT,FH,h1,h2,h3⟩:=hq;exact⟨.ret,PD,UH,⟨IT,FH,h1,h2,h3⟩,.pass (x:=.inLoop c) rfl (fun _ _=>.inl (by simp)) gi⟩
   | panic ch=>exact hq.elim
   | outgrown=>exact hq.elim
 obtain⟨e,a',w',hq,gi⟩:=key _ i0 a g rfl (h0.rel hr);exact⟨e,a',w',hq,.of_steps (.one step_loop) gi⟩
theorem Ev{P:Program}{kb:Nat}{c:Code}{Q:dR->St->Prop}{n:Nat}{bn:List (Nat×ae)}{O:List ai}(s:Nat){sz:Nat}{xs:List ae}(hs:look bn s=some (.aB sz xs .ex))
  (h:cn P kb c Q ⟨n,bt s (.aB sz xs (.tok O.length)) bn,O++[.spare xs.length]⟩):cn P kb c Q ⟨n,bn,O⟩ :=
 h.weaken fun base a g hb hr=>by
  have hO:g.objs=O:=hr.objs;refine⟨g.mark (.spare xs.length),rfl,?_⟩;have hle:=Le.mark hr.good (.spare xs.length);refine { le:=hr.le.trans hle,good:=Good.mark hr.good _,objs:=by simp[G.mark,hO],size:=hr.size,defers:=hr.defers,slot:=fun k x hx=>?_ };simp only[St.get,fT]at hx;split at hx
  ·rename_i e;subst e;simp only[Option.some.injEq]at hx;subst hx;obtain⟨u,h1,h2⟩:=hr.slot s _ hs;refine⟨u,h1,?_⟩;have h3:=h2.mono hle;cases h3 with
   | nil=>exact .nil (fun id e=>by simp only[nH.tok.injEq]at e;subst e;simp[G.mark,hO]) (by simp)
   | aB cM dk cL cv hs f hm hr ho =>
    refine .aB cM dk cL cv hs f hm hr ⟨by simp[G.mark,hO],fun m fa=>?_⟩;have:(g.mark (.spare xs.length)).objs[O.length]?=some (.spare xs.length):=by
     rw[<-hO];exact eS
    rw[this]at fa;simp only[Option.some.injEq,ai.spare.injEq]at fa;exact⟨by omega,fun _=>.inl ho⟩
  obtain⟨u,h1,h2⟩:=hr.slot k x hx;exact⟨u,h1,h2.mono hle⟩
theorem rQ{P:Program}{kb:Nat}{c:Code}{Q:dR->St->Prop}{n:Nat}{bn:List (Nat×ae)}{O:List ai}(k:Nat)(hk:k<=O.length)(Gm:kb<=k)(cz:List (Nat×ae))(hb:∀o∈O.take k,o.upto k)(hs:iv ⟨n,bn,O⟩ cz)
  (iY:∀s x,look cz s=some x->x.upto k) (h:cn P kb c Q ⟨n,cz,O.take k⟩):cn P kb c Q ⟨n,bn,O⟩:=by
 intro base a g SZ hr;have hO:g.objs=O:=hr.objs;have z8:Rel base ⟨n,cz,O.take k⟩ a (g.cr k):={
  le:=hr.le.cr (by omega)
  good:=hr.good.cr (by rw[hO];exact hk) (by rw[hO];exact hb)
  objs:=by simp only[G.cr,hO]
  size:=hr.size
  defers:=hr.defers
  slot:=fun s x hx=>by
   obtain⟨u,h1,h2⟩:=sq hr hs s x hx;exact⟨u,h1,h2.cr (by rw[hO];exact hk) (iY s x hx)⟩ }
 exact h base a (g.cr k) SZ z8
theorem yb{P:Program}{o:Oper}{x:Operand}{args:Array Operand}{rL:Array TypeId}(ho:o.op=.call ⟨.value x,args,rL⟩){a:Act}{w:World}{f:FuncId}{us vs:Array Value}(hx:a.eval x=.func (.func f) us vs)(hf:Enters P f) :
  (execOp a.eval o).run P w=.ok (.enter f (us++args.map a.eval++vs)) w:=by
 obtain⟨fn,h1,h2,h3⟩:=hf;simp only[execOp,ho,resolve,hx,Deferred.ofValue,Sem.run_bind,Sem.run_pure,Result.andThen_ok,invoke,callFunc,run_program,h1,h2,h3];rfl
theorem iW.mE{g:G}{cs ds:List ae}{us vs:Array Value}(h:iW g cs us)(k:iW g ds vs):iW g (cs++ds) (us++vs):=by
 have:=iW.append (us:=us.toList) (vs:=vs.toList) (by simpa using h) (by simpa using k);have e:(us.toList++vs.toList).toArray=us++vs:=Array.ext' (by simp);rw[<-e];exact this
theorem rU{P:Program}{o:Oper}{σ:St}{x:Operand}{args:Array Operand}{rL:Array TypeId}{f:FuncId}{fs cs dE:List ae}{r:ae}(m:Mode)
  (ho:o.op=.call ⟨.value x,args,rL⟩) (hd:∀d,o.dst=some d->d<σ.n) (hx:σ.ev x=some (.fn (.func f) fs cs)) (ha:σ.AM args.toList=some dE) {args':List ae} (fc:∀g u,iW g (fs++dE++cs) u->iW g args' u)
  (eC:∀O,(m=.pure∨O=σ.objs)->bh P f O args' fun r' O'=>r'=r∧O'=m.post O) (Gg:Enters P f) (hp:m.plain:=by trivial):Cert P o σ r m:=by
 refine⟨by cases m<;>first|trivial|exact hp.elim,?_⟩;intro base τ a g bH hn nh hm K Q hK;have xG:σ.ev x=some (.fn (.func f) fs cs):=hx;have h1:=bH.eval (nh x (by simp[ho,Op.operands,Call.operands]) _ hx);obtain⟨us,vs,e1,l1,l2,r1,r2⟩:=h1.IQ;have h2:=qS (σ:=σ) (a:=a) (g:=g) (xs:=args.toList) (fun z hz y hy=>bH.eval (nh z (by
  rw[ho];simp only[Op.operands,Call.operands,Array.mem_append];exact .inr (Array.mem_toList_iff.1 hz)) y hy)) ha
 have IU:iW g dE (args.map a.eval):=by
  have e:args.map a.eval=(args.toList.map a.eval).toArray:=Array.ext' (by rw[Array.toList_map]);rw[e];exact h2
 have cB:=fc g _ ((iW.mE (iW.mE ⟨l1,r1⟩ IU) ⟨l2,r2⟩));have bI:=yb (P:=P) (w:=g.w) ho e1 Gg;unfold Oper.wp;rw[bI,Oper.upon_enter];refine((eC g.objs (by
  rcases m.By hp hm with hm|hm
  ·exact .inl hm
  exact .inr (bH.objs.trans hm))).2 g _ bH.good rfl cB).mono ?_
 rintro e w' ⟨g',v,r',q1,q2,q3,q4,q5,q6,q7⟩;subst q1;subst q2;subst q6;refine hK v g' ?_;have e:g'.objs=m.post τ.objs:=by rw[q7,bH.objs]
 cases jL:o.dst with
 | none =>
  have:=bH.step q3 q4;rw[e]at this;exact this
 | some d =>
  have:=bH.put q3 q4 (d:=d) (by rw[hn];exact hd d jL) q5;rw[e]at this;exact this
theorem iW.share{g:G}{cs:List ae}{u:Array Value}(h:iW g cs u):iW g (cs.map ae.share) u :=
 ⟨by simpa using h.1,fun j c v a b=>by
  rw[List.getElem?_map,Option.map_eq_some_iff]at a;obtain⟨c',h1,h2⟩:=a;subst h2;exact(h.2 j c' v h1 b).share⟩
theorem CF{P:Program}{o:Oper}{σ:St}{x:Operand}{args:Array Operand}{rL:Array TypeId}{f:FuncId}{fs cs dE:List ae}{r:ae}
  (ho:o.op=.call ⟨.value x,args,rL⟩) (hd:∀d,o.dst=some d->d<σ.n) (hx:σ.ev x=some (.fn (.func f) fs cs)) (ha:σ.AM args.toList=some dE)
  (eC:bq P f ((fs++dE++cs).map ae.share) r) (br:av 0 ((fs++dE++cs).map ae.share)):Cert P o σ r .pure :=
 rU .pure ho hd hx ha (args':=(fs++dE++cs).map ae.share) (fun _ _ h=>h.share) (fun O _=>eC.use br O) eC.1
theorem uA{P:Program}{o:Oper}{σ:St}{x:Operand}{args:Array Operand}{rL:Array TypeId}{f:FuncId}{fs cs dE:List ae}{r:ae}{O':List ai}
  (ho:o.op=.call ⟨.value x,args,rL⟩) (hd:∀d,o.dst=some d->d<σ.n) (hx:σ.ev x=some (.fn (.func f) fs cs)) (ha:σ.AM args.toList=some dE)
  (eC:bh P f σ.objs (fs++dE++cs) fun r' O1=>r'=r∧O1=O'):Cert P o σ r (.write O') :=
 rU (.write O') ho hd hx ha (args':=fs++dE++cs) (fun _ _ h=>h) (fun O hO=>by
  have:O=σ.objs:=hO.resolve_left (by simp);subst this;exact eC) eC.1
theorem CG{P:Program}{o:Oper}{σ:St}{x:Operand}{args:Array Operand}{rL:Array TypeId}{f:FuncId}{fs cs dE:List ae}{r:ae}
  (ho:o.op=.call ⟨.value x,args,rL⟩) (hd:∀d,o.dst=some d->d<σ.n) (hx:σ.ev x=some (.fn (.func f) fs cs)) (ha:σ.AM args.toList=some dE)
  (eC:bh P f σ.objs (fs++dE++cs) fun r' O1=>r'=r∧O1=σ.objs):Cert P o σ r .read :=
 rU .read ho hd hx ha (args':=fs++dE++cs) (fun _ _ h=>h) (fun O hO=>by
  have:O=σ.objs:=hO.resolve_left (by simp);subst this;exact eC) eC.1
theorem ql{g:G}{id:Nat}{o:ai}{l':Option Loc}(ho:g.objs[id]?=some o)(he:g.env[id]?=some l')(hp:¬o.aD)(hl:o.live):lb g id o l' .gone g.w where
 obj:=ho
 os:=rfl
 tape:=rfl
 output:=rfl
 size:=Nat.le_refl _
 block:=fun _ _ _=>rfl
 cell:=fun b off x hx _=>hx
 place:=fun _ _ h=>h.elim
 spare:=fun m h=>by subst h;exact absurd trivial hp
 plain:=fun _=>⟨by simp[ai.aD],he⟩
 gone:=fun h=>by subst h;exact hl
def G.freeze(g:G)(id:Nat)(l':Option Loc):G:=g.bw id l' .gone g.w
def bY(O:List ai)(id:Nat)(x y:ae):Prop :=
 ∀(g:G) (u:Value) (l':Option Loc),Good g->g.objs=O->g.env[id]?=some l'->Le g (g.freeze id l')->RV g x u->RV (g.freeze id l') y u
theorem bY.refl{O:List ai}{id:Nat}(x:ae):bY O id x x:=fun _ _ _ _ _ _ hle h=>h.mono hle
theorem mM{g:G}(hg:Good g){id:Nat}{l:Loc}{o:ai}(he:g.env[id]?=some (some l))(ho:g.objs[id]?=some o)(hl:o.live)(off:Nat):¬j5 (g.freeze id (some l)) l.block off:=by
 have a8:=I ho;rintro(hf|⟨ny,l',o',h1,h2,h3,h4,_⟩)
 ·exact hg.frown id l o he ho hl off hf
 simp only[G.freeze,G.bw]at h1 h2;by_cases e:ny=id
 ·subst e;rw[List.getElem?_set_self (by omega)]at h2;simp only[Option.some.injEq]at h2;subst h2;exact h3
 rw[List.getElem?_set_ne (Ne.symm e)]at h1 h2;exact e (hg.apart ny id l' l o' o h1 h2 h3 he ho hl h4)
theorem bY.mp{O:List ai}{id off:Nat}{cs ds:List ae}(gC:O[id]?=some (.cells cs))(hd:(cs.drop off).map ae.bf=ds):bY O id (.mp id off) (.ip none ds):=fun g u l' hg hO he hle h=>by
 obtain⟨l,o1,h1,h2,_,eu⟩:=h.mU;subst eu;rw[he]at h1;simp only[Option.some.injEq]at h1;subst h1;have fZ:g.objs[id]?=some (.cells cs):=by rw[hO];exact gC
 obtain⟨arr,t',iJ,dq,hlen,fw,nt,_⟩:=hg.row fZ he;subst hd;refine .ip (.inl rfl) (fun c hc=>by
  obtain⟨c',h1,h2⟩:=List.mem_map.1 hc;subst h2;exact ae.ec (nt c' (List.mem_of_mem_drop h1))) (fun j=>arr.getD (off+j) undef) (fun j c hj=>?_) (fun j c hj=>?_)
 ·rw[List.getElem?_map,Option.map_eq_some_iff]at hj;obtain⟨c',hj,_⟩:=hj;rw[List.getElem?_drop]at hj;have a8:=I hj;refine⟨?_,mM hg he fZ trivial _⟩;show g.w.cell? _=_;rw[cell_of_row dq];simp[Array.getD_eq_getD_getElem?,show off+j<arr.size by omega]
 rw[List.getElem?_map,Option.map_eq_some_iff]at hj;obtain⟨c',hj,e⟩:=hj;subst e;rw[List.getElem?_drop]at hj;have a8:=I hj;exact((fw _ c' _ hj (by simp[Array.getD_eq_getD_getElem?,show off+j<arr.size by omega])).mono hle).bf
theorem bY.ms{O:List ai}{id off len cap sz:Nat}{cs xs:List ae}(gC:O[id]?=some (.cells cs))(cM:∀x∈xs,x.cells.length=sz)(hlen:xs.length=len)(hd:((cs.drop off).take (len*sz)).map ae.bf=al xs):bY O id (.ms id off len cap) (.aB sz xs .sh):=fun g u l' hg hO he hle h=>by
 obtain⟨l,o1,h1,h2,_,Jb,cv,gx,cL,eu⟩:=h.oe;subst eu;rw[he]at h1;simp only[Option.some.injEq]at h1;subst h1;have fZ:g.objs[id]?=some (.cells cs):=by rw[hO];exact gC
 obtain⟨arr,t',iJ,dq,lN,fw,nt,_⟩:=hg.row fZ he;subst hlen;have key:∀(j:Nat) (c:ae),(al xs)[j]?=some c->∃c',cs[off+j]?=some c'∧c'.bf=c:=fun j c hj=>by
  rw[<-hd,List.getElem?_map,Option.map_eq_some_iff]at hj;obtain⟨c',hj,e⟩:=hj;have:=my hj;rw[List.getElem?_drop]at this;exact⟨c',this,e⟩
 refine .aB cM (fun x hx c hc=>?_) (Nat.le_trans Jb cL) cv (fun _=>rfl) (fun j=>arr.getD (off+j) undef) (fun j c hj=>?_) (fun j c hj=>?_) trivial
 ·have iw:c∈al xs:=by
   simp only[al,List.mem_flatMap];exact⟨x,hx,hc⟩
  obtain⟨j,hj⟩:=List.getElem?_of_mem iw;obtain⟨c',gV,e⟩:=key j c hj;subst e;exact ae.ec (nt c' (List.mem_of_getElem? gV))
 ·obtain⟨c',gV,e⟩:=key j c hj;have a8:=I gV;refine⟨?_,mM hg he fZ trivial _⟩;show g.w.cell? _=_;simp only;rw[cell_of_row dq];simp[Array.getD_eq_getD_getElem?,show off+j<arr.size by omega]
 obtain⟨c',gV,e⟩:=key j c hj;have a8:=I gV;subst e;exact((fw _ c' _ gV (by simp[Array.getD_eq_getD_getElem?,show off+j<arr.size by omega])).mono hle).bf
theorem bY.mm{O:List ai}{id:Nat}{kt:KT}{es:List (Value×ae)}(gC:O[id]?=some (.map kt es)):bY O id (.mm id) (.im kt es):=fun g u l' hg hO he hle h=>by
 obtain⟨l,o1,h1,h2,_,eu⟩:=h.DH;subst eu;rw[he]at h1;simp only[Option.some.injEq]at h1;subst h1;have fZ:g.objs[id]?=some (.map kt es):=by rw[hO];exact gC
 obtain⟨l2,arr,clk,e1,e2,e3,e4,e5,e6⟩:=hg.map id kt es fZ;rw[he]at e1;simp only[Option.some.injEq]at e1;subst e1;exact .im (r:=l.block) (clk:=clk) (arr:=arr) e3 (fun off=>mM hg he fZ trivial off) e4 (fun i e kx a b=>(e6 i e kx a b).1) e5 (fun i e kx a b=>(e6 i e kx a b).2.2.mono hle)
theorem Cq{P:Program}{kb:Nat}{c:Code}{Q:dR->St->Prop}{n:Nat}{bn:List (Nat×ae)}{O:List ai}(id:Nat){o:ai}(gC:O[id]?=some o)(hp:¬o.aD)(lv:o.live)(cz:List (Nat×ae))
  (hs:∀s y,look cz s=some y->∃x,look bn s=some x∧bY O id x y) (h:cn P kb c Q ⟨n,cz,O.set id .gone⟩):cn P kb c Q ⟨n,bn,O⟩ :=
 h.weaken fun base a g hb hr=>by
  have hO:g.objs=O:=hr.objs;have fZ:g.objs[id]?=some o:=by rw[hO];exact gC
  have a8:=iF hr.good fZ;have he:g.env[id]?=some g.env[id]:=List.getElem?_eq_getElem a8;have ht:=ql fZ he hp lv;have hle:=Le.bw hr.good ht;refine⟨g.freeze id g.env[id],rfl,{ le:=hr.le.trans hle,good:=Good.bw hr.good ht trivial (fun _ _ h=>h.elim),objs:=by simp[G.freeze,G.bw,hO],size:=hr.size,defers:=hr.defers,slot:=fun s y hy=>?_ }⟩;obtain⟨x,h1,h2⟩:=hs s y hy;obtain⟨u,h3,h4⟩:=hr.slot s x h1;exact⟨u,h3,h2 g u _ hr.good hO he hle h4⟩
theorem aC{P:Program}{kb:Nat}{c:Code}{Q:dR->St->Prop}{n:Nat}{bn:List (Nat×ae)}{O:List ai}(s id:Nat){o:ai}{x:ae}(y:ae)(gC:O[id]?=some o)(hp:¬o.aD)(lv:o.live)(hx:look bn s=some x)(hf:bY O id x y)
  (h:cn P kb c Q ⟨n,bt s y bn,O.set id .gone⟩):cn P kb c Q ⟨n,bn,O⟩ :=
 Cq id gC hp lv (bt s y bn) (fun k z hz=>by
  rw[fT]at hz;split at hz
  ·rename_i e;subst e;simp only[Option.some.injEq]at hz;subst hz;exact⟨x,hx,hf⟩
  exact⟨z,hz,.refl z⟩) h
theorem lG{P:Program}{kb:Nat}{c:Code}{Q:dR->St->Prop}{n:Nat}{bn:List (Nat×ae)}{O:List ai}(id:Nat){o:ai}(gC:O[id]?=some o)(hp:¬o.aD)(lv:o.live)(cz:List (Nat×ae))
  (hs:∀s y,look cz s=some y->∃x,look bn s=some x∧bY O id x y) (k:Nat) (hk:k≠id) (cs ds:List ae) (ka:O[k]?=some (.cells cs)) (hl:cs.length=ds.length) (dk:∀d∈ds,d.scalar)
  (fw:∀(j:Nat) (c d:ae),cs[j]?=some c->ds[j]?=some d->bY O id c d) (h:cn P kb c Q ⟨n,cz,(O.set id .gone).set k (.cells ds)⟩):cn P kb c Q ⟨n,bn,O⟩ :=
 h.weaken fun base a g hb hr=>by
  have hO:g.objs=O:=hr.objs;have fZ:g.objs[id]?=some o:=by rw[hO];exact gC
  have a8:=iF hr.good fZ;have he:g.env[id]?=some g.env[id]:=List.getElem?_eq_getElem a8;have ht:=ql fZ he hp lv;have hle:=Le.bw hr.good ht;have dg:=Good.bw hr.good ht trivial (fun _ _ h=>h.elim);obtain⟨l,arr,t,e1,e2,e3,e4,e5,e6⟩:=hr.good.cells k cs (by rw[hO];exact ka);have MG:(g.freeze id g.env[id]).objs[k]?=some (.cells cs):=by
   simp only[G.freeze,G.bw];rw[List.getElem?_set_ne (Ne.symm hk),hO];exact ka
  have Th:(g.freeze id g.env[id]).env[k]?=some (some l):=by
   simp only[G.freeze,G.bw];rw[List.getElem?_set_ne (Ne.symm hk)];exact e1
  have Uj:lb (g.freeze id g.env[id]) k (.cells cs) (some l) (.cells ds) g.w:={
   obj:=MG
   os:=rfl
   tape:=rfl
   output:=rfl
   size:=Nat.le_refl _
   block:=fun _ _ _=>rfl
   cell:=fun b off x hx _=>hx
   place:=fun l1 h1 _=>by
    simp only[Option.some.injEq]at h1;subst h1;exact .inr ⟨l,Th,trivial,rfl,Nat.le_refl _⟩
   spare:=fun m h=>by cases h
   plain:=fun _=>⟨by simp[ai.aD],Th⟩
   gone:=by simp }
  have A5:=Le.bw dg Uj;have Dg:=Good.bw dg Uj ⟨l,arr,t,rfl,e2,e3,by omega,fun j d u hd hu=>by
   have a8:=I hd;have hc:cs[j]?=some cs[j]:=List.getElem?_eq_getElem (by omega);exact(fw j _ d hc hd g u _ hr.good hO he hle (e5 j _ u hc hu)).mono A5,dk,e6.2⟩ (fun l1 h1 _=>by
    simp only[Option.some.injEq]at h1;subst h1;exact aX e3)
  refine⟨(g.freeze id g.env[id]).bw k (some l) (.cells ds) g.w,rfl,{ le:=(hr.le.trans hle).trans A5,good:=Dg,objs:=by simp[G.freeze,G.bw,hO],size:=hr.size,defers:=hr.defers,slot:=fun s y hy=>?_ }⟩;obtain⟨x,h1,h2⟩:=hs s y hy;obtain⟨u,h3,h4⟩:=hr.slot s x h1;exact⟨u,h3,(h2 g u _ hr.good hO he hle h4).mono A5⟩
theorem m5{P:Program}(w:World){t e:TypeId}(a:Addr)(n c:Nat)(ht:P.underlying t=some (.slice e)) :
  (binOp .neq t (.slice (some a) n c) (.slice none 0 0)).run P w=.ok (.bool true) w:=by
 have h:∀d:Nat,(Op.equalIn (d+1) t (.slice (some a) n c) (.slice none 0 0)).run P w=.ok false w:=fun d=>by
  simp[Op.equalIn,run_underlying ht]
 simp only[binOp];simp[Op.equal,Op.maxDepth,h 9999]
theorem nA{P:Program}(w:World){t e:TypeId}(n c:Nat)(ht:P.underlying t=some (.slice e)) :
  (binOp .neq t (.slice none n c) (.slice none 0 0)).run P w=.ok (.bool false) w:=by
 have h:∀d:Nat,(Op.equalIn (d+1) t (.slice none n c) (.slice none 0 0)).run P w=.ok true w:=fun d=>by
  simp[Op.equalIn,run_underlying ht]
 simp only[binOp];simp[Op.equal,Op.maxDepth,h 9999]
theorem zy{P:Program}(w:World){op:BinOp}{t e:TypeId}{u:Value}{b r:Bool}(ht:P.underlying t=some (.slice e))(hu:(∃n c,u=.slice none n c∧b=true)∨(∃a n c,u=.slice (some a) n c∧b=false))
  (hr:(op=.eql∧r=b)∨(op=.neq∧r=!b)):(binOp op t u (.slice none 0 0)).run P w=.ok (.bool r) w:=by
 rcases hu with⟨n,c,e1,e2⟩|⟨a,n,c,e1,e2⟩<;>rcases hr with⟨e3,e4⟩|⟨e3,e4⟩<;>subst e1<;>subst e2<;>subst e3<;>subst e4
 ·exact Go.Lib.run_eql_slice_nil_nil w n c ht
 ·exact nA w n c ht
 ·exact Go.Lib.run_eql_slice_some_nil w a n c ht
 exact m5 w a n c ht
theorem Ax{P:Program}{aT:eh}(hT:b7 P aT){o:Oper}{σ:St}{t t' e:TypeId}{x:Operand}{ti:cc}{y:ae}{b r:Bool}{op:BinOp}
  (ho:o.op=.binOp op t x (.const (.slice none 0 0)) t') (hd:∀d,o.dst=some d->d<σ.n) (ht:aT t=some ti) (aR:ti.desc=.slice e) (hx:σ.ev x=some y)
  (hy:(y=.v (.slice none 0 0)∧b=true)∨(∃sz xs,y=.aB sz xs .nn∧b=false)∨(∃id off len cap,y=.ms id off len cap∧b=false)) (hr:(op=.eql∧r=b)∨(op=.neq∧r=!b)):Cert P o σ (.v (.bool r)) .pure :=
 Cert.bN .pure (.inl rfl) hd fun a g _ h _=>by
  have hu:=bR hT ht aR;have gW:=h x (by simp[ho,Op.operands]) _ hx;refine⟨.bool r,?_,.v trivial⟩;have iY:(∃n c,a.eval x=.slice none n c∧b=true)∨(∃ad n c,a.eval x=.slice (some ad) n c∧b=false):=by
   rcases hy with⟨e1,e2⟩|⟨sz,xs,e1,e2⟩|⟨id,off,len,cap,e1,e2⟩
   ·subst e1;exact .inl ⟨_,_,gW.bX.1,e2⟩
   ·subst e1;cases hv:a.eval x with
    | slice ad len cap =>
     rw[hv]at gW;cases gW with
     | nil ho hn=>exact absurd rfl hn
     | aB cM dk cL cv hs f hm hr ho=>exact .inr ⟨_,_,_,rfl,e2⟩
    | _=>rw[hv]at gW;cases gW
   subst e1;obtain⟨l,o1,_,_,_,_,_,gx,_,eu⟩:=gW.oe;exact .inr ⟨_,_,_,eu,e2⟩
  have bI:=zy (P:=P) g.w hu iY hr;have MJ:∃ad n c,a.eval x=.slice ad n c:=by
   rcases iY with⟨_,_,e,_⟩|⟨_,_,_,e,_⟩
   ·exact⟨_,_,_,e⟩
   exact⟨_,_,_,e⟩
  obtain⟨ad,n,c,MJ⟩:=MJ;have hg:=cJ (P:=P) op t x (.const (.slice none 0 0)) (.slice ad n c) (.slice none 0 0) g.w (by simp) (by simp);rw[MJ]at bI;have hc:a.eval (.const (.slice none 0 0))=.slice none 0 0:=rfl;simp[execOp,ho,MJ,hc,hg,bI]
theorem CE{P:Program}{aT:eh}(hT:b7 P aT){o:Oper}{σ:St}{t e:TypeId}{x:Operand}{ti:cc}{sz:Nat}{xs:List ae}
  (ho:o.op=.call ⟨.builtin .cap,#[x],#[t]⟩) (hd:∀d,o.dst=some d->d<σ.n) (ht:aT t=some ti) (aR:ti.desc=.slice e) (hx:σ.ev x=some (.aB sz xs .ex)):Cert P o σ (.v (.int .i64 xs.length)) .pure :=
 Cert.bN .pure (.inl rfl) hd fun a g _ h _=>by
  have hu:=bR hT ht aR;have gW:=h x (by simp[ho,Op.operands,Call.operands]) _ hx;have cv:=gW.Fa;have key:∃ad,a.eval x=.slice ad xs.length xs.length:=by
   rcases gW.eQ with⟨q1,q2⟩|⟨ad,cap,_,q1,_,_,_,_,_,_,_,q2⟩
   ·subst q2;exact⟨_,q1⟩
   have q3:cap=xs.length:=q2;subst q3;exact⟨_,q1⟩
  obtain⟨ad,q1⟩:=key;refine⟨.int .i64 xs.length,?_,.v ?_⟩
  ·rw[cI ho];simp[builtin,Builtin.cap_,q1,run_underlying hu,goInt]
  simp[j8,IntKind.min,IntKind.max,IntKind.bits,IntKind.signed];omega
theorem py{P:Program}{o:Oper}{σ:St}{x:Operand}{y:ae}(ho:o.op=.nilCheck x)(hd:∀d,o.dst=some d->d<σ.n)(hx:σ.ev x=some y)
  (hy:(∃id off,y=.mp id off)∨∃oa cs,y=.ip oa cs):Cert P o σ y .pure :=
 Cert.bN .pure (.inl rfl) hd fun a g _ h _=>by
  have gW:=h x (by simp[ho,Op.operands]) _ hx;have key:∃ad,a.eval x=.pointer (some ad):=by
   rcases hy with⟨id,off,e⟩|⟨oa,cs,e⟩
   ·subst e;obtain⟨l,o1,_,_,_,eu⟩:=gW.mU;exact⟨_,eu⟩
   subst e;obtain⟨b,off,f,eu,_⟩:=gW.nZ;exact⟨_,eu⟩
  obtain⟨ad,e⟩:=key;exact⟨a.eval x,by simp[execOp,ho,e],gW⟩
theorem tt{P:Program}{aT:eh}(hT:b7 P aT){o:Oper}{σ:St}{t e:TypeId}{x:Operand}{ti te:cc}{sz:Nat}{xs:List ae}{ow:nH}{lo hi:Option Operand}
  (ho:o.op=.slice t x lo hi none) (hd:∀d,o.dst=some d->d<σ.n) (ht:aT t=some ti) (aR:ti.desc=.slice e) (he:aT e=some te) (hx:σ.ev x=some (.aB sz xs ow))
  (iJ:nK σ lo 0 0) (po:nK σ hi xs.length xs.length):Cert P o σ (.aB sz xs ow) .pure :=
 Cert.bN .pure (.inl rfl) hd fun a g _ hh _=>by
  have hu:=bR hT ht aR;have gW:=hh x (by cases lo<;>cases hi<;>simp[ho,Op.operands]) _ hx;have hl:(lo=none)∨∃q k,lo=some q∧a.eval q=.int k (0:Int):=by
   rcases iJ with q|⟨q,k,e1,e2⟩
   ·exact .inl q.1
   exact .inr ⟨q,k,e1,(hh q (by subst e1;cases hi<;>simp[ho,Op.operands]) _ e2).bX.1⟩
  have ia:(hi=none)∨∃q k,hi=some q∧a.eval q=.int k (xs.length:Int):=by
   rcases po with q|⟨q,k,e1,e2⟩
   ·exact .inl q.1
   exact .inr ⟨q,k,e1,(hh q (by subst e1;cases lo<;>simp[ho,Op.operands]) _ e2).bX.1⟩
  have cZ:execOp a.eval o=(do pure (.value (<-Instr.sliceAt t (a.eval x) (lo.map a.eval) (hi.map a.eval) none))):=by
   simp[execOp,ho]
  clear iJ po ho;have bounds:∀cap:Nat,xs.length<=cap->(Instr.sliceBounds true xs.length cap (lo.map a.eval) (hi.map a.eval) none).run P g.w=.ok (0,xs.length,cap) g.w:=by
   intro cap cL;rcases hl with e1|⟨p,k,e1,hk⟩
   ·rcases ia with e3|⟨q,k',e3,nF⟩
    ·subst e1 e3;simp[Instr.sliceBounds]
    subst e1 e3;have:=run_sliceBound (P:=P) k' xs.length cap .sliceAcap g.w (by omega) (by omega);simp[Instr.sliceBounds,nF,this]
   rcases ia with e3|⟨q,k',e3,nF⟩
   ·subst e1 e3;have:=run_sliceBound (P:=P) k 0 xs.length .sliceB g.w (by omega) (by omega);simp[Instr.sliceBounds,hk,this]
   subst e1 e3;have e1:=run_sliceBound (P:=P) k' xs.length cap .sliceAcap g.w (by omega) (by omega);have e2:=run_sliceBound (P:=P) k 0 xs.length .sliceB g.w (by omega) (by omega);simp[Instr.sliceBounds,hk,nF,e1,e2]
  have kM:=(hT e te he).sizeOf g.w;refine⟨a.eval x,?_,gW⟩;rw[cZ];rcases gW.eQ with⟨q1,q2⟩|⟨ad,cap,f,q1,nV,dk,cL,cv,hs,hm,hr,_⟩
  ·subst q2;have b:=bounds 0 (by simp);simp only[List.length_nil]at b;simp[Instr.sliceAt,run_underlying hu,Instr.slice,q1,kM,b]
  have b:=bounds cap cL;by_cases Li:cap=0
  ·subst Li;simp[Instr.sliceAt,run_underlying hu,Instr.slice,q1,kM,b,Addr.add]
  simp[Instr.sliceAt,run_underlying hu,Instr.slice,q1,kM,b,Li,Addr.add]
theorem wA{P:Program}{aT:eh}(hT:b7 P aT){o:Oper}{σ:St}{t e:TypeId}{x:Operand}{ti te:cc}{id off len cap:Nat}{lo hi:Option Operand}{l h:Nat}
  (ho:o.op=.slice t x lo hi none) (hd:∀d,o.dst=some d->d<σ.n) (ht:aT t=some ti) (aR:ti.desc=.slice e) (he:aT e=some te) (hx:σ.ev x=some (.ms id off len cap))
  (iJ:nK σ lo 0 l) (po:nK σ hi len h) (h1:l<=h) (h2:h<=cap) (h3:l<cap) (OD:h<=2 ^ 62):Cert P o σ (.ms id (off+l*te.size) (h-l) (cap-l)) .pure :=
 Cert.bN .pure (.inl rfl) hd fun a g _ hh _=>by
  have hu:=bR hT ht aR;have gW:=hh x (by cases lo<;>cases hi<;>simp[ho,Op.operands]) _ hx;have hl:(lo=none∧l=0)∨∃q k,lo=some q∧a.eval q=.int k (l:Int):=by
   rcases iJ with q|⟨q,k,e1,e2⟩
   ·exact .inl q
   exact .inr ⟨q,k,e1,(hh q (by subst e1;cases hi<;>simp[ho,Op.operands]) _ e2).bX.1⟩
  have ia:(hi=none∧h=len)∨∃q k,hi=some q∧a.eval q=.int k (h:Int):=by
   rcases po with q|⟨q,k,e1,e2⟩
   ·exact .inl q
   exact .inr ⟨q,k,e1,(hh q (by subst e1;cases lo<;>simp[ho,Op.operands]) _ e2).bX.1⟩
  have cZ:execOp a.eval o=(do pure (.value (<-Instr.sliceAt t (a.eval x) (lo.map a.eval) (hi.map a.eval) none))):=by
   simp[execOp,ho]
  clear iJ po ho;obtain⟨lc,o1,q1,q2,q3,Jb,cv,gx,cL,eu⟩:=gW.oe;have bounds:(Instr.sliceBounds true len gx (lo.map a.eval) (hi.map a.eval) none).run P g.w=.ok (l,h,gx) g.w:=by
   rcases hl with⟨e1,e2⟩|⟨p,k,e1,hk⟩
   ·rcases ia with⟨e3,e4⟩|⟨q,k',e3,nF⟩
    ·subst e1 e2 e3 e4;simp[Instr.sliceBounds]
    subst e1 e2 e3;have:=run_sliceBound (P:=P) k' h gx .sliceAcap g.w (by omega) (by omega);simp[Instr.sliceBounds,nF,this]
   rcases ia with⟨e3,e4⟩|⟨q,k',e3,nF⟩
   ·subst e1 e3 e4;have:=run_sliceBound (P:=P) k l h .sliceB g.w (by omega) (by omega);simp[Instr.sliceBounds,hk,this]
   subst e1 e3;have e1:=run_sliceBound (P:=P) k' h gx .sliceAcap g.w (by omega) (by omega);have e2:=run_sliceBound (P:=P) k l h .sliceB g.w (by omega) (by omega);simp[Instr.sliceBounds,hk,nF,e1,e2]
  have kM:=(hT e te he).sizeOf g.w;refine⟨.slice (some ((⟨lc.block,off,none⟩:Addr).add (l*te.size))) (h-l) (gx-l),?_,?_⟩
  ·rw[cZ];simp[Instr.sliceAt,run_underlying hu,Instr.slice,eu,bounds,kM,show gx≠l by omega]
  rw[addr_add];exact .ms q1 q2 q3 (by omega) (by omega) (by omega)
theorem uF{P:Program}{aT:eh}(hT:b7 P aT){o:Oper}{σ:St}{t e:TypeId}{x:Operand}{ti te:cc}{id sz len:Nat}{lo hi:Option Operand} 
  (ho:o.op=.slice t x lo hi none) (hd:∀d,o.dst=some d->d<σ.n) (ht:aT t=some ti) (aR:ti.desc=.slice e) (he:aT e=some te) (hx:σ.ev x=some (.raw sz len id))
  (iJ:nK σ lo 0 0) (po:nK σ hi len 0) (h3:0<len):Cert P o σ (.aB sz [] (.tok id)) .pure :=
 Cert.bN .pure (.inl rfl) hd fun a g _ hh _=>by
  have hu:=bR hT ht aR;have gW:=hh x (by cases lo<;>cases hi<;>simp[ho,Op.operands]) _ hx;have hl:(lo=none∧(0:Nat)=0)∨∃q k,lo=some q∧a.eval q=.int k ((0:Nat):Int):=by
   rcases iJ with q|⟨q,k,e1,e2⟩
   ·exact .inl q
   exact .inr ⟨q,k,e1,(hh q (by subst e1;cases hi<;>simp[ho,Op.operands]) _ e2).bX.1⟩
  have ia:(hi=none∧(0:Nat)=len)∨∃q k,hi=some q∧a.eval q=.int k ((0:Nat):Int):=by
   rcases po with q|⟨q,k,e1,e2⟩
   ·exact .inl q
   exact .inr ⟨q,k,e1,(hh q (by subst e1;cases lo<;>simp[ho,Op.operands]) _ e2).bX.1⟩
  have cZ:execOp a.eval o=(do pure (.value (<-Instr.sliceAt t (a.eval x) (lo.map a.eval) (hi.map a.eval) none))):=by
   simp[execOp,ho]
  clear iJ po ho;obtain⟨ad,gx,eu,cL,WA⟩:=gW.M3;have bounds:(Instr.sliceBounds true len gx (lo.map a.eval) (hi.map a.eval) none).run P g.w=.ok (0,0,gx) g.w:=by
   rcases hl with⟨e1,e2⟩|⟨p,k,e1,hk⟩
   ·rcases ia with⟨e3,e4⟩|⟨q,k',e3,nF⟩
    ·omega
    subst e1 e3;have:=run_sliceBound (P:=P) k' 0 gx .sliceAcap g.w (by omega) (by omega);simp[Instr.sliceBounds,nF,this]
   rcases ia with⟨e3,e4⟩|⟨q,k',e3,nF⟩
   ·omega
   subst e1 e3;have e1:=run_sliceBound (P:=P) k' 0 gx .sliceAcap g.w (by omega) (by omega);have e2:=run_sliceBound (P:=P) k 0 0 .sliceB g.w (by omega) (by omega);simp[Instr.sliceBounds,hk,nF,e1,e2]
  have kM:=(hT e te he).sizeOf g.w;refine⟨.slice (some (ad.add (0*te.size))) (0-0) (gx-0),?_,?_⟩
  ·rw[cZ];simp[Instr.sliceAt,run_underlying hu,Instr.slice,eu,bounds,kM,show gx≠0 by omega]
  rw[Nat.zero_mul,show ad.add 0=ad by cases ad;rfl];exact .aB (xs:=[]) (by simp) (by simp) (Nat.zero_le _) (Nat.zero_le _) (by simp) (fun _=>undef) (by simp[al]) (by simp[al]) WA
theorem tk{P:Program}{aT:eh}(hT:b7 P aT){o:Oper}{σ:St}{t e:TypeId}{x y:Operand}{ti te:cc}{sz:Nat}{xs ys:List ae}{ow:nH}
  (ho:o.op=.call ⟨.builtin .append,#[x,y],#[t,t]⟩) (hd:∀d,o.dst=some d->d<σ.n) (ht:aT t=some ti) (aR:ti.desc=.slice e) (he:aT e=some te) (cM:te.size=sz) (hx:σ.ev x=some (.aB sz xs .ex)) (hy:σ.ev y=some (.aB sz ys ow))
  (hn:ys.length≠0) (hlen:xs.length+ys.length<=2 ^ 62) (hb:(xs.length+ys.length)*te.bytes<=2 ^ 47) :
  Cert P o σ (.ms σ.objs.length 0 (xs.length+ys.length) (xs.length+ys.length)) (.write (σ.objs++[.cells (al (xs++ys.map ae.share))])) :=
 Cert.iN hd fun base fN a g bH h iT=>by
  have hO:g.objs=σ.objs:=iT.resolve_left (by simp);have hg:=bH.good;have hu:=bR hT ht aR;subst cM;have gW:=h x (by simp[ho,Op.operands,Call.operands]) _ hx;have Cb:=h y (by simp[ho,Op.operands,Call.operands]) _ hy;obtain⟨B2,lH,gH,ex,EY,EZ,ML,Jt,HF,E0⟩:=gW.fQ (P:=P);obtain⟨Su,H3,news,ey,A',Ba,Bb,HG,E2,tS⟩:=Cb.fQ (P:=P);obtain⟨⟨i,z,h1,h2,h3,h4,h5,h6,h7,h8,h9⟩,_⟩:=hT e te he;have re:lH=xs.length:=by
   rcases gW.eQ with⟨q1,q2⟩|⟨ad,cap,f,q1,_,_,_,_,_,_,_,q2⟩
   ·rw[ex]at q1;cases q2;simp at q1;simp[q1]
   rw[ex]at q1;simp only[Value.slice.injEq]at q1;rw[q1.2.2];exact q2
  subst re;have cZ:=cI (P:=P) ho a g.w;simp only[builtin,List.map_toArray,List.map_cons,List.map_nil]at cZ;have bI:=gn (P:=P) g.w t o.type e i z hu h1 h4 B2 xs.length xs.length ys.length (a.eval y) gH news A' (by rw[h2];exact Ba g.w.drew rfl) (by rw[h2,<-ex];exact EZ g.w.drew rfl) (by omega) hlen (by rw[h3];exact hb);rw[<-ex]at bI;obtain⟨cap,cL⟩:∃cap,cap=grownCap g.w (xs.length+ys.length) xs.length e:=⟨_,rfl⟩
  obtain⟨rest,fe⟩:∃rest,rest=Builtin.zeroCells z.cells (cap-(xs.length+ys.length)):=⟨_,rfl⟩
  have pY:=grownCap_ge g.w (xs.length+ys.length) xs.length e;rw[<-cL]at bI pY;rw[<-fe]at bI;obtain⟨arr,gi⟩:∃arr,arr=gH.toArray++news.toArray++rest:=⟨_,rfl⟩
  rw[<-gi]at bI;have nE:=hg.heap (w':=g.w.drew) rfl rfl rfl rfl;have nR:=Le.heap (g:=g) (w':=g.w.drew) rfl rfl rfl rfl;obtain⟨g1,mc⟩:∃g1:G,g1=⟨g.w.drew,g.fr,g.env,g.objs⟩:=⟨_,rfl⟩
  rw[<-mc]at nE nR;have tF:g1.w=g.w.drew:=by rw[mc]
  have r7:g1.objs=σ.objs:=by rw[mc];exact hO
  have j9:=ML.append Bb.jn;rw[<-cW]at j9;have hZ:(al (xs++ys.map ae.share)).length=(xs.length+ys.length)*te.size:=by
   rw[bV (sz:=te.size) (fun x hx=>by
    rcases List.mem_append.1 hx with q|q
    ·exact Jt x q
    exact dH HG x q)]
   simp
  have wD:(al (xs++ys.map ae.share)).length<=arr.size:=by
   rw[hZ,gi];simp only[Array.size_append,List.size_toArray,E0,tS,<-Nat.add_mul];omega
  have hle:=nR.trans (Le.alloc nE (.cells arr e) 0 (.cells (al (xs++ys.map ae.share))));have ib:Fits (g1.alloc (.cells arr e) 0 (.cells (al (xs++ys.map ae.share)))) (.cells arr e) (.cells (al (xs++ys.map ae.share))):=by
   refine⟨arr,e,rfl,wD,fun j c u hj hu=>?_,fun c hc=>?_⟩
   ·have a8:=I hj;rw[hZ]at a8;rw[gi]at hu;have wL:=dX hu (by simp only[List.size_toArray,E0,tS,<-Nat.add_mul];exact a8);exact(j9.2 j c u hj (by simpa using wL)).mono hle
   rw[cW]at hc;rcases List.mem_append.1 hc with q|q
   ·exact HF c q
   exact du E2 c q
  have dg:=Good.alloc nE (.cells arr e) 0 (.cells (al (xs++ys.map ae.share))) (.inr rfl) ib;refine⟨.slice (some ⟨g.w.heap.size,0,none⟩) (xs.length+ys.length) cap,_,.inl ?_,hle,dg,?_,?_⟩
  ·rw[cZ];simp[bI,G.alloc,tF]
  ·simp[G.alloc,r7,Mode.post]
  rw[<-r7];have e1:(g.w.heap.size)=g1.w.heap.size:=by rw[tF];rfl
  rw[e1];exact .ms (l:=⟨g1.w.heap.size,0,_⟩) (iG nE) eS (by simp[ai.aD]) (Nat.le_refl _) pY hlen
theorem np{P:Program}(w:World)(t t' ty e:TypeId)(i:TypeInfo)(z:Value)(ht:P.underlying t=some (.slice e))(Uh:P.underlying t'=some (.int .i64))(hi:P.info? e=some i)(hz:i.zero=some z)(s:Option Addr)(n:Nat)
  (hs:(Builtin.firstCells i.size 0 (.slice s 0 0)).run P w.drew=.ok #[] w.drew) (hn:0<n) (YZ:n<=2 ^ 62) (bJ:n*i.bytes<=2 ^ 47) (cM:0<i.size) :
  (Builtin.append_ #[t,t'] ty #[.slice s 0 0,.int .i64 n]).run P w =
   .ok (.slice (some ⟨w.heap.size,0,none⟩) n (grownCap w n 0 e)) (w.drew.alloc (.cells (Builtin.zeroCells z.cells n++Builtin.zeroCells z.cells (grownCap w n 0 e-n)) e)):=by
 have hw:IntKind.i64.wrap (n:Int)=n:=nc .i64 n (by simp[IntKind.min,IntKind.bits,IntKind.signed]<;>omega) (by simp[IntKind.max,IntKind.bits,IntKind.signed]<;>omega);have h0:¬((n:Int)<0):=by omega
 have XE:¬((2:Int) ^ 48<(n:Int)*(i.bytes:Int)):=by
  rw[<-Int.natCast_mul];omega
 have TR:¬(n<=0):=by omega
 have bD:¬(n*i.size=0):=by
  have:=Nat.mul_pos hn cM;omega
 have h1:¬(9223372036854775807<(n:Int)):=by omega
 have cL:Builtin.nextslicecap n 0=n:=by
  unfold Builtin.nextslicecap;rw[if_pos (by omega)]
 have ha:∀w:World,(asInt (.int .i64 (n:Int))).run P w=.ok (n:Int) w:=fun _=>rfl;have Vs:¬(281474976710656<(n:Int)*(i.bytes:Int)):=by
  rw[<-Int.natCast_mul];omega
 have SI:¬(281474976710656<n*i.bytes):=by omega
 have z6:¬(n=0):=by omega
 simp[Builtin.append_,run_underlying ht,run_underlying Uh,Go.sizeOf,typeInfo,hi,ha,hw,z6,Vs,SI,cL,Question.forced,hs,Go.zeroValue,hz,Go.newRow,grownCap,h1];rw[if_neg h0,if_neg bD]
theorem rT{P:Program}{aT:eh}(hT:b7 P aT){o:Oper}{σ:St}{t t' e:TypeId}{x y:Operand}{ti te:cc}{sz:Nat}{n:Int}
  (ho:o.op=.call ⟨.builtin .append,#[x,y],#[t,t']⟩) (hd:∀d,o.dst=some d->d<σ.n) (ht:aT t=some ti) (aR:ti.desc=.slice e) (he:aT e=some te) (Uh:P.underlying t'=some (.int .i64)) (hx:σ.ev x=some (.aB sz [] .ex)) (hy:σ.ev y=some (.v (.int .i64 n)))
  (hn:0<n) (hlen:n.toNat<=2 ^ 62) (hb:n.toNat*te.bytes<=2 ^ 47) (cM:0<te.size) :
  Cert P o σ (.ms σ.objs.length 0 n.toNat n.toNat) (.write (σ.objs++[.cells (List.replicate n.toNat te.zero).flatten])) :=
 Cert.iN hd fun base fN a g bH h iT=>by
  have hO:g.objs=σ.objs:=iT.resolve_left (by simp);have hg:=bH.good;have hu:=bR hT ht aR;have gW:=h x (by simp[ho,Op.operands,Call.operands]) _ hx;have ey:=(h y (by simp[ho,Op.operands,Call.operands]) _ hy).bX.1;obtain⟨B2,lH,gH,ex,EY,EZ,ML,Jt,HF,E0⟩:=gW.fQ (P:=P);obtain⟨⟨i,z,h1,h2,h3,h4,h5,h6,h7,h8,h9⟩,_⟩:=hT e te he;obtain⟨m,rfl⟩:=Int.eq_ofNat_of_zero_le (show 0<=n by omega);simp only[Int.toNat_natCast]at *;have re:lH=0:=by
   rcases gW.eQ with⟨q1,q2⟩|⟨ad,cap,f,q1,_,_,_,_,_,_,_,q2⟩
   ·rw[ex]at q1;simp at q1;exact q1.2
   rw[ex]at q1;simp only[Value.slice.injEq]at q1;rw[q1.2.2];exact q2
  subst re;simp only[List.length_nil]at ex;have cZ:=cI (P:=P) ho a g.w;simp only[builtin,List.map_toArray,List.map_cons,List.map_nil]at cZ;have bI:=np (P:=P) g.w t t' o.type e i z hu Uh h1 h4 B2 m (by cases B2<;>simp[Builtin.firstCells,loadCells,loadCellsFrom]) (by omega) hlen (by rw[h3];exact hb) (by omega);rw[<-ex]at bI;obtain⟨cap,cL⟩:∃cap,cap=grownCap g.w m 0 e:=⟨_,rfl⟩
  have pY:=grownCap_ge g.w m 0 e;rw[<-cL]at bI pY;obtain⟨rest,fe⟩:∃rest,rest=Builtin.zeroCells z.cells (cap-m):=⟨_,rfl⟩
  rw[<-fe]at bI;obtain⟨arr,gi⟩:∃arr,arr=Builtin.zeroCells z.cells m++rest:=⟨_,rfl⟩
  rw[<-gi]at bI;have nE:=hg.heap (w':=g.w.drew) rfl rfl rfl rfl;have nR:=Le.heap (g:=g) (w':=g.w.drew) rfl rfl rfl rfl;obtain⟨g1,mc⟩:∃g1:G,g1=⟨g.w.drew,g.fr,g.env,g.objs⟩:=⟨_,rfl⟩
  rw[<-mc]at nE nR;have tF:g1.w=g.w.drew:=by rw[mc]
  have r7:g1.objs=σ.objs:=by rw[mc];exact hO
  have uV:(List.replicate m te.zero).flatten.length=m*te.size:=by simp[h6]
  have e9:∀(j:Nat) (c:ae),(List.replicate m te.zero).flatten[j]?=some c->te.zero[j % te.size]?=some c:=fun j c=>h6 ▸ o9 te.zero (by omega) m j c;have hle:=nR.trans (Le.alloc nE (.cells arr e) 0 (.cells (List.replicate m te.zero).flatten));have yW:(Builtin.zeroCells z.cells m).size=m*te.size:=by rw[size_zeroCells,h5,h6]
  have ib:Fits (g1.alloc (.cells arr e) 0 (.cells (List.replicate m te.zero).flatten)) (.cells arr e) (.cells (List.replicate m te.zero).flatten):=by
   refine⟨arr,e,rfl,by rw[uV,gi,Array.size_append,yW];omega,fun j c u hj hu=>?_,fun c hc=>?_⟩
   ·have gV:=e9 j c hj;have a8:=I hj;rw[uV]at a8;rw[gi,Array.getElem?_append,if_pos (by rw[yW];exact a8)]at hu;have j':j % te.size<z.cells.size:=by rw[h5];exact I gV
    refine h8 _ _ _ _ gV ?_;simp only[Builtin.zeroCells,Array.getElem?_map,h5,h6,Array.getElem?_range,if_pos a8,Option.map_some,Option.some.injEq]at hu;subst hu;simp[j']
   rw[List.mem_flatten]at hc;obtain⟨l,hl,hc⟩:=hc;rw[List.mem_replicate]at hl;exact h9 c (hl.2 ▸ hc)
  have dg:=Good.alloc nE (.cells arr e) 0 (.cells (List.replicate m te.zero).flatten) (.inr rfl) ib;refine⟨.slice (some ⟨g.w.heap.size,0,none⟩) m cap,_,.inl ?_,hle,dg,?_,?_⟩
  ·rw[cZ,ey];simp[bI,G.alloc,tF]
  ·simp[G.alloc,r7,Mode.post]
  rw[<-r7];have e1:(g.w.heap.size)=g1.w.heap.size:=by rw[tF];rfl
  rw[e1];exact .ms (l:=⟨g1.w.heap.size,0,_⟩) (iG nE) eS (by simp[ai.aD]) (Nat.le_refl _) (by omega) hlen
theorem tl{P:Program}{aT:eh}(hT:b7 P aT){o:Oper}{σ:St}{t t' e:TypeId}{x y:Operand}{ti te:cc}{sz:Nat}{n:Int}
  (ho:o.op=.call ⟨.builtin .append,#[x,y],#[t,t']⟩) (hd:∀d,o.dst=some d->d<σ.n) (ht:aT t=some ti) (aR:ti.desc=.slice e) (he:aT e=some te) (Uh:P.underlying t'=some (.int .i64)) (hx:σ.ev x=some (.aB sz [] .ex)) (hy:σ.ev y=some (.v (.int .i64 n)))
  (hn:0<n) (hlen:n.toNat<=2 ^ 62) (hb:n.toNat*te.bytes<=2 ^ 47) (cM:0<te.size) :
  Cert P o σ (.raw te.size n.toNat σ.objs.length) (.write (σ.objs++[.spare 0])) :=
 Cert.iN hd fun base fN a g bH h iT=>by
  have hO:g.objs=σ.objs:=iT.resolve_left (by simp);have hg:=bH.good;have hu:=bR hT ht aR;have gW:=h x (by simp[ho,Op.operands,Call.operands]) _ hx;have ey:=(h y (by simp[ho,Op.operands,Call.operands]) _ hy).bX.1;obtain⟨B2,lH,gH,ex,EY,EZ,ML,Jt,HF,E0⟩:=gW.fQ (P:=P);obtain⟨⟨i,z,h1,h2,h3,h4,h5,h6,h7,h8,h9⟩,_⟩:=hT e te he;obtain⟨m,rfl⟩:=Int.eq_ofNat_of_zero_le (show 0<=n by omega);simp only[Int.toNat_natCast]at *;have re:lH=0:=by
   rcases gW.eQ with⟨q1,q2⟩|⟨ad,cap,f,q1,_,_,_,_,_,_,_,q2⟩
   ·rw[ex]at q1;simp at q1;exact q1.2
   rw[ex]at q1;simp only[Value.slice.injEq]at q1;rw[q1.2.2];exact q2
  subst re;simp only[List.length_nil]at ex;have cZ:=cI (P:=P) ho a g.w;simp only[builtin,List.map_toArray,List.map_cons,List.map_nil]at cZ;have bI:=np (P:=P) g.w t t' o.type e i z hu Uh h1 h4 B2 m (by cases B2<;>simp[Builtin.firstCells,loadCells,loadCellsFrom]) (by omega) hlen (by rw[h3];exact hb) (by omega);rw[<-ex]at bI;obtain⟨cap,cL⟩:∃cap,cap=grownCap g.w m 0 e:=⟨_,rfl⟩
  have pY:=grownCap_ge g.w m 0 e;rw[<-cL]at bI pY;obtain⟨rest,fe⟩:∃rest,rest=Builtin.zeroCells z.cells (cap-m):=⟨_,rfl⟩
  rw[<-fe]at bI;obtain⟨arr,gi⟩:∃arr,arr=Builtin.zeroCells z.cells m++rest:=⟨_,rfl⟩
  rw[<-gi]at bI;have nE:=hg.heap (w':=g.w.drew) rfl rfl rfl rfl;have nR:=Le.heap (g:=g) (w':=g.w.drew) rfl rfl rfl rfl;obtain⟨g1,mc⟩:∃g1:G,g1=⟨g.w.drew,g.fr,g.env,g.objs⟩:=⟨_,rfl⟩
  rw[<-mc]at nE nR;have tF:g1.w=g.w.drew:=by rw[mc]
  have r7:g1.objs=σ.objs:=by rw[mc];exact hO
  have hle:=nR.trans (Le.alloc nE (.cells arr e) 0 (.spare 0));have yW:(Builtin.zeroCells z.cells m).size=m*te.size:=by rw[size_zeroCells,h5,h6]
  have dg:=Good.alloc nE (.cells arr e) 0 (.spare 0) (.inr rfl) ⟨arr,e,rfl⟩;have xD:rest.size=(cap-m)*te.size:=by rw[fe,size_zeroCells,h5,h6]
  refine⟨.slice (some ⟨g.w.heap.size,0,none⟩) m cap,_,.inl ?_,hle,dg,?_,?_⟩
  ·rw[cZ,ey];simp[bI,G.alloc,tF]
  ·simp[G.alloc,r7,Mode.post]
  rw[<-r7];have e1:(g.w.heap.size)=g1.w.heap.size:=by rw[tF];rfl
  rw[e1];refine .raw (by omega) ⟨by simp[G.alloc],fun m' fa=>?_⟩;have yT:(g1.alloc (.cells arr e) 0 (.spare 0)).objs[g1.objs.length]?=some (.spare 0):=eS;rw[yT]at fa;simp only[Option.some.injEq,ai.spare.injEq]at fa;subst fa;refine⟨Nat.le_refl _,fun _=>.inr ⟨⟨g1.w.heap.size,0,_⟩,arr,e,iG nE,rfl,by simp,cG _ _,?_⟩⟩;rw[gi,Array.size_append,yW,xD,<-Nat.add_mul];exact Nat.mul_le_mul_right _ (by omega)
theorem ux{P:Program}{aT:eh}(hT:b7 P aT){o:Oper}{σ:St}{t e:TypeId}{x y:Operand}{ti te:cc}{id off len cap sz:Nat}{cs ys:List ae}{ow:nH}
  (ho:o.op=.call ⟨.builtin .append,#[x,y],#[t,t]⟩) (hd:∀d,o.dst=some d->d<σ.n) (ht:aT t=some ti) (aR:ti.desc=.slice e) (he:aT e=some te) (cM:te.size=sz) (hx:σ.ev x=some (.ms id off len cap)) (tD:σ.objs[id]?=some (.cells cs)) (hy:σ.ev y=some (.aB sz ys ow))
  (nj:len+ys.length<=cap) (OD:len+ys.length<=2 ^ 62) (sN:off+(len+ys.length)*sz<=cs.length) :
  Cert P o σ (.ms id off (len+ys.length) cap) (.write (σ.objs.set id (.cells (bp cs (off+len*sz) (al (ys.map ae.share)))))) :=
 Cert.iN hd fun base fN a g bH h iT=>by
  have hO:g.objs=σ.objs:=iT.resolve_left (by simp);have hg:=bH.good;have hu:=bR hT ht aR;subst cM;have gW:=h x (by simp[ho,Op.operands,Call.operands]) _ hx;have Cb:=h y (by simp[ho,Op.operands,Call.operands]) _ hy;obtain⟨l,o1,q1,q2,q3,Jb,cv,gx,cL,eu⟩:=gW.oe;obtain⟨Su,H3,news,ey,A',Ba,Bb,HG,E2,tS⟩:=Cb.fQ (P:=P);obtain⟨⟨i,z,h1,h2,h3,h4,h5,h6,h7,h8,h9⟩,_⟩:=hT e te he;have mh:g.objs[id]?=some (.cells cs):=by rw[hO];exact tD
  obtain⟨arr,t',iJ,dq,hlen,fw,nt,Dj⟩:=hg.row mh q1;have cZ:=cI (P:=P) ho a g.w;simp only[builtin,List.map_toArray,List.map_cons,List.map_nil]at cZ;obtain⟨cf,ij⟩:∃cf,cf=(arr.toList.take (off+len*te.size)++news++arr.toList.drop (off+len*te.size+news.length)).toArray:=⟨_,rfl⟩
  have hmul:off+(len+ys.length)*te.size=off+len*te.size+ys.length*te.size:=by rw[Nat.add_mul];omega
  have dG:=run_storeCells_at P l.block (off+len*te.size) t' news 0 arr g.w dq (by rw[tS];omega) (fun u hu=>by
   obtain⟨j,hj⟩:=List.getElem?_of_mem hu;have a8:=I hj;have cM:=Bb.1;simp only[List.size_toArray]at cM;rw[cM]at a8;have hc:=List.getElem?_eq_getElem a8;exact((Bb.2 j _ u hc (by simpa using hj)).ir (E2 _ (List.mem_of_getElem? hc))).1)
  simp only[Nat.add_zero]at dG;rw[<-ij]at dG;have bI:=gQ (P:=P) g.w (g.w.setRow l.block cf) t o.type e i hu h1 ⟨l.block,off,none⟩ len gx ys.length (a.eval y) news A' (by rw[h2];exact Ba g.w rfl) (by omega) (by rw[addr_add,h2];exact dG);rw[<-eu]at bI;have eN:=lB (cs':=bp cs (off+len*te.size) (al (ys.map ae.share))) mh q1 iJ cf;have hle:=Le.bw hg eN;have k9:=Bb.jn;have hZ:(al (ys.map ae.share)).length=ys.length*te.size:=by
   rw[bV (dH HG)];simp
  have nv:=iW.bp ⟨hlen,fw⟩ k9 (off:=off+len*te.size) (by rw[hZ];omega);simp only at nv;rw[<-ij]at nv;refine⟨.slice (some ⟨l.block,off,none⟩) (len+ys.length) gx,g.bw id (some l) (.cells (bp cs (off+len*te.size) (al (ys.map ae.share)))) (g.w.setRow l.block cf),.inl ?_,hle,Good.bw hg eN ?_ ?_,?_,?_⟩
  ·rw[cZ];simp[bI,G.bw]
  ·refine⟨l,cf,t',rfl,iJ,?_,nv.1,fun j c u a b=>(nv.2 j c u a b).mono hle,fun c hc=>?_,?_⟩
   ·exact setRow_heap g.w l.block arr cf t' (0,0) dq
   ·simp only[bp,List.mem_append]at hc;rcases hc with hc|hc|hc
    ·exact nt c (List.mem_of_mem_take hc)
    ·exact du E2 c hc
    exact nt c (List.mem_of_mem_drop hc)
   have q:=tS;have q2:=hmul;rw[ij];simp only[List.size_toArray,List.length_append,List.length_take,List.length_drop,Array.length_toList];omega
  ·intro l1 h1 _;simp only[Option.some.injEq]at h1;subst h1;rw[setRow_size];exact aX dq
  ·simp only[G.bw,Mode.post,hO]
  have a8:id<g.objs.length:=I mh;have A6:=iF hg mh;refine .ms (l:=l) (o:=.cells (bp cs (off+len*te.size) (al (ys.map ae.share)))) ?_ ?_ (by simp[ai.aD]) nj cL OD
  ·simp only[G.bw];rw[List.getElem?_set_self A6]
  simp only[G.bw];rw[List.getElem?_set_self a8]
theorem wo{P:Program}{aT:eh}(hT:b7 P aT){o:Oper}{σ:St}{t e:TypeId}{x:Operand}{ti te:cc}{id off len cap:Nat}{cs:List ae}
  (ho:o.op=.call ⟨.builtin .clear,#[x],#[t]⟩) (hd:o.dst=none) (ht:aT t=some ti) (aR:ti.desc=.slice e) (he:aT e=some te) (hx:σ.ev x=some (.ms id off len cap)) (tD:σ.objs[id]?=some (.cells cs))
  (mi:0<len) (hz:0<te.size) (sN:off+len*te.size<=cs.length) :
  Cert P o σ (.cx []) (.write (σ.objs.set id (.cells (bp cs off (List.replicate len te.zero).flatten)))) :=
 Cert.iN (by simp[hd]) fun base fN a g bH h iT=>by
  have hO:g.objs=σ.objs:=iT.resolve_left (by simp);have hg:=bH.good;have hu:=bR hT ht aR;have gW:=h x (by simp[ho,Op.operands,Call.operands]) _ hx;obtain⟨l,o1,q1,q2,q3,Jb,cv,gx,cL,eu⟩:=gW.oe;obtain⟨⟨i,z,h1,h2,h3,h4,h5,h6,h7,h8,h9⟩,_⟩:=hT e te he;have mh:g.objs[id]?=some (.cells cs):=by rw[hO];exact tD
  obtain⟨arr,t',iJ,dq,hlen,fw,nt,Dj⟩:=hg.row mh q1;have cZ:=cI (P:=P) ho a g.w;simp only[builtin,List.map_toArray,List.map_cons,List.map_nil]at cZ;have yW:(Builtin.zeroCells z.cells len).size=len*te.size:=by rw[size_zeroCells,h5,h6]
  have uV:(List.replicate len te.zero).flatten.length=len*te.size:=by simp[h6]
  have e9:∀(j:Nat) (c:ae),(List.replicate len te.zero).flatten[j]?=some c->te.zero[j % te.size]?=some c:=fun j c=>h6 ▸ o9 te.zero (by omega) len j c;have xH:iW g (List.replicate len te.zero).flatten (Builtin.zeroCells z.cells len):=⟨by rw[yW,uV],fun j c u hj hu=>by
   have gV:=e9 j c hj;have a8:=I hj;rw[uV]at a8;have j':j % te.size<z.cells.size:=by rw[h5];exact I gV
   refine h8 _ _ _ _ gV ?_;simp only[Builtin.zeroCells,Array.getElem?_map,h5,h6,Array.getElem?_range,if_pos a8,Option.map_some,Option.some.injEq]at hu;subst hu;simp[j']⟩
  have Jv:∀c∈(List.replicate len te.zero).flatten,c.scalar:=fun c hc=>by
   rw[List.mem_flatten]at hc;obtain⟨l,hl,hc⟩:=hc;rw[List.mem_replicate]at hl;exact h9 c (hl.2 ▸ hc)
  obtain⟨news,sP⟩:∃news,news=(Builtin.zeroCells z.cells len).toList:=⟨_,rfl⟩
  have Gt:news.length=len*te.size:=by rw[sP,Array.length_toList,yW]
  obtain⟨cf,ij⟩:∃cf,cf=(arr.toList.take off++news++arr.toList.drop (off+news.length)).toArray:=⟨_,rfl⟩
  have dG:=run_storeCells_at P l.block off t' news 0 arr g.w dq (by rw[Gt];omega) (fun u hu=>by
   obtain⟨j,hj⟩:=List.getElem?_of_mem hu;have a8:=I hj;rw[Gt,<-uV]at a8;have hc:=List.getElem?_eq_getElem a8;exact((xH.2 j _ u hc (by rw[sP]at hj;simpa using hj)).ir (Jv _ (List.mem_of_getElem? hc))).1)
  simp only[Nat.add_zero]at dG;rw[<-ij]at dG;have bI:(Builtin.clear_ #[t] o.type #[a.eval x]).run P g.w=.ok (.tuple #[]) (g.w.setRow l.block cf):=by
   obtain⟨k,rfl⟩:∃k,len=k+1:=⟨len-1,by omega⟩
   rw[eu];simp[Builtin.clear_,run_underlying hu,Go.zeroValue,typeInfo,h1,h4,<-sP,dG]
  have eN:=lB (cs':=bp cs off (List.replicate len te.zero).flatten) mh q1 iJ cf;have hle:=Le.bw hg eN;have nv:=iW.bp ⟨hlen,fw⟩ xH (off:=off) (by rw[uV];omega);rw[<-sP,<-ij]at nv;refine⟨.tuple #[],g.bw id (some l) (.cells (bp cs off (List.replicate len te.zero).flatten)) (g.w.setRow l.block cf),?_,hle,Good.bw hg eN ?_ ?_,?_,.cx rfl (by simp)⟩
  ·refine .inl ?_;rw[cZ];simp[bI,G.bw]
  ·refine⟨l,cf,t',rfl,iJ,?_,nv.1,fun j c u a b=>(nv.2 j c u a b).mono hle,fun c hc=>?_,?_⟩
   ·exact setRow_heap g.w l.block arr cf t' (0,0) dq
   ·simp only[bp,List.mem_append]at hc;rcases hc with hc|hc|hc
    ·exact nt c (List.mem_of_mem_take hc)
    ·exact Jv c hc
    exact nt c (List.mem_of_mem_drop hc)
   have q:=Gt;rw[ij];simp only[List.size_toArray,List.length_append,List.length_take,List.length_drop,Array.length_toList];omega
  ·intro l1 h1 _;simp only[Option.some.injEq]at h1;subst h1;rw[setRow_size];exact aX dq
  simp only[G.bw,Mode.post,hO]
def G.mY(g:G)(id:Nat)(l:Loc)(o:ai):G:=⟨g.w,g.fr,g.env++[some l],g.objs.set id .gone++[o]⟩
theorem o8{g:G}{id:Nat}{l:Loc}{o:ai}(hg:Good g)(gC:id<g.objs.length){i:Nat}{l':Loc}{o':ai}(h1:(g.mY id l o).env[i]?=some (some l'))(h2:(g.mY id l o).objs[i]?=some o')(h3:o'.live) :
  (i≠id∧g.env[i]?=some (some l')∧g.objs[i]?=some o')∨(i=g.objs.length∧l'=l∧o'=o):=by
 have hlen:=hg.len;rcases aO h1 with q1|⟨q1,Pr⟩
 ·rcases aO h2 with q2|⟨q2,_⟩
  ·by_cases e:id=i
   ·subst e;rw[List.getElem?_set_self gC]at q2;simp only[Option.some.injEq]at q2;subst q2;exact h3.elim
   rw[List.getElem?_set_ne e]at q2;exact .inl ⟨Ne.symm e,q1,q2⟩
  have:=I q1;simp only[List.length_set]at q2;omega
 rcases aO h2 with q2|⟨q2,MY⟩
 ·have:=I q2;simp only[List.length_set]at this;omega
 simp only[Option.some.injEq]at Pr;exact .inr ⟨by omega,Pr,MY⟩
theorem jE.mY{g:G}{id:Nat}{l:Loc}{o o1:ai}(hg:Good g)(he:g.env[id]?=some (some l))(ho:g.objs[id]?=some o1)(hl:o1.live){b off:Nat}(h:jE (g.mY id l o) b off):jE g b off:=by
 obtain⟨i,l',o',h1,h2,h3,h4,h5⟩:=h;rcases o8 hg (I ho) h1 h2 h3 with⟨_,q1,q2⟩|⟨_,q1,_⟩
 ·exact⟨i,l',o',q1,q2,h3,h4,h5⟩
 subst q1;exact⟨id,l',o1,he,ho,hl,h4,h5⟩
theorem fO.mY{g:G}{id:Nat}{l:Loc}{o o1:ai}(hg:Good g)(he:g.env[id]?=some (some l))(ho:g.objs[id]?=some o1)(hl:o1.live){b:Nat}(h:fO (g.mY id l o) b):fO g b:=by
 obtain⟨i,l',o',h1,h2,h3,h4⟩:=h;exact(jE.mY hg he ho hl ⟨i,l',o',h1,h2,h3,h4,Nat.le_refl _⟩).block
theorem zo{g:G}{id i:Nat}{l:Loc}{o o':ai}(bD:id≠i)(h:g.objs[i]?=some o'):(g.mY id l o).objs[i]?=some o':=by
 have:=I h;simp only[G.mY];rw[List.getElem?_append,if_pos (by simpa using this),List.getElem?_set_ne bD];exact h
theorem BE{g:G}{id:Nat}{l:Loc}{o:ai}(h:id<g.objs.length):(g.mY id l o).objs[id]?=some .gone:=by
 simp only[G.mY];rw[List.getElem?_append,if_pos (by simpa using h),List.getElem?_set_self h]
theorem rA{g:G}{id i:Nat}{l:Loc}{o:ai}(h:i<g.env.length):(g.mY id l o).env[i]?=g.env[i]?:=by
 simp only[G.mY];rw[List.getElem?_append,if_pos h]
theorem Le.mY{g:G}{id:Nat}{l:Loc}{o o1:ai}(hg:Good g)(he:g.env[id]?=some (some l))(ho:g.objs[id]?=some o1)(hl:o1.live)(hs:¬o1.aD):Le g (g.mY id l o) where
 os:=rfl
 tape:=rfl
 output:=rfl
 fr:=rfl
 size:=Nat.le_refl _
 block:=fun k _ h=>⟨rfl,fun q=>h (fO.mY hg he ho hl q)⟩
 cell:=fun b off x hx hn=>⟨hx,fun q=>hn (jE.mY hg he ho hl q)⟩
 len:=by simp[G.mY]
 spare:=fun i m hm=>by
  have bD:id≠i:=by
   intro e;subst e;rw[ho]at hm;simp only[Option.some.injEq]at hm;subst hm;exact hs trivial
  exact .inl ⟨m,zo bD hm,Nat.le_refl _⟩
 plain:=fun i o' iT hn=>by
  refine⟨?_,rA (by have:=I iT;have:=hg.len;omega)⟩;by_cases e:id=i
  ·subst e;exact⟨.gone,BE (I ho),by simp[ai.aD]⟩
  exact⟨o',zo e iT,hn⟩
 gone:=fun i hi=>by
  by_cases e:id=i
  ·subst e;exact BE (I ho)
  exact zo e hi
 tok:=fun i m hm _=>⟨rA (by have:=I hm;have:=hg.len;omega),fun _ _=>rfl⟩
theorem Good.mY{g:G}{id:Nat}{l:Loc}{cs:List ae}(hg:Good g)(he:g.env[id]?=some (some l))(ho:g.objs[id]?=some (.cells cs)):Good (g.mY id l (.cells cs)):=by
 have a8:=I ho;have hle:=Le.mY (o:=.cells cs) hg he ho trivial (by simp[ai.aD]);have yT:(g.mY id l (.cells cs)).env[g.objs.length]?=some (some l):=by
  simp only[G.mY];rw[<-hg.len];simp
 refine⟨hg.frlt,?_,by simp[G.mY,hg.len],?_,?_,?_,?_,?_⟩
 ·intro i l' o' h1 h2 h3;rcases o8 hg a8 h1 h2 h3 with⟨_,q1,q2⟩|⟨_,q1,_⟩
  ·exact hg.frown i l' o' q1 q2 h3
  subst q1;exact hg.frown id l' _ he ho trivial
 ·intro i l' o' h1 h2 h3;rcases o8 hg a8 h1 h2 h3 with⟨_,q1,q2⟩|⟨_,q1,_⟩
  ·exact hg.loc i l' o' q1 q2 h3
  subst q1;exact hg.loc id l' _ he ho trivial
 ·intro i j l1 l2 o1 o2 h1 h2 h3 k1 k2 k3 hb;rcases o8 hg a8 h1 h2 h3 with⟨n1,q1,q2⟩|⟨n1,q1,_⟩
  ·rcases o8 hg a8 k1 k2 k3 with⟨_,r1,r2⟩|⟨m1,r1,_⟩
   ·exact hg.apart i j l1 l2 o1 o2 q1 q2 h3 r1 r2 k3 hb
   subst r1;exact absurd (hg.apart i id l1 l2 o1 _ q1 q2 h3 he ho trivial hb) n1
  rcases o8 hg a8 k1 k2 k3 with⟨m1,r1,r2⟩|⟨m1,r1,_⟩
  ·subst q1;exact absurd (hg.apart j id l2 l1 o2 _ r1 r2 k3 he ho trivial hb.symm) m1
  omega
 ·intro i ds h;have lv:(ai.cells ds).live:=trivial;rcases aO h with q|⟨q,q'⟩
  ·have bD:id≠i:=by
    intro e;subst e;rw[List.getElem?_set_self a8]at q;cases q
   rw[List.getElem?_set_ne bD]at q;obtain⟨l',arr,t,e1,e0,e2,e3,e4,e5⟩:=hg.cells i ds q;exact⟨l',arr,t,(rA (by have:=I q;have:=hg.len;omega)).trans e1,e0,e2,e3,fun j c u a b=>(e4 j c u a b).mono hle,e5⟩
  simp only[ai.cells.injEq]at q';subst q';obtain⟨l',arr,t,e1,e0,e2,e3,e4,e5⟩:=hg.cells id _ ho;rw[he]at e1;simp only[Option.some.injEq]at e1;subst e1;refine⟨l,arr,t,?_,e0,e2,e3,fun j c u a b=>(e4 j c u a b).mono hle,e5⟩;rw[q,List.length_set];exact yT
 ·intro i m l' h h1;rcases aO h with q|⟨q,q'⟩
  ·have bD:id≠i:=by
    intro e;subst e;rw[List.getElem?_set_self a8]at q;cases q
   rw[List.getElem?_set_ne bD]at q;rw[rA (by have:=I q;have:=hg.len;omega)]at h1;exact hg.spare i m l' q h1
  cases q'
 intro i kt es h;rcases aO h with q|⟨q,q'⟩
 ·have bD:id≠i:=by
   intro e;subst e;rw[List.getElem?_set_self a8]at q;cases q
  rw[List.getElem?_set_ne bD]at q;obtain⟨l',arr,clk,e1,e0,e2,e3,e6,e4⟩:=hg.map i kt es q;exact⟨l',arr,clk,(rA (by have:=I q;have:=hg.len;omega)).trans e1,e0,e2,e3,e6,fun j e kx a b=>⟨(e4 j e kx a b).1,(e4 j e kx a b).2.1,(e4 j e kx a b).2.2.mono hle⟩⟩
 cases q'
theorem qL{P:Program}{aT:eh}(hT:b7 P aT){o:Oper}{σ:St}{t e:TypeId}{x i:Operand}{ti te:cc}{id len sz:Nat}{k:IntKind}{n:Int}
  (ho:o.op=.indexAddr t x i) (hd:∀d,o.dst=some d->d<σ.n) (ht:aT t=some ti) (aR:ti.desc=.slice e) (he:aT e=some te)
  (hx:σ.ev x=some (.os id len sz)) (hi:σ.ev i=some (.v (.int k n))) (h0:0<=n) (hn:n<len):Cert P o σ (.mp id (n.toNat*te.size)) .pure :=
 Cert.bN .pure (.inl rfl) hd fun a g _ h _=>by
  have ei:=(h i (by simp[ho,Op.operands]) _ hi).bX.1;have hu:=bR hT ht aR;obtain⟨l,o1,cap,h1,h2,h3,_,_,_,eu⟩:=(h x (by simp[ho,Op.operands]) _ hx).qd;exact⟨.pointer (some ⟨l.block,n.toNat*te.size,none⟩),by simp[execOp,ho,ei,eu,Instr.indexAt,asIntOf,run_underlying hu,h0,hn,(hT e te he).sizeOf,addr_add],.mp h1 h2 h3⟩
theorem wB{P:Program}{aT:eh}(hT:b7 P aT){o:Oper}{σ:St}{t e:TypeId}{x:Operand}{ti te:cc}{id len sz:Nat}{lo hi:Option Operand}{h:Nat}
  (ho:o.op=.slice t x lo hi none) (hd:∀d,o.dst=some d->d<σ.n) (ht:aT t=some ti) (aR:ti.desc=.slice e) (he:aT e=some te) (hx:σ.ev x=some (.os id len sz))
  (iJ:nK σ lo 0 0) (po:nK σ hi len h) (h2:h<=len) (h3:0<len):Cert P o σ (.os id h sz) .pure :=
 Cert.bN .pure (.inl rfl) hd fun a g _ hh _=>by
  have hu:=bR hT ht aR;have gW:=hh x (by cases lo<;>cases hi<;>simp[ho,Op.operands]) _ hx;have hl:(lo=none∧(0:Nat)=0)∨∃q k,lo=some q∧a.eval q=.int k ((0:Nat):Int):=by
   rcases iJ with q|⟨q,k,e1,e2⟩
   ·exact .inl q
   exact .inr ⟨q,k,e1,(hh q (by subst e1;cases hi<;>simp[ho,Op.operands]) _ e2).bX.1⟩
  have ia:(hi=none∧h=len)∨∃q k,hi=some q∧a.eval q=.int k (h:Int):=by
   rcases po with q|⟨q,k,e1,e2⟩
   ·exact .inl q
   exact .inr ⟨q,k,e1,(hh q (by subst e1;cases lo<;>simp[ho,Op.operands]) _ e2).bX.1⟩
  have cZ:execOp a.eval o=(do pure (.value (<-Instr.sliceAt t (a.eval x) (lo.map a.eval) (hi.map a.eval) none))):=by
   simp[execOp,ho]
  clear iJ po ho;obtain⟨lc,o1,gx,q1,q2,q3,Jb,B4,cv,eu⟩:=gW.qd;have bounds:(Instr.sliceBounds true len gx (lo.map a.eval) (hi.map a.eval) none).run P g.w=.ok (0,h,gx) g.w:=by
   rcases hl with⟨e1,e2⟩|⟨p,k,e1,hk⟩
   ·rcases ia with⟨e3,e4⟩|⟨q,k',e3,nF⟩
    ·subst e1 e3 e4;simp[Instr.sliceBounds]
    subst e1 e3;have:=run_sliceBound (P:=P) k' h gx .sliceAcap g.w (by omega) (by omega);simp[Instr.sliceBounds,nF,this]
   rcases ia with⟨e3,e4⟩|⟨q,k',e3,nF⟩
   ·subst e1 e3 e4;have:=run_sliceBound (P:=P) k 0 h .sliceB g.w (by omega) (by omega);simp[Instr.sliceBounds,hk,this]
   subst e1 e3;have e1:=run_sliceBound (P:=P) k' h gx .sliceAcap g.w (by omega) (by omega);have e2:=run_sliceBound (P:=P) k 0 h .sliceB g.w (by omega) (by omega);simp[Instr.sliceBounds,hk,nF,e1,e2]
  have kM:=(hT e te he).sizeOf g.w;refine⟨.slice (some ((⟨lc.block,0,none⟩:Addr).add (0*te.size))) (h-0) (gx-0),?_,?_⟩
  ·rw[cZ];simp[Instr.sliceAt,run_underlying hu,Instr.slice,eu,bounds,kM,show gx≠0 by omega]
  rw[addr_add];simp only[Nat.zero_mul,Nat.add_zero,Nat.sub_zero];exact .os q1 q2 q3 (by omega) B4 (by omega)
theorem qH{P:Program}{aT:eh}(hT:b7 P aT){o:Oper}{σ:St}{t e:TypeId}{x y:Operand}{ti te:cc}{sz:Nat}{xs ys:List ae}{ow:nH}
  (ho:o.op=.call ⟨.builtin .append,#[x,y],#[t,t]⟩) (hd:∀d,o.dst=some d->d<σ.n) (ht:aT t=some ti) (aR:ti.desc=.slice e) (he:aT e=some te) (cM:te.size=sz) (hx:σ.ev x=some (.aB sz xs .ex)) (hy:σ.ev y=some (.aB sz ys ow))
  (hn:ys.length≠0) (hlen:xs.length+ys.length<=2 ^ 62) (hb:(xs.length+ys.length)*te.bytes<=2 ^ 47) :
  Cert P o σ (.os σ.objs.length (xs.length+ys.length) sz) (.write (σ.objs++[.cells (al (xs++ys.map ae.share))])) :=
 Cert.iN hd fun base fN a g bH h iT=>by
  have hO:g.objs=σ.objs:=iT.resolve_left (by simp);have hg:=bH.good;have hu:=bR hT ht aR;subst cM;have gW:=h x (by simp[ho,Op.operands,Call.operands]) _ hx;have Cb:=h y (by simp[ho,Op.operands,Call.operands]) _ hy;obtain⟨B2,lH,gH,ex,EY,EZ,ML,Jt,HF,E0⟩:=gW.fQ (P:=P);obtain⟨Su,H3,news,ey,A',Ba,Bb,HG,E2,tS⟩:=Cb.fQ (P:=P);obtain⟨⟨i,z,h1,h2,h3,h4,h5,h6,h7,h8,h9⟩,_⟩:=hT e te he;have re:lH=xs.length:=by
   rcases gW.eQ with⟨q1,q2⟩|⟨ad,cap,f,q1,_,_,_,_,_,_,_,q2⟩
   ·rw[ex]at q1;cases q2;simp at q1;simp[q1]
   rw[ex]at q1;simp only[Value.slice.injEq]at q1;rw[q1.2.2];exact q2
  subst re;have cZ:=cI (P:=P) ho a g.w;simp only[builtin,List.map_toArray,List.map_cons,List.map_nil]at cZ;have bI:=gn (P:=P) g.w t o.type e i z hu h1 h4 B2 xs.length xs.length ys.length (a.eval y) gH news A' (by rw[h2];exact Ba g.w.drew rfl) (by rw[h2,<-ex];exact EZ g.w.drew rfl) (by omega) hlen (by rw[h3];exact hb);rw[<-ex]at bI;obtain⟨cap,cL⟩:∃cap,cap=grownCap g.w (xs.length+ys.length) xs.length e:=⟨_,rfl⟩
  obtain⟨rest,fe⟩:∃rest,rest=Builtin.zeroCells z.cells (cap-(xs.length+ys.length)):=⟨_,rfl⟩
  have pY:=grownCap_ge g.w (xs.length+ys.length) xs.length e;rw[<-cL]at bI pY;rw[<-fe]at bI;have xD:rest.size=(cap-(xs.length+ys.length))*te.size:=by rw[fe,size_zeroCells,h5,h6]
  obtain⟨arr,gi⟩:∃arr,arr=gH.toArray++news.toArray++rest:=⟨_,rfl⟩
  rw[<-gi]at bI;have nE:=hg.heap (w':=g.w.drew) rfl rfl rfl rfl;have nR:=Le.heap (g:=g) (w':=g.w.drew) rfl rfl rfl rfl;obtain⟨g1,mc⟩:∃g1:G,g1=⟨g.w.drew,g.fr,g.env,g.objs⟩:=⟨_,rfl⟩
  rw[<-mc]at nE nR;have tF:g1.w=g.w.drew:=by rw[mc]
  have r7:g1.objs=σ.objs:=by rw[mc];exact hO
  have j9:=ML.append Bb.jn;rw[<-cW]at j9;have hZ:(al (xs++ys.map ae.share)).length=(xs.length+ys.length)*te.size:=by
   rw[bV (sz:=te.size) (fun x hx=>by
    rcases List.mem_append.1 hx with q|q
    ·exact Jt x q
    exact dH HG x q)]
   simp
  have wD:arr.size=cap*te.size:=by
   rw[gi];simp only[Array.size_append,List.size_toArray,E0,tS,xD,<-Nat.add_mul];rw[show xs.length+ys.length+(cap-(xs.length+ys.length))=cap by omega]
  have hle:=nR.trans (Le.alloc nE (.cells arr e) 0 (.cells (al (xs++ys.map ae.share))));have ib:Fits (g1.alloc (.cells arr e) 0 (.cells (al (xs++ys.map ae.share)))) (.cells arr e) (.cells (al (xs++ys.map ae.share))):=by
   refine⟨arr,e,rfl,by rw[hZ,wD];exact Nat.mul_le_mul_right _ pY,fun j c u hj hu=>?_,fun c hc=>?_⟩
   ·have a8:=I hj;rw[hZ]at a8;rw[gi]at hu;have wL:=dX hu (by simp only[List.size_toArray,E0,tS,<-Nat.add_mul];exact a8);exact(j9.2 j c u hj (by simpa using wL)).mono hle
   rw[cW]at hc;rcases List.mem_append.1 hc with q|q
   ·exact HF c q
   exact du E2 c q
  have dg:=Good.alloc nE (.cells arr e) 0 (.cells (al (xs++ys.map ae.share))) (.inr rfl) ib;refine⟨.slice (some ⟨g.w.heap.size,0,none⟩) (xs.length+ys.length) cap,_,.inl ?_,hle,dg,?_,?_⟩
  ·rw[cZ];simp[bI,G.alloc,tF]
  ·simp[G.alloc,r7,Mode.post]
  rw[<-r7];have e1:(g.w.heap.size)=g1.w.heap.size:=by rw[tF];rfl
  rw[e1];exact .os (l:=⟨g1.w.heap.size,0,arr.size⟩) (iG nE) eS (by simp[ai.aD]) pY (by rw[wD];exact Nat.le_refl _) hlen
theorem uy{P:Program}{aT:eh}(hT:b7 P aT){o:Oper}{σ:St}{t e:TypeId}{x y:Operand}{ti te:cc}{id len sz:Nat}{cs ys:List ae}{ow:nH}
  (ho:o.op=.call ⟨.builtin .append,#[x,y],#[t,t]⟩) (hd:∀d,o.dst=some d->d<σ.n) (ht:aT t=some ti) (aR:ti.desc=.slice e) (he:aT e=some te) (cM:te.size=sz) (hx:σ.ev x=some (.os id len sz)) (tD:σ.objs[id]?=some (.cells cs)) (hy:σ.ev y=some (.aB sz ys ow))
  (sN:len*sz<=cs.length) (hn:ys.length≠0) (hlen:len+ys.length<=2 ^ 62) (hb:(len+ys.length)*te.bytes<=2 ^ 47) :
  Cert P o σ (.os σ.objs.length (len+ys.length) sz) (.write (σ.objs.set id .gone++[.cells (cs.take (len*sz)++al (ys.map ae.share))])) :=
 Cert.iN hd fun base fN a g bH h iT=>by
  have hO:g.objs=σ.objs:=iT.resolve_left (by simp);have hg:=bH.good;have hu:=bR hT ht aR;subst cM;have gW:=h x (by simp[ho,Op.operands,Call.operands]) _ hx;have Cb:=h y (by simp[ho,Op.operands,Call.operands]) _ hy;obtain⟨l,o1,cap,q1,q2,q3,Jb,B4,cv,eu⟩:=gW.qd;obtain⟨Su,H3,news,ey,A',Ba,Bb,HG,E2,tS⟩:=Cb.fQ (P:=P);obtain⟨⟨i,z,h1,h2,h3,h4,h5,h6,h7,h8,h9⟩,_⟩:=hT e te he;have mh:g.objs[id]?=some (.cells cs):=by rw[hO];exact tD
  have EP:=I mh;obtain⟨arr,t',iJ,dq,XZ,fw,nt,Dj⟩:=hg.row mh q1;have cZ:=cI (P:=P) ho a g.w;simp only[builtin,List.map_toArray,List.map_cons,List.map_nil]at cZ;have k9:=Bb.jn;have hZ:(al (ys.map ae.share)).length=ys.length*te.size:=by
   rw[bV (dH HG)];simp
  obtain⟨m,hm⟩:∃m,m=len*te.size:=⟨_,rfl⟩
  obtain⟨gH,Gu⟩:∃gH,gH=arr.toList.take m:=⟨_,rfl⟩
  obtain⟨ds,tO⟩:∃ds,ds=cs.take (len*te.size)++al (ys.map ae.share):=⟨_,rfl⟩
  rw[<-hm]at tO sN;have Jl:gH.length=m:=by rw[Gu];simp;omega
  have holds:iW g (cs.take m) gH.toArray:=by
   refine⟨by simp[Jl];omega,fun j c u hj hu=>?_⟩;have a8:=I hj;simp only[List.length_take]at a8;rw[List.getElem?_take,if_pos (by omega)]at hj;refine fw j c u hj ?_;simp only[List.getElem?_toArray,Gu]at hu;rw[List.getElem?_take,if_pos (by omega)]at hu;simpa using hu
  have cB:iW g ds (gH++news).toArray:=by
   rw[tO];exact holds.append k9
  have mN:ds.length=m+ys.length*te.size:=by
   rw[tO,List.length_append,List.length_take,hZ];omega
  have Tc:∀c∈ds,c.scalar:=fun c hc=>by
   rw[tO]at hc;rcases List.mem_append.1 hc with hc|hc
   ·exact nt c (List.mem_of_mem_take hc)
   exact du E2 c hc
  have Jh:(len+ys.length)*te.size=m+ys.length*te.size:=by rw[Nat.add_mul,hm]
  rw[<-hm,<-tO];by_cases nj:len+ys.length<=cap
  ·have bJ:m+ys.length*te.size<=arr.size:=by
    have:=Nat.mul_le_mul_right te.size nj;omega
   obtain⟨cf,ij⟩:∃cf,cf=(arr.toList.take m++news++arr.toList.drop (m+news.length)).toArray:=⟨_,rfl⟩
   have dG:=run_storeCells_at P l.block m t' news 0 arr g.w dq (by rw[tS];omega) (fun u hu=>by
    obtain⟨j,hj⟩:=List.getElem?_of_mem hu;have a8:=I hj;have cM:=Bb.1;simp only[List.size_toArray]at cM;rw[cM]at a8;have hc:=List.getElem?_eq_getElem a8;exact((Bb.2 j _ u hc (by simpa using hj)).ir (E2 _ (List.mem_of_getElem? hc))).1)
   simp only[Nat.add_zero]at dG;rw[<-ij]at dG;have bI:=gQ (P:=P) g.w (g.w.setRow l.block cf) t o.type e i hu h1 ⟨l.block,0,none⟩ len cap ys.length (a.eval y) news A' (by rw[h2];exact Ba g.w rfl) (by omega) (by rw[addr_add,h2,Nat.zero_add,<-hm];exact dG);rw[<-eu]at bI;have eN:=lB (cs':=ds) mh q1 iJ cf;have hle:=Le.bw hg eN;have wD:cf.size=arr.size:=by
    rw[ij];simp only[List.size_toArray,List.length_append,List.length_take,List.length_drop,Array.length_toList,tS];omega
   have dg:=Good.bw hg eN (by
    refine⟨l,cf,t',rfl,iJ,setRow_heap g.w l.block arr cf t' (0,0) dq,by rw[mN,wD];exact bJ,fun j c u hj nk=>?_,Tc,by rw[wD];exact Dj⟩;have a8:=I hj;rw[mN]at a8;have e1:cf=gH.toArray++news.toArray++(arr.toList.drop (m+news.length)).toArray:=by
     rw[ij,Gu];simp
    rw[e1]at nk;have wL:=dX nk (by simp only[List.size_toArray,Jl,tS];exact a8);exact(cB.2 j c u hj (by simpa using wL)).mono hle) (fun l1 h1 _=>by
    simp only[Option.some.injEq]at h1;subst h1;rw[setRow_size];exact aX dq)
   obtain⟨g1,mc⟩:∃g1:G,g1=g.bw id (some l) (.cells ds) (g.w.setRow l.block cf):=⟨_,rfl⟩
   rw[<-mc]at hle dg;have tz:g1.env[id]?=some (some l):=by
    rw[mc];simp only[G.bw];rw[List.getElem?_set_self (iF hg mh)]
   have r7:g1.objs[id]?=some (.cells ds):=by
    rw[mc];simp only[G.bw];rw[List.getElem?_set_self EP]
   have dU:g1.objs.length=σ.objs.length:=by
    rw[mc,<-hO];simp[G.bw]
   refine⟨.slice (some ⟨l.block,0,none⟩) (len+ys.length) cap,g1.mY id l (.cells ds),.inl ?_,hle.trans (Le.mY dg tz r7 trivial (by simp[ai.aD])),Good.mY dg tz r7,?_,?_⟩
   ·rw[cZ,mc];simp[bI,G.bw,G.mY]
   ·simp only[G.mY,mc,G.bw,Mode.post,List.set_set,hO]
   refine .os (l:=l) (o:=.cells ds) ?_ ?_ (by simp[ai.aD]) nj B4 hlen
   ·simp only[G.mY];rw[<-dU,<-dg.len];simp
   simp only[G.mY];rw[<-dU];simp
  have bI:=gn (P:=P) g.w t o.type e i z hu h1 h4 (some ⟨l.block,0,none⟩) len cap ys.length (a.eval y) gH news A' (by rw[h2];exact Ba g.w.drew rfl) (by
   rw[h2];simp only[Builtin.firstCells];rw[<-hm];have:=run_loadCells (P:=P) g.w.drew ⟨l.block,0,none⟩ m (fun j=>arr.getD j undef) (fun j hj=>by
    rw[addr_add,Nat.zero_add];have:g.w.drew.cell? ⟨l.block,j,none⟩=arr[j]?:=cell_of_row (w:=g.w.drew) dq j;rw[this];simp[Array.getD_eq_getD_getElem?,show j<arr.size by omega])
   rw[wO gH m _ Jl (fun j hj=>by
    rw[Gu,List.getElem?_take,if_pos hj];simp[Array.getD_eq_getD_getElem?,show j<arr.size by omega])]at this
   exact this) (by omega) hlen (by rw[h3];exact hb)
  rw[<-eu]at bI;obtain⟨wi,cL⟩:∃wi,wi=grownCap g.w (len+ys.length) cap e:=⟨_,rfl⟩
  obtain⟨rest,fe⟩:∃rest,rest=Builtin.zeroCells z.cells (wi-(len+ys.length)):=⟨_,rfl⟩
  have pY:=grownCap_ge g.w (len+ys.length) cap e;rw[<-cL]at bI pY;rw[<-fe]at bI;have xD:rest.size=(wi-(len+ys.length))*te.size:=by rw[fe,size_zeroCells,h5,h6]
  obtain⟨ud,gi⟩:∃ud,ud=gH.toArray++news.toArray++rest:=⟨_,rfl⟩
  rw[<-gi]at bI;have nE:=hg.heap (w':=g.w.drew) rfl rfl rfl rfl;have nR:=Le.heap (g:=g) (w':=g.w.drew) rfl rfl rfl rfl;obtain⟨g1,mc⟩:∃g1:G,g1=⟨g.w.drew,g.fr,g.env,g.objs⟩:=⟨_,rfl⟩
  rw[<-mc]at nE nR;have tF:g1.w=g.w.drew:=by rw[mc]
  have r7:g1.objs=σ.objs:=by rw[mc];exact hO
  have wD:ud.size=wi*te.size:=by
   rw[gi];simp only[Array.size_append,List.size_toArray,Jl,tS,xD];have:(len+ys.length)*te.size+(wi-(len+ys.length))*te.size=wi*te.size:=by
    rw[<-Nat.add_mul,show len+ys.length+(wi-(len+ys.length))=wi by omega]
   omega
  have hle:=nR.trans (Le.alloc nE (.cells ud e) 0 (.cells ds));have ib:Fits (g1.alloc (.cells ud e) 0 (.cells ds)) (.cells ud e) (.cells ds):=by
   refine⟨ud,e,rfl,by rw[mN,wD,<-Jh];exact Nat.mul_le_mul_right _ pY,fun j c u hj hu=>?_,Tc⟩;have a8:=I hj;rw[mN]at a8;rw[gi]at hu;have wL:=dX hu (by simp only[List.size_toArray,Jl,tS];exact a8);exact(cB.2 j c u hj (by simpa using wL)).mono hle
  have dg:=Good.alloc nE (.cells ud e) 0 (.cells ds) (.inr rfl) ib;obtain⟨g2,Qh⟩:∃g2:G,g2=g1.alloc (.cells ud e) 0 (.cells ds):=⟨_,rfl⟩
  rw[<-Qh]at hle dg;have Ti:g2.env[id]?=some (some l):=by
   rw[Qh];simp only[G.alloc];rw[List.getElem?_append,if_pos (by rw[mc];exact iF hg mh),mc];exact q1
  have TT:g2.objs[id]?=some (.cells cs):=by
   rw[Qh];simp only[G.alloc];rw[List.getElem?_append,if_pos (by rw[mc];exact EP),mc];exact mh
  have eN:=ql TT Ti (by simp[ai.aD]) trivial;have hw2:g2.w=g.w.drew.alloc (.cells ud e):=by rw[Qh,<-tF];rfl
  refine⟨.slice (some ⟨g.w.heap.size,0,none⟩) (len+ys.length) wi,g2.bw id (some l) .gone g2.w,.inl ?_,hle.trans (Le.bw dg eN),Good.bw dg eN trivial (fun _ _ hh=>hh.elim),?_,?_⟩
  ·rw[cZ];simp[bI,G.bw,hw2]
  ·simp only[G.bw,Qh,G.alloc,r7,Mode.post];rw[List.set_append,if_pos (by rw[<-hO];exact EP)]
  have e1:(g.w.heap.size)=g1.w.heap.size:=by rw[tF];rfl
  have V':id<g1.objs.length:=by rw[mc];exact EP
  rw[e1,<-r7];refine .os (l:=⟨g1.w.heap.size,0,ud.size⟩) (o:=.cells ds) ?_ ?_ (by simp[ai.aD]) pY (by rw[wD];exact Nat.le_refl _) hlen
  ·simp only[G.bw,Qh,G.alloc];rw[List.getElem?_set_ne (by omega)];exact iG nE
  simp only[G.bw,Qh,G.alloc];rw[List.getElem?_set_ne (by omega)];exact eS
theorem wq{P:Program}{o:Oper}{σ:St}{op:BinOp}{t t' e:TypeId}{x y:Operand}{x':ae}{b r:Bool}
  (ho:o.op=.binOp op t x y t') (hd:∀d,o.dst=some d->d<σ.n) (ht:P.underlying t=some (.pointer e)) (hx:σ.ev x=some x') (hy:σ.ev y=some (.v (.pointer none)))
  (hb:(x'=.v (.pointer none)∧b=true)∨(∃oa cs,x'=.ip oa cs∧b=false)∨(∃id off,x'=.mp id off∧b=false))
  (hr:(op=.eql∧r=b)∨(op=.neq∧r=!b)):Cert P o σ (.v (.bool r)) .pure :=
 Cert.bN .pure (.inl rfl) hd fun a g _ h _=>by
  have gW:=h x (by simp[ho,Op.operands]) _ hx;have ey:=(h y (by simp[ho,Op.operands]) _ hy).bX.1;have ex:∃q:Option Addr,a.eval x=.pointer q∧b=q.isNone:=by
   rcases hb with⟨e1,e2⟩|⟨oa,cs,e1,e2⟩|⟨id,off,e1,e2⟩
   ·subst e1;exact⟨none,gW.bX.1,e2⟩
   ·subst e1;obtain⟨bb,off,_,e3,_⟩:=gW.nZ;exact⟨some ⟨bb,off,none⟩,e3,e2⟩
   subst e1;obtain⟨l,o1,_,_,_,e3⟩:=gW.mU;exact⟨_,e3,e2⟩
  obtain⟨q,ex,eb⟩:=ex;have hg:=cJ (P:=P) op t x y (.pointer q) (.pointer none) g.w (by simp) (by simp);refine⟨.bool r,?_,.v trivial⟩;have he:(Op.equal t (.pointer q) (.pointer none)).run P g.w=.ok q.isNone g.w:=by
   have e:∃d,Op.equal t (.pointer q) (.pointer none)=Op.equalIn (d+1) t (.pointer q) (.pointer none):=⟨9999,rfl⟩
   obtain⟨d,e⟩:=e;rw[e];cases q<;>simp[Op.equalIn,Sem.run_bind,run_underlying ht]
  rcases hr with⟨e1,e2⟩|⟨e1,e2⟩<;>subst e1<;>subst e2<;>simp[execOp,ho,ex,ey,hg,binOp,he,eb]
def qM:BinOp->Addr->Addr->Option Bool
 | .eql,a,b=>some (decide (a=b))
 | .neq,a,b=>some (!decide (a=b))
 | _,_,_=>none
theorem As{P:Program}{o:Oper}{σ:St}{op:BinOp}{t t' e:TypeId}{n:Nat}{x y:Operand}{a b:Addr}{cs ds:List ae}{r:Bool}
  (ho:o.op=.binOp op t x y t') (hd:∀d,o.dst=some d->d<σ.n) (ht:P.underlying t=some (.pointer e)) (hn:∀w,(sizeOf e).run P w=.ok n w) (z6:n≠0) (hx:σ.ev x=some (.ip (some a) cs)) (hy:σ.ev y=some (.ip (some b) ds)) (xw:a.block=b.block)
  (hr:qM op a b=some r):Cert P o σ (.v (.bool r)) .pure :=
 Cert.bN .pure (.inl rfl) hd fun ac g _ h _=>by
  have ex:ac.eval x=.pointer (some a):=by
   obtain⟨b1,off,f,e1,e2,_⟩:=(h x (by simp[ho,Op.operands]) _ hx).nZ;rcases e2 with e2|e2
   ·cases e2
   rw[e1,e2]
  have ey:ac.eval y=.pointer (some b):=by
   obtain⟨b1,off,f,e1,e2,_⟩:=(h y (by simp[ho,Op.operands]) _ hy).nZ;rcases e2 with e2|e2
   ·cases e2
   rw[e1,e2]
  have hg:=cJ (P:=P) op t x y (.pointer (some a)) (.pointer (some b)) g.w (by simp) (by simp);refine⟨.bool r,?_,.v trivial⟩;have he:(Op.equal t (.pointer (some a)) (.pointer (some b))).run P g.w=.ok (decide (a=b)) g.w:=by
   have e0:∃d,Op.equal t (.pointer (some a)) (.pointer (some b))=Op.equalIn (d+1) t (.pointer (some a)) (.pointer (some b)):=⟨9999,rfl⟩
   obtain⟨d,e0⟩:=e0;rw[e0];simp[Op.equalIn,Sem.run_bind,run_underlying ht,hn,z6,sameAddr,xw]
   first
    | rfl
    | exact beq_eq_decide
    | (rw[Bool.eq_iff_iff]
       simp)
  have z8:(op=.eql∧r=decide (a=b))∨(op=.neq∧r=!decide (a=b)):=by
   cases op<;>simp[qM]at hr<;>simp[hr]
  rcases z8 with⟨e1,e2⟩|⟨e1,e2⟩<;>subst e1<;>subst e2<;>simp[execOp,ho,ex,ey,hg,binOp,he]
end Go.Av
