/-
  Texts bound together by a program of mine: YtakdmelemfnmdaaAva, YtakdmelemfnmdaaAvb, YtakdmelemfnmdaaAvc, YtakdmelemfnmdaaAvd, YtakdmelemfnmdaaAve, YtakdmelemfnmdaaAvf, YtakdmelemfnmdaaAvg, YtakdmelemfnmdaaAvh, YtakdmelemfnmdaaAvi, YtakdmelemfnmdaaAvj, YtakdmelemfnmdaaAvk, YtakdmelemfnmdaaAvx, YtakdmelemfnmdaaAvy.
-/
import Derived.Calls
import Derived.Orders
import Derived.Laws.AppendOwn
import Derived.Laws.OwnMore
import Derived.Laws.CopyRow
import Derived.Laws.Strings
import Derived.Lib.BufferMore
set_option linter.all false

namespace Go.Av
inductive kP where
 | sh
 | ex
 | nn
 | tok (id:Nat)
 | loc (a:Addr)
inductive KT where
 | str
 | int (k:IntKind)
def KT.ok:KT->Value->Prop
 | .str,.string _=>True
 | .int k,.int k' _=>k'=k
 | _,_=>False
inductive ae where
 | v (x:Value)
 | agg (cs:List ae)
 | aE (sz:Nat) (xs:List ae) (o:kP)
 | ip (oa:Option Addr) (cs:List ae)
 | mp (id off:Nat)
 | ms (id off len cap:Nat)
 | os (id len sz:Nat)
 | raw (sz n id:Nat)
 | mm (id:Nat)
 | im (kt:KT) (es:List (Value×ae))
 | fn (f:Fn) (first captured:List ae)
 | df (vs:List ae)
instance:Inhabited ae:=⟨.v (.bool false)⟩
def ae.cells:ae->List ae
 | .agg cs=>cs
 | x=>[x]
def kl:Value->Prop
 | .int k n=>k.min<=n∧n<=k.max
 | .agg _=>False
 | .tuple _=>False
 | _=>True
def ae.scalar:ae->Prop
 | .agg _=>False
 | .df _=>False
 | _=>True
inductive ak where
 | cells (cs:List ae)
 | spare (n:Nat)
 | map (kt:KT) (es:List (Value×ae))
 | gone
def ak.live:ak->Prop
 | .gone=>False
 | _=>True
def ak.aF:ak->Prop
 | .spare _=>True
 | _=>False
structure Loc where
 block:Nat
 lo:Nat
 sz:Nat
structure G where
 w:World
 fr:Nat->Nat->Prop
 env:List (Option Loc)
 objs:List ak
def G.cell(g:G)(b off:Nat):Option Value:=g.w.cell? ⟨b,off,none⟩
def iM(g:G)(b off:Nat):Prop :=
 ∃(id:Nat) (l:Loc) (o:ak),g.env[id]?=some (some l)∧g.objs[id]?=some o∧o.live∧l.block=b∧l.lo<=off
def fM(g:G)(b:Nat):Prop :=
 ∃(id:Nat) (l:Loc) (o:ak),g.env[id]?=some (some l)∧g.objs[id]?=some o∧o.live∧l.block=b
def jT(g:G)(b off:Nat):Prop:=g.fr b off∨iM g b off
theorem iM.block{g:G}{b off:Nat}(h:iM g b off):fM g b:=by
 obtain⟨id,l,o,h1,h2,h3,h4,_⟩:=h;exact⟨id,l,o,h1,h2,h3,h4⟩
def ao(xs:List ae):List ae:=xs.flatMap ae.cells
def oS(g:G)(o:kP)(a:Addr)(sz len cap:Nat):Prop :=
 match o with
 | .sh=>True
 | .nn=>True
 | .ex=>cap=len
 | .loc a'=>a=a'
 | .tok id=>id<g.objs.length∧∀m:Nat,g.objs[id]?=some (.spare m)->len<=m∧(len=m->cap=len ∨
   ∃(l:Loc) (arr:Array Value) (t:TypeId),g.env[id]?=some (some l)∧a=⟨l.block,0,none⟩∧l.lo=len*sz∧g.w.heap[l.block]?=some (.cells arr t (0,0))∧cap*sz<=arr.size)
inductive RV(g:G):ae->Value->Prop
 | v {x:Value} (h:kl x):RV g (.v x) x
 | agg {cs:List ae} {vs:Array Value} (hl:vs.size=cs.length) (dz:∀c∈cs,c.scalar)
   (h:∀(i:Nat) c u,cs[i]?=some c->vs[i]?=some u->RV g c u):RV g (.agg cs) (.agg vs)
 | nil {sz:Nat} {o:kP} (ho:∀id,o=.tok id->id<g.objs.length) (hn:o≠.nn):RV g (.aE sz [] o) (.slice none 0 0)
 | aE {sz:Nat} {xs:List ae} {o:kP} {a:Addr} {cap:Nat} (cU:∀x∈xs,x.cells.length=sz) (dz:∀x∈xs,∀c∈x.cells,c.scalar)
   (cQ:xs.length<=cap) (cF:xs.length<=2 ^ 62) (hs:xs≠[]->a.spot=none) (f:Nat->Value)
   (hm:∀(j:Nat) (c:ae),(ao xs)[j]?=some c->g.cell a.block (a.off+j)=some (f j)∧¬jT g a.block (a.off+j))
   (hr:∀(j:Nat) (c:ae),(ao xs)[j]?=some c->RV g c (f j)) (ho:oS g o a sz xs.length cap):RV g (.aE sz xs o) (.slice (some a) xs.length cap)
 | ip {oa:Option Addr} {cs:List ae} {b off:Nat} (ha:oa=none∨oa=some ⟨b,off,none⟩) (dz:∀c∈cs,c.scalar) (f:Nat->Value)
   (hm:∀(j:Nat) (c:ae),cs[j]?=some c->g.cell b (off+j)=some (f j)∧¬jT g b (off+j))
   (hr:∀(j:Nat) (c:ae),cs[j]?=some c->RV g c (f j)):RV g (.ip oa cs) (.pointer (some ⟨b,off,none⟩))
 | mp {id off:Nat} {l:Loc} {o:ak} (he:g.env[id]?=some (some l)) (ho:g.objs[id]?=some o) (hn:¬o.aF) :
   RV g (.mp id off) (.pointer (some ⟨l.block,off,none⟩))
 | ms {id off len cap:Nat} {l:Loc} {o:ak} (he:g.env[id]?=some (some l)) (ho:g.objs[id]?=some o) (hn:¬o.aF) {ez:Nat} (hc:len<=cap) (lJ:cap<=ez) (cF:len<=2 ^ 62) :
   RV g (.ms id off len cap) (.slice (some ⟨l.block,off,none⟩) len ez)
 | os {id len sz:Nat} {l:Loc} {o:ak} (he:g.env[id]?=some (some l)) (ho:g.objs[id]?=some o) (hn:¬o.aF) {cap:Nat} (hc:len<=cap) (hb:cap*sz<=l.sz) (cF:len<=2 ^ 62) :
   RV g (.os id len sz) (.slice (some ⟨l.block,0,none⟩) len cap)
 | raw {sz n id:Nat} {a:Addr} {cap:Nat} (hn:n<=cap) (ho:oS g (.tok id) a sz 0 cap):RV g (.raw sz n id) (.slice (some a) n cap)
 | mm {id:Nat} {l:Loc} {o:ak} (he:g.env[id]?=some (some l)) (ho:g.objs[id]?=some o) (hn:¬o.aF):RV g (.mm id) (.map (some l.block))
 | im {kt:KT} {es:List (Value×ae)} {r clk:Nat} {arr:Array MapEntry} (hh:g.w.heap[r]?=some (.map arr clk)) (hn:∀off,¬jT g r off) (hl:arr.size=es.length)
   (hk:∀(i:Nat) e (kx:Value×ae),arr[i]?=some e->es[i]?=some kx->e.key=kx.1) (rA:∀p∈es,kt.ok p.1)
   (hr:∀(i:Nat) e (kx:Value×ae),arr[i]?=some e->es[i]?=some kx->RV g kx.2 e.val):RV g (.im kt es) (.map (some r))
 | fn {f:Fn} {fs cs:List ae} {us vs:Array Value} (hl:us.size=fs.length) (q8:vs.size=cs.length)
   (h:∀(i:Nat) c u,fs[i]?=some c->us[i]?=some u->RV g c u) (h':∀(i:Nat) c u,cs[i]?=some c->vs[i]?=some u->RV g c u):RV g (.fn f fs cs) (.func f us vs)
 | df {cs:List ae} {vs:Array Value} (hl:vs.size=cs.length)
   (h:∀(i:Nat) c u,cs[i]?=some c->vs[i]?=some u->RV g c u):RV g (.df cs) (.tuple vs)
structure Le(g g':G):Prop where
 os:g'.w.os=g.w.os
 tape:g'.w.tape=g.w.tape
 output:g'.w.output=g.w.output
 fr:g'.fr=g.fr
 size:g.w.heap.size<=g'.w.heap.size
 block:∀k,k<g.w.heap.size->¬fM g k->g'.w.heap[k]?=g.w.heap[k]?∧¬fM g' k
 cell:∀b off x,g.cell b off=some x->¬iM g b off->g'.cell b off=some x∧¬iM g' b off
 len:g.objs.length<=g'.objs.length
 spare:∀(id:Nat) (m:Nat),g.objs[id]?=some (.spare m)->(∃m':Nat,g'.objs[id]?=some (.spare m')∧m<=m')∨∃o':ak,g'.objs[id]?=some o'∧¬o'.aF
 plain:∀(id:Nat) (o:ak),g.objs[id]?=some o->¬o.aF->(∃o':ak,g'.objs[id]?=some o'∧¬o'.aF)∧g'.env[id]?=g.env[id]?
 gone:∀id:Nat,g.objs[id]?=some .gone->g'.objs[id]?=some .gone
 tok:∀(id m:Nat),g.objs[id]?=some (.spare m)->g'.objs[id]?=some (.spare m)->g'.env[id]?=g.env[id]?∧∀l:Loc,g.env[id]?=some (some l)->g'.w.heap[l.block]?=g.w.heap[l.block]?
theorem Le.refl(g:G):Le g g where
 os:=rfl
 tape:=rfl
 output:=rfl
 fr:=rfl
 size:=Nat.le_refl _
 block:=fun _ _ h=>⟨rfl,h⟩
 cell:=fun _ _ _ h k=>⟨h,k⟩
 len:=Nat.le_refl _
 spare:=fun _ m h=>.inl ⟨m,h,Nat.le_refl _⟩
 plain:=fun _ o h k=>⟨⟨o,h,k⟩,rfl⟩
 gone:=fun _ h=>h
 tok:=fun _ _ _ _=>⟨rfl,fun _ _=>rfl⟩
theorem Le.trans{a b c:G}(h:Le a b)(k:Le b c):Le a c where
 os:=k.os.trans h.os
 tape:=k.tape.trans h.tape
 output:=k.output.trans h.output
 fr:=k.fr.trans h.fr
 size:=Nat.le_trans h.size k.size
 block:=fun i hi hn=>by
  obtain⟨h1,h2⟩:=h.block i hi hn;obtain⟨k1,k2⟩:=k.block i (Nat.lt_of_lt_of_le hi h.size) h2;exact⟨k1.trans h1,k2⟩
 cell:=fun b off x hx hn=>by
  obtain⟨h1,h2⟩:=h.cell b off x hx hn;exact k.cell b off x h1 h2
 len:=Nat.le_trans h.len k.len
 spare:=fun id m hm=>by
  rcases h.spare id m hm with⟨m',h1,h2⟩|⟨o',h1,h2⟩
  ·rcases k.spare id m' h1 with⟨lg,k1,k2⟩|k1
   ·exact .inl ⟨lg,k1,Nat.le_trans h2 k2⟩
   exact .inr k1
  exact .inr (k.plain id o' h1 h2).1
 plain:=fun id o ho hn=>by
  obtain⟨⟨o',h1,h2⟩,h3⟩:=h.plain id o ho hn;obtain⟨k1,k3⟩:=k.plain id o' h1 h2;exact⟨k1,k3.trans h3⟩
 gone:=fun id hg=>k.gone id (h.gone id hg)
 tok:=fun id m ha hc=>by
  rcases h.spare id m ha with⟨m',h1,h2⟩|⟨o',h1,h2⟩
  ·rcases k.spare id m' h1 with⟨lg,k1,k2⟩|⟨o',k1,k2⟩
   ·rw[k1]at hc;simp only[Option.some.injEq,ak.spare.injEq]at hc;have:m'=m:=by omega
    subst this;subst hc;obtain⟨e1,e2⟩:=h.tok id _ ha h1;obtain⟨e3,e4⟩:=k.tok id _ h1 k1;refine⟨e3.trans e1,fun l hl=>?_⟩;exact(e4 l (e1.trans hl)).trans (e2 l hl)
   rw[k1]at hc;simp only[Option.some.injEq]at hc;exact absurd (hc ▸ trivial) k2
  obtain⟨⟨G6,k1,k2⟩,_⟩:=k.plain id o' h1 h2;rw[k1]at hc;simp only[Option.some.injEq]at hc;exact absurd (hc ▸ trivial) k2
theorem Le.G8{g g':G}(h:Le g g'){b off:Nat}{x:Value}(hx:g.cell b off=some x)(hn:¬jT g b off):g'.cell b off=some x∧¬jT g' b off:=by
 obtain⟨h1,h2⟩:=h.cell b off x hx fun hh=>hn (.inr hh);refine⟨h1,?_⟩;rintro(hf|hl)
 ·exact hn (.inl (h.fr ▸ hf))
 exact h2 hl
theorem I{α:Type}{l:List α}{i:Nat}{x:α}(h:l[i]?=some x):i<l.length:=by
 rcases Nat.lt_or_ge i l.length with h1|h1
 ·exact h1
 rw[List.getElem?_eq_none h1]at h;cases h
theorem a5{α:Type}{l:Array α}{i:Nat}{x:α}(h:l[i]?=some x):i<l.size:=by
 rcases Nat.lt_or_ge i l.size with h1|h1
 ·exact h1
 rw[Array.getElem?_eq_none h1]at h;cases h
theorem oS.mono{g g':G}(h:Le g g'){o:kP}{a:Addr}{sz len cap:Nat}(k:oS g o a sz len cap):oS g' o a sz len cap:=by
 cases o with
 | sh=>trivial
 | nn=>trivial
 | ex=>exact k
 | loc a=>exact k
 | tok id =>
  obtain⟨aZ,hk⟩:=k;refine⟨Nat.lt_of_lt_of_le aZ h.len,fun m' fm=>?_⟩;have ho:g.objs[id]?=some g.objs[id]:=List.getElem?_eq_getElem aZ;cases gd:g.objs[id]with
  | spare m =>
   rw[gd]at ho;obtain⟨h1,h2⟩:=hk m ho;rcases h.spare id m ho with⟨lg,k1,k2⟩|⟨o',k1,k2⟩
   ·rw[k1]at fm;simp only[Option.some.injEq,ak.spare.injEq]at fm;subst fm;refine⟨Nat.le_trans h1 k2,fun e=>?_⟩;have JI:m=lg:=by omega
    subst JI;obtain⟨e1,e2⟩:=h.tok id m ho k1;rcases h2 (by omega)with e3|⟨l,arr,t,q1,q2,q3,q4,q5⟩
    ·exact .inl e3
    exact .inr ⟨l,arr,t,e1.trans q1,q2,q3,(e2 l q1).trans q4,q5⟩
   rw[k1]at fm;simp only[Option.some.injEq]at fm;exact absurd (fm ▸ trivial) k2
  | gone =>
   rw[gd]at ho;rw[h.gone id ho]at fm;simp at fm
  | cells cs =>
   rw[gd]at ho;obtain⟨⟨o',q1,q2⟩,_⟩:=h.plain id _ ho (by simp[ak.aF]);rw[q1]at fm;simp only[Option.some.injEq]at fm;subst fm;simp[ak.aF]at q2
  | map kt es =>
   rw[gd]at ho;obtain⟨⟨o',q1,q2⟩,_⟩:=h.plain id _ ho (by simp[ak.aF]);rw[q1]at fm;simp only[Option.some.injEq]at fm;subst fm;simp[ak.aF]at q2
theorem RV.mono{g g':G}(h:Le g g'){x:ae}{u:Value}(k:RV g x u):RV g' x u:=by
 induction k with
 | v hx=>exact .v hx
 | agg hl dz _ ih=>exact .agg hl dz ih
 | nil ho hn=>exact .nil (fun id e=>Nat.lt_of_lt_of_le (ho id e) h.len) hn
 | aE cU dz cQ cF hs f hm _ ho ih=>exact .aE cU dz cQ cF hs f (fun j c hj=>h.G8 (hm j c hj).1 (hm j c hj).2) ih (ho.mono h)
 | ip ha dz f hm _ ih=>exact .ip ha dz f (fun j c hj=>h.G8 (hm j c hj).1 (hm j c hj).2) ih
 | mp he ho hn =>
  obtain⟨⟨o',q1,q2⟩,q3⟩:=h.plain _ _ ho hn;exact .mp (q3.trans he) q1 q2
 | ms he ho hn hc lJ cF =>
  obtain⟨⟨o',q1,q2⟩,q3⟩:=h.plain _ _ ho hn;exact .ms (q3.trans he) q1 q2 hc lJ cF
 | os he ho hn hc hb cF =>
  obtain⟨⟨o',q1,q2⟩,q3⟩:=h.plain _ _ ho hn;exact .os (q3.trans he) q1 q2 hc hb cF
 | raw hn ho=>exact .raw hn (ho.mono h)
 | mm he ho hn =>
  obtain⟨⟨o',q1,q2⟩,q3⟩:=h.plain _ _ ho hn;exact .mm (q3.trans he) q1 q2
 | im hh hn hl hk rA _ ih =>
  have aZ:=a5 hh;rename_i kt es r clk arr _;have hb:¬fM g r:=by
   rintro⟨id,l,o,h1,h2,h3,h4⟩;exact hn l.lo (.inr ⟨id,l,o,h1,h2,h3,h4,Nat.le_refl _⟩)
  obtain⟨q1,q2⟩:=h.block _ aZ hb;refine .im (q1.trans hh) ?_ hl hk rA ih;rintro off (hf|hf)
  ·exact hn off (.inl (h.fr ▸ hf))
  exact q2 hf.block
 | fn hl q8 _ _ ih xE=>exact .fn hl q8 ih xE
 | df hl _ ih=>exact .df hl ih
structure Good(g:G):Prop where
 frlt:∀b off,g.fr b off->b<g.w.heap.size
 fk:∀(id:Nat) (l:Loc) (o:ak),g.env[id]?=some (some l)->g.objs[id]?=some o->o.live->∀off,¬g.fr l.block off
 len:g.env.length=g.objs.length
 loc:∀(id:Nat) (l:Loc) (o:ak),g.env[id]?=some (some l)->g.objs[id]?=some o->o.live->l.block<g.w.heap.size
 apart:∀(id kD:Nat) (l l':Loc) (o o':ak),g.env[id]?=some (some l)->g.objs[id]?=some o->o.live->g.env[kD]?=some (some l')->g.objs[kD]?=some o'->o'.live->l.block=l'.block->id=kD
 cells:∀(id:Nat) (cs:List ae),g.objs[id]?=some (.cells cs)->∃(l:Loc) (arr:Array Value) (t:TypeId),g.env[id]?=some (some l)∧l.lo=0∧g.w.heap[l.block]?=some (.cells arr t (0,0))∧cs.length<=arr.size ∧
  (∀(j:Nat) (c:ae) (u:Value),cs[j]?=some c->arr[j]?=some u->RV g c u)∧(∀c∈cs,c.scalar)∧l.sz<=arr.size
 spare:∀(id m:Nat) (l:Loc),g.objs[id]?=some (.spare m)->g.env[id]?=some (some l)->∃(arr:Array Value) (t:TypeId),g.w.heap[l.block]?=some (.cells arr t (0,0))
 map:∀(id:Nat) (kt:KT) (es:List (Value×ae)),g.objs[id]?=some (.map kt es)->∃(l:Loc) (arr:Array MapEntry) (clk:Nat),g.env[id]?=some (some l)∧l.lo=0∧g.w.heap[l.block]?=some (.map arr clk)∧arr.size=es.length∧(∀p∈es,kt.ok p.1) ∧
  ∀(i:Nat) (e:MapEntry) (kx:Value×ae),arr[i]?=some e->es[i]?=some kx->e.key=kx.1∧kl kx.1∧RV g kx.2 e.val
structure St where
 n:Nat
 ba:List (Nat×ae)
 objs:List ak
def look:List (Nat×ae)->Nat->Option ae
 | [],_=>none
 | (k,x)::r,s=>if k=s then some x else look r s
def a7(d:Nat):List (Nat×ae)->List (Nat×ae)
 | []=>[]
 | (k,x)::r=>if k=d then a7 d r else(k,x)::a7 d r
def bu(d:Nat)(x:ae)(l:List (Nat×ae)):List (Nat×ae):=(d,x)::a7 d l
theorem iK{d s:Nat}(h:d≠s):∀l:List (Nat×ae),look (a7 d l) s=look l s
 | []=>rfl
 | (k,x)::r=>by
  have ih:=iK h r;unfold a7;split
  ·rename_i hk;subst hk;simp[look,h,ih]
  simp only[look,ih]
theorem ko{d:Nat}:∀l:List (Nat×ae),look (a7 d l) d=none
 | []=>rfl
 | (k,x)::r=>by
  have ih:=ko (d:=d) r;unfold a7;split
  ·exact ih
  rename_i hk;simp[look,hk,ih]
theorem fq(d s:Nat)(x:ae)(l:List (Nat×ae)):look (bu d x l) s=if d=s then some x else look l s:=by
 unfold bu;simp only[look];split
 ·rfl
 rename_i h;exact iK h l
def St.get(σ:St)(s:Nat):Option ae:=look σ.ba s
structure Rel(base:G)(σ:St)(a:Act)(g:G):Prop where
 le:Le base g
 good:Good g
 objs:g.objs=σ.objs
 size:a.tmps.size=σ.n
 defers:a.defers=[]
 slot:∀(s:Nat) (x:ae),σ.get s=some x->∃u,a.tmps[s]?=some u∧RV g x u
theorem Rel.put{base:G}{σ:St}{a:Act}{g g':G}(h:Rel base σ a g)(hl:Le g g')(hg:Good g'){d:Nat}(hd:d<σ.n){r:ae}{u:Value}(hr:RV g' r u) :
  Rel base ⟨σ.n,bu d r σ.ba,g'.objs⟩ (a.put (some d) u) g' where
 le:=h.le.trans hl
 good:=hg
 objs:=rfl
 size:=by simp[Act.put,h.size]
 defers:=by simp[Act.put,h.defers]
 slot:=fun s x hx=>by
  simp only[St.get,fq]at hx;split at hx
  ·rename_i nk;subst nk;simp only[Option.some.injEq]at hx;subst hx;exact⟨u,by simp[Act.put,h.size,hd],hr⟩
  rename_i nk;obtain⟨y,hy,GV⟩:=h.slot s x hx;exact⟨y,by simp[Act.put,Array.getElem?_setIfInBounds_ne nk,hy],GV.mono hl⟩
theorem Rel.step{base:G}{σ:St}{a:Act}{g g':G}(h:Rel base σ a g)(hl:Le g g')(hg:Good g'):Rel base ⟨σ.n,σ.ba,g'.objs⟩ a g' where
 le:=h.le.trans hl
 good:=hg
 objs:=rfl
 size:=h.size
 defers:=h.defers
 slot:=fun s x hx=>by
  obtain⟨y,hy,GV⟩:=h.slot s x hx;exact⟨y,hy,GV.mono hl⟩
theorem Rel.forget{base:G}{σ:St}{a:Act}{g:G}(h:Rel base σ a g)(d:Nat)(u:Value):Rel base ⟨σ.n,a7 d σ.ba,σ.objs⟩ (a.put (some d) u) g where
 le:=h.le
 good:=h.good
 objs:=h.objs
 size:=by simp[Act.put,h.size]
 defers:=by simp[Act.put,h.defers]
 slot:=fun s x hx=>by
  by_cases nk:d=s
  ·subst nk;simp[St.get,ko]at hx
  simp only[St.get,iK nk]at hx;obtain⟨y,hy,GV⟩:=h.slot s x hx;exact⟨y,by simp[Act.put,Array.getElem?_setIfInBounds_ne nk,hy],GV⟩
theorem Le.heap{g:G}{w':World}(h1:w'.heap=g.w.heap)(h2:w'.os=g.w.os)(h3:w'.tape=g.w.tape)(h4:w'.output=g.w.output):Le g ⟨w',g.fr,g.env,g.objs⟩ where
 os:=h2
 tape:=h3
 output:=h4
 fr:=rfl
 size:=by simp[h1]
 block:=fun k _ h=>⟨by simp[h1],h⟩
 cell:=fun b off x hx hn=>⟨by simpa[G.cell,World.cell?,h1]using hx,hn⟩
 len:=Nat.le_refl _
 spare:=fun _ m h=>.inl ⟨m,h,Nat.le_refl _⟩
 plain:=fun _ o h k=>⟨⟨o,h,k⟩,rfl⟩
 gone:=fun _ h=>h
 tok:=fun _ _ _ _=>⟨rfl,fun _ _=>by simp[h1]⟩
theorem Good.heap{g:G}{w':World}(hg:Good g)(h1:w'.heap=g.w.heap)(h2:w'.os=g.w.os)(h3:w'.tape=g.w.tape)(h4:w'.output=g.w.output):Good ⟨w',g.fr,g.env,g.objs⟩ where
 frlt:=fun b off h=>by simpa[h1]using hg.frlt b off h
 fk:=hg.fk
 len:=hg.len
 loc:=fun id l o a b c=>by simpa[h1]using hg.loc id l o a b c
 apart:=hg.apart
 cells:=fun id cs h=>by
  obtain⟨l,arr,t,e1,e0,e2,e3,e4,e5⟩:=hg.cells id cs h;exact⟨l,arr,t,e1,e0,by simpa[h1]using e2,e3,fun j c u a b=>(e4 j c u a b).mono (Le.heap h1 h2 h3 h4),e5⟩
 spare:=fun id m l a b=>by simpa[h1]using hg.spare id m l a b
 map:=fun id kt es h=>by
  obtain⟨l,arr,clk,e1,e0,e2,e3,e6,e4⟩:=hg.map id kt es h;exact⟨l,arr,clk,e1,e0,by simpa[h1]using e2,e3,e6,fun i e kx a b=>⟨(e4 i e kx a b).1,(e4 i e kx a b).2.1,(e4 i e kx a b).2.2.mono (Le.heap h1 h2 h3 h4)⟩⟩
theorem du(w:World)(o:Obj){k:Nat}(h:k<w.heap.size):(w.alloc o).heap[k]?=w.heap[k]?:=by
 simp only[World.alloc];rw[Array.getElem?_push,if_neg (by omega)]
theorem dq(w:World)(o:Obj):(w.alloc o).heap[w.heap.size]?=some o:=by
 simp only[World.alloc];rw[Array.getElem?_push,if_pos rfl]
theorem pD{g:G}{b off:Nat}{x:Value}(h:g.cell b off=some x):b<g.w.heap.size:=by
 simp only[G.cell,World.cell?]at h;split at h
 ·rename_i hh;exact a5 hh
 cases h
theorem kY{w w':World}{b:Nat}(h:w'.heap[b]?=w.heap[b]?)(off:Nat):w'.cell? ⟨b,off,none⟩=w.cell? ⟨b,off,none⟩:=by
 simp only[World.cell?,h]
def G.push(g:G)(o:Obj):G:=⟨g.w.alloc o,g.fr,g.env,g.objs⟩
theorem Le.push(g:G)(hg:Good g)(o:Obj):Le g (g.push o) where
 os:=rfl
 tape:=rfl
 output:=rfl
 fr:=rfl
 size:=by show g.w.heap.size<=(g.w.heap.push o).size;rw[Array.size_push];omega
 block:=fun k hk h=>⟨du _ _ hk,h⟩
 cell:=fun b off x hx hn=>⟨by
  have:=pD hx;simpa[G.cell,G.push,kY (du g.w o this)]using hx,hn⟩
 len:=Nat.le_refl _
 spare:=fun _ m h=>.inl ⟨m,h,Nat.le_refl _⟩
 plain:=fun _ o h k=>⟨⟨o,h,k⟩,rfl⟩
 gone:=fun _ h=>h
 tok:=fun id m h _=>⟨rfl,fun l hl=>du _ _ (hg.loc id l _ hl h trivial)⟩
theorem Good.push{g:G}(hg:Good g)(o:Obj):Good (g.push o) where
 frlt:=fun b off h=>by
  have:=hg.frlt b off h;show b<(g.w.heap.push o).size;rw[Array.size_push];omega
 fk:=hg.fk
 len:=hg.len
 loc:=fun id l o' a b c=>by
  have:=hg.loc id l o' a b c;show l.block<(g.w.heap.push o).size;rw[Array.size_push];omega
 apart:=hg.apart
 cells:=fun id cs h=>by
  obtain⟨l,arr,t,e1,e0,e2,e3,e4,e5⟩:=hg.cells id cs h;exact⟨l,arr,t,e1,e0,(du _ _ (a5 e2)).trans e2,e3,fun j c u a b=>(e4 j c u a b).mono (Le.push g hg o),e5⟩
 spare:=fun id m l a b=>by
  obtain⟨arr,t,e⟩:=hg.spare id m l a b;exact⟨arr,t,(du _ _ (a5 e)).trans e⟩
 map:=fun id kt es h=>by
  obtain⟨l,arr,clk,e1,e0,e2,e3,e6,e4⟩:=hg.map id kt es h;exact⟨l,arr,clk,e1,e0,(du _ _ (a5 e2)).trans e2,e3,e6,fun i e kx a b=>⟨(e4 i e kx a b).1,(e4 i e kx a b).2.1,(e4 i e kx a b).2.2.mono (Le.push g hg o)⟩⟩
def G.add(g:G)(l:Option Loc)(o:ak):G:=⟨g.w,g.fr,g.env++[l],g.objs++[o]⟩
theorem aQ{α:Type}{l:List α}{x:α}{i:Nat}{y:α}(h:(l++[x])[i]?=some y):l[i]?=some y∨(i=l.length∧y=x):=by
 rw[List.getElem?_append]at h;split at h
 ·exact .inl h
 rename_i hh;have:i-l.length<1:=by
  rcases Nat.lt_or_ge (i-l.length) 1 with q|q
  ·exact q
  rw[List.getElem?_eq_none (by simpa using q)]at h;cases h
 have e:i=l.length:=by omega
 subst e;simp at h;exact .inr ⟨rfl,h.symm⟩
theorem cW{α:Type}{l:List α}{x:α}{i:Nat}{y:α}(h:l[i]?=some y):(l++[x])[i]?=some y:=by
 rw[List.getElem?_append,if_pos (I h)];exact h
theorem iM.add{g:G}(hg:Good g){l:Option Loc}{o:ak}{b off:Nat}(h:iM (g.add l o) b off):iM g b off∨∃l',l=some l'∧o.live∧l'.block=b∧l'.lo<=off:=by
 obtain⟨id,l',o',h1,h2,h3,h4,h5⟩:=h;rcases aQ h1 with q1|⟨q1,D6⟩
 ·rcases aQ h2 with q2|⟨q2,CB⟩
  ·exact .inl ⟨id,l',o',q1,q2,h3,h4,h5⟩
  have:=I q1;have:=hg.len;omega
 rcases aQ h2 with q2|⟨q2,CB⟩
 ·have:=I q2;have:=hg.len;omega
 subst CB;exact .inr ⟨l',D6.symm,h3,h4,h5⟩
theorem fM.add{g:G}(hg:Good g){l:Option Loc}{o:ak}{b:Nat}(h:fM (g.add l o) b):fM g b∨∃l',l=some l'∧o.live∧l'.block=b:=by
 obtain⟨id,l',o',h1,h2,h3,h4⟩:=h;rcases iM.add hg ⟨id,l',o',h1,h2,h3,h4,Nat.le_refl _⟩with q|⟨q,q1,q2,q3,_⟩
 ·exact .inl q.block
 exact .inr ⟨q,q1,q2,q3⟩
def kv:Obj->Nat
 | .cells arr _=>arr.size
 | _=>0
def G.alloc(g:G)(ob:Obj)(lo:Nat)(o:ak):G:=⟨g.w.alloc ob,g.fr,g.env++[some ⟨g.w.heap.size,lo,kv ob⟩],g.objs++[o]⟩
def G.mark(g:G)(o:ak):G:=⟨g.w,g.fr,g.env++[none],g.objs++[o]⟩
theorem Le.y4{g g':G}(hg:Good g)(l:Option Loc)(o:ak)(h:Le g g')(he:g'.env=g.env)(ho:g'.objs=g.objs)
  (hn:∀l',l=some l'->g.w.heap.size<=l'.block):Le g (g'.add l o) where
 os:=h.os
 tape:=h.tape
 output:=h.output
 fr:=h.fr
 size:=h.size
 block:=fun k hk hh=>⟨(h.block k hk hh).1,fun q=>by
  obtain⟨id,l',o',h1,h2,h3,h4⟩:=q;rw[show(g'.add l o).env=g.env++[l] by simp[G.add,he]]at h1;rw[show(g'.add l o).objs=g.objs++[o] by simp[G.add,ho]]at h2;rcases fM.add (l:=l) (o:=o) (b:=k) hg ⟨id,l',o',h1,h2,h3,h4⟩with q|⟨l',q1,_,q3⟩
  ·exact hh q
  have:=hn l' q1;omega⟩
 cell:=fun b off x hx hh=>⟨(h.cell b off x hx hh).1,fun q=>by
  obtain⟨id,l',o',h1,h2,h3,h4⟩:=q;rw[show(g'.add l o).env=g.env++[l] by simp[G.add,he]]at h1;rw[show(g'.add l o).objs=g.objs++[o] by simp[G.add,ho]]at h2;have hk:=pD hx;rcases iM.add (l:=l) (o:=o) (b:=b) (off:=off) hg ⟨id,l',o',h1,h2,h3,h4⟩with q|⟨l',q1,_,q3,_⟩
  ·exact hh q
  have:=hn l' q1;omega⟩
 len:=by simp[G.add,ho]
 spare:=fun id m hm=>.inl ⟨m,by simp only[G.add,ho];exact cW hm,Nat.le_refl _⟩
 plain:=fun id o' ic k=>⟨⟨o',by simp only[G.add,ho];exact cW ic,k⟩,by
  have aZ:=I ic;simp only[G.add,he];rw[List.getElem?_append,if_pos (by have:=hg.len;omega)]⟩
 gone:=fun id hm=>by simp only[G.add,ho];exact cW hm
 tok:=fun id m hm _=>⟨by
  have aZ:=I hm;simp only[G.add,he];rw[List.getElem?_append,if_pos (by have:=hg.len;omega)],fun l hl=>(h.tok id m hm (by rw[ho];exact hm)).2 l hl⟩
theorem Le.alloc{g:G}(hg:Good g)(ob:Obj)(lo:Nat)(o:ak):Le g (g.alloc ob lo o) :=
 Le.y4 (g':=g.push ob) hg (some ⟨g.w.heap.size,lo,kv ob⟩) o (Le.push g hg ob) rfl rfl (fun l' h=>by simp at h;subst h;exact Nat.le_refl _)
theorem Le.mark{g:G}(hg:Good g)(o:ak):Le g (g.mark o) :=
 Le.y4 (g':=g) hg none o (Le.refl g) rfl rfl (fun l' h=>by simp at h)
def Fits(g':G)(ob:Obj)(o:ak):Prop :=
 match o with
 | .cells cs=>∃(arr:Array Value) (t:TypeId),ob=.cells arr t (0,0)∧cs.length<=arr.size∧(∀(j:Nat) (c:ae) (u:Value),cs[j]?=some c->arr[j]?=some u->RV g' c u)∧∀c∈cs,c.scalar
 | .spare _=>∃(arr:Array Value) (t:TypeId),ob=.cells arr t (0,0)
 | .map kt es=>∃(arr:Array MapEntry) (clk:Nat),ob=.map arr clk∧arr.size=es.length∧(∀p∈es,kt.ok p.1) ∧
   ∀(i:Nat) (e:MapEntry) (kx:Value×ae),arr[i]?=some e->es[i]?=some kx->e.key=kx.1∧kl kx.1∧RV g' kx.2 e.val
 | .gone=>True
theorem Good.alloc{g:G}(hg:Good g)(ob:Obj)(lo:Nat)(o:ak)(gQ:o.aF∨lo=0)(hf:Fits (g.alloc ob lo o) ob o):Good (g.alloc ob lo o) where
 frlt:=fun b off h=>by
  have:=hg.frlt b off h;show b<(g.w.heap.push ob).size;rw[Array.size_push];omega
 fk:=fun id l o' a b c off hf=>by
  rcases aQ a with a|⟨a,a'⟩
  ·rcases aQ b with b|⟨b,b'⟩
   ·exact hg.fk id l o' a b c off hf
   have:=I a;have:=hg.len;omega
  simp only[Option.some.injEq]at a';subst a';have fg:g.fr g.w.heap.size off:=hf;have:=hg.frlt _ _ fg;omega
 len:=by simp[G.alloc,hg.len]
 loc:=fun id l o' a b c=>by
  show l.block<(g.w.heap.push ob).size;rw[Array.size_push];rcases aQ a with a|⟨a,a'⟩
  ·rcases aQ b with b|⟨b,b'⟩
   ·have:=hg.loc id l o' a b c;omega
   have:=I a;have:=hg.len;omega
  simp only[Option.some.injEq]at a';subst a';show g.w.heap.size<_;omega
 apart:=fun id kD l l' o' G6 a b c a' b' c' hb=>by
  rcases aQ a with a|⟨a1,a2⟩
  ·rcases aQ a' with a'|⟨Iy,F3⟩
   ·rcases aQ b with b|⟨b1,b2⟩
    ·rcases aQ b' with b'|⟨Iz,IA⟩
     ·exact hg.apart id kD l l' o' G6 a b c a' b' c' hb
     have:=I a';have:=hg.len;omega
    have:=I a;have:=hg.len;omega
   simp only[Option.some.injEq]at F3;subst F3;rcases aQ b with b|⟨b1,b2⟩
   ·have:=hg.loc id l o' a b c;simp at hb;omega
   have:=I a;have:=hg.len;omega
  rcases aQ a' with a'|⟨Iy,F3⟩
  ·simp only[Option.some.injEq]at a2;subst a2;rcases aQ b' with b'|⟨Iz,IA⟩
   ·have:=hg.loc kD l' G6 a' b' c';simp at hb;omega
   have:=I a';have:=hg.len;omega
  omega
 cells:=fun id cs h=>by
  rcases aQ h with h|⟨hq,h'⟩
  ·obtain⟨l,arr,t,e1,e0,e2,e3,e4,e5⟩:=hg.cells id cs h;exact⟨l,arr,t,cW e1,e0,(du _ _ (a5 e2)).trans e2,e3,fun j c u a b=>(e4 j c u a b).mono (Le.alloc hg ob lo o),e5⟩
  subst h';obtain⟨arr,t,e1,e2,e3,e4⟩:=hf;refine⟨⟨g.w.heap.size,lo,kv ob⟩,arr,t,?_,?_,?_,e2,e3,e4,by rw[e1];exact Nat.le_refl _⟩
  ·subst hq;simp only[G.alloc];rw[<-hg.len];simp
  ·rcases gQ with q|q
   ·exact q.elim
   exact q
  rw[<-e1];exact dq _ _
 spare:=fun id m l a b=>by
  rcases aQ a with a|⟨a,a'⟩
  ·rcases aQ b with b|⟨b1,b2⟩
   ·obtain⟨arr,t,e⟩:=hg.spare id m l a b;exact⟨arr,t,(du _ _ (a5 e)).trans e⟩
   have:=I a;have:=hg.len;omega
  rcases aQ b with b|⟨b1,b2⟩
  ·have:=I b;have:=hg.len;omega
  subst a';simp only[Option.some.injEq]at b2;subst b2;obtain⟨arr,t,e⟩:=hf;exact⟨arr,t,by rw[<-e];exact dq _ _⟩
 map:=fun id kt es h=>by
  rcases aQ h with h|⟨hq,h'⟩
  ·obtain⟨l,arr,clk,e1,e0,e2,e3,e6,e4⟩:=hg.map id kt es h;exact⟨l,arr,clk,cW e1,e0,(du _ _ (a5 e2)).trans e2,e3,e6,fun i e kx a b=>⟨(e4 i e kx a b).1,(e4 i e kx a b).2.1,(e4 i e kx a b).2.2.mono (Le.alloc hg ob lo o)⟩⟩
  subst h';obtain⟨arr,clk,e1,e2,e3⟩:=hf;refine⟨⟨g.w.heap.size,lo,kv ob⟩,arr,clk,?_,?_,?_,e2,e3⟩
  ·subst hq;simp only[G.alloc];rw[<-hg.len];simp
  ·rcases gQ with q|q
   ·exact q.elim
   exact q
  rw[<-e1];exact dq _ _
theorem Good.mark{g:G}(hg:Good g)(m:Nat):Good (g.mark (.spare m)) where
 frlt:=hg.frlt
 fk:=fun id l o' a b c off hf=>by
  rcases aQ a with a|⟨a,a'⟩
  ·rcases aQ b with b|⟨b,b'⟩
   ·exact hg.fk id l o' a b c off hf
   have:=I a;have:=hg.len;omega
  cases a'
 len:=by simp[G.mark,hg.len]
 loc:=fun id l o' a b c=>by
  rcases aQ a with a|⟨a,a'⟩
  ·rcases aQ b with b|⟨b,b'⟩
   ·exact hg.loc id l o' a b c
   have:=I a;have:=hg.len;omega
  cases a'
 apart:=fun id kD l l' o' G6 a b c a' b' c' hb=>by
  rcases aQ a with a|⟨a1,a2⟩
  ·rcases aQ a' with a'|⟨Iy,F3⟩
   ·rcases aQ b with b|⟨b1,b2⟩
    ·rcases aQ b' with b'|⟨Iz,IA⟩
     ·exact hg.apart id kD l l' o' G6 a b c a' b' c' hb
     have:=I a';have:=hg.len;omega
    have:=I a;have:=hg.len;omega
   cases F3
  cases a2
 cells:=fun id cs h=>by
  rcases aQ h with h|⟨h,h'⟩
  ·obtain⟨l,arr,t,e1,e0,e2,e3,e4,e5⟩:=hg.cells id cs h;exact⟨l,arr,t,cW e1,e0,e2,e3,fun j c u a b=>(e4 j c u a b).mono (Le.mark hg _),e5⟩
  cases h'
 spare:=fun id m' l a b=>by
  rcases aQ b with b|⟨b1,b2⟩
  ·rcases aQ a with a|⟨a,a'⟩
   ·exact hg.spare id m' l a b
   have:=I b;have:=hg.len;omega
  cases b2
 map:=fun id kt es h=>by
  rcases aQ h with h|⟨h,h'⟩
  ·obtain⟨l,arr,clk,e1,e0,e2,e3,e6,e4⟩:=hg.map id kt es h;exact⟨l,arr,clk,cW e1,e0,e2,e3,e6,fun i e kx a b=>⟨(e4 i e kx a b).1,(e4 i e kx a b).2.1,(e4 i e kx a b).2.2.mono (Le.mark hg _)⟩⟩
  cases h'
def G.br(g:G)(id:Nat)(l':Option Loc)(o':ak)(w':World):G:=⟨w',g.fr,g.env.set id l',g.objs.set id o'⟩
structure ku(g:G)(id:Nat)(o:ak)(l':Option Loc)(o':ak)(w':World):Prop where
 obj:g.objs[id]?=some o
 os:w'.os=g.w.os
 tape:w'.tape=g.w.tape
 output:w'.output=g.w.output
 size:g.w.heap.size<=w'.heap.size
 block:∀k,k<g.w.heap.size->(∀l:Loc,g.env[id]?=some (some l)->o.live->l.block≠k)->w'.heap[k]?=g.w.heap[k]?
 cell:∀b off x,g.cell b off=some x->(∀l:Loc,g.env[id]?=some (some l)->o.live->l.block=b->off<l.lo)->w'.cell? ⟨b,off,none⟩=some x
 place:∀l1:Loc,l'=some l1->o'.live->g.w.heap.size<=l1.block∨∃l:Loc,g.env[id]?=some (some l)∧o.live∧l.block=l1.block∧l.lo<=l1.lo
 spare:∀m,o=.spare m->(∃m',o'=.spare m'∧m<m')∨¬o'.aF
 plain:¬o.aF->¬o'.aF∧g.env[id]?=some l'
 gone:o≠.gone
theorem gN{g:G}(hg:Good g){id:Nat}{o:ak}(h:g.objs[id]?=some o):id<g.env.length:=by
 have:=I h;have:=hg.len;omega
theorem iM.br{g:G}{id:Nat}{o:ak}{l':Option Loc}{o':ak}{w':World}(hg:Good g)(ht:ku g id o l' o' w'){b off:Nat}(h:iM (g.br id l' o' w') b off) :
  iM g b off∨g.w.heap.size<=b:=by
 obtain⟨i,l1,o1,h1,h2,h3,h4,h5⟩:=h;simp only[G.br]at h1 h2;by_cases e:id=i
 ·subst e;rw[List.getElem?_set_self (gN hg ht.obj)]at h1;rw[List.getElem?_set_self (I ht.obj)]at h2;simp only[Option.some.injEq]at h1 h2;subst h2;rcases ht.place l1 h1 h3 with q|⟨l,q1,q2,q3,q4⟩
  ·exact .inr (h4 ▸ q)
  exact .inl ⟨id,l,o,q1,ht.obj,q2,q3.trans h4,Nat.le_trans q4 h5⟩
 rw[List.getElem?_set_ne e]at h1 h2;exact .inl ⟨i,l1,o1,h1,h2,h3,h4,h5⟩
theorem fM.br{g:G}{id:Nat}{o:ak}{l':Option Loc}{o':ak}{w':World}(hg:Good g)(ht:ku g id o l' o' w'){b:Nat}(h:fM (g.br id l' o' w') b) :
  fM g b∨g.w.heap.size<=b:=by
 obtain⟨i,l1,o1,h1,h2,h3,h4⟩:=h;rcases iM.br hg ht ⟨i,l1,o1,h1,h2,h3,h4,Nat.le_refl _⟩with q|q
 ·exact .inl q.block
 exact .inr q
theorem Le.br{g:G}{id:Nat}{o:ak}{l':Option Loc}{o':ak}{w':World}(hg:Good g)(ht:ku g id o l' o' w'):Le g (g.br id l' o' w') where
 os:=ht.os
 tape:=ht.tape
 output:=ht.output
 fr:=rfl
 size:=ht.size
 block:=fun k hk hn=>⟨ht.block k hk fun l hl j8 e=>hn ⟨id,l,o,hl,ht.obj,j8,e⟩,fun hh=>by
  rcases fM.br hg ht hh with q|q
  ·exact hn q
  omega⟩
 cell:=fun b off x hx hn=>⟨ht.cell b off x hx fun l hl j8 e=>by
   rcases Nat.lt_or_ge off l.lo with q|q
   ·exact q
   exact absurd ⟨id,l,o,hl,ht.obj,j8,e,q⟩ hn,fun hh=>by
  rcases iM.br hg ht hh with q|q
  ·exact hn q
  have:=pD hx;omega⟩
 len:=by simp[G.br]
 spare:=fun i m hm=>by
  by_cases e:id=i
  ·subst e;have fm:=hm.symm.trans ht.obj;simp only[Option.some.injEq]at fm;rcases ht.spare m fm.symm with⟨m',q1,q2⟩|q1
   ·exact .inl ⟨m',by simp only[G.br];rw[List.getElem?_set_self (I ht.obj),q1],by omega⟩
   exact .inr ⟨o',by simp only[G.br];rw[List.getElem?_set_self (I ht.obj)],q1⟩
  exact .inl ⟨m,by simp only[G.br];rw[List.getElem?_set_ne e];exact hm,Nat.le_refl _⟩
 plain:=fun i o1 ho hn=>by
  by_cases e:id=i
  ·subst e;have ic:=ho.symm.trans ht.obj;simp only[Option.some.injEq]at ic;subst ic;obtain⟨q1,q2⟩:=ht.plain hn;exact⟨⟨o',by simp only[G.br];rw[List.getElem?_set_self (I ht.obj)],q1⟩,by simp only[G.br];rw[List.getElem?_set_self (gN hg ht.obj),q2]⟩
  exact⟨⟨o1,by simp only[G.br];rw[List.getElem?_set_ne e];exact ho,hn⟩,by simp only[G.br];rw[List.getElem?_set_ne e]⟩
 gone:=fun i hi=>by
  by_cases e:id=i
  ·subst e;have:=hi.symm.trans ht.obj;simp only[Option.some.injEq]at this;exact absurd this.symm ht.gone
  simp only[G.br];rw[List.getElem?_set_ne e];exact hi
 tok:=fun i m hm fm=>by
  by_cases e:id=i
  ·subst e;have h1:=hm.symm.trans ht.obj;simp only[Option.some.injEq]at h1;simp only[G.br]at fm;rw[List.getElem?_set_self (I ht.obj)]at fm;simp only[Option.some.injEq]at fm;rcases ht.spare m h1.symm with⟨m',q1,q2⟩|q1
   ·rw[q1]at fm;simp only[ak.spare.injEq]at fm;omega
   exact absurd (fm ▸ trivial) q1
  refine⟨by simp only[G.br];rw[List.getElem?_set_ne e],fun l hl=>ht.block _ (hg.loc i l _ hl hm trivial) fun l1 DN j8 eb=>?_⟩;exact e (hg.apart id i l1 l o _ DN ht.obj j8 hl hm trivial eb)
def Eb(g':G)(l':Option Loc)(o:ak):Prop :=
 match o with
 | .cells cs=>∃(l:Loc) (arr:Array Value) (t:TypeId),l'=some l∧l.lo=0∧g'.w.heap[l.block]?=some (.cells arr t (0,0))∧cs.length<=arr.size ∧
   (∀(j:Nat) (c:ae) (u:Value),cs[j]?=some c->arr[j]?=some u->RV g' c u)∧(∀c∈cs,c.scalar)∧l.sz<=arr.size
 | .spare _=>∀l,l'=some l->∃(arr:Array Value) (t:TypeId),g'.w.heap[l.block]?=some (.cells arr t (0,0))
 | .map kt es=>∃(l:Loc) (arr:Array MapEntry) (clk:Nat),l'=some l∧l.lo=0∧g'.w.heap[l.block]?=some (.map arr clk)∧arr.size=es.length∧(∀p∈es,kt.ok p.1) ∧
   ∀(i:Nat) (e:MapEntry) (kx:Value×ae),arr[i]?=some e->es[i]?=some kx->e.key=kx.1∧kl kx.1∧RV g' kx.2 e.val
 | .gone=>True
theorem Good.br{g:G}{id:Nat}{o:ak}{l':Option Loc}{o':ak}{w':World}(hg:Good g)(ht:ku g id o l' o' w')(hf:Eb (g.br id l' o' w') l' o')
  (cU:∀l1,l'=some l1->o'.live->l1.block<w'.heap.size):Good (g.br id l' o' w'):=by
 have hle:=Le.br hg ht;have uz:∀i l1,i≠id->(g.br id l' o' w').env[i]?=some (some l1)->g.env[i]?=some (some l1):=fun i l1 cj h=>by
  simp only[G.br]at h
  rwa [List.getElem?_set_ne (Ne.symm cj)]at h
 have gd:∀i o1,i≠id->(g.br id l' o' w').objs[i]?=some o1->g.objs[i]?=some o1:=fun i l1 cj h=>by
  simp only[G.br]at h
  rwa [List.getElem?_set_ne (Ne.symm cj)]at h
 have uA:∀l1,(g.br id l' o' w').env[id]?=some l1->l'=l1:=fun l1 h=>by
  simp only[G.br]at h;rw[List.getElem?_set_self (gN hg ht.obj)]at h;simpa using h
 have qv:∀o1,(g.br id l' o' w').objs[id]?=some o1->o'=o1:=fun l1 h=>by
  simp only[G.br]at h;rw[List.getElem?_set_self (I ht.obj)]at h;simpa using h
 have sM:∀i l1 o1,i≠id->g.env[i]?=some (some l1)->g.objs[i]?=some o1->o1.live->w'.heap[l1.block]?=g.w.heap[l1.block]?:=fun i l1 o1 cj h1 h2 h3 =>
  ht.block _ (hg.loc i l1 o1 h1 h2 h3) fun l2 uE j8 eb=>cj (hg.apart id i l2 l1 o o1 uE ht.obj j8 h1 h2 h3 eb).symm
 refine⟨fun b off h=>Nat.lt_of_lt_of_le (hg.frlt b off h) ht.size,?_,?_,?_,?_,?_,?_,?_⟩
 ·intro i l1 o1 h1 h2 h3 off GH;have kr:g.fr l1.block off:=GH;by_cases e:i=id
  ·subst e;have q1:=uA _ h1;have q2:=qv _ h2;subst q2;rcases ht.place l1 q1 h3 with q|⟨l,p1,p2,p3,_⟩
   ·have:=hg.frlt _ _ kr;omega
   exact hg.fk i l o p1 ht.obj p2 off (p3 ▸ kr)
  exact hg.fk i l1 o1 (uz i l1 e h1) (gd i o1 e h2) h3 off kr
 ·simp[G.br,hg.len]
 ·intro i l1 o1 h1 h2 h3;by_cases e:i=id
  ·subst e;have:=uA _ h1;have:=qv _ h2;subst this;exact cU l1 (by assumption) h3
  have:=hg.loc i l1 o1 (uz i l1 e h1) (gd i o1 e h2) h3;exact Nat.lt_of_lt_of_le this ht.size
 ·intro i j l1 l2 o1 o2 h1 h2 h3 k1 k2 k3 hb;by_cases e:i=id
  ·by_cases e':j=id
   ·omega
   subst e;have q1:=uA _ h1;have q2:=qv _ h2;subst q2;have r1:=uz j l2 e' k1;have r2:=gd j o2 e' k2;rcases ht.place l1 q1 h3 with q|⟨l,p1,p2,p3,_⟩
   ·have:=hg.loc j l2 o2 r1 r2 k3;omega
   exact hg.apart i j l l2 o o2 p1 ht.obj p2 r1 r2 k3 (p3.trans hb)
  by_cases e':j=id
  ·subst e';have q1:=uA _ k1;have q2:=qv _ k2;subst q2;have r1:=uz i l1 e h1;have r2:=gd i o1 e h2;rcases ht.place l2 q1 k3 with q|⟨l,p1,p2,p3,_⟩
   ·have:=hg.loc i l1 o1 r1 r2 h3;omega
   exact hg.apart i j l1 l o1 o r1 r2 h3 p1 ht.obj p2 (hb.trans p3.symm)
  exact hg.apart i j l1 l2 o1 o2 (uz i l1 e h1) (gd i o1 e h2) h3 (uz j l2 e' k1) (gd j o2 e' k2) k3 hb
 ·intro i cs h;by_cases e:i=id
  ·subst e;have q:=qv _ h;subst q;obtain⟨l,arr,t,p1,p2,p3,p4,p5,p6⟩:=hf;exact⟨l,arr,t,by simp only[G.br];rw[List.getElem?_set_self (gN hg ht.obj),p1],p2,p3,p4,p5,p6⟩
  obtain⟨l,arr,t,p1,p2,p3,p4,p5,p6⟩:=hg.cells i cs (gd i _ e h);exact⟨l,arr,t,by simp only[G.br];rw[List.getElem?_set_ne (Ne.symm e)];exact p1,p2,(sM i l _ e p1 (gd i _ e h) trivial).trans p3,p4,fun j c u a b=>(p5 j c u a b).mono hle,p6⟩
 ·intro i m l1 h h1;by_cases e:i=id
  ·subst e;have q:=qv _ h;subst q;exact hf l1 (uA _ h1)
  obtain⟨arr,t,p⟩:=hg.spare i m l1 (gd i _ e h) (uz i l1 e h1);exact⟨arr,t,(sM i l1 _ e (uz i l1 e h1) (gd i _ e h) trivial).trans p⟩
 intro i kt es h;by_cases e:i=id
 ·subst e;have q:=qv _ h;subst q;obtain⟨l,arr,clk,p1,p2,p3,p4,p6,p5⟩:=hf;exact⟨l,arr,clk,by simp only[G.br];rw[List.getElem?_set_self (gN hg ht.obj),p1],p2,p3,p4,p6,p5⟩
 obtain⟨l,arr,clk,p1,p2,p3,p4,p6,p5⟩:=hg.map i kt es (gd i _ e h);exact⟨l,arr,clk,by simp only[G.br];rw[List.getElem?_set_ne (Ne.symm e)];exact p1,p2,(sM i l _ e p1 (gd i _ e h) trivial).trans p3,p4,p6,fun j e kx a b=>⟨(p5 j e kx a b).1,(p5 j e kx a b).2.1,(p5 j e kx a b).2.2.mono hle⟩⟩
end Go.Av
namespace Go.Av
inductive TD where
 | other
 | struct (fs:List (Nat×TypeId))
 | slice (e:TypeId)
 | array (n:Nat) (e:TypeId)
 | map (k e:TypeId)
structure cr where
 size:Nat
 bytes:Nat
 zero:List ae
 desc:TD
def TD.agg:TD->Bool
 | .struct _ | .array _ _=>true
 | _=>false
def oC(d:TypeDesc):TD->Prop
 | .struct fs=>∃fields:Array Field,d=.struct fields∧fields.toList.map (fun f=>(f.offset,f.type))=fs
 | .slice e=>d=.slice e
 | .array n e=>d=.array n e
 | .map k e=>d=.map k e
 | .other=>(match d with | .struct _=>False | .array _ _=>False | _=>True)
structure xm(P:Program)(t:TypeId)(ti:cr):Prop where
 info:∃(i:TypeInfo) (z:Value),P.info? t=some i∧i.size=ti.size∧i.bytes=ti.bytes∧i.zero=some z∧z.cells.size=ti.zero.length∧ti.zero.length=ti.size ∧
  ((ti.desc.agg=true->∃cs,z=.agg cs)∧(ti.desc.agg=false->z.cells = #[z]))∧(∀g:G,∀(j:Nat) (c:ae) (u:Value),ti.zero[j]?=some c->z.cells[j]?=some u->RV g c u)∧∀c∈ti.zero,c.scalar
 desc:∃d,P.underlying t=some d∧oC d ti.desc
abbrev eo:=TypeId->Option cr
def cb(P:Program)(aW:eo):Prop:=∀t ti,aW t=some ti->xm P t ti
def BA:IntKind->Int
 | .i8=>-128
 | .i16=>-32768
 | .i32=>-2147483648
 | .i64=>-9223372036854775808
 | _=>0
def yd:IntKind->Int
 | .i8=>127
 | .i16=>32767
 | .i32=>2147483647
 | .i64=>9223372036854775807
 | .u8=>255
 | .u16=>65535
 | .u32=>4294967295
 | .u64=>18446744073709551615
theorem sX(k:IntKind):BA k=k.min:=by cases k<;>rfl
theorem sO(k:IntKind):yd k=k.max:=by cases k<;>rfl
def ot:Value->Option ae
 | .int k n=>if BA k<=n∧n<=yd k then some (.v (.int k n))else none
 | .agg _=>none
 | .tuple _=>none
 | x=>some (.v x)
def St.ev(σ:St):Operand->Option ae
 | .tmp t=>σ.get t
 | .const x=>ot x
 | .func f=>some (.fn (.func f) [] [])
 | .global _=>none
theorem Rel.eval{base:G}{σ:St}{a:Act}{g:G}(h:Rel base σ a g){x:Operand}{y:ae}(hx:σ.ev x=some y):RV g y (a.eval x):=by
 cases x with
 | tmp t =>
  obtain⟨u,h1,h2⟩:=h.slot t y hx;have:a.eval (.tmp t)=u:=by simp[Act.eval,Array.getD_eq_getD_getElem?,h1]
  rw[this];exact h2
 | const v =>
  simp only[St.ev]at hx;unfold ot at hx;split at hx
  ·split at hx
   ·rename_i hh;simp only[Option.some.injEq]at hx;subst hx;rw[sX,sO]at hh;exact .v hh
   cases hx
  ·cases hx
  ·cases hx
  rename_i h1 h2 h3;simp only[Option.some.injEq]at hx;subst hx;refine .v ?_;unfold kl;split
  ·rename_i k n;exact absurd rfl (h1 k n)
  ·rename_i cs;exact absurd rfl (h2 cs)
  ·rename_i vs;exact absurd rfl (h3 vs)
  trivial
 | func f =>
  simp only[St.ev,Option.some.injEq]at hx;subst hx;exact .fn rfl rfl (by simp) (by simp)
 | global _=>cases hx
inductive Mode where
 | pure
 | read
 | rd (id:Nat)
 | write (O:List ak)
 | wr (n:Nat) (l:List Nat) (O:List ak)
 | new (id:Nat) (o:ak)
def Mode.post(m:Mode)(O:List ak):List ak :=
 match m with
 | .write O'=>O'
 | .wr _ _ O'=>O'
 | .new id o=>O.set id o
 | _=>O
def Mode.ly(m:Mode)(O O0:List ak):Prop :=
 match m with
 | .pure=>True
 | .rd id=>O[id]?=O0[id]?
 | .new id _=>O[id]?=O0[id]?
 | _=>O=O0
def Mode.ok(m:Mode)(O:List ak):Prop :=
 match m with
 | .wr n l O'=>∀i,i<n->i ∉ l->O'[i]?=O[i]?
 | _=>True
theorem Mode.np{m:Mode}{O O0:List ak}(h:m=.pure∨O=O0):m.ly O O0:=by
 rcases h with h|h
 ·subst h;trivial
 subst h;cases m<;>first|trivial|rfl
def nc(d:Option Nat)(r:ae)(l:List (Nat×ae)):List (Nat×ae) :=
 match d with
 | some d=>bu d r l
 | none=>l
def Cert(P:Program)(o:Oper)(mK:St)(r:ae)(m:Mode):Prop :=
 m.ok mK.objs∧∀(base:G) (σ:St) (a:Act) (g:G),Rel base σ a g->σ.n=mK.n->(∀x∈o.op.operands,∀y,mK.ev x=some y->σ.ev x=some y)->m.ly σ.objs mK.objs ->
  ∀(K:Act->World->Prop) (Q:Exit->Act->World->Prop),(∀u g',Rel base ⟨σ.n,nc o.dst r σ.ba,m.post σ.objs⟩ (a.put o.dst u) g'->K (a.put o.dst u) g'.w)->o.wp P a g.w K Q
theorem Cert.xI{P:Program}{o:Oper}{mK:St}{r:ae}{m:Mode}(jJ:m.ok mK.objs)(hd:∀d,o.dst=some d->d<mK.n)
  (h:∀(base:G) (σ:St) (a:Act) (g:G),Rel base σ a g->(∀x∈o.op.operands,∀y,mK.ev x=some y->RV g y (a.eval x))->m.ly g.objs mK.objs ->
   ∃u g',((execOp a.eval o).run P g.w=.ok (.value u) g'.w∨(o.dst=none∧(execOp a.eval o).run P g.w=.ok .skip g'.w))∧Le g g'∧Good g'∧g'.objs=m.post g.objs∧RV g' r u):Cert P o mK r m:=by
 refine⟨jJ,?_⟩;intro base σ a g bM hn mO hm K Q hK;obtain⟨u,g',bz,hle,c7,GR,pA⟩:=h base σ a g bM (fun x hx y hy=>bM.eval (mO x hx y hy)) (by rw[bM.objs];exact hm);have key:Rel base ⟨σ.n,nc o.dst r σ.ba,m.post σ.objs⟩ (a.put o.dst u) g':=by
  have e:g'.objs=m.post σ.objs:=by rw[GR,bM.objs]
  cases jo:o.dst with
  | none =>
   have:=bM.step hle c7;rw[e]at this;exact this
  | some d =>
   have:=bM.put hle c7 (d:=d) (by rw[hn];exact hd d jo) pA;rw[e]at this;exact this
 unfold Oper.wp;rcases bz with bz|⟨mP,bz⟩
 ·rw[bz,Oper.upon_value];exact hK u g' key
 rw[bz,Oper.upon_skip];have:=hK u g' key;rw[mP]at this ⊢;exact this
def Mode.plain:Mode->Prop
 | .rd _=>False
 | .wr _ _ _=>False
 | .new _ _=>False
 | _=>True
theorem Mode.uU{m:Mode}(hp:m.plain){O O0:List ak}(h:m.ly O O0):m=.pure∨O=O0:=by
 cases m<;>first|exact .inl rfl|exact .inr h|exact hp.elim
theorem Cert.gu{P:Program}{o:Oper}{mK:St}{r:ae}{m:Mode}(hd:∀d,o.dst=some d->d<mK.n)
  (h:∀(base:G) (σ:St) (a:Act) (g:G),Rel base σ a g->(∀x∈o.op.operands,∀y,mK.ev x=some y->RV g y (a.eval x))->(m=.pure∨g.objs=mK.objs) ->
   ∃u g',((execOp a.eval o).run P g.w=.ok (.value u) g'.w∨(o.dst=none∧(execOp a.eval o).run P g.w=.ok .skip g'.w))∧Le g g'∧Good g'∧g'.objs=m.post g.objs∧RV g' r u) (hp:m.plain:=by trivial):Cert P o mK r m :=
 Cert.xI (by cases m<;>first|trivial|exact hp.elim) hd fun base σ a g bM mO hm=>h base σ a g bM mO (m.uU hp hm)
theorem Cert.close{P:Program}{o:Oper}{mK:St}{r:ae}{O':List ak}(h:Cert P o mK r (.write O')){n:Nat}{l:List Nat}(hk:∀i,i<n->i ∉ l->O'[i]?=mK.objs[i]?):Cert P o mK r (.wr n l O'):=⟨hk,h.2⟩
theorem Cert.bQ{P:Program}{o:Oper}{mK:St}{r:ae}(m:Mode)(hm:m=.pure∨m=.read)(hd:∀d,o.dst=some d->d<mK.n)
  (h:∀(a:Act) (g:G),Good g->(∀x∈o.op.operands,∀y,mK.ev x=some y->RV g y (a.eval x))->(m=.pure∨g.objs=mK.objs) ->
   ∃u,(execOp a.eval o).run P g.w=.ok (.value u) g.w∧RV g r u):Cert P o mK r m :=
 Cert.gu (hp:=by rcases hm with hm|hm<;>subst hm<;>trivial) hd fun base σ a g bM mO ho=>by
  obtain⟨u,h1,h2⟩:=h a g bM.good mO ho;refine⟨u,g,.inl h1,Le.refl g,bM.good,?_,h2⟩;rcases hm with hm|hm<;>subst hm<;>rfl
theorem Cert.E9{P:Program}{o:Oper}{mK:St}{r:ae}{id:Nat}(hd:∀d,o.dst=some d->d<mK.n)
  (h:∀(a:Act) (g:G),Good g->(∀x∈o.op.operands,∀y,mK.ev x=some y->RV g y (a.eval x))->g.objs[id]?=mK.objs[id]? ->
   ∃u,(execOp a.eval o).run P g.w=.ok (.value u) g.w∧RV g r u):Cert P o mK r (.rd id) :=
 Cert.xI trivial hd fun base σ a g bM mO ho=>by
  obtain⟨u,h1,h2⟩:=h a g bM.good mO ho;exact⟨u,g,.inl h1,Le.refl g,bM.good,rfl,h2⟩
theorem addr_add(b off j:Nat):(⟨b,off,none⟩:Addr).add j=⟨b,off+j,none⟩:=by
 unfold Addr.add;split
 ·rename_i h;subst h;rfl
 rfl
section
variable {P:Program} {t:TypeId} {ti:cr}
theorem xm.sizeOf(h:xm P t ti)(w:World):(Go.sizeOf t).run P w=.ok ti.size w:=by
 obtain⟨⟨i,z,h1,h2,_⟩,_⟩:=h;simp[Go.sizeOf,typeInfo,h1,h2]
theorem xm.isAgg(h:xm P t ti)(w:World):(Go.isAgg t).run P w=.ok ti.desc.agg w:=by
 obtain⟨_,d,h1,h2⟩:=h;simp only[Go.isAgg,Go.underlying,Sem.run_bind,run_program,Result.andThen_ok,h1];cases hd:ti.desc<;>rw[hd]at h2<;>simp only[oC]at h2
 ·cases d<;>simp_all [TD.agg]
 ·obtain⟨fs,h3,_⟩:=h2;subst h3;simp[TD.agg]
 ·subst h2;simp[TD.agg]
 ·subst h2;simp[TD.agg]
 subst h2;simp[TD.agg]
theorem xm.zeroValue(h:xm P t ti):∃z,(∀w,(Go.zeroValue t).run P w=.ok z w)∧z.cells.size=ti.zero.length∧ti.zero.length=ti.size∧(ti.desc.agg=true->∃cs,z=.agg cs) ∧
  (∀g:G,∀(j:Nat) (c:ae) (u:Value),ti.zero[j]?=some c->z.cells[j]?=some u->RV g c u)∧∀c∈ti.zero,c.scalar:=by
 obtain⟨⟨i,z,h1,h2,h3,h4,h5,h6,h7,h8,h9⟩,_⟩:=h;exact⟨z,fun w=>by simp[Go.zeroValue,typeInfo,h1,h4],h5,h6,h7.1,h8,h9⟩
theorem xm.lX(h:xm P t ti)(eQ:ti.desc.agg=true)(w:World)(b off:Nat)(f:Nat->Value)(hc:∀j,j<ti.size->w.cell? ⟨b,off+j,none⟩=some (f j)) :
  (loadVar t ⟨b,off,none⟩).run P w=.ok (.agg ((List.range ti.size).map f).toArray) w:=by
 have hl:=run_loadCells (P:=P) w ⟨b,off,none⟩ ti.size f (fun j hj=>by rw[addr_add];exact hc j hj);simp[loadVar,h.isAgg,h.sizeOf,eQ,hl]
theorem xm.lb(h:xm P t ti)(eQ:ti.desc.agg=false)(w:World)(a:Addr)(u:Value)(hc:w.cell? a=some u):(loadVar t a).run P w=.ok u w:=by
 simp[loadVar,h.isAgg,eQ,hc]
end
theorem lx(k:IntKind)(n:Int)(h1:k.min<=n)(h2:n<=k.max):k.wrap n=n:=by
 cases k<;>simp[IntKind.min,IntKind.max,IntKind.wrap,IntKind.bits,IntKind.signed]at *<;>omega
theorem RV.fD{g:G}{x:ae}{u:Value}(h:RV g x u)(hs:x.scalar):u.oneCell'=true∧u.cells = #[u]:=by
 cases h with
 | v hx =>
  cases u<;>simp[kl]at hx<;>simp[Value.oneCell',Value.cells]
 | agg=>exact hs.elim
 | df=>exact hs.elim
 | nil=>simp[Value.oneCell',Value.cells]
 | aE=>simp[Value.oneCell',Value.cells]
 | ip=>simp[Value.oneCell',Value.cells]
 | mp=>simp[Value.oneCell',Value.cells]
 | ms=>simp[Value.oneCell',Value.cells]
 | os=>simp[Value.oneCell',Value.cells]
 | raw=>simp[Value.oneCell',Value.cells]
 | mm=>simp[Value.oneCell',Value.cells]
 | im=>simp[Value.oneCell',Value.cells]
 | fn=>simp[Value.oneCell',Value.cells]
theorem RV.cells{g:G}{x:ae}{u:Value}(h:RV g x u)(hs:∀c∈x.cells,c.scalar):u.cells.size=x.cells.length∧∀(j:Nat) (c:ae) (e:Value),x.cells[j]?=some c->u.cells[j]?=some e->RV g c e:=by
 by_cases hx:x.scalar
 ·have:=(h.fD hx).2;have hc:x.cells=[x]:=by
   cases x<;>simp[ae.scalar]at hx<;>rfl
  rw[this,hc];refine⟨rfl,fun j c e h1 h2=>?_⟩
  match j,h1,h2 with
  | 0,h1,h2 =>
   simp at h1 h2;subst h1;subst h2;exact h
 cases h with
 | agg hl dz hh=>exact⟨hl,hh⟩
 | df=>exact absurd (hs _ (List.mem_singleton.2 rfl)) (by simp[ae.scalar])
 | _=>exact absurd trivial hx
theorem kn{α:Type}(l:List α)(n:Nat)(f:Nat->α)(hn:l.length=n)(h:∀j,j<n->l[j]?=some (f j)):(List.range n).map f=l:=by
 apply List.ext_getElem?;intro i;rcases Nat.lt_or_ge i n with hi|hi
 ·rw[h i hi];simp[hi]
 rw[List.getElem?_eq_none (by simpa using hi),List.getElem?_eq_none (by omega)]
theorem RV.ofRow{g:G}(cs:List ae)(f:Nat->Value)(dz:∀c∈cs,c.scalar)(hr:∀(j:Nat)(c:ae),cs[j]?=some c->RV g c (f j)):RV g (.agg cs) (.agg ((List.range cs.length).map f).toArray) :=
 .agg (by simp) dz fun i c u h1 h2=>by
  have hi:=I h1;simp[hi]at h2;subst h2;exact hr i c h1
theorem RV.cq{g:G}{x u:Value}(h:RV g (.v x) u):u=x∧kl x:=by
 cases h with
 | v h=>exact⟨rfl,h⟩
theorem RV.m9{g:G}{oa:Option Addr}{cs:List ae}{u:Value}(h:RV g (.ip oa cs) u):∃(b off:Nat) (f:Nat->Value),u=.pointer (some ⟨b,off,none⟩)∧(oa=none∨oa=some ⟨b,off,none⟩)∧(∀c∈cs,c.scalar) ∧
  (∀(j:Nat) (c:ae),cs[j]?=some c->g.cell b (off+j)=some (f j)∧¬jT g b (off+j))∧∀(j:Nat) (c:ae),cs[j]?=some c->RV g c (f j):=by
 cases h with
 | ip ha dz f hm hr=>exact⟨_,_,f,rfl,ha,dz,hm,hr⟩
theorem RV.lj{g:G}{id off:Nat}{u:Value}(h:RV g (.mp id off) u):∃(l:Loc) (o:ak),g.env[id]?=some (some l)∧g.objs[id]?=some o∧¬o.aF∧u=.pointer (some ⟨l.block,off,none⟩):=by
 cases h with
 | mp he ho hn=>exact⟨_,_,he,ho,hn,rfl⟩
theorem RV.jL{g:G}{id off len cap:Nat}{u:Value}(h:RV g (.ms id off len cap) u):∃(l:Loc) (o:ak),g.env[id]?=some (some l)∧g.objs[id]?=some o∧¬o.aF∧len<=cap∧len<=2 ^ 62∧∃ez,cap<=ez∧u=.slice (some ⟨l.block,off,none⟩) len ez:=by
 cases h with
 | ms he ho hn hc lJ cF=>exact⟨_,_,he,ho,hn,hc,cF,_,lJ,rfl⟩
theorem RV.oN{g:G}{id len sz:Nat}{u:Value}(h:RV g (.os id len sz) u):∃(l:Loc) (o:ak) (cap:Nat),g.env[id]?=some (some l)∧g.objs[id]?=some o∧¬o.aF∧len<=cap∧cap*sz<=l.sz∧len<=2 ^ 62∧u=.slice (some ⟨l.block,0,none⟩) len cap:=by
 cases h with
 | os he ho hn hc hb cF=>exact⟨_,_,_,he,ho,hn,hc,hb,cF,rfl⟩
theorem RV.CC{g:G}{sz n id:Nat}{u:Value}(h:RV g (.raw sz n id) u):∃(a:Addr) (cap:Nat),u=.slice (some a) n cap∧n<=cap∧oS g (.tok id) a sz 0 cap:=by
 cases h with
 | raw hn ho=>exact⟨_,_,rfl,hn,ho⟩
theorem RV.wN{g:G}{id:Nat}{u:Value}(h:RV g (.mm id) u):∃(l:Loc) (o:ak),g.env[id]?=some (some l)∧g.objs[id]?=some o∧¬o.aF∧u=.map (some l.block):=by
 cases h with
 | mm he ho hn=>exact⟨_,_,he,ho,hn,rfl⟩
theorem RV.sl{g:G}{cs:List ae}{u:Value}(h:RV g (.agg cs) u):∃vs:Array Value,u=.agg vs∧vs.size=cs.length∧(∀c∈cs,c.scalar)∧∀(i:Nat) (c:ae) (e:Value),cs[i]?=some c->vs[i]?=some e->RV g c e:=by
 cases h with
 | agg hl dz h=>exact⟨_,rfl,hl,dz,h⟩
theorem RV.DB{g:G}{cs:List ae}{u:Value}(h:RV g (.df cs) u):∃vs:Array Value,u=.tuple vs∧vs.size=cs.length∧∀(i:Nat) (c:ae) (e:Value),cs[i]?=some c->vs[i]?=some e->RV g c e:=by
 cases h with
 | df hl h=>exact⟨_,rfl,hl,h⟩
theorem RV.zS{g:G}{f:Fn}{fs cs:List ae}{u:Value}(h:RV g (.fn f fs cs) u):∃us vs:Array Value,u=.func f us vs∧us.size=fs.length∧vs.size=cs.length ∧
  (∀(i:Nat) (c:ae) (e:Value),fs[i]?=some c->us[i]?=some e->RV g c e)∧∀(i:Nat) (c:ae) (e:Value),cs[i]?=some c->vs[i]?=some e->RV g c e:=by
 cases h with
 | fn hl q8 h h'=>exact⟨_,_,rfl,hl,q8,h,h'⟩
theorem RV.E7{g:G}{kt:KT}{es:List (Value×ae)}{u:Value}(h:RV g (.im kt es) u):∃(r clk:Nat) (arr:Array MapEntry),u=.map (some r)∧g.w.heap[r]?=some (.map arr clk)∧arr.size=es.length ∧
  (∀(i:Nat) (e:MapEntry) (kx:Value×ae),arr[i]?=some e->es[i]?=some kx->e.key=kx.1)∧(∀p∈es,kt.ok p.1)∧∀(i:Nat) (e:MapEntry) (kx:Value×ae),arr[i]?=some e->es[i]?=some kx->RV g kx.2 e.val:=by
 cases h with
 | im hh hn hl hk rA hr=>exact⟨_,_,_,rfl,hh,hl,hk,rA,hr⟩
theorem RV.eT{g:G}{sz:Nat}{xs:List ae}{o:kP}{u:Value}(h:RV g (.aE sz xs o) u) :
  (u=.slice none 0 0∧xs=[])∨∃(a:Addr) (cap:Nat) (f:Nat->Value),u=.slice (some a) xs.length cap∧(∀x∈xs,x.cells.length=sz)∧(∀x∈xs,∀c∈x.cells,c.scalar)∧xs.length<=cap∧xs.length<=2 ^ 62∧(xs≠[]->a.spot=none) ∧
   (∀(j:Nat) (c:ae),(ao xs)[j]?=some c->g.cell a.block (a.off+j)=some (f j)∧¬jT g a.block (a.off+j))∧(∀(j:Nat) (c:ae),(ao xs)[j]?=some c->RV g c (f j))∧oS g o a sz xs.length cap:=by
 cases h with
 | nil=>exact .inl ⟨rfl,rfl⟩
 | aE cU dz cQ cF hs f hm hr ho=>exact .inr ⟨_,_,f,rfl,cU,dz,cQ,cF,hs,hm,hr,ho⟩
theorem RV.xG{g:G}{sz:Nat}{xs:List ae}{o:kP}{u:Value}(h:RV g (.aE sz xs o) u):xs.length<=2 ^ 62:=by
 rcases h.eT with⟨_,h⟩|⟨_,_,_,_,_,_,_,h,_⟩
 ·subst h;simp
 exact h
theorem RV.js{g:G}{sz:Nat}{xs:List ae}{o:kP}{u:Value}(h:RV g (.aE sz xs o) u):RV g (.aE sz xs .sh) u:=by
 cases h with
 | nil=>exact .nil (fun id e=>by cases e) (by simp)
 | aE cU dz cQ cF hs f hm hr ho=>exact .aE cU dz cQ cF hs f hm hr trivial
theorem j5{sz:Nat}{xs:List ae}(cU:∀x∈xs,x.cells.length=sz){i j:Nat}{x c:ae}(hx:xs[i]?=some x)(hc:x.cells[j]?=some c):(ao xs)[i*sz+j]?=some c:=by
 induction xs generalizing i with
 | nil=>simp at hx
 | cons y ys ih =>
  have hy:=cU y (by simp);cases i with
  | zero =>
   simp at hx;subst hx;simp only[ao,List.flatMap_cons,Nat.zero_mul,Nat.zero_add];rw[List.getElem?_append,if_pos (I hc)];exact hc
  | succ i =>
   simp at hx;have:=ih (fun x hx=>cU x (by simp[hx])) hx;simp only[ao,List.flatMap_cons]at this ⊢;rw[List.getElem?_append,if_neg (by rw[hy,Nat.succ_mul];omega),hy];rw[show(i+1)*sz+j-sz=i*sz+j by rw[Nat.succ_mul];omega];exact this
theorem bO{sz:Nat}{xs:List ae}(cU:∀x∈xs,x.cells.length=sz):(ao xs).length=xs.length*sz:=by
 induction xs with
 | nil=>simp[ao]
 | cons y ys ih =>
  have hy:=cU y (by simp);have:=ih (fun x hx=>cU x (by simp[hx]));simp only[ao,List.flatMap_cons,List.length_append,List.length_cons]at this ⊢;rw[this,hy,Nat.succ_mul];omega
theorem xV{P:Program}{o:Oper}{σ:St}{x:Operand}{y:ae}(ho:o.op=.move x∨o.op=.assign x)(hd:∀d,o.dst=some d->d<σ.n)(hx:σ.ev x=some y):Cert P o σ y .pure :=
 Cert.bQ .pure (.inl rfl) hd fun a g _ h _=>⟨a.eval x,by rcases ho with ho|ho<;>simp[execOp,ho],h x (by rcases ho with ho|ho<;>simp[ho,Op.operands]) y hx⟩
theorem zy{P:Program}{o:Oper}{σ:St}(sz:Nat)(ho:o.op=.move (.const (.slice none 0 0))∨o.op=.assign (.const (.slice none 0 0)))(hd:∀d,o.dst=some d->d<σ.n):Cert P o σ (.aE sz [] .ex) .pure :=
 Cert.bQ .pure (.inl rfl) hd fun a g _ _ _=>⟨.slice none 0 0,by rcases ho with ho|ho<;>simp[execOp,ho,Act.eval],.nil (fun id e=>by cases e) (by simp)⟩
theorem rP{P:Program}{o:Oper}{σ:St}{c x z:Operand}{b:Bool}{y:ae}(ho:o.op=.pick c x z)(hd:∀d,o.dst=some d->d<σ.n)(hc:σ.ev c=some (.v (.bool b)))
  (hx:b=true->σ.ev x=some y) (hz:b=false->σ.ev z=some y):Cert P o σ y .pure :=
 Cert.bQ .pure (.inl rfl) hd fun a g _ h _=>by
  have e2:=(h c (by simp[ho,Op.operands]) _ hc).cq.1;cases b
  ·exact⟨a.eval z,by simp[execOp,ho,e2,asBool],h z (by simp[ho,Op.operands]) y (hz rfl)⟩
  exact⟨a.eval x,by simp[execOp,ho,e2,asBool],h x (by simp[ho,Op.operands]) y (hx rfl)⟩
theorem kJ{α:Type}{l:List α}{n j:Nat}{c:α}(h:(l.take n)[j]?=some c):l[j]?=some c:=by
 rw[List.getElem?_take]at h;split at h
 ·exact h
 cases h
theorem sy{P:Program}{aW:eo}(hT:cb P aW){o:Oper}{σ:St}{t:TypeId}{x:Operand}{ti:cr}{oa:Option Addr}{cs:List ae}(ho:o.op=.load t x)(hd:∀d,o.dst=some d->d<σ.n)
  (ht:aW t=some ti) (hx:σ.ev x=some (.ip oa cs)) (eQ:ti.desc.agg=true) (hs:ti.size<=cs.length):Cert P o σ (.agg (cs.take ti.size)) .pure :=
 Cert.bQ .pure (.inl rfl) hd fun a g _ h _=>by
  obtain⟨b,off,f,e,_,dz,hm,hr⟩:=(h x (by simp[ho,Op.operands]) _ hx).m9;have bz:=(hT t ti ht).lX eQ g.w b off f (fun j hj=>(hm j _ (List.getElem?_eq_getElem (by omega))).1);have hlen:(cs.take ti.size).length=ti.size:=by simp;omega
  refine⟨.agg ((List.range ti.size).map f).toArray,by simp[execOp,ho,e,Instr.loadAt,Instr.sureAddr,bz],?_⟩;have:=RV.ofRow (g:=g) (cs.take ti.size) f (fun c hc=>dz c (List.mem_of_mem_take hc)) (fun j c hj=>hr j c (kJ hj));rw[hlen]at this;exact this
theorem rl{P:Program}{aW:eo}(hT:cb P aW){o:Oper}{σ:St}{t:TypeId}{x:Operand}{ti:cr}{oa:Option Addr}{cs:List ae}{c:ae}(ho:o.op=.load t x)(hd:∀d,o.dst=some d->d<σ.n)
  (ht:aW t=some ti) (hx:σ.ev x=some (.ip oa cs)) (eQ:ti.desc.agg=false) (hs:cs[0]?=some c):Cert P o σ c .pure :=
 Cert.bQ .pure (.inl rfl) hd fun a g _ h _=>by
  obtain⟨b,off,f,e,_,dz,hm,hr⟩:=(h x (by simp[ho,Op.operands]) _ hx).m9;have bz:=(hT t ti ht).lb eQ g.w ⟨b,off,none⟩ (f 0) (hm 0 c hs).1;exact⟨f 0,by simp[execOp,ho,e,Instr.loadAt,Instr.sureAddr,bz],hr 0 c hs⟩
theorem Good.row{g:G}(hg:Good g){id:Nat}{cs:List ae}{l:Loc}(ho:g.objs[id]?=some (.cells cs))(he:g.env[id]?=some (some l)) :
  ∃(arr:Array Value) (t:TypeId),l.lo=0∧g.w.heap[l.block]?=some (.cells arr t (0,0))∧cs.length<=arr.size∧(∀(j:Nat) (c:ae) (u:Value),cs[j]?=some c->arr[j]?=some u->RV g c u)∧(∀c∈cs,c.scalar)∧l.sz<=arr.size:=by
 obtain⟨l',arr,t,h1,h2,h3,h4,h5,h6⟩:=hg.cells id cs ho;rw[he]at h1;simp only[Option.some.injEq]at h1;subst h1;exact⟨arr,t,h2,h3,h4,h5,h6⟩
theorem cell_of_row{w:World}{b:Nat}{arr:Array Value}{t:TypeId}{fz:Nat×Nat}(h:w.heap[b]?=some (.cells arr t fz))(off:Nat):w.cell? ⟨b,off,none⟩=arr[off]?:=by
 simp[World.cell?,h]
theorem sA{P:Program}{aW:eo}(hT:cb P aW){o:Oper}{σ:St}{t:TypeId}{x:Operand}{ti:cr}{id off:Nat}{cs:List ae}(ho:o.op=.load t x)(hd:∀d,o.dst=some d->d<σ.n)
  (ht:aW t=some ti) (hx:σ.ev x=some (.mp id off)) (lU:σ.objs[id]?=some (.cells cs)) (eQ:ti.desc.agg=true) (hs:off+ti.size<=cs.length):Cert P o σ (.agg ((cs.drop off).take ti.size)) (.rd id) :=
 Cert.E9 hd fun a g hg h hO=>by
  obtain⟨l,o1,he,h1,_,e⟩:=(h x (by simp[ho,Op.operands]) _ hx).lj;obtain⟨arr,t',_,dp,hlen,pA,dz,_⟩:=hg.row (by rw[hO];exact lU) he;obtain⟨f,hf⟩:∃f:Nat->Value,∀j,off+j<arr.size->arr[off+j]?=some (f j):=⟨fun j=>arr.getD (off+j) undef,fun j hj=>by simp[Array.getD_eq_getD_getElem?,hj]⟩
  have bz:=(hT t ti ht).lX eQ g.w l.block off f (fun j hj=>by
   rw[cell_of_row dp];exact hf j (by omega))
  have hl:((cs.drop off).take ti.size).length=ti.size:=by simp;omega
  refine⟨.agg ((List.range ti.size).map f).toArray,by simp[execOp,ho,e,Instr.loadAt,Instr.sureAddr,bz],?_⟩;have:=RV.ofRow (g:=g) ((cs.drop off).take ti.size) f (fun c hc=>dz c (List.mem_of_mem_drop (List.mem_of_mem_take hc))) (fun j c hj=>by
   have gY:=kJ hj;rw[List.getElem?_drop]at gY;have aZ:=I gY;exact pA (off+j) c _ gY (hf j (by omega)))
  rw[hl]at this;exact this
theorem rm{P:Program}{aW:eo}(hT:cb P aW){o:Oper}{σ:St}{t:TypeId}{x:Operand}{ti:cr}{id off:Nat}{cs:List ae}{c:ae}(ho:o.op=.load t x)(hd:∀d,o.dst=some d->d<σ.n)
  (ht:aW t=some ti) (hx:σ.ev x=some (.mp id off)) (lU:σ.objs[id]?=some (.cells cs)) (eQ:ti.desc.agg=false) (hs:cs[off]?=some c):Cert P o σ c (.rd id) :=
 Cert.E9 hd fun a g hg h hO=>by
  obtain⟨l,o1,he,h1,_,e⟩:=(h x (by simp[ho,Op.operands]) _ hx).lj;obtain⟨arr,t',_,dp,hlen,pA,dz,_⟩:=hg.row (by rw[hO];exact lU) he;have aZ:=I hs;have cn:g.w.cell? ⟨l.block,off,none⟩=some arr[off]:=by
   rw[cell_of_row dp];simp[show off<arr.size by omega]
  have bz:=(hT t ti ht).lb eQ g.w ⟨l.block,off,none⟩ _ cn;exact⟨arr[off],by simp[execOp,ho,e,Instr.loadAt,Instr.sureAddr,bz],pA off c _ hs (by simp[show off<arr.size by omega])⟩
theorem l6{P:Program}{aW:eo}(hT:cb P aW){f:Field}{tf:cr}(hf:aW f.type=some tf)(hs:tf.size≠0)(w:World)(b off:Nat) :
  (fieldPlace ⟨b,off,none⟩ f).run P w=.ok ⟨b,off+f.offset,none⟩ w:=by
 have:=(hT _ _ hf).sizeOf w;simp[fieldPlace,this,hs,addr_add]
theorem lq{P:Program}{aW:eo}(hT:cb P aW){s:TypeId}{ti:cr}{fs:List (Nat×TypeId)}{k oM:Nat}{ft:TypeId}(ht:aW s=some ti)(aT:ti.desc=.struct fs)(hk:fs[k]?=some (oM,ft)) :
  ∃(fields:Array Field) (f:Field),P.underlying s=some (.struct fields)∧fields[k]?=some f∧f.offset=oM∧f.type=ft:=by
 obtain⟨_,d,h1,h2⟩:=hT s ti ht;rw[aT]at h2;obtain⟨fields,h3,h4⟩:=h2;subst h3;rw[<-h4]at hk;simp only[List.getElem?_map,Option.map_eq_some_iff,Prod.mk.injEq,Array.getElem?_toList]at hk;obtain⟨f,e1,e2,e3⟩:=hk;exact⟨fields,f,h1,e1,e2,e3⟩
theorem nw{P:Program}{aW:eo}(hT:cb P aW){o:Oper}{σ:St}{s:TypeId}{x:Operand}{k oM:Nat}{ft:TypeId}{ti tf:cr}{fs:List (Nat×TypeId)}{oa:Option Addr}{cs:List ae}
  (ho:o.op=.fieldAddr s x k) (hd:∀d,o.dst=some d->d<σ.n) (ht:aW s=some ti) (aT:ti.desc=.struct fs) (hk:fs[k]?=some (oM,ft)) (hf:aW ft=some tf) (hz:tf.size≠0)
  (hx:σ.ev x=some (.ip oa cs)):Cert P o σ (.ip (oa.map (·.add oM)) (cs.drop oM)) .pure :=
 Cert.bQ .pure (.inl rfl) hd fun a g _ h _=>by
  obtain⟨b,off,f,e,ha,dz,hm,hr⟩:=(h x (by simp[ho,Op.operands]) _ hx).m9;obtain⟨fields,fl,h1,h2,h3,h4⟩:=lq hT ht aT hk;subst h3;subst h4;refine⟨.pointer (some ⟨b,off+fl.offset,none⟩),by simp[execOp,ho,e,Instr.fieldAt,run_underlying h1,h2,Instr.sureAddr,l6 hT hf hz],?_⟩;refine .ip ?_ (fun c hc=>dz c (List.mem_of_mem_drop hc)) (fun j=>f (fl.offset+j)) (fun j c hj=>?_) (fun j c hj=>?_)
  ·rcases ha with ha|ha<;>subst ha<;>simp[addr_add]
  ·rw[List.getElem?_drop]at hj;rw[Nat.add_assoc];exact hm _ c hj
  rw[List.getElem?_drop]at hj;exact hr _ c hj
theorem nx{P:Program}{aW:eo}(hT:cb P aW){o:Oper}{σ:St}{s:TypeId}{x:Operand}{k oM:Nat}{ft:TypeId}{ti tf:cr}{fs:List (Nat×TypeId)}{id off:Nat}
  (ho:o.op=.fieldAddr s x k) (hd:∀d,o.dst=some d->d<σ.n) (ht:aW s=some ti) (aT:ti.desc=.struct fs) (hk:fs[k]?=some (oM,ft)) (hf:aW ft=some tf) (hz:tf.size≠0)
  (hx:σ.ev x=some (.mp id off)):Cert P o σ (.mp id (off+oM)) .pure :=
 Cert.bQ .pure (.inl rfl) hd fun a g _ h _=>by
  obtain⟨l,o1,he,h1,hn,e⟩:=(h x (by simp[ho,Op.operands]) _ hx).lj;obtain⟨fields,fl,h2,h3,h4,h5⟩:=lq hT ht aT hk;subst h4;subst h5;exact⟨.pointer (some ⟨l.block,off+fl.offset,none⟩),by simp[execOp,ho,e,Instr.fieldAt,run_underlying h2,h3,Instr.sureAddr,l6 hT hf hz],.mp he h1 hn⟩
theorem bI{P:Program}{aW:eo}(hT:cb P aW){t e:TypeId}{ti:cr}(ht:aW t=some ti)(aT:ti.desc=.slice e):P.underlying t=some (.slice e):=by
 obtain⟨_,d,h1,h2⟩:=hT t ti ht;rw[aT]at h2;simp only[oC]at h2;rw[h1,h2]
def nW:kP->Nat->Option Addr
 | .sh,_=>none
 | .ex,_=>none
 | .nn,_=>none
 | .tok _,_=>none
 | .loc a,k=>some ⟨a.block,a.off+k,none⟩
theorem mX{P:Program}{aW:eo}(hT:cb P aW){o:Oper}{σ:St}{t e:TypeId}{x i:Operand}{ti te:cr}{sz:Nat}{xs:List ae}{ow:kP}{k:IntKind}{n:Int}{y:ae}
  (ho:o.op=.indexAddr t x i) (hd:∀d,o.dst=some d->d<σ.n) (ht:aW t=some ti) (aT:ti.desc=.slice e) (he:aW e=some te) (cU:te.size=sz)
  (hx:σ.ev x=some (.aE sz xs ow)) (hi:σ.ev i=some (.v (.int k n))) (h0:0<=n) (hy:xs[n.toNat]?=some y):Cert P o σ (.ip (nW ow (n.toNat*te.size)) y.cells) .pure :=
 Cert.bQ .pure (.inl rfl) hd fun a g _ h _=>by
  have ei:=(h i (by simp[ho,Op.operands]) _ hi).cq.1;have hu:=bI hT ht aT;have aZ:=I hy;rcases(h x (by simp[ho,Op.operands]) _ hx).eT with⟨_,e0⟩|⟨ad,cap,f,eu,lW,dz,_,cF,hs,hm,hr,iw⟩
  ·subst e0;simp at aZ
  have uI:=hs (by intro e;subst e;simp at aZ);obtain⟨b,off,sp⟩:=ad;simp only at uI;subst uI;subst cU;have jZ:y∈xs:=List.mem_of_getElem? hy;refine⟨.pointer (some ⟨b,off+n.toNat*te.size,none⟩),?_,?_⟩
  ·have jH:n<(xs.length:Int):=by omega
   simp[execOp,ho,ei,eu,Instr.indexAt,asIntOf,run_underlying hu,h0,jH,(hT e te he).sizeOf,addr_add]
  have Gl:nW ow (n.toNat*te.size)=none∨nW ow (n.toNat*te.size)=some ⟨b,off+n.toNat*te.size,none⟩:=by
   cases ow with
   | loc a' =>
    have e:(⟨b,off,none⟩:Addr)=a':=iw;subst e;exact .inr rfl
   | _=>exact .inl rfl
  refine .ip Gl (dz y jZ) (fun j=>f (n.toNat*te.size+j)) (fun j c hj=>?_) (fun j c hj=>?_)
  ·rw[Nat.add_assoc];exact hm _ c (j5 lW hy hj)
  exact hr _ c (j5 lW hy hj)
theorem ny{P:Program}{aW:eo}(hT:cb P aW){o:Oper}{σ:St}{t e:TypeId}{x i:Operand}{ti te:cr}{id off len cap:Nat}{k:IntKind}{n:Int}
  (ho:o.op=.indexAddr t x i) (hd:∀d,o.dst=some d->d<σ.n) (ht:aW t=some ti) (aT:ti.desc=.slice e) (he:aW e=some te)
  (hx:σ.ev x=some (.ms id off len cap)) (hi:σ.ev i=some (.v (.int k n))) (h0:0<=n) (hn:n<len):Cert P o σ (.mp id (off+n.toNat*te.size)) .pure :=
 Cert.bQ .pure (.inl rfl) hd fun a g _ h _=>by
  have ei:=(h i (by simp[ho,Op.operands]) _ hi).cq.1;have hu:=bI hT ht aT;obtain⟨l,o1,h1,h2,h3,_,_,_,_,eu⟩:=(h x (by simp[ho,Op.operands]) _ hx).jL;exact⟨.pointer (some ⟨l.block,off+n.toNat*te.size,none⟩),by simp[execOp,ho,ei,eu,Instr.indexAt,asIntOf,run_underlying hu,h0,hn,(hT e te he).sizeOf,addr_add],.mp h1 h2 h3⟩
end Go.Av
namespace Go.Av
theorem p8{P:Program}{aW:eo}(hT:cb P aW){o:Oper}{σ:St}{s:TypeId}{x:Operand}{k oM:Nat}{ft:TypeId}{ti tf:cr}{fs:List (Nat×TypeId)}{cs:List ae}{r:ae}
  (ho:o.op=.field s x k) (hd:∀d,o.dst=some d->d<σ.n) (ht:aW s=some ti) (aT:ti.desc=.struct fs) (hk:fs[k]?=some (oM,ft)) (hf:aW ft=some tf)
  (hx:σ.ev x=some (.agg cs)) (hr:if tf.desc.agg then r=.agg ((cs.drop oM).take tf.size)else cs[oM]?=some r):Cert P o σ r .pure :=
 Cert.bQ .pure (.inl rfl) hd fun a g _ h _=>by
  obtain⟨vs,e,hl,dz,hh⟩:=(h x (by simp[ho,Op.operands]) _ hx).sl;obtain⟨fields,fl,h1,h2,h3,h4⟩:=lq hT ht aT hk;subst h3;subst h4;have mO:=(hT _ _ hf).isAgg g.w;have cU:=(hT _ _ hf).sizeOf g.w;split at hr
  ·rename_i eQ;subst hr;refine⟨.agg (vs.extract fl.offset (fl.offset+tf.size)),by simp[execOp,ho,e,Instr.field,run_underlying h1,h2,asAgg,part,mO,eQ,cU],?_⟩;refine .agg ?_ (fun c hc=>dz c (List.mem_of_mem_drop (List.mem_of_mem_take hc))) (fun i c u hi hu=>?_)
   ·simp[hl];omega
   have fL:=kJ hi;rw[List.getElem?_drop]at fL;refine hh (fl.offset+i) c u fL ?_;have:i<tf.size:=by
    have:=I hi;simp at this;omega
   rw[Array.getElem?_extract]at hu;split at hu
   ·exact hu
   cases hu
  rename_i eQ;have aZ:fl.offset<vs.size:=by
   rw[hl];exact I hr
  exact⟨vs[fl.offset],by simp[execOp,ho,e,Instr.field,run_underlying h1,h2,asAgg,part,mO,eQ,aZ],hh _ _ _ hr (by simp[aZ])⟩
theorem sx{P:Program}{o:Oper}{σ:St}{x:Operand}{k:Nat}{cs:List ae}{r:ae}
  (ho:o.op=.extract x k) (hd:∀d,o.dst=some d->d<σ.n) (hx:σ.ev x=some (.df cs)) (hr:cs[k]?=some r):Cert P o σ r .pure :=
 Cert.bQ .pure (.inl rfl) hd fun a g _ h _=>by
  obtain⟨vs,e,hl,hh⟩:=(h x (by simp[ho,Op.operands]) _ hx).DB;have aZ:k<vs.size:=by
   rw[hl];exact I hr
  exact⟨vs[k],by simp[execOp,ho,e,Instr.extract,aZ],hh _ _ _ hr (by simp[aZ])⟩
theorem cY{P:Program}(op:BinOp)(t:TypeId)(x y:Operand)(a b:Value)(w:World)(h1:a≠.nilIface)(h2:∀cs,a≠.agg cs):(eqGuard op t x y a b).run P w=.ok () w:=by
 cases op<;>first|rfl|(cases a<;>first|rfl|exact absurd rfl h1|exact absurd rfl (h2 _))
def jD:BinOp->Int->Int->Option Bool
 | .eql,a,b=>some (decide (a=b))
 | .neq,a,b=>some (!decide (a=b))
 | .lss,a,b=>some (decide (a<b))
 | .leq,a,b=>some (decide (a<=b))
 | .gtr,a,b=>some (decide (b<a))
 | .geq,a,b=>some (decide (b<=a))
 | _,_,_=>none
theorem tU{P:Program}{o:Oper}{σ:St}{op:BinOp}{t t':TypeId}{x y:Operand}{k:IntKind}{m n:Int}{r:Bool}
  (ho:o.op=.binOp op t x y t') (hd:∀d,o.dst=some d->d<σ.n) (hx:σ.ev x=some (.v (.int k m))) (hy:σ.ev y=some (.v (.int k n))) (hr:jD op m n=some r):Cert P o σ (.v (.bool r)) .pure :=
 Cert.bQ .pure (.inl rfl) hd fun a g _ h _=>by
  have ex:=(h x (by simp[ho,Op.operands]) _ hx).cq.1;have ey:=(h y (by simp[ho,Op.operands]) _ hy).cq.1;have hg:=cY (P:=P) op t x y (.int k m) (.int k n) g.w (by simp) (by simp);refine⟨.bool r,?_,.v trivial⟩;have hb:(binOp op t (.int k m) (.int k n)).run P g.w=.ok (.bool r) g.w:=by
   cases op<;>first|(cases hr;done)|(obtain rfl:=Option.some.inj hr;simp[binOp,Op.intCmp];try (rw[Bool.eq_iff_iff];simp))
  simp[execOp,ho,ex,ey,hg,hb]
def kU(k:IntKind)(f:BitVec k.bits->BitVec k.bits->BitVec k.bits)(a b:Int):Int:=k.wrap (f (BitVec.ofInt k.bits a) (BitVec.ofInt k.bits b)).toNat
def ew(k:IntKind):BinOp->Int->Int->Option Int
 | .add,a,b=>some (a+b)
 | .sub,a,b=>some (a-b)
 | .mul,a,b=>some (a*b)
 | .quo,a,b=>if b=0 then none else some (a.tdiv b)
 | .rem,a,b=>if b=0 then none else some (a.tmod b)
 | .and,a,b=>some (kU k (fun x y=>x&&& y) a b)
 | .or,a,b=>some (kU k (fun x y=>x ||| y) a b)
 | .xor,a,b=>some (kU k (fun x y=>x ^^^ y) a b)
 | .andNot,a,b=>some (kU k (fun x y=>x&&& ~~~y) a b)
 | _,_,_=>none
theorem rh{P:Program}{o:Oper}{σ:St}{op:BinOp}{t t':TypeId}{x y:Operand}{k:IntKind}{m n r:Int}
  (ho:o.op=.binOp op t x y t') (hd:∀d,o.dst=some d->d<σ.n) (hx:σ.ev x=some (.v (.int k m))) (hy:σ.ev y=some (.v (.int k n))) (hr:ew k op m n=some r) (h1:k.min<=r) (h2:r<=k.max) :
  Cert P o σ (.v (.int k r)) .pure :=
 Cert.bQ .pure (.inl rfl) hd fun a g _ h _=>by
  have ex:=(h x (by simp[ho,Op.operands]) _ hx).cq.1;have ey:=(h y (by simp[ho,Op.operands]) _ hy).cq.1;have hg:=cY (P:=P) op t x y (.int k m) (.int k n) g.w (by simp) (by simp);have hw:=lx k r h1 h2;refine⟨.int k r,?_,.v ⟨h1,h2⟩⟩;have hb:(binOp op t (.int k m) (.int k n)).run P g.w=.ok (.int k r) g.w:=by
   cases op with
   | add | sub | mul=>simp[ew]at hr;subst hr;simp[binOp,Op.intArith,hw]
   | quo | rem =>
    simp only[ew]at hr;split at hr
    ·cases hr
    rename_i tJ;simp only[Option.some.injEq]at hr;subst hr;simp[binOp,Op.intDiv,tJ,hw]
   | and | or | xor | andNot=>simp[ew]at hr;subst hr;simp[binOp,Op.intBits,kU]
   | _=>simp[ew]at hr
  simp[execOp,ho,ex,ey,hg,hb]
def dE:BinOp->Bool
 | .add=>false
 | .sub=>false
 | .mul=>false
 | .quo=>false
 | .rem=>false
 | .and=>false
 | .or=>false
 | .xor=>false
 | .shl=>true
 | .shr=>true
 | .andNot=>false
 | .eql=>false
 | .neq=>false
 | .lss=>false
 | .leq=>false
 | .gtr=>false
 | .geq=>false
def eU(k:IntKind):BinOp->Int->Int->Int
 | .shl,a,n=>k.wrap (a*2 ^ (min n.toNat k.bits))
 | _,a,n=>a.fdiv (2 ^ (min n.toNat k.bits))
theorem rp{P:Program}{o:Oper}{σ:St}{op:BinOp}{t t':TypeId}{x y:Operand}{k k':IntKind}{m n:Int}
  (ho:o.op=.binOp op t x y t') (hd:∀d,o.dst=some d->d<σ.n) (hx:σ.ev x=some (.v (.int k m))) (hy:σ.ev y=some (.v (.int k' n))) (hs:dE op=true) (hn:0<=n) (h1:k.min<=eU k op m n) (h2:eU k op m n<=k.max) :
  Cert P o σ (.v (.int k (eU k op m n))) .pure :=
 Cert.bQ .pure (.inl rfl) hd fun a g _ h _=>by
  have ex:=(h x (by simp[ho,Op.operands]) _ hx).cq.1;have ey:=(h y (by simp[ho,Op.operands]) _ hy).cq.1;have hg:=cY (P:=P) op t x y (.int k m) (.int k' n) g.w (by simp) (by simp);have jI:¬n<0:=by omega
  refine⟨.int k (eU k op m n),?_,.v ⟨h1,h2⟩⟩;have hb:(binOp op t (.int k m) (.int k' n)).run P g.w=.ok (.int k (eU k op m n)) g.w:=by
   cases op with
   | shl | shr=>simp[binOp,Op.shift,jI,eU]
   | _=>simp[dE]at hs
  simp[execOp,ho,ex,ey,hg,hb]
theorem y9(a b:ByteArray):(a.toList == b.toList)=decide (a=b):=by
 rw[Bool.eq_iff_iff];simp only[beq_iff_eq,decide_eq_true_eq];refine⟨fun h=>?_,fun h=>by rw[h]⟩;rw[ByteArray.toList_eq,ByteArray.toList_eq]at h;exact ByteArray.ext (Array.toList_inj.1 h)
theorem rk{P:Program}{o:Oper}{σ:St}{op:BinOp}{t t':TypeId}{x y:Operand}{m n:ByteArray}{r:Bool}
  (ho:o.op=.binOp op t x y t') (hd:∀d,o.dst=some d->d<σ.n) (hx:σ.ev x=some (.v (.string m))) (hy:σ.ev y=some (.v (.string n)))
  (hr:(op=.eql∧r=decide (m=n))∨(op=.neq∧r=!decide (m=n))):Cert P o σ (.v (.bool r)) .pure :=
 Cert.bQ .pure (.inl rfl) hd fun a g _ h _=>by
  have ex:=(h x (by simp[ho,Op.operands]) _ hx).cq.1;have ey:=(h y (by simp[ho,Op.operands]) _ hy).cq.1;have hg:=cY (P:=P) op t x y (.string m) (.string n) g.w (by simp) (by simp);refine⟨.bool r,?_,.v trivial⟩;have hb:(binOp op t (.string m) (.string n)).run P g.w=.ok (.bool r) g.w:=by
   have zX:=y9 m n;rcases hr with⟨e1,e2⟩|⟨e1,e2⟩<;>subst e1<;>subst e2
   ·simp only[binOp,Op.stringOp,Sem.run_pure,zX]
   simp only[binOp,Op.stringOp,Sem.run_pure,zX]
  simp[execOp,ho,ex,ey,hg,hb]
theorem tW{P:Program}{o:Oper}{σ:St}{op:BinOp}{t t':TypeId}{x y:Operand}{m n r:Bool}
  (ho:o.op=.binOp op t x y t') (hd:∀d,o.dst=some d->d<σ.n) (ht:P.underlying t=some .bool) (hx:σ.ev x=some (.v (.bool m))) (hy:σ.ev y=some (.v (.bool n)))
  (hr:(op=.eql∧r=(m == n))∨(op=.neq∧r=!(m == n))):Cert P o σ (.v (.bool r)) .pure :=
 Cert.bQ .pure (.inl rfl) hd fun a g _ h _=>by
  have ex:=(h x (by simp[ho,Op.operands]) _ hx).cq.1;have ey:=(h y (by simp[ho,Op.operands]) _ hy).cq.1;have hg:=cY (P:=P) op t x y (.bool m) (.bool n) g.w (by simp) (by simp);refine⟨.bool r,?_,.v trivial⟩;have he:(Op.equal t (.bool m) (.bool n)).run P g.w=.ok (m == n) g.w:=by
   have e:∃d,Op.equal t (.bool m) (.bool n)=Op.equalIn (d+1) t (.bool m) (.bool n):=⟨9999,rfl⟩
   obtain⟨d,e⟩:=e;rw[e];simp only[Op.equalIn,Sem.run_bind,run_underlying ht,Result.andThen_ok,Sem.run_pure]
  rcases hr with⟨e1,e2⟩|⟨e1,e2⟩<;>subst e1<;>subst e2<;>simp[execOp,ho,ex,ey,hg,binOp,he]
theorem zz{P:Program}{o:Oper}{σ:St}{t:TypeId}{x:Operand}{m:Bool}
  (ho:o.op=.unOp .not t x) (hd:∀d,o.dst=some d->d<σ.n) (hx:σ.ev x=some (.v (.bool m))):Cert P o σ (.v (.bool !m)) .pure :=
 Cert.bQ .pure (.inl rfl) hd fun a g _ h _=>by
  have ex:=(h x (by simp[ho,Op.operands]) _ hx).cq.1;exact⟨.bool !m,by simp[execOp,ho,ex,Op.unary],.v trivial⟩
theorem zw{P:Program}{o:Oper}{σ:St}{t:TypeId}{x:Operand}{k:IntKind}{m:Int}
  (ho:o.op=.unOp .neg t x) (hd:∀d,o.dst=some d->d<σ.n) (hx:σ.ev x=some (.v (.int k m))) (h1:k.min<=-m) (h2:-m<=k.max):Cert P o σ (.v (.int k (-m))) .pure :=
 Cert.bQ .pure (.inl rfl) hd fun a g _ h _=>by
  have ex:=(h x (by simp[ho,Op.operands]) _ hx).cq.1;have hw:=lx k (-m) h1 h2;exact⟨.int k (-m),by simp[execOp,ho,ex,Op.unary,Op.intArith,hw],.v ⟨h1,h2⟩⟩
theorem cz{P:Program}{o:Oper}{b:Builtin}{args:Array Operand}{oq:Array TypeId}(ho:o.op=.call ⟨.builtin b,args,oq⟩)(a:Act)(w:World) :
  (execOp a.eval o).run P w=(builtin b oq o.type (args.map fun | .const _=>true|_=>false) (args.map a.eval)).run P w:=by
 simp[execOp,ho,resolve,invoke];rfl
theorem zo{P:Program}{aW:eo}(hT:cb P aW){o:Oper}{σ:St}{t e:TypeId}{x:Operand}{ti:cr}{n:Nat}{y:ae}
  (ho:o.op=.call ⟨.builtin .len,#[x],#[t]⟩) (hd:∀d,o.dst=some d->d<σ.n) (ht:aW t=some ti) (aT:ti.desc=.slice e) (hx:σ.ev x=some y)
  (hy:(∃sz xs ow,y=.aE sz xs ow∧n=xs.length)∨(∃id off cap,y=.ms id off n cap)∨∃id sz,y=.os id n sz):Cert P o σ (.v (.int .i64 n)) .pure :=
 Cert.bQ .pure (.inl rfl) hd fun a g _ h _=>by
  have hu:=bI hT ht aT;have fJ:=h x (by simp[ho,Op.operands,Call.operands]) _ hx;have key:∃ad cap,a.eval x=.slice ad n cap∧n<=2 ^ 62:=by
   rcases hy with⟨sz,xs,ow,e1,e2⟩|⟨id,off,cap,e1⟩|⟨id,sz,e1⟩
   ·subst e1;subst e2;rcases fJ.eT with⟨q1,q2⟩|⟨ad,cap,_,q1,_,_,_,q2,_⟩
    ·subst q2;exact⟨_,_,q1,by simp⟩
    exact⟨_,_,q1,q2⟩
   ·subst e1;obtain⟨l,_,_,_,_,_,q2,_,_,q1⟩:=fJ.jL;exact⟨_,_,q1,q2⟩
   subst e1;obtain⟨l,_,_,_,_,_,_,_,q2,q1⟩:=fJ.oN;exact⟨_,_,q1,q2⟩
  obtain⟨ad,cap,q1,q2⟩:=key;refine⟨.int .i64 n,?_,.v ?_⟩
  ·rw[cz ho];simp[builtin,Builtin.len_,q1,run_underlying hu,goInt]
  simp[kl,IntKind.min,IntKind.max,IntKind.bits,IntKind.signed];omega
theorem bp{P:Program}(k:IntKind)(n:Int)(y:Nat)(c:BoundsCode)(w:World)(h0:0<=n)(h1:n<=y):(Instr.sliceBound (.int k n) y c).run P w=.ok n.toNat w:=by
 simp[Instr.sliceBound,asIntOf,h0,h1]
theorem xp{sz:Nat}{xs:List ae}(cU:∀x∈xs,x.cells.length=sz)(lo hi j:Nat)(c:ae)(h:(ao ((xs.take hi).drop lo))[j]?=some c):(ao xs)[lo*sz+j]?=some c:=by
 induction xs generalizing lo hi j with
 | nil=>simp[ao]at h
 | cons y ys ih =>
  have hy:=cU y (by simp);have xE:=ih (fun x hx=>cU x (by simp[hx]));cases hi with
  | zero=>simp[ao]at h
  | succ hi =>
   cases lo with
   | zero =>
    simp only[List.take_succ_cons,List.drop_zero,ao,List.flatMap_cons,Nat.zero_mul,Nat.zero_add]at h ⊢;rw[List.getElem?_append]at h ⊢;split at h
    ·rename_i hj;rw[if_pos hj];exact h
    rename_i hj;rw[if_neg hj];have:=xE 0 hi (j-y.cells.length) (by simpa[ao]using h);simpa[ao]using this
   | succ lo =>
    simp only[List.take_succ_cons,List.drop_succ_cons]at h;have:=xE lo hi j h;simp only[ao,List.flatMap_cons]at this ⊢;rw[List.getElem?_append,if_neg (by rw[hy,Nat.succ_mul];omega),hy,show(lo+1)*sz+j-sz=lo*sz+j by rw[Nat.succ_mul];omega];exact this
def lN(σ:St)(p:Option Operand)(vR n:Nat):Prop:=(p=none∧n=vR)∨∃q k,p=some q∧σ.ev q=some (.v (.int k (n:Int)))
theorem vM{P:Program}{aW:eo}(hT:cb P aW){o:Oper}{σ:St}{t e:TypeId}{x:Operand}{ti te:cr}{sz:Nat}{xs:List ae}{ow:kP}{lo hi:Option Operand}{l h:Nat}
  (ho:o.op=.slice t x lo hi none) (hd:∀d,o.dst=some d->d<σ.n) (ht:aW t=some ti) (aT:ti.desc=.slice e) (he:aW e=some te) (cU:te.size=sz) (hx:σ.ev x=some (.aE sz xs ow))
  (gQ:lN σ lo 0 l) (mH:lN σ hi xs.length h) (h1:l<=h) (h2:h<=xs.length):Cert P o σ (.aE sz ((xs.take h).drop l) .sh) .pure :=
 Cert.bQ .pure (.inl rfl) hd fun a g _ hh _=>by
  have hu:=bI hT ht aT;have fJ:=hh x (by cases lo<;>cases hi<;>simp[ho,Op.operands]) _ hx;have hl:(lo=none∧l=0)∨∃q k,lo=some q∧a.eval q=.int k (l:Int):=by
   rcases gQ with q|⟨q,k,e1,e2⟩
   ·exact .inl q
   exact .inr ⟨q,k,e1,(hh q (by subst e1;cases hi<;>simp[ho,Op.operands]) _ e2).cq.1⟩
  have fL:(hi=none∧h=xs.length)∨∃q k,hi=some q∧a.eval q=.int k (h:Int):=by
   rcases mH with q|⟨q,k,e1,e2⟩
   ·exact .inl q
   exact .inr ⟨q,k,e1,(hh q (by subst e1;cases lo<;>simp[ho,Op.operands]) _ e2).cq.1⟩
  have cv:execOp a.eval o=(do pure (.value (<-Instr.sliceAt t (a.eval x) (lo.map a.eval) (hi.map a.eval) none))):=by
   simp[execOp,ho]
  clear gQ mH ho;have bounds:∀cap:Nat,xs.length<=cap->(Instr.sliceBounds true xs.length cap (lo.map a.eval) (hi.map a.eval) none).run P g.w=.ok (l,h,cap) g.w:=by
   intro cap cQ;rcases hl with⟨e1,e2⟩|⟨p,k,e1,hk⟩
   ·rcases fL with⟨e3,e4⟩|⟨q,k',e3,mw⟩
    ·subst e1 e2 e3 e4;simp[Instr.sliceBounds]
    subst e1 e2 e3;have:=bp (P:=P) k' h cap .sliceAcap g.w (by omega) (by omega);simp[Instr.sliceBounds,mw,this]
   rcases fL with⟨e3,e4⟩|⟨q,k',e3,mw⟩
   ·subst e1 e3 e4;have:=bp (P:=P) k l xs.length .sliceB g.w (by omega) (by omega);simp[Instr.sliceBounds,hk,this]
   subst e1 e3;have e1:=bp (P:=P) k' h cap .sliceAcap g.w (by omega) (by omega);have e2:=bp (P:=P) k l h .sliceB g.w (by omega) (by omega);simp[Instr.sliceBounds,hk,mw,e1,e2]
  have il:=(hT e te he).sizeOf g.w;rcases fJ.eT with⟨q1,q2⟩|⟨ad,cap,f,q1,lW,dz,cQ,cF,hs,hm,hr,_⟩
  ·subst q2;have b:=bounds 0 (by simp);simp at h2;subst h2;have:l=0:=by omega
   subst this;refine⟨.slice none 0 0,?_,.nil (fun id e=>by cases e) (by simp)⟩;rw[cv];simp only[List.length_nil]at b;simp[Instr.sliceAt,run_underlying hu,Instr.slice,q1,il,b]
  obtain⟨b0,G7,sp⟩:=ad;have hlen:((xs.take h).drop l).length=h-l:=by simp;omega
  subst cU;by_cases eJ:cap=l
  ·-- J2 cut is empty and keeps J2 address
   have e1:l=xs.length:=by omega
   have e2:h=xs.length:=by omega
   subst eJ;subst e2;have b:=bounds cap cQ;refine⟨.slice (some ⟨b0,G7,sp⟩) (xs.length-cap) (cap-cap),?_,?_⟩
   ·rw[cv];simp[Instr.sliceAt,run_underlying hu,Instr.slice,q1,b,il]
   have wy:(xs.take xs.length).drop cap=[]:=by simp;omega
   rw[wy];have h0:xs.length-cap=0:=by omega
   rw[h0];exact .aE (by simp) (by simp) (by simp) (by simp) (by simp) f (by simp[ao]) (by simp[ao]) trivial
  have b:=bounds cap cQ;refine⟨.slice (some ((⟨b0,G7,sp⟩:Addr).add (l*te.size))) (h-l) (cap-l),?_,?_⟩
  ·rw[cv];simp[Instr.sliceAt,run_underlying hu,Instr.slice,q1,b,il,eJ]
  rw[<-hlen];have jZ:∀y,y∈(xs.take h).drop l->y∈xs:=fun y hy=>List.mem_of_mem_take (List.mem_of_mem_drop hy);by_cases cj:xs=[]
  ·subst cj;simp only[List.take_nil,List.drop_nil];exact .aE (by simp) (by simp) (by simp) (by simp) (by simp) f (by simp[ao]) (by simp[ao]) trivial
  have fQ:=hs cj;simp only at fQ;subst fQ;rw[addr_add];refine .aE (fun y hy=>lW y (jZ y hy)) (fun y hy=>dz y (jZ y hy)) (by rw[hlen];omega) (by rw[hlen];omega) (fun _=>rfl) (fun j=>f (l*te.size+j)) (fun j c hj=>?_) (fun j c hj=>?_) trivial
  ·have:=hm _ c (xp lW l h j c hj);simpa[Nat.add_assoc]using this
  exact hr _ c (xp lW l h j c hj)
def ae.bk:ae->ae
 | .aE sz xs _=>.aE sz xs .sh
 | x=>x
def ae.share:ae->ae
 | .aE sz xs _=>.aE sz xs .sh
 | .agg cs=>.agg (cs.map ae.bk)
 | x=>x
theorem RV.bk{g:G}{x:ae}{u:Value}(h:RV g x u):RV g x.bk u:=by
 unfold ae.bk;split
 ·exact h.js
 exact h
theorem ae.en{x:ae}(h:x.scalar):x.bk.scalar:=by
 cases x<;>first|exact h|trivial
theorem RV.share{g:G}{x:ae}{u:Value}(h:RV g x u):RV g x.share u:=by
 unfold ae.share;split
 ·exact h.js
 ·obtain⟨vs,e,hl,dz,hh⟩:=h.sl;subst e;refine .agg (by simpa using hl) (fun c hc=>?_) (fun i c w h1 h2=>?_)
  ·rw[List.mem_map]at hc;obtain⟨c',h1,h2⟩:=hc;subst h2;exact ae.en (dz c' h1)
  rw[List.getElem?_map,Option.map_eq_some_iff]at h1;obtain⟨c',h3,h4⟩:=h1;subst h4;exact(hh i c' w h3 h2).bk
 exact h
def gZ(g:G)(cs:List ae)(arr:Array Value):Prop:=arr.size=cs.length∧∀(j:Nat) (c:ae) (u:Value),cs[j]?=some c->arr[j]?=some u->RV g c u
theorem gZ.mono{g g':G}(h:Le g g'){cs:List ae}{arr:Array Value}(k:gZ g cs arr):gZ g' cs arr:=⟨k.1,fun j c u a b=>(k.2 j c u a b).mono h⟩
theorem gZ.agg{g:G}{cs:List ae}{arr:Array Value}(k:gZ g cs arr)(dz:∀c∈cs,c.scalar):RV g (.agg cs) (.agg arr):=.agg k.1 dz k.2
theorem RV.vG{g:G}{x:ae}{u:Value}(h:RV g x u)(hs:∀c∈x.cells,c.scalar):gZ g x.cells u.cells:=h.cells hs
def ae.flat:ae->Prop
 | .df _=>False
 | _=>True
theorem RV.g9{g:G}{x:ae}{u:Value}(h:RV g x u)(hx:x.flat):∀c∈x.cells,c.scalar:=by
 cases h with
 | agg hl dz hh=>exact dz
 | df=>exact hx.elim
 | _=>intro c hc;simp only[ae.cells,List.mem_singleton]at hc;subst hc;trivial
def aS(cs:List ae)(off:Nat)(xs:List ae):List ae:=cs.take off++(xs++cs.drop (off+xs.length))
theorem ct{cs:List ae}{off:Nat}{xs:List ae}(h:off+xs.length<=cs.length):(aS cs off xs).length=cs.length:=by
 simp[aS];omega
theorem iG{cs:List ae}{off:Nat}{xs:List ae}(h:off+xs.length<=cs.length)(k:Nat) :
  (aS cs off xs)[k]?=if off<=k∧k<off+xs.length then xs[k-off]? else cs[k]?:=by
 simp only[aS];rw[List.getElem?_append,List.getElem?_append,List.getElem?_take,List.getElem?_drop];have hl:(cs.take off).length=off:=by simp;omega
 rw[hl];by_cases h1:k<off
 ·rw[if_pos h1,if_pos h1,if_neg (by omega)]
 rw[if_neg h1];by_cases h2:k-off<xs.length
 ·rw[if_pos h2,if_pos (by omega)]
 rw[if_neg h2,if_neg (by omega)];congr 1;omega
theorem rS(off:Nat):∀(vs:List Value) (n:Nat) (arr:Array Value),off+n+vs.length<=arr.size->∀k,((vs.zipIdx n).foldl (fun cs p=>cs.setIfInBounds (off+p.2) p.1) arr).size=arr.size ∧
  ((vs.zipIdx n).foldl (fun cs p=>cs.setIfInBounds (off+p.2) p.1) arr)[k]?=if off+n<=k∧k<off+n+vs.length then vs[k-(off+n)]? else arr[k]?
 | [],n,arr,_,k=>by
  refine⟨rfl,?_⟩;rw[if_neg (by simp only[List.length_nil];omega)];rfl
 | v::vs,n,arr,h,k=>by
  simp only[List.length_cons]at h;obtain⟨h1,h2⟩:=rS off vs (n+1) (arr.setIfInBounds (off+n) v) (by rw[Array.size_setIfInBounds];omega) k;simp only[List.zipIdx_cons,List.foldl_cons];refine⟨h1.trans (by simp),?_⟩;rw[h2];simp only[List.length_cons];by_cases e1:off+(n+1)<=k∧k<off+(n+1)+vs.length
  ·rw[if_pos e1,if_pos (by omega),show k-(off+n)=(k-(off+(n+1)))+1 by omega];simp
  rw[if_neg e1];by_cases e2:k=off+n
  ·subst e2;rw[if_pos (by omega),Nat.sub_self];rw[Array.getElem?_setIfInBounds_self_of_lt (by omega)];rfl
  rw[if_neg (by omega),Array.getElem?_setIfInBounds_ne (by omega)]
def hU(place:Nat->Option (Nat×Nat)):List ae->List (Nat×ae)->Option (List ae)
 | cs,[]=>some cs
 | cs,(i,x)::r =>
  match place i with
  | none=>none
  | some (off,size)=>if x.cells.length=size∧off+size<=cs.length then hU place (aS cs off x.cells) r else none
inductive vt(g:G):List (Nat×ae)->List (Nat×Value)->Prop
 | nil:vt g [] []
 | cons {i:Nat} {x:ae} {u:Value} {ps:List (Nat×ae)} {vs:List (Nat×Value)} (h:RV g x u) (hf:x.flat) (r:vt g ps vs):vt g ((i,x)::ps) ((i,u)::vs)
theorem mn{g:G}(place:Nat->Option (Nat×Nat)){ps:List (Nat×ae)}{vs:List (Nat×Value)}(hp:vt g ps vs):∀{cs cs':List ae} {arr:Array Value},gZ g cs arr->hU place cs ps=some cs' ->
  ∃bZ,Instr.fill place arr vs=some bZ∧gZ g cs' bZ∧((∀c∈cs,c.scalar)->∀c∈cs',c.scalar):=by
 induction hp with
 | nil =>
  intro cs cs' arr h e;simp only[hU,Option.some.injEq]at e;subst e;exact⟨arr,rfl,h,fun h=>h⟩
 | cons hx hf r ih =>
  rename_i i x u ps vs;intro cs cs' arr h e;simp only[hU]at e;cases qx:place i with
  | none=>simp[qx]at e
  | some p =>
   obtain⟨off,size⟩:=p;simp only[qx]at e;split at e
   ·rename_i hc;obtain⟨mZ,B9⟩:=hc;have eZ:=hx.g9 hf;obtain⟨q1,q2⟩:=hx.vG eZ;have cU:off+0+u.cells.toList.length<=arr.size:=by
     simp only[Array.length_toList,q1,mZ,h.1];omega
    have gw:=rS off u.cells.toList 0 arr cU;have sQ:gZ g (aS cs off x.cells) (u.cells.zipIdx.foldl (fun cs p=>cs.setIfInBounds (off+p.2) p.1) arr):=by
     have r5:u.cells.zipIdx.foldl (fun cs p=>cs.setIfInBounds (off+p.2) p.1) arr=(u.cells.toList.zipIdx 0).foldl (fun cs p=>cs.setIfInBounds (off+p.2) p.1) arr:=by
      rw[<-Array.foldl_toList];congr 1;simp[Array.toList_zipIdx]
     rw[r5];refine⟨?_,fun j c w hj hw=>?_⟩
     ·rw[(gw 0).1,ct (by omega),h.1]
     rw[(gw j).2]at hw;rw[iG (by omega)]at hj;simp only[Nat.add_zero,Array.length_toList,q1]at hw;by_cases uC:off<=j∧j<off+x.cells.length
     ·rw[if_pos uC]at hj hw;exact q2 _ c w hj (by simpa using hw)
     rw[if_neg uC]at hj hw;exact h.2 j c w hj hw
    obtain⟨bZ,e1,e2,e3⟩:=ih sQ e;refine⟨bZ,?_,e2,fun cM=>e3 fun c hc=>?_⟩
    ·simp only[Instr.fill,qx];rw[if_neg (by simp[q1,mZ,h.1];omega)];exact e1
    simp only[aS,List.mem_append]at hc;rcases hc with hc|hc|hc
    ·exact cM c (List.mem_of_mem_take hc)
    ·exact eZ c hc
    exact cM c (List.mem_of_mem_drop hc)
   cases e
def St.eI(σ:St):List (Nat×Operand)->Option (List (Nat×ae))
 | []=>some []
 | (i,x)::r =>
  match σ.ev x,σ.eI r with
  | some y,some ys=>some ((i,y)::ys)
  | _,_=>none
theorem iQ{σ:St}{a:Act}{g:G}:∀{parts:List (Nat×Operand)} {ps:List (Nat×ae)},(∀x∈parts.map (·.2),∀y,σ.ev x=some y->RV g y (a.eval x))->σ.eI parts=some ps->(∀p∈ps,p.2.flat) ->
  vt g ps (parts.map fun p=>(p.1,a.eval p.2))
 | [],ps,_,h,_=>by
  simp only[St.eI,Option.some.injEq]at h;subst h;exact .nil
 | (i,x)::r,ps,mO,h,hf=>by
  simp only[St.eI]at h;cases hx:σ.ev x with
  | none=>simp[hx]at h
  | some y =>
   cases hr:σ.eI r with
   | none=>simp[hx,hr]at h
   | some ys =>
    simp only[hx,hr,Option.some.injEq]at h;subst h;exact .cons (mO x (by simp) y hx) (hf (i,y) (List.mem_cons_self)) (iQ (fun z hz=>mO z (by simp only[List.map_cons,List.mem_cons];exact .inr hz)) hr fun p hp=>hf p (List.mem_cons_of_mem _ hp))
def ia(aW:eo):List (Nat×TypeId)->Option (List (Nat×Nat))
 | []=>some []
 | (off,t)::r =>
  match aW t,ia aW r with
  | some ti,some ps=>some ((off,ti.size)::ps)
  | _,_=>none
theorem pa{P:Program}{aW:eo}(hT:cb P aW):∀{fields:List Field} {ps:List (Nat×Nat)},ia aW (fields.map fun f=>(f.offset,f.type))=some ps ->
  fields.mapM (fun f=>(P.info? f.type).map fun i=>(f.offset,i.size))=some ps
 | [],ps,h=>by
  simp only[List.map_nil,ia,Option.some.injEq]at h;subst h;rfl
 | f::r,ps,h=>by
  simp only[List.map_cons,ia]at h;cases ht:aW f.type with
  | none=>simp[ht]at h
  | some ti =>
   cases hr:ia aW (r.map fun f=>(f.offset,f.type))with
   | none=>simp[ht,hr]at h
   | some qs =>
    simp only[ht,hr,Option.some.injEq]at h;subst h;obtain⟨⟨i,z,h1,h2,_⟩,_⟩:=hT _ _ ht;have ih:=pa hT hr;simp only[List.mapM_cons,h1,Option.map_some,ih];simp[h2]
theorem vI{P:Program}{aW:eo}(hT:cb P aW){o:Oper}{σ:St}{t:TypeId}{parts:Array (Nat×Operand)}{ti:cr}{fs:List (Nat×TypeId)}{s9:List (Nat×Nat)}{ps:List (Nat×ae)}{cs:List ae}
  (ho:o.op=.build t parts) (hd:∀d,o.dst=some d->d<σ.n) (ht:aW t=some ti) (aT:ti.desc=.struct fs) (qx:ia aW fs=some s9) (qo:σ.eI parts.toList=some ps) (gK:∀p∈ps,p.2.flat)
  (eZ:hU (fun i=>s9[i]?) ti.zero ps=some cs):Cert P o σ (.agg cs) .pure :=
 Cert.bQ .pure (.inl rfl) hd fun a g _ h _=>by
  have bM:=iQ (a:=a) (g:=g) (fun x hx y hy=>h x (by simpa[ho,Op.operands]using hx) y hy) qo gK;obtain⟨⟨i,z,h1,h2,h3,h4,h5,h6,h7,h8,h9⟩,d,rW,HC⟩:=hT t ti ht;rw[aT]at HC;obtain⟨fields,e1,e2⟩:=HC;subst e1;obtain⟨bZ,q1,q2,q3⟩:=mn (fun i=>s9[i]?) bM (cs:=ti.zero) (arr:=z.cells) ⟨h5,h8 g⟩ eZ;have hp:=pa hT (fields:=fields.toList) (ps:=s9) (by rw[e2];exact qx);have hb:P.built t (parts.map fun(i,x)=>(i,a.eval x)).toList=some bZ:=by
   unfold Program.built;simp only[h1,rW,h4,hp];rw[Array.toList_map];simpa using q1
  have bz:=run_build g.w t _ bZ hb;exact⟨.agg bZ,by simp[execOp,ho,bz],q2.agg (q3 h9)⟩
theorem RV.newRow{g:G}(hg:Good g){xs:List ae}{sz:Nat}{arr:Array Value}{t:TypeId}(cU:∀x∈xs,x.cells.length=sz)(dz:∀x∈xs,∀c∈x.cells,c.scalar)(cF:xs.length<=2 ^ 62)
  (hr:gZ g (ao xs) arr):RV (g.push (.cells arr t)) (.aE sz xs .ex) (.slice (some ⟨g.w.heap.size,0,none⟩) xs.length xs.length):=by
 have hle:=Le.push g hg (.cells arr t);have GL:=hg.push (.cells arr t);refine .aE cU dz (Nat.le_refl _) cF (fun _=>rfl) (fun j=>arr.getD j undef) (fun j c hj=>?_) (fun j c hj=>?_) rfl
 ·have aZ:=I hj;rw[<-hr.1]at aZ;refine⟨?_,?_⟩
  ·simp only[G.cell,G.push,Nat.zero_add];rw[cell_of_row (dq _ _)];simp[Array.getD_eq_getD_getElem?,aZ]
  rintro(hf|⟨id,l,o,h1,h2,h3,h4,_⟩)
  ·have fg:g.fr g.w.heap.size (0+j):=hf;have:=hg.frlt _ _ fg;omega
  have:=hg.loc id l o h1 h2 h3;have Jf:l.block=g.w.heap.size:=h4;omega
 have aZ:=I hj;rw[<-hr.1]at aZ;exact(hr.2 j c _ hj (by simp[Array.getD_eq_getD_getElem?,aZ])).mono hle
theorem oD{sz:Nat}:∀(ys:List ae) (k:Nat) (cs cs':List ae),hU (fun i=>some (i*sz,sz)) cs ((ys.zipIdx k).map fun p=>(p.2,p.1))=some cs'->(k+ys.length)*sz<=cs.length ->
  cs'=cs.take (k*sz)++(ao ys++cs.drop ((k+ys.length)*sz))∧∀y∈ys,y.cells.length=sz
 | [],k,cs,cs',h,hl=>by
  simp only[List.zipIdx_nil,List.map_nil,hU,Option.some.injEq]at h;subst h;simp[ao]
 | y::ys,k,cs,cs',h,hl=>by
  simp only[List.zipIdx_cons,List.map_cons,hU]at h;split at h
  ·rename_i hc;obtain⟨mZ,B9⟩:=hc;have q8:(k+1+ys.length)*sz<=(aS cs (k*sz) y.cells).length:=by
    rw[ct (by omega)];simp only[List.length_cons]at hl;rw[show k+1+ys.length=k+(ys.length+1) by omega];exact hl
   obtain⟨e1,e2⟩:=oD ys (k+1) _ cs' h q8;refine⟨?_,fun z hz=>?_⟩
   ·rw[e1];apply List.ext_getElem?;intro j;simp only[List.length_cons]at hl ⊢;have DL:(k+1)*sz=k*sz+sz:=Nat.succ_mul k sz;have fQ:(aS cs (k*sz) y.cells).take ((k+1)*sz)=cs.take (k*sz)++y.cells:=by
     simp only[aS];rw[DL,List.take_append];have hlen:(cs.take (k*sz)).length=k*sz:=by simp;omega
     have GY:(cs.take (k*sz)).take (k*sz+sz)=cs.take (k*sz):=List.take_of_length_le (by omega);rw[hlen,GY,show k*sz+sz-k*sz=sz by omega,List.take_append,List.take_of_length_le (Nat.le_of_eq mZ),mZ,Nat.sub_self];simp
    have ED:(aS cs (k*sz) y.cells).drop ((k+1+ys.length)*sz)=cs.drop ((k+(ys.length+1))*sz):=by
     simp only[aS];have hlen:(cs.take (k*sz)).length=k*sz:=by simp;omega
     have hmul:(k+1+ys.length)*sz=k*sz+sz+ys.length*sz:=by rw[Nat.add_mul,DL]
     have GQ:(k+(ys.length+1))*sz=k*sz+sz+ys.length*sz:=by rw[Nat.add_mul,Nat.succ_mul];omega
     have nN:(cs.take (k*sz)).drop (k*sz+sz+ys.length*sz)=[]:=List.drop_of_length_le (by rw[hlen];omega);have mv:y.cells.drop (k*sz+sz+ys.length*sz-k*sz)=[]:=List.drop_of_length_le (by omega);rw[hmul,GQ,List.drop_append,nN,hlen,List.nil_append,List.drop_append,mv,List.nil_append,List.drop_drop,mZ];congr 1;omega
    rw[fQ,ED];simp[ao,List.append_assoc]
   rcases List.mem_cons.1 hz with hz|hz
   ·subst hz;exact mZ
   exact e2 z hz
  cases h
def gE:Nat->List (Nat×ae)->Option (List ae)
 | _,[]=>some []
 | k,(i,x)::r =>
  if i=k then
   match gE (k+1) r with
   | some xs=>some (x::xs)
   | none=>none
  else none
theorem l7:∀{ps:List (Nat×ae)} {k:Nat} {xs:List ae},gE k ps=some xs->ps=(xs.zipIdx k).map fun p=>(p.2,p.1)
 | [],k,xs,h=>by
  simp only[gE,Option.some.injEq]at h;subst h;rfl
 | (i,x)::r,k,xs,h=>by
  simp only[gE]at h;split at h
  ·rename_i hi;subst hi;cases hr:gE (i+1) r with
   | none=>simp[hr]at h
   | some ys =>
    simp only[hr,Option.some.injEq]at h;subst h;simp[l7 hr]
  cases h
theorem ae.j6(x:ae):x.share.cells=x.cells.map ae.bk:=by
 cases x<;>rfl
theorem gZ.dx{g:G}{cs:List ae}{arr:Array Value}(h:gZ g cs arr):gZ g (cs.map ae.bk) arr :=
 ⟨by simpa using h.1,fun j c u h1 h2=>by
  rw[List.getElem?_map,Option.map_eq_some_iff]at h1;obtain⟨c',h3,h4⟩:=h1;subst h4;exact(h.2 j c' u h3 h2).bk⟩
theorem fi(xs:List ae):ao (xs.map ae.share)=(ao xs).map ae.bk:=by
 induction xs with
 | nil=>rfl
 | cons y ys ih =>
  simp only[ao,List.map_cons,List.flatMap_cons,List.map_append,ae.j6]at ih ⊢;rw[ih]
theorem pn{P:Program}{aW:eo}(hT:cb P aW){o:Oper}{σ:St}{t e:TypeId}{len:Nat}{parts:Array (Nat×Operand)}{ti te:cr}{ps:List (Nat×ae)}{xs:List ae}
  (ho:o.op=.buildSlice t len parts) (hd:∀d,o.dst=some d->d<σ.n) (ht:aW t=some ti) (aT:ti.desc=.slice e) (he:aW e=some te) (lV:0<te.size) (qo:σ.eI parts.toList=some ps) (gK:∀p∈ps,p.2.flat)
  (EW:gE 0 ps=some xs) (hlen:xs.length=len) (cU:∀x∈xs,x.cells.length=te.size) (yZ:len*te.size<=2 ^ 24):Cert P o σ (.aE te.size (xs.map ae.share) .ex) .pure :=
 Cert.gu hd fun base fE a g bM h _=>by
  have hg:=bM.good;have yY:=iQ (a:=a) (g:=g) (fun x hx y hy=>h x (by simpa[ho,Op.operands]using hx) y hy) qo gK;have hu:=bI hT ht aT;obtain⟨⟨i,z,h1,h2,h3,h4,h5,h6,h7,h8,h9⟩,_⟩:=hT e te he;have pF:=l7 EW;have dz:∀x∈xs,∀c∈x.cells,c.scalar:=by
   have aux:∀{ps:List (Nat×ae)} {vs:List (Nat×Value)},vt g ps vs->∀p∈ps,∀c∈p.2.cells,c.scalar:=by
    intro ps vs hr;induction hr with
    | nil=>intro p hp;cases hp
    | cons hx hf r ih =>
     intro p hp;rcases List.mem_cons.1 hp with hp|hp
     ·subst hp;exact hx.g9 hf
     exact ih p hp
   intro x hx c hc;have jZ:∃k,(k,x)∈ps:=by
    obtain⟨k,hk⟩:=List.getElem?_of_mem hx;refine⟨0+k,?_⟩;rw[pF,List.mem_map];refine⟨(x,0+k),?_,rfl⟩;rw[List.mem_iff_getElem?];exact⟨k,by simp[hk]⟩
   obtain⟨k,hk⟩:=jZ;exact aux yY _ hk c hc
  by_cases hz:len=0
  ·subst hz;have wE:xs=[]:=List.length_eq_zero_iff.1 hlen;subst wE;have EU:ps=[]:=by rw[pF];rfl
   subst EU;have Ah:parts.toList=[]:=by
    cases hp:parts.toList with
    | nil=>rfl
    | cons p r =>
     obtain⟨i,x⟩:=p;rw[hp]at qo;simp only[St.eI]at qo;cases hx:σ.ev x with
     | none=>simp[hx]at qo
     | some y =>
      cases hr:σ.eI r with
      | none=>simp[hx,hr]at qo
      | some ys=>simp[hx,hr]at qo
   have wA:parts = #[]:=Array.toList_eq_nil_iff.1 Ah;subst wA;refine⟨.slice (some ⟨g.w.heap.size,0,none⟩) 0 0,g.push (.cells #[] e),.inl ?_,Le.push g hg _,hg.push _,rfl,?_⟩
   ·have er:Array.range 0 = #[]:=rfl;simp[execOp,ho,Instr.buildSlice,run_underlying hu,Go.sizeOf,typeInfo,h1,Instr.fill,Go.newRow,G.push,er]
   exact RV.newRow (xs:=[]) hg (by simp) (by simp) (by simp) ⟨by simp[ao],by simp[ao]⟩
  have cj:¬len*i.size=0:=by
   rw[h2];intro e0;rcases Nat.mul_eq_zero.1 e0 with q|q<;>omega
  obtain⟨zs,sW⟩:∃zs:Array Value,zs=(Array.range (len*i.size)).map (z.cells[· % z.cells.size]!):=⟨_,rfl⟩
  have wF:zs.size=len*te.size:=by rw[sW];simp[h2]
  obtain⟨zc,Ih,y1,sV⟩:∃zc:List ae,(∀c∈zc,c.scalar)∧gZ g zc zs∧zc.length=len*te.size:=by
   refine⟨(List.range (len*te.size)).map fun j=>te.zero.getD (j % te.size) (.v (.bool false)),fun c hc=>?_,⟨by simp[wF],fun j c u hj EM=>?_⟩,by simp⟩
   ·rw[List.mem_map]at hc;obtain⟨j,_,e⟩:=hc;subst e;have aZ:j % te.size<te.zero.length:=by rw[h6];exact Nat.mod_lt _ lV
    rw[List.getD_eq_getElem?_getD,List.getElem?_eq_getElem aZ];exact h9 _ (List.getElem_mem aZ)
   have gY:=I hj;simp only[List.length_map,List.length_range]at gY;rw[List.getElem?_map,List.getElem?_range gY]at hj;simp only[Option.map_some,Option.some.injEq]at hj;subst hj;have aZ:j % te.size<te.zero.length:=by rw[h6];exact Nat.mod_lt _ lV
   have jH:j % te.size<z.cells.size:=by rw[h5];exact aZ
   rw[sW]at EM;simp only[Array.getElem?_map,h2,Array.getElem?_range,if_pos gY,Option.map_some,Option.some.injEq]at EM;subst EM;rw[List.getD_eq_getElem?_getD,List.getElem?_eq_getElem aZ];refine h8 g (j % te.size) _ _ (List.getElem?_eq_getElem aZ) ?_;rw[h5,h6];simp[jH]
  have z7:∃cs',hU (fun i=>some (i*te.size,te.size)) zc ps=some cs':=by
   have aux:∀(ys:List ae) (k:Nat) (cs:List ae),(∀y∈ys,y.cells.length=te.size)->(k+ys.length)*te.size<=cs.length->∃cs',hU (fun i=>some (i*te.size,te.size)) cs ((ys.zipIdx k).map fun p=>(p.2,p.1))=some cs':=by
    intro ys;induction ys with
    | nil=>intro k cs _ _;exact⟨cs,rfl⟩
    | cons y ys ih =>
     intro k cs hy hl;simp only[List.zipIdx_cons,List.map_cons,hU];simp only[List.length_cons]at hl;have DL:(k+1)*te.size=k*te.size+te.size:=Nat.succ_mul k te.size;have xA:(k+1)*te.size<=(k+(ys.length+1))*te.size:=Nat.mul_le_mul_right _ (by omega);have hc:y.cells.length=te.size∧k*te.size+te.size<=cs.length:=⟨hy y (by simp),by omega⟩
     rw[if_pos hc];refine ih (k+1) _ (fun z hz=>hy z (List.mem_cons_of_mem _ hz)) ?_;rw[ct (by omega),show k+1+ys.length=k+(ys.length+1) by omega];exact hl
   rw[pF];exact aux xs 0 zc cU (by rw[sV,hlen,Nat.zero_add];exact Nat.le_refl _)
  obtain⟨cs',wg⟩:=z7;obtain⟨bZ,q1,q2,_⟩:=mn (fun i=>some (i*te.size,te.size)) yY y1 wg;obtain⟨e1,_⟩:=oD xs 0 zc cs' (by rw[<-pF];exact wg) (by rw[sV,hlen,Nat.zero_add];exact Nat.le_refl _);have e2:cs'=ao xs:=by
   rw[e1];simp only[Nat.zero_mul,List.take_zero,List.nil_append,Nat.zero_add];rw[List.drop_of_length_le (by rw[sV,hlen];omega),List.append_nil]
  subst e2;have bz:(Instr.buildSlice t len (parts.map fun(i,x)=>(i,a.eval x))).run P g.w=.ok (.slice (some ⟨g.w.heap.size,0,none⟩) len len) (g.w.alloc (.cells bZ e)):=by
   have sL:¬len*i.size > 2 ^ 24:=by rw[h2];omega
   rw[sW,<-h2]at q1;have D6:Instr.fill (fun Ii=>some (Ii*i.size,i.size)) ((Array.range (len*i.size)).map (z.cells[· % z.cells.size]!)) (parts.map fun(i,x)=>(i,a.eval x)).toList=some bZ:=by
    rw[Array.toList_map];exact q1
   simp only[Instr.buildSlice,run_underlying hu,Go.sizeOf,typeInfo,Go.zeroValue,Sem.run_bind,run_program,Result.andThen_ok,h1,Sem.run_pure,Go.newRow];rw[if_neg sL,if_neg cj];simp only[Sem.run_bind,Sem.run_pure,Result.andThen_ok,run_program,h1,h4,D6,run_newObj];rfl
  refine⟨.slice (some ⟨g.w.heap.size,0,none⟩) len len,g.push (.cells bZ e),.inl (by simp[execOp,ho,bz,G.push]),Le.push g hg _,hg.push _,rfl,?_⟩;have:=RV.newRow (xs:=xs.map ae.share) (sz:=te.size) (arr:=bZ) (t:=e) hg (fun x hx=>by
   rw[List.mem_map]at hx;obtain⟨y,h1,h2⟩:=hx;subst h2;rw[ae.j6,List.length_map];exact cU y h1) (fun x hx c hc=>by
   rw[List.mem_map]at hx;obtain⟨y,h1,h2⟩:=hx;subst h2;rw[ae.j6,List.mem_map]at hc;obtain⟨c',h3,h4⟩:=hc;subst h4;exact ae.en (dz y h1 c' h3)) (by
    simp only[List.length_map,hlen];have:len<=len*te.size:=Nat.le_mul_of_pos_right _ lV;omega) (by rw[fi];exact q2.dx)
  rw[List.length_map,hlen]at this;exact this
end Go.Av
namespace Go.Av
theorem eE{g:G}{o:ak}:(g.objs++[o])[g.objs.length]?=some o:=by simp
theorem gJ{g:G}(hg:Good g){l:Option Loc}:(g.env++[l])[g.objs.length]?=some l:=by
 rw[<-hg.len];simp
theorem zn{P:Program}{o:Oper}{σ:St}{t:TypeId}{x:Operand}{y:ae}(ho:o.op=.box t x)(hd:∀d,o.dst=some d->d<σ.n)(hx:σ.ev x=some y)(hf:y.flat) :
  Cert P o σ (.mp σ.objs.length 0) (.write (σ.objs++[.cells y.cells])) :=
 Cert.gu hd fun base fE a g bM h ic=>by
  have hO:g.objs=σ.objs:=ic.resolve_left (by simp);have hg:=bM.good;have fJ:=h x (by simp[ho,Op.operands]) _ hx;have dz:=fJ.g9 hf;have pA:=fJ.vG dz;have hle:=Le.alloc hg (.cells (a.eval x).cells t) 0 (.cells y.cells);refine⟨.pointer (some ⟨g.w.heap.size,0,none⟩),g.alloc (.cells (a.eval x).cells t) 0 (.cells y.cells),.inl ?_,hle,Good.alloc hg _ 0 _ (.inr rfl) ⟨_,t,rfl,by rw[pA.1];exact Nat.le_refl _,(pA.mono hle).2,dz⟩,?_,?_⟩
  ·simp[execOp,ho,Instr.box,Go.newVar,Go.newRow,G.alloc]
  ·simp[G.alloc,hO,Mode.post]
  rw[<-hO];exact .mp (l:=⟨g.w.heap.size,0,_⟩) (gJ hg) eE (by simp[ak.aF])
theorem vH{P:Program}{aW:eo}(hT:cb P aW){o:Oper}{σ:St}{t:TypeId}{ti:cr}(ho:o.op=.alloc t)(hd:∀d,o.dst=some d->d<σ.n)(ht:aW t=some ti) :
  Cert P o σ (.mp σ.objs.length 0) (.write (σ.objs++[.cells ti.zero])) :=
 Cert.gu hd fun base fE a g bM h ic=>by
  have hO:g.objs=σ.objs:=ic.resolve_left (by simp);have hg:=bM.good;obtain⟨z,hz,h5,_,_,h8,h9⟩:=(hT t ti ht).zeroValue;have hle:=Le.alloc hg (.cells z.cells t) 0 (.cells ti.zero);refine⟨.pointer (some ⟨g.w.heap.size,0,none⟩),g.alloc (.cells z.cells t) 0 (.cells ti.zero),.inl ?_,hle,Good.alloc hg _ 0 _ (.inr rfl) ⟨_,t,rfl,by rw[h5];exact Nat.le_refl _,fun j c u a b=>h8 _ j c u a b,h9⟩,?_,?_⟩
  ·simp[execOp,ho,Instr.alloc,hz,Go.newVar,Go.newRow,G.alloc]
  ·simp[G.alloc,hO,Mode.post]
  rw[<-hO];exact .mp (l:=⟨g.w.heap.size,0,_⟩) (gJ hg) eE (by simp[ak.aF])
theorem sB{P:Program}{o:Oper}{σ:St}{t:TypeId}(kt:KT)(ho:o.op=.makeMap t none)(hd:∀d,o.dst=some d->d<σ.n) :
  Cert P o σ (.mm σ.objs.length) (.write (σ.objs++[.map kt []])) :=
 Cert.gu hd fun base fE a g bM h ic=>by
  have hO:g.objs=σ.objs:=ic.resolve_left (by simp);have hg:=bM.good;have hle:=Le.alloc hg (.map #[] 0) 0 (.map kt []);refine⟨.map (some g.w.heap.size),g.alloc (.map #[] 0) 0 (.map kt []),.inl ?_,hle,Good.alloc hg _ 0 _ (.inr rfl) ⟨#[],0,rfl,rfl,by simp,by simp⟩,?_,?_⟩
  ·simp[execOp,ho,Instr.makeMap,G.alloc]
  ·simp[G.alloc,hO,Mode.post]
  rw[<-hO];exact .mm (l:=⟨g.w.heap.size,0,_⟩) (gJ hg) eE (by simp[ak.aF])
theorem oc(z:List ae)(hz:0<z.length):∀(m j:Nat) (c:ae),(List.replicate m z).flatten[j]?=some c->z[j % z.length]?=some c
 | 0,j,c=>by simp
 | m+1,j,c=>by
  intro hj;rw[List.replicate_succ,List.flatten_cons,List.getElem?_append]at hj;split at hj
  ·rename_i aZ;rw[Nat.mod_eq_of_lt aZ];exact hj
  rename_i lK;have:=oc z hz m _ c hj;rw[Nat.mod_eq_sub_mod (by omega)];exact this
theorem qb{P:Program}{aW:eo}(hT:cb P aW){o:Oper}{σ:St}{t e:TypeId}{x y:Operand}{ti te:cr}{k k':IntKind}{n:Int}
  (ho:o.op=.makeSlice t x y) (hd:∀d,o.dst=some d->d<σ.n) (ht:aW t=some ti) (aT:ti.desc=.slice e) (he:aW e=some te) (hx:σ.ev x=some (.v (.int k n))) (hy:σ.ev y=some (.v (.int k' n)))
  (h0:0<=n) (hb:te.bytes*n.toNat<=2 ^ 48) (B6:n.toNat<=2 ^ 62) (hs:0<te.size) :
  Cert P o σ (.ms σ.objs.length 0 n.toNat n.toNat) (.write (σ.objs++[.cells (List.replicate n.toNat te.zero).flatten])) :=
 Cert.gu hd fun base fE a g bM h ic=>by
  have hO:g.objs=σ.objs:=ic.resolve_left (by simp);have hg:=bM.good;have ex:=(h x (by simp[ho,Op.operands]) _ hx).cq.1;have ey:=(h y (by simp[ho,Op.operands]) _ hy).cq.1;have hu:=bI hT ht aT;obtain⟨⟨i,z,h1,h2,h3,h4,h5,h6,h7,h8,h9⟩,_⟩:=hT e te he;obtain⟨m,rfl⟩:=Int.eq_ofNat_of_zero_le h0;simp only[Int.toNat_natCast]at *;have yc:(i.bytes:Int)*(m:Int)<=281474976710656:=by
   rw[h3,<-Int.natCast_mul];omega
  have bz:=run_make (P:=P) g.w t e i z hu h1 h4 k k' m m (by omega) (Int.le_refl _) yc (by omega);simp only[Int.toNat_natCast]at bz;have hlen:(List.replicate m te.zero).flatten.length=m*te.size:=by simp[h6]
  have fS:∀(j:Nat) (c:ae),(List.replicate m te.zero).flatten[j]?=some c->te.zero[j % te.size]?=some c:=fun j c=>h6 ▸ oc te.zero (by omega) m j c;have hle:=Le.alloc hg (.cells (madeCells z.cells (m*i.size)) e) 0 (.cells (List.replicate m te.zero).flatten);refine⟨.slice (some ⟨g.w.heap.size,0,none⟩) m m,g.alloc (.cells (madeCells z.cells (m*i.size)) e) 0 (.cells (List.replicate m te.zero).flatten),.inl ?_,hle,Good.alloc hg _ 0 _ (.inr rfl) ⟨_,e,rfl,?_,?_,?_⟩,?_,?_⟩
  ·simp[execOp,ho,ex,ey,bz,G.alloc]
  ·rw[hlen,size_madeCells,h2];exact Nat.le_refl _
  ·intro j c u hj my;have gY:=fS j c hj;have aZ:=I hj;rw[hlen]at aZ;have jH:j % te.size<z.cells.size:=by rw[h5];exact I gY
   refine h8 _ _ _ _ gY ?_;simp only[madeCells,Array.getElem?_map,h2,Array.getElem?_range,if_pos aZ,Option.map_some,Option.some.injEq]at my;subst my;rw[h5,h6];simp[jH]
  ·intro c hc;rw[List.mem_flatten]at hc;obtain⟨l,hl,hc⟩:=hc;rw[List.mem_replicate]at hl;exact h9 c (hl.2 ▸ hc)
  ·simp[G.alloc,hO,Mode.post]
  rw[<-hO];exact .ms (l:=⟨g.w.heap.size,0,_⟩) (gJ hg) eE (by simp[ak.aF]) (Nat.le_refl _) (Nat.le_refl _) B6
theorem gZ.aS{g:G}{cs xs:List ae}{arr vs:Array Value}(h:cs.length<=arr.size∧∀(j:Nat)(c:ae)(u:Value),cs[j]?=some c->arr[j]?=some u->RV g c u)(k:gZ g xs vs){off:Nat}(ho:off+xs.length<=cs.length) :
  (aS cs off xs).length<=(arr.toList.take off++vs.toList++arr.toList.drop (off+vs.toList.length)).toArray.size ∧
  ∀(j:Nat) (c:ae) (u:Value),(aS cs off xs)[j]?=some c->(arr.toList.take off++vs.toList++arr.toList.drop (off+vs.toList.length)).toArray[j]?=some u->RV g c u:=by
 obtain⟨h1,h2⟩:=h;obtain⟨k1,k2⟩:=k;have hl:(arr.toList.take off).length=off:=by simp;omega
 refine⟨?_,fun j c u hj hu=>?_⟩
 ·rw[ct ho];simp[k1];omega
 rw[iG ho]at hj;have my:(arr.toList.take off++vs.toList++arr.toList.drop (off+vs.toList.length))[j]?=some u:=by simpa using hu
 rw[List.append_assoc,List.getElem?_append,hl,List.getElem?_append,Array.length_toList,k1]at my;by_cases e1:j<off
 ·rw[if_pos e1]at my;rw[if_neg (by omega)]at hj;rw[List.getElem?_take,if_pos e1]at my;exact h2 j c u hj (by simpa using my)
 rw[if_neg e1]at my;by_cases e2:j-off<xs.length
 ·rw[if_pos e2]at my;rw[if_pos (by omega)]at hj;exact k2 _ c u hj (by simpa using my)
 rw[if_neg e2]at my;rw[if_neg (by omega)]at hj;rw[List.getElem?_drop]at my;refine h2 j c u hj ?_;rw[show off+xs.length+(j-off-xs.length)=j by omega]at my;simpa using my
theorem setRow_other(w:World)(b k:Nat)(cs:Array Value)(h:k≠b):(w.setRow b cs).heap[k]?=w.heap[k]?:=by
 simp only[World.setRow,Array.getElem?_modify];rw[if_neg (by omega)]
theorem setRow_size(w:World)(b:Nat)(cs:Array Value):(w.setRow b cs).heap.size=w.heap.size:=by
 simp[World.setRow]
theorem gV{g:G}{id:Nat}{cs cs':List ae}{l:Loc}(ho:g.objs[id]?=some (.cells cs))(he:g.env[id]?=some (some l))(gQ:l.lo=0)(bZ:Array Value):ku g id (.cells cs) (some l) (.cells cs') (g.w.setRow l.block bZ) where
 obj:=ho
 os:=rfl
 tape:=rfl
 output:=rfl
 size:=by rw[setRow_size];exact Nat.le_refl _
 block:=fun k _ hk=>setRow_other _ _ _ _ (fun e=>hk l he trivial e.symm)
 cell:=fun b off x hx hb=>by
  by_cases e:b=l.block
  ·have:=hb l he trivial e.symm;omega
  rw[kY (setRow_other g.w l.block b bZ e)];exact hx
 place:=fun l1 h1 _=>by
  simp only[Option.some.injEq]at h1;subst h1;exact .inr ⟨l,he,trivial,rfl,Nat.le_refl _⟩
 spare:=fun m h=>by cases h
 plain:=fun _=>⟨by simp[ak.aF],he⟩
 gone:=by simp
theorem vN{P:Program}{aW:eo}(hT:cb P aW){o:Oper}{σ:St}{t:TypeId}{x y:Operand}{ti:cr}{id off:Nat}{cs:List ae}{v:ae}(ho:o.op=.store t x y)(jo:o.dst=none)
  (ht:aW t=some ti) (hx:σ.ev x=some (.mp id off)) (lU:σ.objs[id]?=some (.cells cs)) (hy:σ.ev y=some v) (hf:v.flat) (cU:v.cells.length=ti.size) (hs:off+ti.size<=cs.length) :
  Cert P o σ (.v (.bool false)) (.write (σ.objs.set id (.cells (aS cs off v.cells)))) :=
 Cert.gu (by simp[jo]) fun base fE a g bM h ic=>by
  have hO:g.objs=σ.objs:=ic.resolve_left (by simp);have hg:=bM.good;obtain⟨l,o1,he,h1,_,ex⟩:=(h x (by simp[ho,Op.operands]) _ hx).lj;have nU:=h y (by simp[ho,Op.operands]) _ hy;have dz:=nU.g9 hf;have pA:=nU.vG dz;have gD:g.objs[id]?=some (.cells cs):=by rw[hO];exact lU
  obtain⟨arr,t',gQ,dp,hlen,eZ,jY,wq⟩:=hg.row gD he;obtain⟨bZ,fb⟩:∃bZ,bZ=(arr.toList.take off++(a.eval y).cells.toList++arr.toList.drop (off+(a.eval y).cells.toList.length)).toArray:=⟨_,rfl⟩
  have dD:=run_storeCells_at P l.block off t' (a.eval y).cells.toList 0 arr g.w dp (by simp[pA.1];omega) (fun u hu=>by
   obtain⟨j,hj⟩:=List.getElem?_of_mem hu;have gY:(a.eval y).cells[j]?=some u:=by simpa using hj
   have aZ:=a5 gY;rw[pA.1]at aZ;have hc:=List.getElem?_eq_getElem aZ;exact((pA.2 j _ u hc gY).fD (dz _ (List.mem_of_getElem? hc))).1)
  simp only[Nat.add_zero]at dD;rw[<-fb]at dD;have ec:=gV (cs':=aS cs off v.cells) gD he gQ bZ;have hle:=Le.br hg ec;have fQ:=gZ.aS ⟨hlen,eZ⟩ pA (off:=off) (by omega);rw[<-fb]at fQ;refine⟨.bool false,g.br id (some l) (.cells (aS cs off v.cells)) (g.w.setRow l.block bZ),.inr ⟨jo,?_⟩,hle,Good.br hg ec ?_ ?_,?_,.v trivial⟩
  ·have DV:((a.eval y).cells.size≠ti.size)=False:=by simp[pA.1,cU]
   simp[execOp,ho,ex,Instr.storeAt,Instr.sureAddr,Go.storeVar,(hT t ti ht).sizeOf,pA.1,cU,dD,G.br]
  ·refine⟨l,bZ,t',rfl,gQ,?_,fQ.1,fun j c u a b=>(fQ.2 j c u a b).mono hle,fun c hc=>?_,?_⟩
   ·exact setRow_heap g.w l.block arr bZ t' (0,0) dp
   ·simp only[aS,List.mem_append]at hc;rcases hc with hc|hc|hc
    ·exact jY c (List.mem_of_mem_take hc)
    ·exact dz c hc
    exact jY c (List.mem_of_mem_drop hc)
   have q:=pA.1;rw[fb];simp only[List.size_toArray,List.length_append,List.length_take,List.length_drop,Array.length_toList];omega
  ·intro l1 h1 _;simp only[Option.some.injEq]at h1;subst h1;rw[setRow_size];exact a5 dp
  simp only[G.br,Mode.post,hO]
section
variable {P:Program}
theorem e9(w w':World)(t ty e:TypeId)(i:TypeInfo)(ht:P.underlying t=some (.slice e))(hi:P.info? e=some i)(a:Addr)(lI qL n:Nat)(x:Value)(news:List Value)
  (yk:∀w,(Builtin.lenOf x).run P w=.ok n w) (vm:(Builtin.firstCells i.size n x).run P w=.ok news.toArray w) (iU:lI+n<=qL) (dD:(storeCells (a.add (lI*i.size)) news).run P w=.ok () w') :
  (Builtin.append_ #[t,t] ty #[.slice (some a) lI qL,x]).run P w=.ok (.slice (some a) (lI+n) qL) w':=by
 simp[Builtin.append_,run_underlying ht,Go.sizeOf,typeInfo,hi,yk,iU,vm,dD]
theorem eF(w:World)(t ty e:TypeId)(i:TypeInfo)(z:Value)(ht:P.underlying t=some (.slice e))(hi:P.info? e=some i)(hz:i.zero=some z)(s:Option Addr)(lI qL n:Nat)(x:Value)(eN news:List Value)
  (yk:∀w,(Builtin.lenOf x).run P w=.ok n w) (vm:(Builtin.firstCells i.size n x).run P w.drew=.ok news.toArray w.drew) (hs:(Builtin.firstCells i.size lI (.slice s lI qL)).run P w.drew=.ok eN.toArray w.drew)
  (iU:qL<lI+n) (Jg:lI+n<=2 ^ 62) (bB:(lI+n)*i.bytes<=2 ^ 47) :
  (Builtin.append_ #[t,t] ty #[.slice s lI qL,x]).run P w =
   .ok (.slice (some ⟨w.heap.size,0,none⟩) (lI+n) (grownCap w (lI+n) qL e)) (w.drew.alloc (.cells (eN.toArray++news.toArray++Builtin.zeroCells z.cells (grownCap w (lI+n) qL e-(lI+n))) e)):=by
 have hn:¬(lI+n<=qL):=by omega
 have HG:¬(9223372036854775807<((lI:Int)+(n:Int))):=by omega
 have ID:¬(281474976710656<Builtin.nextslicecap (lI+n) qL*i.bytes):=by
  have h1:=nextslicecap_le iU;have h2:=Nat.mul_le_mul_right i.bytes h1;rw[Nat.mul_assoc]at h2;omega
 simp[Builtin.append_,run_underlying ht,Go.sizeOf,typeInfo,Go.zeroValue,hi,hz,yk,hn,HG,ID,Question.forced,vm,hs,Go.newRow,grownCap];congr 2;apply Array.ext';simp[List.append_assoc]
end
theorem RV.eA{P:Program}{g:G}{sz:Nat}{xs:List ae}{o:kP}{u:Value}(h:RV g (.aE sz xs o) u):∃(ad:Option Addr) (cap:Nat) (vs:List Value),u=.slice ad xs.length cap∧(∀w,(Builtin.lenOf u).run P w=.ok xs.length w) ∧
  (∀w:World,w.heap=g.w.heap->(Builtin.firstCells sz xs.length u).run P w=.ok vs.toArray w)∧gZ g (ao xs) vs.toArray∧(∀x∈xs,x.cells.length=sz)∧(∀c∈ao xs,c.scalar)∧vs.length=xs.length*sz:=by
 rcases h.eT with⟨e1,e2⟩|⟨a,cap,f,e1,cU,dz,_,_,hs,hm,hr,_⟩
 ·subst e1 e2;exact⟨none,0,[],rfl,fun w=>rfl,fun w _=>by simp[Builtin.firstCells],⟨by simp[ao],by simp[ao]⟩,by simp,by simp[ao],by simp⟩
 subst e1;have hl:=bO cU;refine⟨some a,cap,(List.range (xs.length*sz)).map f,rfl,fun w=>rfl,fun w hw=>?_,⟨by simp[hl],fun j c u hj hu=>?_⟩,cU,fun c hc=>?_,by simp⟩
 ·simp only[Builtin.firstCells];refine run_loadCells w a (xs.length*sz) f fun j hj=>?_;have gY:j<(ao xs).length:=by omega
  have cj:xs≠[]:=by
   intro e;subst e;simp[ao]at gY
  have:=(hm j _ (List.getElem?_eq_getElem gY)).1;obtain⟨b,off,sp⟩:=a;have fQ:=hs cj;simp only at fQ;subst fQ;rw[addr_add];simp only[World.cell?,hw];exact this
 ·have aZ:=I hj;rw[hl]at aZ;have my:((List.range (xs.length*sz)).map f)[j]?=some u:=by simpa using hu
  rw[List.getElem?_map,List.getElem?_range aZ]at my;simp only[Option.map_some,Option.some.injEq]at my;subst my;exact hr j c hj
 simp only[ao,List.mem_flatMap]at hc;obtain⟨x,hx,hc⟩:=hc;exact dz x hx c hc
theorem cI(xs ys:List ae):ao (xs++ys)=ao xs++ao ys:=by simp[ao]
theorem gZ.append{g:G}{cs ds:List ae}{us vs:List Value}(h:gZ g cs us.toArray)(k:gZ g ds vs.toArray):gZ g (cs++ds) (us++vs).toArray:=by
 obtain⟨h1,h2⟩:=h;obtain⟨k1,k2⟩:=k;simp only[List.size_toArray]at h1 k1;refine⟨by simp[h1,k1],fun j c u hj hu=>?_⟩;have my:(us++vs)[j]?=some u:=by simpa using hu
 rw[List.getElem?_append]at hj my;by_cases e:j<cs.length
 ·rw[if_pos e]at hj;rw[if_pos (by omega)]at my;exact h2 j c u hj (by simpa using my)
 rw[if_neg e]at hj;rw[if_neg (by omega),h1]at my;exact k2 _ c u hj (by simpa using my)
theorem RV.th{g:G}{zs:List ae}{sz cap:Nat}{l:Loc}{arr:Array Value}{t:TypeId}{id:Nat}(hg:Good g)(cU:∀x∈zs,x.cells.length=sz)(dz:∀c∈ao zs,c.scalar)(cF:zs.length<=2 ^ 62)(cQ:zs.length<=cap)
  (he:g.env[id]?=some (some l)) (fA:g.objs[id]?=some (.spare zs.length)) (gQ:l.lo=zs.length*sz) (dp:g.w.heap[l.block]?=some (.cells arr t (0,0))) (hc:cap*sz<=arr.size) (dh:∀off,¬g.fr l.block off)
  (hr:∀(j:Nat) (c:ae) (u:Value),(ao zs)[j]?=some c->arr[j]?=some u->RV g c u):RV g (.aE sz zs (.tok id)) (.slice (some ⟨l.block,0,none⟩) zs.length cap):=by
 have hl:=bO cU;have hle:zs.length*sz<=cap*sz:=Nat.mul_le_mul_right _ cQ;refine .aE cU (fun x hx c hc=>dz c (by simp only[ao,List.mem_flatMap];exact⟨x,hx,hc⟩)) cQ cF (fun _=>rfl) (fun j=>arr.getD j undef) (fun j c hj=>?_) (fun j c hj=>?_) ⟨I fA,fun m hm=>?_⟩
 ·have aZ:=I hj;rw[hl]at aZ;refine⟨?_,?_⟩
  ·simp only[G.cell,Nat.zero_add];rw[cell_of_row dp];simp[Array.getD_eq_getD_getElem?,show j<arr.size by omega]
  rintro(hf|⟨kD,l',o',h1,h2,h3,h4,h5⟩)
  ·exact dh _ hf
  have hb:l'.block=l.block:=h4;have:=hg.apart kD id l' l o' _ h1 h2 h3 he fA trivial hb;subst this;rw[he]at h1;simp only[Option.some.injEq]at h1;subst h1;simp only[Nat.zero_add]at h5;omega
 ·have aZ:=I hj;rw[hl]at aZ;exact hr j c _ hj (by simp[Array.getD_eq_getD_getElem?,show j<arr.size by omega])
 rw[fA]at hm;simp only[Option.some.injEq,ak.spare.injEq]at hm;subst hm;exact⟨Nat.le_refl _,fun _=>.inr ⟨l,arr,t,he,rfl,gQ,dp,hc⟩⟩
theorem gZ.iF{g:G}{ys:List ae}{vs:List Value}(h:gZ g (ao ys) vs.toArray):gZ g (ao (ys.map ae.share)) vs.toArray:=by
 rw[fi];exact h.dx
theorem dM{ys:List ae}{sz:Nat}(h:∀x∈ys,x.cells.length=sz):∀x∈ys.map ae.share,x.cells.length=sz:=fun x hx=>by
 rw[List.mem_map]at hx;obtain⟨y,h1,h2⟩:=hx;subst h2;rw[ae.j6,List.length_map];exact h y h1
theorem dB{ys:List ae}(h:∀c∈ao ys,c.scalar):∀c∈ao (ys.map ae.share),c.scalar:=fun c hc=>by
 rw[fi,List.mem_map]at hc;obtain⟨c',h1,h2⟩:=hc;subst h2;exact ae.en (h c' h1)
theorem cV{eN news rest:Array Value}{j:Nat}{u:Value}(h:(eN++news++rest)[j]?=some u)(hj:j<eN.size+news.size):(eN++news)[j]?=some u:=by
 rw[Array.getElem?_append]at h;rw[if_pos (by simpa using hj)]at h;exact h
theorem pV{P:Program}{aW:eo}(hT:cb P aW){o:Oper}{σ:St}{t e:TypeId}{x y:Operand}{ti te:cr}{sz:Nat}{xs ys:List ae}{ow:kP}
  (ho:o.op=.call ⟨.builtin .append,#[x,y],#[t,t]⟩) (hd:∀d,o.dst=some d->d<σ.n) (ht:aW t=some ti) (aT:ti.desc=.slice e) (he:aW e=some te) (cU:te.size=sz) (hx:σ.ev x=some (.aE sz xs .ex)) (hy:σ.ev y=some (.aE sz ys ow))
  (hlen:xs.length+ys.length<=2 ^ 62) (hb:(xs.length+ys.length)*te.bytes<=2 ^ 47) :
  Cert P o σ (.aE sz (xs++ys.map ae.share) (.tok σ.objs.length)) (.write (σ.objs++[.spare (xs.length+ys.length)])) :=
 Cert.gu hd fun base fE a g bM h ic=>by
  have hO:g.objs=σ.objs:=ic.resolve_left (by simp);have hg:=bM.good;have hu:=bI hT ht aT;subst cU;have fJ:=h x (by simp[ho,Op.operands,Call.operands]) _ hx;have nU:=h y (by simp[ho,Op.operands,Call.operands]) _ hy;obtain⟨tG,jB,eN,ex,yk,vm,Ak,yl,uL,uM⟩:=fJ.eA (P:=P);obtain⟨Ed,vF,news,ey,ra,rb,qz,vo,sU,mI⟩:=nU.eA (P:=P);obtain⟨⟨i,z,h1,h2,h3,h4,h5,h6,h7,h8,h9⟩,_⟩:=hT e te he;have lT:jB=xs.length:=by
   rcases fJ.eT with⟨q1,q2⟩|⟨ad,cap,f,q1,_,_,_,_,_,_,_,q2⟩
   ·rw[ex]at q1;cases q2;simp at q1;simp[q1]
   rw[ex]at q1;simp only[Value.slice.injEq]at q1;rw[q1.2.2];exact q2
  subst lT;have cv:=cz (P:=P) ho a g.w;simp only[builtin,List.map_toArray,List.map_cons,List.map_nil]at cv;by_cases hn:ys.length=0
  ·have D4:ys=[]:=List.length_eq_zero_iff.1 hn;subst D4;have lB:news=[]:=by
    have:news.length=0:=by simpa using mI
    exact List.length_eq_zero_iff.1 this
   subst lB;have bz:(Builtin.append_ #[t,t] o.type #[a.eval x,a.eval y]).run P g.w=.ok (a.eval x) g.w:=by
    rw[ex];cases tG with
    | none =>
     have Cu:xs=[]:=by
      rcases fJ.eT with⟨_,q2⟩|⟨ad,cap,f,q1,_⟩
      ·exact q2
      rw[ex]at q1;simp at q1
     subst Cu;have q:=rb g.w rfl;simp only[List.length_nil]at q;simp[Builtin.append_,run_underlying hu,Go.sizeOf,typeInfo,h1,ra,h2,q]
    | some ad =>
     have:=e9 (P:=P) g.w g.w t o.type e i hu h1 ad xs.length xs.length 0 (a.eval y) [] (fun w=>by simpa using ra w) (by rw[h2];simpa using rb g.w rfl) (by omega) (by simp[storeCells]);simpa using this
   refine⟨a.eval x,g.mark (.spare (xs.length+0)),.inl (by rw[cv];simp[bz,G.mark]),Le.mark hg _,Good.mark hg _,by simp[G.mark,hO,Mode.post],?_⟩;simp only[List.map_nil,List.append_nil];have uN:=fJ.mono (Le.mark hg (.spare (xs.length+0)));cases my:a.eval x with
   | slice ad len cap =>
    rw[my]at uN;cases uN with
    | nil=>exact .nil (fun id e=>by simp only[kP.tok.injEq]at e;subst e;simp[G.mark,hO]) (by simp)
    | aE cU dz cQ cF hs f hm hr H2 =>
     refine .aE cU dz cQ cF hs f hm hr ⟨by simp[G.mark,hO],fun m fm=>?_⟩;have:(g.mark (.spare (xs.length+0))).objs[σ.objs.length]?=some (.spare (xs.length+0)):=by
      rw[<-hO];exact eE
     rw[this]at fm;simp only[Option.some.injEq,ak.spare.injEq]at fm;exact⟨by omega,fun _=>.inl H2⟩
   | _=>rw[ex]at my;cases my
  have bz:=eF (P:=P) g.w t o.type e i z hu h1 h4 tG xs.length xs.length ys.length (a.eval y) eN news ra (by rw[h2];exact rb g.w.drew rfl) (by rw[h2,<-ex];exact vm g.w.drew rfl) (by omega) hlen (by rw[h3];exact hb);rw[<-ex]at bz;obtain⟨cap,cQ⟩:∃cap,cap=grownCap g.w (xs.length+ys.length) xs.length e:=⟨_,rfl⟩
  obtain⟨rest,cP⟩:∃rest,rest=Builtin.zeroCells z.cells (cap-(xs.length+ys.length)):=⟨_,rfl⟩
  have lK:=grownCap_ge g.w (xs.length+ys.length) xs.length e;rw[<-cQ]at bz lK;rw[<-cP]at bz;have pG:rest.size=(cap-(xs.length+ys.length))*te.size:=by rw[cP,size_zeroCells,h5,h6]
  obtain⟨arr,eY⟩:∃arr,arr=eN.toArray++news.toArray++rest:=⟨_,rfl⟩
  rw[<-eY]at bz;have j7:=hg.heap (w':=g.w.drew) rfl rfl rfl rfl;have jG:=Le.heap (g:=g) (w':=g.w.drew) rfl rfl rfl rfl;obtain⟨g1,gP⟩:∃g1:G,g1=⟨g.w.drew,g.fr,g.env,g.objs⟩:=⟨_,rfl⟩
  rw[<-gP]at j7 jG;have nT:g1.w=g.w.drew:=by rw[gP]
  have kO:g1.objs=σ.objs:=by rw[gP];exact hO
  have gd:Fits (g1.alloc (.cells arr e) ((xs.length+ys.length)*te.size) (.spare (xs.length+ys.length))) (.cells arr e) (.spare (xs.length+ys.length)):=⟨arr,e,rfl⟩
  have c7:=Good.alloc j7 (.cells arr e) ((xs.length+ys.length)*te.size) (.spare (xs.length+ys.length)) (.inl trivial) gd;have hle:=jG.trans (Le.alloc j7 (.cells arr e) ((xs.length+ys.length)*te.size) (.spare (xs.length+ys.length)));refine⟨.slice (some ⟨g.w.heap.size,0,none⟩) (xs.length+ys.length) cap,_,.inl ?_,hle,c7,?_,?_⟩
  ·rw[cv];simp[bz,G.alloc,nT]
  ·simp[G.alloc,kO,Mode.post]
  have gC:(xs++ys.map ae.share).length=xs.length+ys.length:=by simp
  have gO:=Ak.append qz.iF;rw[<-cI]at gO;have eJ:(ao (xs++ys.map ae.share)).length=(xs.length+ys.length)*te.size:=by
   rw[bO (sz:=te.size) (fun x hx=>by
    rcases List.mem_append.1 hx with q|q
    ·exact yl x q
    exact dM vo x q),gC]
  have:=RV.th (g:=g1.alloc (.cells arr e) ((xs.length+ys.length)*te.size) (.spare (xs.length+ys.length))) (zs:=xs++ys.map ae.share) (sz:=te.size) (cap:=cap) (l:=⟨g.w.heap.size,(xs.length+ys.length)*te.size,arr.size⟩) (arr:=arr) (t:=e) (id:=σ.objs.length) c7
   (fun x hx=>by
    rcases List.mem_append.1 hx with q|q
    ·exact yl x q
    exact dM vo x q)
   (fun c hc=>by
    rw[cI]at hc;rcases List.mem_append.1 hc with q|q
    ·exact uL c q
    exact dB sU c q)
   (by rw[gC];exact hlen) (by rw[gC];exact lK) (by
    have:=gJ j7 (l:=some ⟨g1.w.heap.size,(xs.length+ys.length)*te.size,kv (.cells arr e)⟩);rw[kO]at this;simp only[G.alloc];rw[this,nT];rfl) (by rw[gC,<-kO];exact eE) (by rw[gC]) (by
    have:=dq g1.w (.cells arr e);rw[nT]at this;simp only[G.alloc,nT];exact this) (by
    rw[eY];simp only[Array.size_append,List.size_toArray,uM,mI,pG,<-Nat.add_mul];rw[show xs.length+ys.length+(cap-(xs.length+ys.length))=cap by omega];exact Nat.le_refl _) (fun off hf=>by
    have fg:g.fr g.w.heap.size off:=by rw[gP]at hf;exact hf
    have:=hg.frlt _ _ fg;omega) (fun j c u hj hu=>by
    have aZ:=I hj;rw[eJ]at aZ;rw[eY]at hu;have oI:=cV hu (by simp only[List.size_toArray,uM,mI,<-Nat.add_mul];exact aZ);exact(gO.2 j c u hj (by simpa using oI)).mono hle)
  rw[gC]at this;exact this
theorem pk{P:Program}{aW:eo}(hT:cb P aW){o:Oper}{σ:St}{t e:TypeId}{x y:Operand}{ti te:cr}{sz:Nat}{xs ys:List ae}{ow:kP}{id:Nat}
  (ho:o.op=.call ⟨.builtin .append,#[x,y],#[t,t]⟩) (hd:∀d,o.dst=some d->d<σ.n) (ht:aW t=some ti) (aT:ti.desc=.slice e) (he:aW e=some te) (cU:te.size=sz) (hx:σ.ev x=some (.aE sz xs (.tok id))) (hy:σ.ev y=some (.aE sz ys ow))
  (fA:σ.objs[id]?=some (.spare xs.length)) (hlen:xs.length+ys.length<=2 ^ 62) (hb:(xs.length+ys.length)*te.bytes<=2 ^ 47) :
  Cert P o σ (.aE sz (xs++ys.map ae.share) (.tok id)) (.write (σ.objs.set id (.spare (xs.length+ys.length)))) :=
 Cert.gu hd fun base fE a g bM h ic=>by
  have hO:g.objs=σ.objs:=ic.resolve_left (by simp);have hg:=bM.good;have hu:=bI hT ht aT;subst cU;have fJ:=h x (by simp[ho,Op.operands,Call.operands]) _ hx;have nU:=h y (by simp[ho,Op.operands,Call.operands]) _ hy;obtain⟨tG,jB,eN,ex,yk,vm,Ak,yl,uL,uM⟩:=fJ.eA (P:=P);obtain⟨Ed,vF,news,ey,ra,rb,qz,vo,sU,mI⟩:=nU.eA (P:=P);obtain⟨⟨i,z,h1,h2,h3,h4,h5,h6,h7,h8,h9⟩,_⟩:=hT e te he;have ij:g.objs[id]?=some (.spare xs.length):=by rw[hO];exact fA
  have cv:=cz (P:=P) ho a g.w;simp only[builtin,List.map_toArray,List.map_cons,List.map_nil]at cv;have gw:∀m,m=xs.length->g.objs.set id (.spare m)=g.objs:=fun m hm=>by
   subst hm;apply List.ext_getElem?;intro k;by_cases e:id=k
   ·subst e;rw[List.getElem?_set_self (I ij),ij]
   rw[List.getElem?_set_ne e]
  have gC:(xs++ys.map ae.share).length=xs.length+ys.length:=by simp
  have wF:∀x∈xs++ys.map ae.share,x.cells.length=te.size:=fun x hx=>by
   rcases List.mem_append.1 hx with q|q
   ·exact yl x q
   exact dM vo x q
  have Am:∀c∈ao (xs++ys.map ae.share),c.scalar:=fun c hc=>by
   rw[cI]at hc;rcases List.mem_append.1 hc with q|q
   ·exact uL c q
   exact dB sU c q
  have eJ:(ao (xs++ys.map ae.share)).length=(xs.length+ys.length)*te.size:=by
   rw[bO wF,gC]
  have gO:=Ak.append qz.iF;rw[<-cI]at gO;by_cases hn:ys.length=0
  ·have D4:ys=[]:=List.length_eq_zero_iff.1 hn;subst D4;have lB:news=[]:=by
    have:news.length=0:=by simpa using mI
    exact List.length_eq_zero_iff.1 this
   subst lB;have cQ:xs.length<=jB:=by
    rcases fJ.eT with⟨_,q2⟩|⟨ad,cap,f,q1,_,_,q2,_⟩
    ·simp[q2]
    rw[ex]at q1;simp only[Value.slice.injEq]at q1;rw[q1.2.2];exact q2
   have bz:(Builtin.append_ #[t,t] o.type #[a.eval x,a.eval y]).run P g.w=.ok (a.eval x) g.w:=by
    rw[ex];cases tG with
    | none =>
     have Cu:xs=[]∧jB=0:=by
      rcases fJ.eT with⟨q1,q2⟩|⟨ad,cap,f,q1,_⟩
      ·rw[ex]at q1;simp only[Value.slice.injEq]at q1;exact⟨q2,q1.2.2⟩
      rw[ex]at q1;simp at q1
     obtain⟨e1,e2⟩:=Cu;subst e1;subst e2;have q:=rb g.w rfl;simp only[List.length_nil]at q;simp[Builtin.append_,run_underlying hu,Go.sizeOf,typeInfo,h1,ra,h2,q]
    | some ad =>
     have:=e9 (P:=P) g.w g.w t o.type e i hu h1 ad xs.length jB 0 (a.eval y) [] (fun w=>by simpa using ra w) (by rw[h2];simpa using rb g.w rfl) (by omega) (by simp[storeCells]);simpa using this
   refine⟨a.eval x,g,.inl (by rw[cv];simp[bz]),Le.refl g,hg,?_,?_⟩
   ·simp only[Mode.post,<-hO];exact(gw _ (by simp)).symm
   simpa using fJ
  have hm:xs.length<xs.length+ys.length:=by omega
  by_cases iU:xs.length+ys.length<=jB
  ·-- in place
   obtain⟨l,arr,t',q1,q2,q3,q4,q5⟩:∃(l:Loc) (arr:Array Value) (t':TypeId),g.env[id]?=some (some l)∧tG=some ⟨l.block,0,none⟩∧l.lo=xs.length*te.size∧g.w.heap[l.block]?=some (.cells arr t' (0,0))∧jB*te.size<=arr.size:=by
    rcases fJ.eT with⟨q1,q2⟩|⟨ad,cap,f,q1,_,_,_,_,_,_,_,q2⟩
    ·rw[ex]at q1;simp only[Value.slice.injEq]at q1;omega
    rw[ex]at q1;simp only[Value.slice.injEq]at q1;obtain⟨e1,_,e3⟩:=q1;subst e1;subst e3;rcases(q2.2 _ ij).2 rfl with q|⟨l,arr,t',q1,q2,q3,q4,q5⟩
    ·omega
    exact⟨l,arr,t',q1,by rw[q2],q3,q4,q5⟩
   subst q2;have bB:xs.length*te.size+0+news.length<=arr.size:=by
    rw[mI,Nat.add_zero,<-Nat.add_mul];exact Nat.le_trans (Nat.mul_le_mul_right _ iU) q5
   have sR:∀v∈news,v.oneCell'=true:=fun v hv=>by
    obtain⟨j,hj⟩:=List.getElem?_of_mem hv;have aZ:=I hj;have hs:=qz.1;simp only[List.size_toArray]at hs;rw[hs]at aZ;have hc:=List.getElem?_eq_getElem aZ;exact((qz.2 j _ v hc (by simpa using hj)).fD (sU _ (List.mem_of_getElem? hc))).1
   have dD:=run_storeCells_at P l.block (xs.length*te.size) t' news 0 arr g.w q4 bB sR;simp only[Nat.add_zero]at dD;obtain⟨bZ,fb⟩:∃bZ,bZ=(arr.toList.take (xs.length*te.size)++news++arr.toList.drop (xs.length*te.size+news.length)).toArray:=⟨_,rfl⟩
   rw[<-fb]at dD;have lW:bZ.size=arr.size:=by
    rw[fb];simp;omega
   have GO:∀j,j<xs.length*te.size->bZ[j]?=arr[j]?:=fun j hj=>by
    rw[fb];simp only[List.append_assoc,List.getElem?_toArray];rw[List.getElem?_append,if_pos (by simp;omega),List.getElem?_take,if_pos hj];simp
   have sQ:∀j u,bZ[j]?=some u->xs.length*te.size<=j->j<(xs.length+ys.length)*te.size->news[j-xs.length*te.size]?=some u:=fun j u hj h1 h2=>by
    rw[fb]at hj;simp only[List.append_assoc,List.getElem?_toArray]at hj;have EN:(arr.toList.take (xs.length*te.size)).length=xs.length*te.size:=by simp;omega
    rw[List.getElem?_append,EN,if_neg (by omega),List.getElem?_append,if_pos (by rw[mI];rw[Nat.add_mul]at h2;omega)]at hj;exact hj
   have bz:=e9 (P:=P) g.w (g.w.setRow l.block bZ) t o.type e i hu h1 ⟨l.block,0,none⟩ xs.length jB ys.length (a.eval y) news ra (by rw[h2];exact rb g.w rfl) iU (by rw[h2,addr_add,Nat.zero_add];exact dD);rw[<-ex]at bz;have ec:ku g id (.spare xs.length) (some ⟨l.block,(xs.length+ys.length)*te.size,0⟩) (.spare (xs.length+ys.length)) (g.w.setRow l.block bZ):={
    obj:=ij
    os:=rfl
    tape:=rfl
    output:=rfl
    size:=by rw[setRow_size];exact Nat.le_refl _
    block:=fun k _ hk=>setRow_other _ _ _ _ (fun e=>hk l q1 trivial e.symm)
    cell:=fun b off x hx hb=>by
     by_cases e:b=l.block
     ·subst e;have aZ:=hb l q1 trivial rfl;rw[q3]at aZ;rw[cell_of_row (setRow_heap g.w l.block arr bZ t' (0,0) q4),GO off aZ];simp only[G.cell]at hx;rw[cell_of_row q4]at hx;exact hx
     rw[kY (setRow_other g.w l.block b bZ e)];exact hx
    place:=fun l1 h1 _=>by
     simp only[Option.some.injEq]at h1;subst h1;exact .inr ⟨l,q1,trivial,rfl,by rw[q3];exact Nat.mul_le_mul_right _ (by omega)⟩
    spare:=fun m h=>by
     simp only[ak.spare.injEq]at h;subst h;exact .inl ⟨_,rfl,hm⟩
    plain:=fun h=>absurd trivial h
    gone:=by simp }
   have hle:=Le.br hg ec;have c7:=Good.br hg ec (fun l1 h1=>by
    simp only[Option.some.injEq]at h1;subst h1;exact⟨bZ,t',setRow_heap g.w l.block arr bZ t' (0,0) q4⟩) (fun l1 h1 _=>by
    simp only[Option.some.injEq]at h1;subst h1;rw[setRow_size];exact a5 q4)
   refine⟨.slice (some ⟨l.block,0,none⟩) (xs.length+ys.length) jB,_,.inl ?_,hle,c7,by simp only[G.br,Mode.post,hO],?_⟩
   ·rw[cv];simp[bz,G.br]
   have:=RV.th (g:=g.br id (some ⟨l.block,(xs.length+ys.length)*te.size,0⟩) (.spare (xs.length+ys.length)) (g.w.setRow l.block bZ)) (zs:=xs++ys.map ae.share) (sz:=te.size) (cap:=jB)
    (l:=⟨l.block,(xs.length+ys.length)*te.size,0⟩) (arr:=bZ) (t:=t') (id:=id) c7 wF Am (by rw[gC];exact hlen) (by rw[gC];exact iU)
    (by simp only[G.br];rw[List.getElem?_set_self (gN hg ij)]) (by rw[gC];simp only[G.br];rw[List.getElem?_set_self (I ij)]) (by rw[gC])
    (setRow_heap g.w l.block arr bZ t' (0,0) q4) (by rw[lW];exact q5) (fun off hf=>?_) (fun j c u hj hu=>?_)
   ·rw[gC]at this;exact this
   ·have fg:g.fr l.block off:=hf;exact absurd fg (hg.fk id l _ q1 ij trivial off)
   have aZ:=I hj;rw[eJ]at aZ;refine(gO.2 j c u hj ?_).mono hle;have yh:eN.length=xs.length*te.size:=uM;simp only[List.getElem?_toArray];rw[List.getElem?_append];by_cases e:j<eN.length
   ·rw[if_pos e];have gY:(ao xs)[j]?=some c:=by
     rw[cI,List.getElem?_append,if_pos (by rw[bO yl];omega)]at hj;exact hj
    rw[GO j (by omega)]at hu;have z6:=vm g.w rfl;rw[ex]at z6;simp only[Builtin.firstCells]at z6;have Aa:=run_loadCells (P:=P) g.w ⟨l.block,0,none⟩ (xs.length*te.size) (fun k=>arr.getD k undef) (fun k hk=>by
     rw[addr_add,cell_of_row q4,Nat.zero_add];simp[Array.getD_eq_getD_getElem?,show k<arr.size by omega])
    rw[Aa]at z6;simp only[Result.ok.injEq,and_true]at z6;have holds:eN=(List.range (xs.length*te.size)).map (fun k=>arr.getD k undef):=by
     have:=congrArg Array.toList z6;simpa using this.symm
    rw[holds,List.getElem?_map,List.getElem?_range (by omega)];simp only[Option.map_some,Option.some.injEq];have IS:j<arr.size:=by omega
    simp only[Array.getElem?_eq_getElem IS,Option.some.injEq]at hu;simp[Array.getD_eq_getD_getElem?,IS,hu]
   rw[if_neg e,yh];exact sQ j u hu (by omega) aZ
  -- a new row
  have bz:=eF (P:=P) g.w t o.type e i z hu h1 h4 tG xs.length jB ys.length (a.eval y) eN news ra (by rw[h2];exact rb g.w.drew rfl) (by rw[h2,<-ex];exact vm g.w.drew rfl) (by omega) hlen (by rw[h3];exact hb);rw[<-ex]at bz;obtain⟨cap,cQ⟩:∃cap,cap=grownCap g.w (xs.length+ys.length) jB e:=⟨_,rfl⟩
  obtain⟨rest,cP⟩:∃rest,rest=Builtin.zeroCells z.cells (cap-(xs.length+ys.length)):=⟨_,rfl⟩
  have lK:=grownCap_ge g.w (xs.length+ys.length) jB e;rw[<-cQ]at bz lK;rw[<-cP]at bz;have pG:rest.size=(cap-(xs.length+ys.length))*te.size:=by rw[cP,size_zeroCells,h5,h6]
  obtain⟨arr,eY⟩:∃arr,arr=eN.toArray++news.toArray++rest:=⟨_,rfl⟩
  rw[<-eY]at bz;have ec:ku g id (.spare xs.length) (some ⟨g.w.heap.size,(xs.length+ys.length)*te.size,0⟩) (.spare (xs.length+ys.length)) (g.w.drew.alloc (.cells arr e)):={
   obj:=ij
   os:=rfl
   tape:=rfl
   output:=rfl
   size:=by show g.w.heap.size<=(g.w.heap.push _).size;rw[Array.size_push];omega
   block:=fun k hk _=>du g.w.drew _ hk
   cell:=fun b off x hx _=>by
    have:=pD hx;rw[kY (du g.w.drew (.cells arr e) this)];exact hx
   place:=fun l1 h1 _=>by
    simp only[Option.some.injEq]at h1;subst h1;exact .inl (Nat.le_refl _)
   spare:=fun m h=>by
    simp only[ak.spare.injEq]at h;subst h;exact .inl ⟨_,rfl,hm⟩
   plain:=fun h=>absurd trivial h
   gone:=by simp }
  have hle:=Le.br hg ec;have c7:=Good.br hg ec (fun l1 h1=>by
   simp only[Option.some.injEq]at h1;subst h1;exact⟨arr,e,dq g.w.drew _⟩) (fun l1 h1 _=>by
   simp only[Option.some.injEq]at h1;subst h1;exact a5 (dq g.w.drew (.cells arr e)))
  refine⟨.slice (some ⟨g.w.heap.size,0,none⟩) (xs.length+ys.length) cap,_,.inl ?_,hle,c7,by simp only[G.br,Mode.post,hO],?_⟩
  ·rw[cv];simp[bz,G.br]
  have:=RV.th (g:=g.br id (some ⟨g.w.heap.size,(xs.length+ys.length)*te.size,0⟩) (.spare (xs.length+ys.length)) (g.w.drew.alloc (.cells arr e))) (zs:=xs++ys.map ae.share) (sz:=te.size) (cap:=cap)
   (l:=⟨g.w.heap.size,(xs.length+ys.length)*te.size,0⟩) (arr:=arr) (t:=e) (id:=id) c7 wF Am (by rw[gC];exact hlen) (by rw[gC];exact lK)
   (by simp only[G.br];rw[List.getElem?_set_self (gN hg ij)]) (by rw[gC];simp only[G.br];rw[List.getElem?_set_self (I ij)]) (by rw[gC])
   (dq g.w.drew _) (by
    rw[eY];simp only[Array.size_append,List.size_toArray,uM,mI,pG,<-Nat.add_mul];rw[show xs.length+ys.length+(cap-(xs.length+ys.length))=cap by omega];exact Nat.le_refl _) (fun off hf=>by
    have fg:g.fr g.w.heap.size off:=hf;have:=hg.frlt _ _ fg;omega) (fun j c u hj hu=>by
    have aZ:=I hj;rw[eJ]at aZ;rw[eY]at hu;have oI:=cV hu (by simp only[List.size_toArray,uM,mI,<-Nat.add_mul];exact aZ);exact(gO.2 j c u hj (by simpa using oI)).mono hle)
  rw[gC]at this;exact this
end Go.Av
namespace Go.Av
def lz:Value->Value->Bool
 | .string a,.string b=>decide (a=b)
 | .int _ a,.int _ b=>decide (a=b)
 | _,_=>false
def jh:List (Value×ae)->Value->Option ae
 | [],_=>none
 | (k,x)::r,key=>if lz k key then some x else jh r key
def ll:List (Value×ae)->Value->ae->List (Value×ae)
 | [],key,y=>[(key,y)]
 | (k,x)::r,key,y=>if lz k key then(key,y)::r else(k,x)::ll r key y
def KT.desc:KT->TypeDesc->Prop
 | .str,d=>d=.string
 | .int k,d=>d=.int k
theorem bytes_beq(s t:ByteArray):(s == t)=decide (s=t):=by
 obtain⟨a⟩:=s;obtain⟨b⟩:=t;have e:((⟨a⟩:ByteArray) == ⟨b⟩)=(a == b):=rfl;rw[e,Bool.eq_iff_iff];simp
theorem wY{kt:KT}{d:TypeDesc}(hd:kt.desc d){a b:Value}(ha:kt.ok a)(hb:kt.ok b):Instr.sameNow d a b=some (lz b a):=by
 cases kt with
 | str =>
  simp only[KT.desc]at hd;subst hd;cases a<;>simp only[KT.ok]at ha;cases b<;>simp only[KT.ok]at hb;rename_i s t;simp only[Instr.sameNow,lz,Option.some.injEq,bytes_beq];rw[Bool.eq_iff_iff];simp only[decide_eq_true_eq];exact⟨Eq.symm,Eq.symm⟩
 | int k =>
  simp only[KT.desc]at hd;subst hd;cases a<;>simp only[KT.ok]at ha;cases b<;>simp only[KT.ok]at hb;rename_i s t;subst ha;subst hb;simp only[Instr.sameNow,lz,if_true,Option.some.injEq];rw[Bool.eq_iff_iff];simp only[beq_iff_eq,decide_eq_true_eq];exact⟨Eq.symm,Eq.symm⟩
theorem findNow_spec{kt:KT}{d:TypeDesc}(hd:kt.desc d){key:Value}(hk:kt.ok key):∀(arr:List MapEntry) (es:List (Value×ae)) (i:Nat),arr.length=es.length ->
  (∀(j:Nat) (e:MapEntry) (kx:Value×ae),arr[j]?=some e->es[j]?=some kx->e.key=kx.1)->(∀p∈es,kt.ok p.1) ->
  ∃r,Instr.findNow d key arr i=some r ∧
   ((r=none∧jh es key=none∧∀y,ll es key y=es++[(key,y)]) ∨
    ∃(j:Nat) (e:MapEntry) (x:ae) (k0:Value),r=some (i+j,e.val)∧arr[j]?=some e∧es[j]?=some (k0,x)∧lz k0 key=true∧jh es key=some x∧∀y,ll es key y=es.set j (key,y))
 | [],[],i,_,_,_=>⟨none,rfl,.inl ⟨rfl,rfl,fun _=>rfl⟩⟩
 | [],_::_,i,hl,_,_=>by simp at hl
 | _::_,[],i,hl,_,_=>by simp at hl
 | e::arr,(k0,x)::es,i,hl,ye,jJ=>by
  have he:e.key=k0:=ye 0 e (k0,x) rfl rfl;have DK:kt.ok k0:=jJ (k0,x) (by simp);have hs:=wY hd hk (he ▸ DK:kt.ok e.key);simp only[Instr.findNow,hs];cases hq:lz e.key key with
  | true =>
   refine⟨some (i,e.val),by rfl,.inr ⟨0,e,x,k0,by simp,rfl,rfl,he ▸ hq,?_,fun y=>?_⟩⟩
   ·rw[he]at hq;simp[jh,hq]
   rw[he]at hq;simp[ll,hq]
  | false =>
   rw[he]at hq;obtain⟨r,h1,h2⟩:=findNow_spec hd hk arr es (i+1) (by simpa using hl) (fun j e' kx a b=>ye (j+1) e' kx (by simpa using a) (by simpa using b)) (fun p hp=>jJ p (by simp[hp]));refine⟨r,h1,?_⟩;rcases h2 with⟨q1,q2,q3⟩|⟨j,e',x',k',q1,q2,q3,q4,q5,q6⟩
   ·exact .inl ⟨q1,by simp[jh,hq,q2],fun y=>by simp[ll,hq,q3]⟩
   refine .inr ⟨j+1,e',x',k',?_,by simpa using q2,by simpa using q3,q4,by simp[jh,hq,q5],fun y=>by simp[ll,hq,q6]⟩;rw[q1];simp only[Option.some.injEq,Prod.mk.injEq,and_true];omega
theorem lY{P:Program}{aW:eo}(hT:cb P aW){t k e:TypeId}{ti:cr}(ht:aW t=some ti)(aT:ti.desc=.map k e):P.underlying t=some (.map k e):=by
 obtain⟨_,d,h1,h2⟩:=hT t ti ht;rw[aT]at h2;simp only[oC]at h2;rw[h1,h2]
theorem run_checkKey{P:Program}{kt:KT}{k:TypeId}{d:TypeDesc}(hu:P.underlying k=some d)(hd:kt.desc d){key:Value}(w:World)(b:Bool)(n:Nat):(Instr.checkKey b (n+1) k key).run P w=.ok () w:=by
 cases kt<;>simp only[KT.desc]at hd<;>subst hd<;>simp[Instr.checkKey,run_underlying hu]
def zeroOf(ti:cr):ae:=if ti.desc.agg then .agg ti.zero else ti.zero.getD 0 (.v (.bool false))
theorem mg{P:Program}{t:TypeId}{ti:cr}(h:xm P t ti)(hs:ti.desc.agg=true∨ti.size=1):∃z,(∀w,(Go.zeroValue t).run P w=.ok z w)∧∀g,RV g (zeroOf ti) z:=by
 obtain⟨⟨i,z,h1,h2,h3,h4,h5,h6,h7,h8,h9⟩,_⟩:=h;refine⟨z,fun w=>by simp[Go.zeroValue,typeInfo,h1,h4],fun g=>?_⟩;unfold zeroOf;split
 ·rename_i eQ;obtain⟨cs,e⟩:=h7.1 eQ;subst e;exact .agg h5 h9 (h8 g)
 rename_i eQ;have cU:ti.zero.length=1:=by
  rcases hs with q|q
  ·exact absurd q eQ
  omega
 match hz:ti.zero,cU with
 | [c],_ =>
  have mZ:z.cells.size=1:=by rw[h5,hz];rfl
  have dz:c.scalar:=h9 c (by rw[hz];simp);have hr:=h8 g 0 c (z.cells[0]) (by rw[hz];rfl) (by simp[mZ]);have Cw:=h7.2 (by simpa using eQ);have Ih:z.cells[0]=z:=by simp[Cw]
  rw[Ih]at hr;exact hr
theorem tF{P:Program}{t:TypeId}{ti:cr}(h:xm P t ti)(hs:ti.desc.agg=true∨ti.size=1):(zeroOf ti).cells=ti.zero∧ti.zero.length=ti.size∧∀c∈ti.zero,c.scalar:=by
 obtain⟨⟨i,z,h1,h2,h3,h4,h5,h6,h7,h8,h9⟩,_⟩:=h;refine⟨?_,h6,h9⟩;unfold zeroOf;split
 ·rfl
 rename_i eQ;have cU:ti.zero.length=1:=by
  rcases hs with q|q
  ·exact absurd q eQ
  omega
 match hz:ti.zero,cU with
 | [c],_ =>
  have dz:c.scalar:=h9 c (by rw[hz];simp);simp only[List.getD_cons_zero];cases c<;>first|rfl|exact dz.elim
theorem RV.sY{g:G}{sz:Nat}{xs:List ae}{o:kP}{u:Value}(h:RV g (.aE sz xs o) u):RV g (.aE sz (xs.map ae.share) o) u:=by
 cases h with
 | nil ho hn=>exact .nil ho hn
 | aE cU dz cQ cF hs f hm hr ho =>
  have key:∀(j:Nat) (c:ae),(ao (xs.map ae.share))[j]?=some c->∃c',(ao xs)[j]?=some c'∧c'.bk=c:=fun j c hj=>by
   rw[fi,List.getElem?_map,Option.map_eq_some_iff]at hj;exact hj
  have hl:(xs.map ae.share).length=xs.length:=List.length_map _;rw[<-hl]at cQ cF ho ⊢;refine .aE (dM cU) (fun x hx c hc=>?_) cQ cF (fun cj=>hs fun e=>cj (by rw[e];rfl)) f (fun j c hj=>?_) (fun j c hj=>?_) ho
  ·exact dB (fun c hc=>by
    simp only[ao,List.mem_flatMap]at hc;obtain⟨x,hx,hc⟩:=hc;exact dz x hx c hc) c (by
    simp only[ao,List.mem_flatMap];exact⟨x,hx,hc⟩)
  ·obtain⟨c',lJ,_⟩:=key j c hj;exact hm j c' lJ
  obtain⟨c',lJ,rfl⟩:=key j c hj;exact(hr j c' lJ).bk
theorem pq{P:Program}{aW:eo}(hT:cb P aW){o:Oper}{σ:St}{t e:TypeId}{x y:Operand}{ti te:cr}{k k':IntKind}{n:Int}
  (ho:o.op=.makeSlice t x y) (hd:∀d,o.dst=some d->d<σ.n) (ht:aW t=some ti) (aT:ti.desc=.slice e) (he:aW e=some te) (hx:σ.ev x=some (.v (.int k n))) (hy:σ.ev y=some (.v (.int k' n)))
  (h0:0<=n) (hb:te.bytes*n.toNat<=2 ^ 48) (B6:n.toNat<=2 ^ 62) (hs:0<te.size) (sR:te.desc.agg=true∨te.size=1) :
  Cert P o σ (.aE te.size (List.replicate n.toNat (zeroOf te).share) .ex) .pure :=
 Cert.gu hd fun base fE a g bM h _=>by
  have hg:=bM.good;have ex:=(h x (by simp[ho,Op.operands]) _ hx).cq.1;have ey:=(h y (by simp[ho,Op.operands]) _ hy).cq.1;have hu:=bI hT ht aT;obtain⟨c1,c2,c3⟩:=tF (hT e te he) sR;obtain⟨⟨i,z,h1,h2,h3,h4,h5,h6,h7,h8,h9⟩,_⟩:=hT e te he;obtain⟨m,rfl⟩:=Int.eq_ofNat_of_zero_le h0;simp only[Int.toNat_natCast]at *;have yc:(i.bytes:Int)*(m:Int)<=281474976710656:=by
   rw[h3,<-Int.natCast_mul];omega
  have bz:=run_make (P:=P) g.w t e i z hu h1 h4 k k' m m (by omega) (Int.le_refl _) yc (by omega);simp only[Int.toNat_natCast]at bz;have Gs:ao (List.replicate m (zeroOf te))=(List.replicate m te.zero).flatten:=by
   rw[ao,List.flatMap_replicate,c1]
  have hlen:(List.replicate m te.zero).flatten.length=m*te.size:=by simp[h6]
  have fS:∀(j:Nat) (c:ae),(List.replicate m te.zero).flatten[j]?=some c->te.zero[j % te.size]?=some c:=fun j c=>h6 ▸ oc te.zero (by omega) m j c;have hle:=Le.push g hg (.cells (madeCells z.cells (m*i.size)) e);have sQ:=dq g.w (.cells (madeCells z.cells (m*i.size)) e (0,0));have E4:RV (g.push (.cells (madeCells z.cells (m*i.size)) e)) (.aE te.size (List.replicate m (zeroOf te)) .ex) (.slice (some ⟨g.w.heap.size,0,none⟩) m m):=by
   have key:=@RV.aE (g.push (.cells (madeCells z.cells (m*i.size)) e)) te.size (List.replicate m (zeroOf te)) .ex ⟨g.w.heap.size,0,none⟩ m (fun x hx=>by
    rw[(List.mem_replicate.1 hx).2,c1,c2]) (fun x hx c hc=>by
    rw[(List.mem_replicate.1 hx).2,c1]at hc;exact c3 c hc) (by simp) (by simpa using B6) (fun _=>rfl) (fun j=>(madeCells z.cells (m*i.size)).getD j undef) (fun j c hj=>by
     rw[Gs]at hj;have aZ:=I hj;rw[hlen]at aZ;refine⟨?_,?_⟩
     ·show(g.w.alloc _).cell? _=_;rw[cell_of_row sQ,Nat.zero_add];have cU:j<(madeCells z.cells (m*i.size)).size:=by rw[size_madeCells,h2];exact aZ
      simp[Array.getD_eq_getD_getElem?,cU]
     ·rintro(hf|⟨id,l,o',q1,q2,q3,q4,_⟩)
      ·have:=hg.frlt _ _ hf;simp at this
      have:=hg.loc id l o' q1 q2 q3;simp only at q4;omega) (fun j c hj=>by
     rw[Gs]at hj;have gY:=fS j c hj;have aZ:=I hj;rw[hlen]at aZ;have jH:j % te.size<z.cells.size:=by rw[h5];exact I gY
     refine h8 _ _ _ _ gY ?_;have cU:j<(madeCells z.cells (m*i.size)).size:=by rw[size_madeCells,h2];exact aZ
     have:(madeCells z.cells (m*i.size))[j]?=some (z.cells[j % te.size]'jH):=by
      simp only[madeCells,Array.getElem?_map,h2,Array.getElem?_range,if_pos aZ,Option.map_some,Option.some.injEq];rw[h5,h6];simp[Array.getD_eq_getD_getElem?,jH]
     rw[Array.getD_eq_getD_getElem?,this,Option.getD_some];exact Array.getElem?_eq_getElem jH) (by simp[oS])
   simpa using key
  refine⟨.slice (some ⟨g.w.heap.size,0,none⟩) m m,g.push (.cells (madeCells z.cells (m*i.size)) e),.inl ?_,hle,Good.push hg _,rfl,by simpa using E4.sY⟩;simp[execOp,ho,ex,ey,bz,G.push]
theorem qJ{P:Program}{kt:KT}{t k e:TypeId}{d:TypeDesc}(hu:P.underlying t=some (.map k e))(hk:P.underlying k=some d)(hd:kt.desc d){g:G}{r clk:Nat}{arr:Array MapEntry}{es:List (Value×ae)}{z:Value}{zx:ae}
  (hh:g.w.heap[r]?=some (.map arr clk)) (hl:arr.size=es.length) (ye:∀(i:Nat) (e:MapEntry) (kx:Value×ae),arr[i]?=some e->es[i]?=some kx->e.key=kx.1) (jJ:∀p∈es,kt.ok p.1)
  (hr:∀(i:Nat) (e:MapEntry) (kx:Value×ae),arr[i]?=some e->es[i]?=some kx->RV g kx.2 e.val) {key:Value} (gT:kt.ok key) (hz:(Go.zeroValue e).run P g.w=.ok z g.w) (JS:RV g zx z) (ok:Bool) :
  ∃u,(Instr.lookup t (.map (some r)) key ok).run P g.w=.ok (if ok then .tuple #[u,.bool (jh es key).isSome]else u) g.w∧RV g ((jh es key).getD zx) u:=by
 obtain⟨fr,h1,h2⟩:=findNow_spec hd gT arr.toList es 0 (by simpa using hl) (fun j e kx a b=>ye j e kx (by simpa using a) b) jJ;have we:∀b,(Instr.checkKey b 10000 k key).run P g.w=.ok () g.w:=fun b=>run_checkKey hk hd g.w b 9999;have fS:(getObj r).run P g.w=.ok (.map arr clk) g.w:=by
  simp[Go.getObj,Sem.run,hh]
 have uB:(Instr.findKey k key arr.toList).run P g.w=.ok fr g.w:=by
  simp[Instr.findKey,run_underlying hk,h1]
 rcases h2 with⟨q1,q2,_⟩|⟨j,e',x,k0,q1,q2,q3,_,q5,_⟩
 ·subst q1;refine⟨z,?_,by rw[q2];exact JS⟩;simp only[Instr.lookup,Sem.run_bind,run_underlying hu,Result.andThen_ok,fS,Sem.run_pure,we,uB,hz,q2];cases ok<;>rfl
 subst q1;refine⟨e'.val,?_,by rw[q5];exact hr j e' (k0,x) (by simpa using q2) q3⟩;simp only[Instr.lookup,Sem.run_bind,run_underlying hu,Result.andThen_ok,fS,Sem.run_pure,we,uB,q5];cases ok<;>rfl
def ka(ok:Bool)(x:Option ae)(z:ae):ae:=if ok then .df [x.getD z,.v (.bool x.isSome)]else x.getD z
theorem ld{g:G}{ok:Bool}{x:Option ae}{z:ae}{u:Value}(h:RV g (x.getD z) u):RV g (ka ok x z) (if ok then .tuple #[u,.bool x.isSome]else u):=by
 cases ok
 ·exact h
 refine .df rfl (fun i c v h1 h2=>?_)
 match i,h1,h2 with
 | 0,h1,h2 =>
  simp at h1 h2;subst h1;subst h2;exact h
 | 1,h1,h2 =>
  simp at h1 h2;subst h1;subst h2;exact .v trivial
theorem p9{P:Program}{aW:eo}(hT:cb P aW){o:Oper}{σ:St}{t k e:TypeId}{x y:Operand}{ok:Bool}{ti te:cr}{kt:KT}{es:List (Value×ae)}{key:Value}{d:TypeDesc}
  (ho:o.op=.lookup t x y ok) (hd:∀d,o.dst=some d->d<σ.n) (ht:aW t=some ti) (aT:ti.desc=.map k e) (hk:P.underlying k=some d) (vl:kt.desc d) (he:aW e=some te) (cU:te.desc.agg=true∨te.size=1)
  (hx:σ.ev x=some (.im kt es)) (hy:σ.ev y=some (.v key)) (gT:kt.ok key):Cert P o σ (ka ok (jh es key) (zeroOf te)) .pure :=
 Cert.bQ .pure (.inl rfl) hd fun a g _ h _=>by
  obtain⟨r,clk,arr,ex,hh,hl,ye,jJ,hr⟩:=(h x (by simp[ho,Op.operands]) _ hx).E7;have ey:=(h y (by simp[ho,Op.operands]) _ hy).cq.1;obtain⟨z,hz,y1⟩:=mg (hT e te he) cU;obtain⟨u,h1,h2⟩:=qJ (lY hT ht aT) hk vl hh hl ye jJ hr gT (hz g.w) (y1 g) ok;exact⟨_,by simp only[execOp,ho,ex,ey,Sem.run_bind,h1,Result.andThen_ok,Sem.run_pure],ld h2⟩
theorem qa{P:Program}{aW:eo}(hT:cb P aW){o:Oper}{σ:St}{t k e:TypeId}{x y:Operand}{ok:Bool}{ti te:cr}{kt:KT}{es:List (Value×ae)}{id:Nat}{key:Value}{d:TypeDesc}
  (ho:o.op=.lookup t x y ok) (hd:∀d,o.dst=some d->d<σ.n) (ht:aW t=some ti) (aT:ti.desc=.map k e) (hk:P.underlying k=some d) (vl:kt.desc d) (he:aW e=some te) (cU:te.desc.agg=true∨te.size=1)
  (hx:σ.ev x=some (.mm id)) (lU:σ.objs[id]?=some (.map kt es)) (hy:σ.ev y=some (.v key)) (gT:kt.ok key):Cert P o σ (ka ok (jh es key) (zeroOf te)) (.rd id) :=
 Cert.E9 hd fun a g hg h hO=>by
  obtain⟨l,o1,pE,h1,_,ex⟩:=(h x (by simp[ho,Op.operands]) _ hx).wN;have ey:=(h y (by simp[ho,Op.operands]) _ hy).cq.1;obtain⟨l',arr,clk,e1,_,hh,hl,jJ,hr⟩:=hg.map id kt es (by rw[hO];exact lU);rw[pE]at e1;simp only[Option.some.injEq]at e1;subst e1;obtain⟨z,hz,y1⟩:=mg (hT e te he) cU;obtain⟨u,h1,h2⟩:=qJ (lY hT ht aT) hk vl hh hl (fun i e kx a b=>(hr i e kx a b).1) jJ (fun i e kx a b=>(hr i e kx a b).2.2) gT (hz g.w) (y1 g) ok;exact⟨_,by simp only[execOp,ho,ex,ey,Sem.run_bind,h1,Result.andThen_ok,Sem.run_pure],ld h2⟩
theorem po{P:Program}{aW:eo}(hT:cb P aW){o:Oper}{σ:St}{t k e:TypeId}{x y:Operand}{ok:Bool}{ti te:cr}{kt:KT}{key:Value}{d:TypeDesc}
  (ho:o.op=.lookup t x y ok) (hd:∀d,o.dst=some d->d<σ.n) (ht:aW t=some ti) (aT:ti.desc=.map k e) (hk:P.underlying k=some d) (vl:kt.desc d) (he:aW e=some te) (cU:te.desc.agg=true∨te.size=1)
  (hx:σ.ev x=some (.v (.map none))) (hy:σ.ev y=some (.v key)):Cert P o σ (ka ok none (zeroOf te)) .pure :=
 Cert.bQ .pure (.inl rfl) hd fun a g _ h _=>by
  have ex:=(h x (by simp[ho,Op.operands]) _ hx).cq.1;have ey:=(h y (by simp[ho,Op.operands]) _ hy).cq.1;obtain⟨z,hz,y1⟩:=mg (hT e te he) cU;have we:∀b,(Instr.checkKey b 10000 k key).run P g.w=.ok () g.w:=fun b=>run_checkKey hk vl g.w b 9999;have h1:(Instr.lookup t (.map none) key ok).run P g.w=.ok (if ok then .tuple #[z,.bool (none:Option ae).isSome]else z) g.w:=by
   simp only[Instr.lookup,Sem.run_bind,run_underlying (lY hT ht aT),Result.andThen_ok,Sem.run_pure,we,Instr.findKey,run_underlying hk,Instr.findNow,hz g.w];cases ok<;>rfl
  exact⟨_,by simp only[execOp,ho,ex,ey,Sem.run_bind,h1,Result.andThen_ok,Sem.run_pure],ld (y1 g)⟩
theorem zL{kt:KT}{a b:Value}(ha:kt.ok a)(hb:kt.ok b)(h:lz a b=true):a=b:=by
 cases kt with
 | str =>
  cases a<;>simp only[KT.ok]at ha;cases b<;>simp only[KT.ok]at hb;simp only[lz,decide_eq_true_eq]at h;rw[h]
 | int k =>
  cases a<;>simp only[KT.ok]at ha;cases b<;>simp only[KT.ok]at hb;simp only[lz,decide_eq_true_eq]at h;rw[h,ha,hb]
theorem sameBits_self{kt:KT}{a:Value}(ha:kt.ok a)(n:Nat):Instr.sameBits n a a=true:=by
 cases kt with
 | str =>
  cases a<;>simp only[KT.ok]at ha;cases n<;>simp[Instr.sameBits,bytes_beq]
 | int k =>
  cases a<;>simp only[KT.ok]at ha;cases n<;>simp[Instr.sameBits]
theorem CA{kt:KT}{es:List (Value×ae)}{key:Value}{y:ae}(h:∀p∈es,kt.ok p.1)(hk:kt.ok key):∀p∈ll es key y,kt.ok p.1:=by
 induction es with
 | nil=>simp[ll,hk]
 | cons q r ih =>
  obtain⟨k,x⟩:=q;simp only[ll];split
  ·intro p hp;rcases List.mem_cons.1 hp with e|e
   ·subst e;exact hk
   exact h p (by simp[e])
  intro p hp;rcases List.mem_cons.1 hp with e|e
  ·subst e;exact h _ (by simp)
  exact ih (fun p hp=>h p (by simp[hp])) p e
theorem lO{P:Program}{aW:eo}(hT:cb P aW){o:Oper}{σ:St}{t k e:TypeId}{x y v:Operand}{ti:cr}{kt:KT}{es:List (Value×ae)}{id:Nat}{key:Value}{d:TypeDesc}{val:ae}
  (ho:o.op=.mapUpdate t x y v∨o.op=.insert t x y v) (jo:o.dst=none) (ht:aW t=some ti) (aT:ti.desc=.map k e) (hk:P.underlying k=some d) (vl:kt.desc d)
  (hx:σ.ev x=some (.mm id)) (lU:σ.objs[id]?=some (.map kt es)) (hy:σ.ev y=some (.v key)) (gT:kt.ok key) (hv:σ.ev v=some val) :
  Cert P o σ (.v (.bool false)) (.write (σ.objs.set id (.map kt (ll es key val)))) :=
 Cert.gu (by simp[jo]) fun base fE a g bM h ic=>by
  have Ep:g.objs=σ.objs:=ic.resolve_left (by simp);have hg:=bM.good;obtain⟨l,o1,pE,h1,_,ex⟩:=(h x (by rcases ho with ho|ho<;>simp[ho,Op.operands]) _ hx).wN;have HP:=(h y (by rcases ho with ho|ho<;>simp[ho,Op.operands]) _ hy).cq;have ey:=HP.1;have FT:=h v (by rcases ho with ho|ho<;>simp[ho,Op.operands]) _ hv;have gD:g.objs[id]?=some (.map kt es):=by rw[Ep];exact lU
  obtain⟨l',arr,clk,e1,gQ,hh,hl,jJ,hr⟩:=hg.map id kt es gD;rw[pE]at e1;simp only[Option.some.injEq]at e1;subst e1;obtain⟨fr,f1,f2⟩:=findNow_spec vl gT arr.toList es 0 (by simpa using hl) (fun j e kx a b=>(hr j e kx (by simpa using a) b).1) jJ;have we:∀b,(Instr.checkKey b 10000 k key).run P g.w=.ok () g.w:=fun b=>run_checkKey hk vl g.w b 9999;have fS:(getObj l.block).run P g.w=.ok (.map arr clk) g.w:=by
   simp[Go.getObj,Sem.run,hh]
  have uB:(Instr.findKey k key arr.toList).run P g.w=.ok fr g.w:=by
   simp[Instr.findKey,run_underlying hk,f1]
  have gw:∀o',(setObj l.block o').run P g.w=.ok () { g.w with heap:=g.w.heap.setIfInBounds l.block o' }:=fun o'=>by
   simp[Go.setObj,Sem.run,hh]
  have aZ:=a5 hh;have Ij:∃bZ xW,(Instr.mapUpdate t (.map (some l.block)) key (a.eval v)).run P g.w=.ok () { g.w with heap:=g.w.heap.setIfInBounds l.block (.map bZ xW) }∧bZ.size=(ll es key val).length ∧
    ∀(i:Nat) (e:MapEntry) (kx:Value×ae),bZ[i]?=some e->(ll es key val)[i]?=some kx->e.key=kx.1∧kl kx.1∧RV g kx.2 e.val:=by
   rcases f2 with⟨q1,q2,q3⟩|⟨j,e',x',k0,q1,q2,q3,q4,q5,q6⟩
   ·subst q1;refine⟨arr.push { key,val:=a.eval v,born:=clk },clk+1,?_,by rw[q3];simp[hl],fun i e kx a1 a2=>?_⟩
    ·simp only[Instr.mapUpdate,Sem.run_bind,run_underlying (lY hT ht aT),Result.andThen_ok,fS,we,uB,gw]
    rw[q3]at a2;rcases aQ a2 with b|⟨b1,b2⟩
    ·have hi:=I b;rw[Array.getElem?_push,if_neg (by omega)]at a1;exact hr i e kx a1 b
    subst b2;rw[Array.getElem?_push,if_pos (by omega)]at a1;simp only[Option.some.injEq]at a1;subst a1;exact⟨rfl,HP.2,FT⟩
   subst q1;have DK:k0=key:=zL (jJ (k0,x') (List.mem_of_getElem? q3)) gT q4;have CB:arr[j]?=some e':=by simpa using q2
   have Jw:e'.key=key:=(hr j e' (k0,x') CB q3).1.trans DK;refine⟨arr.modify j fun e=>{ e with key,val:=a.eval v },clk,?_,by rw[q6];simp[hl],fun i e kx a1 a2=>?_⟩
   ·have GW:∀w,(Instr.keyThatStays key key).run P w=.ok key w:=fun w=>by simp[Instr.keyThatStays,sameBits_self gT]
    simp only[Instr.mapUpdate,Sem.run_bind,run_underlying (lY hT ht aT),Result.andThen_ok,fS,we,uB,Nat.zero_add,CB,Option.map_some,Option.getD_some,Jw,GW,gw]
   rw[q6]at a2;rw[Array.getElem?_modify]at a1;by_cases e:j=i
   ·subst e;rw[if_pos rfl,CB]at a1;rw[List.getElem?_set_self (by rw[<-hl];exact a5 CB)]at a2;simp only[Option.map_some,Option.some.injEq]at a1 a2;subst a1;subst a2;exact⟨rfl,HP.2,FT⟩
   rw[if_neg e]at a1;rw[List.getElem?_set_ne e]at a2;exact hr i _ kx a1 a2
  obtain⟨bZ,xW,bz,lW,EF⟩:=Ij;have Ag:∀k,k≠l.block->(g.w.heap.setIfInBounds l.block (.map bZ xW))[k]?=g.w.heap[k]?:=fun k hk=>Array.getElem?_setIfInBounds_ne (fun e=>hk e.symm);have ec:ku g id (.map kt es) (some l) (.map kt (ll es key val)) { g.w with heap:=g.w.heap.setIfInBounds l.block (.map bZ xW) }:={
   obj:=gD
   os:=rfl
   tape:=rfl
   output:=rfl
   size:=by simp
   block:=fun k _ hk=>Ag k (fun e=>hk l pE trivial e.symm)
   cell:=fun b off x hx _=>by
    by_cases e:b=l.block
    ·subst e;simp only[G.cell,World.cell?,hh]at hx;cases hx
    simp only[World.cell?,Ag b e];exact hx
   place:=fun l1 h1 _=>by
    simp only[Option.some.injEq]at h1;subst h1;exact .inr ⟨l,pE,trivial,rfl,Nat.le_refl _⟩
   spare:=fun m h=>by cases h
   plain:=fun _=>⟨by simp[ak.aF],pE⟩
   gone:=by simp }
  have hle:=Le.br hg ec;refine⟨.bool false,g.br id (some l) (.map kt (ll es key val)) { g.w with heap:=g.w.heap.setIfInBounds l.block (.map bZ xW) },.inr ⟨jo,?_⟩,hle,Good.br hg ec ?_ ?_,by simp only[G.br,Mode.post,Ep],.v trivial⟩
  ·rcases ho with ho|ho<;>simp only[execOp,ho,ex,ey,Sem.run_bind,bz,Result.andThen_ok,Sem.run_pure,G.br]
  ·refine⟨l,bZ,xW,rfl,gQ,?_,lW,CA jJ gT,fun i e kx a b=>⟨(EF i e kx a b).1,(EF i e kx a b).2.1,(EF i e kx a b).2.2.mono hle⟩⟩;simp only[G.br];rw[Array.getElem?_setIfInBounds_self_of_lt aZ]
  intro l1 h1 _;simp only[Option.some.injEq]at h1;subst h1;simpa using aZ
def St.uj(σ:St):List Operand->Option (List ae)
 | []=>some []
 | x::r =>
  match σ.ev x,σ.uj r with
  | some y,some ys=>some (y::ys)
  | _,_=>none
theorem nF{σ:St}{a:Act}{g:G}:∀{xs:List Operand} {ys:List ae},(∀x∈xs,∀y,σ.ev x=some y->RV g y (a.eval x))->σ.uj xs=some ys->gZ g ys (xs.map a.eval).toArray
 | [],ys,_,h=>by
  simp only[St.uj,Option.some.injEq]at h;subst h;exact⟨rfl,by simp⟩
 | x::r,ys,mO,h=>by
  simp only[St.uj]at h;cases hx:σ.ev x with
  | none=>simp[hx]at h
  | some y =>
   cases hr:σ.uj r with
   | none=>simp[hx,hr]at h
   | some zs =>
    simp only[hx,hr,Option.some.injEq]at h;subst h;obtain⟨h1,h2⟩:=nF (g:=g) (a:=a) (fun z hz=>mO z (List.mem_cons_of_mem _ hz)) hr;refine⟨by simpa using h1,fun j c u a1 a2=>?_⟩;cases j with
    | zero =>
     simp at a1 a2;subst a1;subst a2;exact mO x (List.mem_cons_self) y hx
    | succ j=>exact h2 j c u (by simpa using a1) (by simpa using a2)
theorem rn{P:Program}{o:Oper}{σ:St}{f:Fn}{first captured:Array Operand}{fs cs:List ae}(ho:o.op=.makeFunc f first captured)(hd:∀d,o.dst=some d->d<σ.n)
  (hf:σ.uj first.toList=some fs) (hc:σ.uj captured.toList=some cs):Cert P o σ (.fn f fs cs) .pure :=
 Cert.bQ .pure (.inl rfl) hd fun a g _ h _=>by
  have m1:∀x∈first.toList,x∈o.op.operands:=fun x hx=>by
   rw[ho];simp only[Op.operands,Array.mem_append];exact .inl (Array.mem_toList_iff.1 hx)
  have m2:∀x∈captured.toList,x∈o.op.operands:=fun x hx=>by
   rw[ho];simp only[Op.operands,Array.mem_append];exact .inr (Array.mem_toList_iff.1 hx)
  have h1:=nF (g:=g) (a:=a) (fun x hx y hy=>h x (m1 x hx) y hy) hf;have h2:=nF (g:=g) (a:=a) (fun x hx y hy=>h x (m2 x hx) y hy) hc;refine⟨.func f (first.map a.eval) (captured.map a.eval),by simp[execOp,ho,Instr.makeFunc],?_⟩;have e1:first.map a.eval=(first.toList.map a.eval).toArray:=Array.ext' (by rw[Array.toList_map])
  have e2:captured.map a.eval=(captured.toList.map a.eval).toArray:=Array.ext' (by rw[Array.toList_map]);rw[e1,e2];exact .fn h1.1 h2.1 h1.2 h2.2
mutual
def ae.upto(n:Nat):ae->Prop
 | .v _=>True
 | .agg cs=>aw n cs
 | .aE _ xs o=>aw n xs∧(match o with | .tok id=>id<n | _=>True)
 | .ip _ cs=>aw n cs
 | .mp id _=>id<n
 | .ms id _ _ _=>id<n
 | .os id _ _=>id<n
 | .raw _ _ id=>id<n
 | .mm id=>id<n
 | .im _ es=>kc n es
 | .fn _ fs cs=>aw n fs∧aw n cs
 | .df cs=>aw n cs
def aw(n:Nat):List ae->Prop
 | []=>True
 | x::r=>x.upto n∧aw n r
def kc(n:Nat):List (Value×ae)->Prop
 | []=>True
 | x::r=>D' n x∧kc n r
def D'(n:Nat):Value×ae->Prop
 | (_,x)=>x.upto n
end
theorem aY{n:Nat}{l:List ae}:aw n l↔∀x∈l,x.upto n:=by
 induction l with
 | nil=>simp[aw]
 | cons x r ih=>simp[aw,ih]
theorem kK{n:Nat}{l:List (Value×ae)}:kc n l↔∀x∈l,x.2.upto n:=by
 induction l with
 | nil=>simp[kc]
 | cons x r ih =>
  obtain⟨k,x⟩:=x;simp[kc,D',ih]
def G.cD(g:G)(n:Nat):G:=⟨g.w,g.fr,g.env.take n,g.objs.take n⟩
theorem da{α:Type}{l:List α}{n i:Nat}{x:α}(h:(l.take n)[i]?=some x):l[i]?=some x∧i<n:=by
 rw[List.getElem?_take]at h;split at h
 ·rename_i hh;exact⟨h,hh⟩
 cases h
theorem iM.cD{g:G}{n b off:Nat}(h:iM (g.cD n) b off):iM g b off:=by
 obtain⟨id,l,o,h1,h2,h3,h4,h5⟩:=h;exact⟨id,l,o,(da h1).1,(da h2).1,h3,h4,h5⟩
theorem jT.cD{g:G}{n b off:Nat}(h:jT (g.cD n) b off):jT g b off:=h.imp id iM.cD
theorem fM.cD{g:G}{n b:Nat}(h:fM (g.cD n) b):fM g b:=by
 obtain⟨id,l,o,h1,h2,h3,h4⟩:=h;exact⟨id,l,o,(da h1).1,(da h2).1,h3,h4⟩
theorem RV.cD{g:G}{n:Nat}{x:ae}{u:Value}(h:RV g x u)(hn:n<=g.objs.length)(hb:x.upto n):RV (g.cD n) x u:=by
 have fS:∀(id:Nat),id<n->(g.cD n).objs[id]?=g.objs[id]?:=fun id fA=>by
  simp only[G.cD];rw[List.getElem?_take,if_pos fA]
 have r7:∀(id:Nat),id<n->(g.cD n).env[id]?=g.env[id]?:=fun id fA=>by
  simp only[G.cD];rw[List.getElem?_take,if_pos fA]
 induction h with
 | v hx=>exact .v hx
 | agg hl dz _ ih =>
  simp only[ae.upto,aY]at hb;exact .agg hl dz fun i c u a b=>ih i c u a b (hb c (List.mem_of_getElem? a))
 | nil ho tK =>
  simp only[ae.upto]at hb;refine .nil (fun id e=>?_) tK;subst e;have:=hb.2;simp only[G.cD,List.length_take];omega
 | aE cU dz cQ cF hs f hm hr ho ih =>
  rename_i sz xs o a cap;simp only[ae.upto,aY]at hb;refine .aE cU dz cQ cF hs f (fun j c hj=>⟨(hm j c hj).1,fun q=>(hm j c hj).2 q.cD⟩) (fun j c hj=>ih j c hj ?_) ?_
  ·have hc:=List.mem_of_getElem? hj;simp only[ao,List.mem_flatMap]at hc;obtain⟨x,hx,hc⟩:=hc;have:=hb.1 x hx;cases x with
   | agg cs =>
    simp only[ae.upto,aY]at this;exact this c hc
   | _=>simp only[ae.cells,List.mem_singleton]at hc;subst hc;exact this
  cases o with
  | sh=>trivial
  | nn=>trivial
  | ex=>exact ho
  | loc a=>exact ho
  | tok id =>
   have fA:=hb.2;simp only at fA;obtain⟨q1,q2⟩:=ho;refine⟨by simp only[G.cD,List.length_take];omega,fun m fm=>?_⟩;rw[fS id fA]at fm;obtain⟨r1,r2⟩:=q2 m fm;refine⟨r1,fun e=>(r2 e).imp (fun h=>h) ?_⟩;rintro⟨l,arr,t,p1,p2,p3,p4,p5⟩;exact⟨l,arr,t,(r7 id fA).trans p1,p2,p3,p4,p5⟩
 | ip ha dz f hm hr ih =>
  simp only[ae.upto,aY]at hb;exact .ip ha dz f (fun j c hj=>⟨(hm j c hj).1,fun q=>(hm j c hj).2 q.cD⟩) fun j c hj=>ih j c hj (hb c (List.mem_of_getElem? hj))
 | mp he ho jI=>exact .mp ((r7 _ hb).trans he) ((fS _ hb).trans ho) jI
 | ms he ho jI hc lJ cF=>exact .ms ((r7 _ hb).trans he) ((fS _ hb).trans ho) jI hc lJ cF
 | os he ho jI hc lJ cF=>exact .os ((r7 _ hb).trans he) ((fS _ hb).trans ho) jI hc lJ cF
 | raw tK ho =>
  rename_i sz n0 id a cap;have fA:id<n:=hb;obtain⟨q1,q2⟩:=ho;refine .raw tK ⟨by simp only[G.cD,List.length_take];omega,fun m fm=>?_⟩;rw[fS id fA]at fm;obtain⟨r1,r2⟩:=q2 m fm;refine⟨r1,fun e=>(r2 e).imp (fun h=>h) ?_⟩;rintro⟨l,arr,t,p1,p2,p3,p4,p5⟩;exact⟨l,arr,t,(r7 id fA).trans p1,p2,p3,p4,p5⟩
 | mm he ho jI=>exact .mm ((r7 _ hb).trans he) ((fS _ hb).trans ho) jI
 | im hh jI hl hk rA _ ih =>
  simp only[ae.upto,kK]at hb;exact .im hh (fun off q=>jI off q.cD) hl hk rA fun i e kx a b=>ih i e kx a b (hb kx (List.mem_of_getElem? b))
 | fn hl q8 _ _ ih xE =>
  simp only[ae.upto,aY]at hb;exact .fn hl q8 (fun i c u a b=>ih i c u a b (hb.1 c (List.mem_of_getElem? a))) fun i c u a b=>xE i c u a b (hb.2 c (List.mem_of_getElem? a))
 | df hl _ ih =>
  simp only[ae.upto,aY]at hb;exact .df hl fun i c u a b=>ih i c u a b (hb c (List.mem_of_getElem? a))
def ak.upto(n:Nat):ak->Prop
 | .cells cs=>aw n cs
 | .map _ es=>kc n es
 | _=>True
theorem Good.cD{g:G}(hg:Good g){n:Nat}(hn:n<=g.objs.length)(hb:∀o∈g.objs.take n,o.upto n):Good (g.cD n) where
 frlt:=hg.frlt
 fk:=fun id l o h1 h2 h3=>hg.fk id l o (da h1).1 (da h2).1 h3
 len:=by simp only[G.cD,List.length_take,hg.len]
 loc:=fun id l o h1 h2 h3=>hg.loc id l o (da h1).1 (da h2).1 h3
 apart:=fun id kD l l' o o' h1 h2 h3 h4 h5 h6 h7=>hg.apart id kD l l' o o' (da h1).1 (da h2).1 h3 (da h4).1 (da h5).1 h6 h7
 cells:=fun id cs h=>by
  obtain⟨l,arr,t,e1,e0,e2,e3,e4,e5⟩:=hg.cells id cs (da h).1;have Gp:=hb _ (List.mem_of_getElem? h);simp only[ak.upto,aY]at Gp;exact⟨l,arr,t,by simp only[G.cD];rw[List.getElem?_take,if_pos (da h).2,e1],e0,e2,e3,fun j c u a b=>(e4 j c u a b).cD hn (Gp c (List.mem_of_getElem? a)),e5⟩
 spare:=fun id m l h1 h2=>hg.spare id m l (da h1).1 (da h2).1
 map:=fun id kt es h=>by
  obtain⟨l,arr,clk,e1,e0,e2,e3,e6,e4⟩:=hg.map id kt es (da h).1;have Gp:=hb _ (List.mem_of_getElem? h);simp only[ak.upto,kK]at Gp;exact⟨l,arr,clk,by simp only[G.cD];rw[List.getElem?_take,if_pos (da h).2,e1],e0,e2,e3,e6,fun i e kx a b=>⟨(e4 i e kx a b).1,(e4 i e kx a b).2.1,(e4 i e kx a b).2.2.cD hn (Gp kx (List.mem_of_getElem? b))⟩⟩
theorem Le.cD{g0 g:G}(h:Le g0 g){n:Nat}(hn:g0.objs.length<=n):Le g0 (g.cD n) where
 os:=h.os
 tape:=h.tape
 output:=h.output
 fr:=h.fr
 size:=h.size
 block:=fun k hk hh=>⟨(h.block k hk hh).1,fun q=>(h.block k hk hh).2 q.cD⟩
 cell:=fun b off x hx hh=>⟨(h.cell b off x hx hh).1,fun q=>(h.cell b off x hx hh).2 q.cD⟩
 len:=by
  have:=h.len;simp only[G.cD,List.length_take];omega
 spare:=fun id m hm=>by
  have aZ:=I hm;have e:(g.cD n).objs[id]?=g.objs[id]?:=by
   simp only[G.cD];rw[List.getElem?_take,if_pos (by omega)]
  rw[e];exact h.spare id m hm
 plain:=fun id o ho hs=>by
  have aZ:=I ho;have e:(g.cD n).objs[id]?=g.objs[id]?:=by
   simp only[G.cD];rw[List.getElem?_take,if_pos (by omega)]
  have e':(g.cD n).env[id]?=g.env[id]?:=by
   simp only[G.cD];rw[List.getElem?_take,if_pos (by omega)]
  rw[e,e'];exact h.plain id o ho hs
 gone:=fun id ho=>by
  have aZ:=I ho;have e:(g.cD n).objs[id]?=g.objs[id]?:=by
   simp only[G.cD];rw[List.getElem?_take,if_pos (by omega)]
  rw[e];exact h.gone id ho
 tok:=fun id m hm fm=>by
  have aZ:=I hm;have e:(g.cD n).objs[id]?=g.objs[id]?:=by
   simp only[G.cD];rw[List.getElem?_take,if_pos (by omega)]
  have e':(g.cD n).env[id]?=g.env[id]?:=by
   simp only[G.cD];rw[List.getElem?_take,if_pos (by omega)]
  rw[e]at fm;rw[e'];exact h.tok id m hm fm
def vr (P : Program) (f : FuncId) : Prop := ∃ fn, P.funcs[f]? = some fn ∧ (fn.name == "runtime.NumGoroutine") = false ∧ fn.body.isNone = false
def bc(P:Program)(f:FuncId)(O:List ak)(args:List ae)(R:ae->List ak->Prop):Prop :=
 vr P f∧∀(g:G) (vs:Array Value),Good g->g.objs=O->gZ g args vs->Calls P f vs g.w fun e w'=>∃g' v r,e=.returned v∧g'.w=w'∧Le g g'∧Good g'∧RV g' r v∧R r g'.objs
def bw(P:Program)(f:FuncId)(args:List ae)(r:ae):Prop:=bc P f [] args fun r' O'=>r'=r∧O'=[]
theorem bc.mono{P:Program}{f:FuncId}{O:List ak}{args:List ae}{R R':ae->List ak->Prop}(h:bc P f O args R)(hr:∀r O',R r O'->R' r O'):bc P f O args R' :=
 ⟨h.1,fun g vs hg ho ha=>(h.2 g vs hg ho ha).mono fun _ _ ⟨g',v,r,h1,h2,h3,h4,h5,h6⟩=>⟨g',v,r,h1,h2,h3,h4,h5,hr _ _ h6⟩⟩
def G.bare(g:G):G:=⟨g.w,jT g,[],[]⟩
theorem pO{g:G}{b off:Nat}:jT g.bare b off↔jT g b off:=by
 constructor
 ·rintro(h|⟨id,l,o,h1,_⟩)
  ·exact h
  simp[G.bare]at h1
 exact .inl
theorem RV.bare{g:G}{x:ae}{u:Value}(h:RV g x u)(hb:x.upto 0):RV g.bare x u:=by
 induction h with
 | v hx=>exact .v hx
 | agg hl dz _ ih =>
  simp only[ae.upto,aY]at hb;exact .agg hl dz fun i c u a b=>ih i c u a b (hb c (List.mem_of_getElem? a))
 | nil ho tK =>
  simp only[ae.upto]at hb;refine .nil (fun id e=>?_) tK;subst e;have:=hb.2;simp only at this;omega
 | aE cU dz cQ cF hs f hm hr ho ih =>
  rename_i sz xs o a cap;simp only[ae.upto,aY]at hb;refine .aE cU dz cQ cF hs f (fun j c hj=>⟨(hm j c hj).1,fun q=>(hm j c hj).2 (pO.1 q)⟩) (fun j c hj=>ih j c hj ?_) ?_
  ·have hc:=List.mem_of_getElem? hj;simp only[ao,List.mem_flatMap]at hc;obtain⟨x,hx,hc⟩:=hc;have:=hb.1 x hx;cases x with
   | agg cs =>
    simp only[ae.upto,aY]at this;exact this c hc
   | _=>simp only[ae.cells,List.mem_singleton]at hc;subst hc;exact this
  cases o with
  | sh=>trivial
  | nn=>trivial
  | ex=>exact ho
  | loc a=>exact ho
  | tok id =>
   have fA:=hb.2;simp only at fA;omega
 | ip ha dz f hm hr ih =>
  simp only[ae.upto,aY]at hb;exact .ip ha dz f (fun j c hj=>⟨(hm j c hj).1,fun q=>(hm j c hj).2 (pO.1 q)⟩) fun j c hj=>ih j c hj (hb c (List.mem_of_getElem? hj))
 | mp he ho jI=>simp only[ae.upto]at hb;omega
 | ms he ho jI hc lJ cF=>simp only[ae.upto]at hb;omega
 | os he ho jI hc lJ cF=>simp only[ae.upto]at hb;omega
 | raw tK ho=>simp only[ae.upto]at hb;omega
 | mm he ho jI=>simp only[ae.upto]at hb;omega
 | im hh jI hl hk rA _ ih =>
  simp only[ae.upto,kK]at hb;exact .im hh (fun off q=>jI off (pO.1 q)) hl hk rA fun i e kx a b=>ih i e kx a b (hb kx (List.mem_of_getElem? b))
 | fn hl q8 _ _ ih xE =>
  simp only[ae.upto,aY]at hb;exact .fn hl q8 (fun i c u a b=>ih i c u a b (hb.1 c (List.mem_of_getElem? a))) fun i c u a b=>xE i c u a b (hb.2 c (List.mem_of_getElem? a))
 | df hl _ ih =>
  simp only[ae.upto,aY]at hb;exact .df hl fun i c u a b=>ih i c u a b (hb c (List.mem_of_getElem? a))
theorem Good.bare{g:G}(hg:Good g):Good g.bare where
 frlt:=fun b off h=>by
  rcases h with h|⟨id,l,o,h1,h2,h3,h4,_⟩
  ·exact hg.frlt b off h
  exact h4 ▸ hg.loc id l o h1 h2 h3
 fk:=fun id l o h1=>by simp[G.bare]at h1
 len:=rfl
 loc:=fun id l o h1=>by simp[G.bare]at h1
 apart:=fun id kD l l' o o' h1=>by simp[G.bare]at h1
 cells:=fun id cs h1=>by simp[G.bare]at h1
 spare:=fun id m l h1=>by simp[G.bare]at h1
 map:=fun id kt es h1=>by simp[G.bare]at h1
def G.back(g g':G):G:=⟨g'.w,g.fr,g.env,g.objs⟩
theorem s7{g:G}(he:g.env=[]){b:Nat}:¬fM g b:=by
 rintro⟨id,l,o,h1,_⟩;simp[he]at h1
theorem Le.back{g g':G}(hg:Good g)(h:Le g.bare g'):Le g (g.back g') where
 os:=h.os
 tape:=h.tape
 output:=h.output
 fr:=rfl
 size:=h.size
 block:=fun k hk hh=>⟨(h.block k hk (s7 rfl)).1,hh⟩
 cell:=fun b off x hx hh=>⟨(h.cell b off x hx (fun q=>s7 rfl q.block)).1,hh⟩
 len:=Nat.le_refl _
 spare:=fun id m hm=>.inl ⟨m,hm,Nat.le_refl _⟩
 plain:=fun id o ho hs=>⟨⟨o,ho,hs⟩,rfl⟩
 gone:=fun id ho=>ho
 tok:=fun id m hm fm=>⟨rfl,fun l hl=>(h.block _ (hg.loc id l _ hl hm trivial) (s7 rfl)).1⟩
theorem Good.back{g g':G}(hg:Good g)(h:Le g.bare g'):Good (g.back g'):=by
 have hle:=Le.back hg h;have sM:∀k,k<g.w.heap.size->g'.w.heap[k]?=g.w.heap[k]?:=fun k hk=>(h.block k hk (s7 rfl)).1;exact {
  frlt:=fun b off hf=>Nat.lt_of_lt_of_le (hg.frlt b off hf) h.size
  fk:=hg.fk
  len:=hg.len
  loc:=fun id l o h1 h2 h3=>Nat.lt_of_lt_of_le (hg.loc id l o h1 h2 h3) h.size
  apart:=hg.apart
  cells:=fun id cs h1=>by
   obtain⟨l,arr,t,e1,e0,e2,e3,e4,e5⟩:=hg.cells id cs h1;exact⟨l,arr,t,e1,e0,(sM _ (a5 e2)).trans e2,e3,fun j c u a b=>(e4 j c u a b).mono hle,e5⟩
  spare:=fun id m l h1 h2=>by
   obtain⟨arr,t,e⟩:=hg.spare id m l h1 h2;exact⟨arr,t,(sM _ (a5 e)).trans e⟩
  map:=fun id kt es h1=>by
   obtain⟨l,arr,clk,e1,e0,e2,e3,e6,e4⟩:=hg.map id kt es h1;exact⟨l,arr,clk,e1,e0,(sM _ (a5 e2)).trans e2,e3,e6,fun i e kx a b=>⟨(e4 i e kx a b).1,(e4 i e kx a b).2.1,(e4 i e kx a b).2.2.mono hle⟩⟩ }
theorem RV.back{g g':G}{x:ae}{u:Value}(dh:g'.fr=jT g)(uy:g'.env=[])(lU:g'.objs=[])(h:RV g' x u):RV (g.back g') x u:=by
 have iw:∀b off,jT (g.back g') b off->jT g' b off:=fun b off q=>by
  refine .inl ?_;rw[dh];exact q
 induction h with
 | v hx=>exact .v hx
 | agg hl dz _ ih=>exact .agg hl dz ih
 | nil ho tK =>
  refine .nil (fun id e=>?_) tK;have:=ho id e;simp[lU]at this
 | aE cU dz cQ cF hs f hm hr ho ih =>
  rename_i sz xs o a cap;refine .aE cU dz cQ cF hs f (fun j c hj=>⟨(hm j c hj).1,fun q=>(hm j c hj).2 (iw _ _ q)⟩) ih ?_;cases o with
  | sh=>trivial
  | nn=>trivial
  | ex=>exact ho
  | loc a=>exact ho
  | tok id =>
   have:=ho.1;simp[lU]at this
 | ip ha dz f hm hr ih=>exact .ip ha dz f (fun j c hj=>⟨(hm j c hj).1,fun q=>(hm j c hj).2 (iw _ _ q)⟩) ih
 | mp he ho jI=>simp[uy]at he
 | ms he ho jI hc lJ cF=>simp[uy]at he
 | os he ho jI hc lJ cF=>simp[uy]at he
 | raw tK ho =>
  have:=ho.1;simp[lU]at this
 | mm he ho jI=>simp[uy]at he
 | im hh jI hl hk rA _ ih=>exact .im hh (fun off q=>jI off (iw _ _ q)) hl hk rA ih
 | fn hl q8 _ _ ih xE=>exact .fn hl q8 ih xE
 | df hl _ ih=>exact .df hl ih
theorem bw.use{P:Program}{f:FuncId}{args:List ae}{r:ae}(h:bw P f args r)(hb:aw 0 args)(O:List ak):bc P f O args fun r' O'=>r'=r∧O'=O:=by
 refine⟨h.1,?_⟩;intro g vs hg ho ha;have yT:gZ g.bare args vs:=⟨ha.1,fun j c u a b=>(ha.2 j c u a b).bare (aY.1 hb c (List.mem_of_getElem? a))⟩
 refine(h.2 g.bare vs hg.bare rfl yT).mono ?_;rintro e w' ⟨g',v,r',h1,h2,h3,h4,h5,h6,h7⟩;subst h6;have uy:g'.env=[]:=by
  have:=h4.len;rw[h7]at this;exact List.length_eq_zero_iff.1 this
 exact⟨g.back g',v,r',h1,h2,Le.back hg h3,Good.back hg h3,h5.back h3.fr uy h7,rfl,ho⟩
inductive Kind where
 | pure
 | read
 | rd (id:Nat)
 | write
 | wr (n:Nat) (l:List Nat)
 | new (id:Nat)
 deriving DecidableEq
def FY(k:Kind)(F:List ak->List ak):Prop :=
 match k with
 | .write=>∀O O',F O=F O'
 | .wr _ _=>∀O O',F O=F O'
 | .new id=>∃o,∀O,F O=O.set id o
 | _=>∀O,F O=O
def Mode.kind:Mode->Kind
 | .pure=>.pure
 | .read=>.read
 | .rd id=>.rd id
 | .write _=>.write
 | .wr n l _=>.wr n l
 | .new id _=>.new id
def nE(n:Nat)(d:Option Nat)(l:List (Nat×ae)):List (Nat×ae) :=
 match d with
 | some d=>if d<n then bu d (.df []) l else a7 d l
 | none=>l
structure gz(σ τ:St):Prop where
 n:σ.n=τ.n
 objs:σ.objs=τ.objs
 get:∀s,σ.get s=τ.get s
theorem gz.refl(σ:St):gz σ σ:=⟨rfl,rfl,fun _=>rfl⟩
theorem gz.symm{σ τ:St}(h:gz σ τ):gz τ σ:=⟨h.n.symm,h.objs.symm,fun s=>(h.get s).symm⟩
theorem gz.trans{σ τ ρ:St}(h:gz σ τ)(k:gz τ ρ):gz σ ρ:=⟨h.n.trans k.n,h.objs.trans k.objs,fun s=>(h.get s).trans (k.get s)⟩
theorem gz.ev{σ τ:St}(h:gz σ τ)(x:Operand):σ.ev x=τ.ev x:=by
 cases x with
 | tmp t=>exact h.get t
 | _=>rfl
theorem gz.rel{σ τ:St}(h:gz σ τ){base:G}{a:Act}{g:G}(k:Rel base σ a g):Rel base τ a g where
 le:=k.le
 good:=k.good
 objs:=k.objs.trans h.objs
 size:=k.size.trans h.n
 defers:=k.defers
 slot:=fun s x hx=>k.slot s x ((h.get s).trans hx)
def St.put(σ:St)(d:Option Nat)(r:ae)(O:List ak):St:=⟨σ.n,nc d r σ.ba,O⟩
def St.skip(σ:St)(d:Option Nat):St:=⟨σ.n,nE σ.n d σ.ba,σ.objs⟩
theorem mr(σ:St)(d:Option Nat)(r:ae)(O:List ak)(s:Nat):(σ.put d r O).get s=if d=some s then some r else σ.get s:=by
 cases d with
 | none=>simp[St.put,St.get,nc]
 | some d =>
  simp only[St.put,St.get,nc,fq];by_cases e:d=s
  ·simp[e]
  simp[e]
theorem kA(σ:St)(d:Option Nat)(s:Nat):(σ.skip d).get s=if d=some s then(if s<σ.n then some (.df [])else none)else σ.get s:=by
 cases d with
 | none=>simp[St.skip,St.get,nE]
 | some d =>
  simp only[St.skip,St.get,nE];by_cases e:d=s
  ·subst e;by_cases h:d<σ.n
   ·simp[h,fq]
   simp[h,ko]
  by_cases h:d<σ.n
  ·simp[e,h,fq]
  simp[e,h,iK e]
theorem Rel.skip{base:G}{σ:St}{a:Act}{g:G}(h:Rel base σ a g)(d:Nat):Rel base (σ.skip (some d)) (a.put (some d) undef) g:=by
 by_cases hd:d<σ.n
 ·have:=h.put (Le.refl g) h.good hd (r:=.df []) (u:=undef) (.df rfl (by simp));rw[show σ.skip (some d)=⟨σ.n,bu d (.df []) σ.ba,g.objs⟩ by simp[St.skip,nE,hd,h.objs]];exact this
 have:=h.forget d undef;rw[show σ.skip (some d)=⟨σ.n,a7 d σ.ba,σ.objs⟩ by simp[St.skip,nE,hd]];exact this
theorem gz.put{σ τ:St}(h:gz σ τ)(d:Option Nat)(r:ae)(O:List ak):gz (σ.put d r O) (τ.put d r O) :=
 ⟨h.n,rfl,fun s=>by rw[mr,mr,h.get]⟩
theorem gz.skip{σ τ:St}(h:gz σ τ)(d:Option Nat):gz (σ.skip d) (τ.skip d) :=
 ⟨h.n,h.objs,fun s=>by rw[kA,kA,h.get,h.n]⟩
def dg(ops:Array Oper)(o:Oper)(σ:St):Option Bool :=
 match o.guard with
 | none=>some true
 | some (j,ja) =>
  match (ops[j]?).bind (·.dst)with
  | some t =>
   match σ.get t with
   | some (.v (.bool b))=>some (b == ja)
   | some (.df [])=>some false
   | _=>none
  | none=>none
theorem fK{ops:Array Oper}{o:Oper}{σ:St}{base:G}{a:Act}{g:G}{b:Bool}(h:Rel base σ a g)(hw:dg ops o σ=some b):Region.wanted o (yielded ops a.tmps)=b:=by
 unfold dg at hw;unfold Region.wanted;cases hg:o.guard with
 | none =>
  simp only[hg,Option.some.injEq]at hw;exact hw
 | some p =>
  obtain⟨j,ja⟩:=p;simp only[hg]at hw;cases ht:(ops[j]?).bind (·.dst)with
  | none=>simp[ht]at hw
  | some t =>
   simp only[ht]at hw;split at hw
   ·rename_i c hc;simp only[Option.some.injEq]at hw;obtain⟨u,h1,h2⟩:=h.slot t _ hc;have:=h2.cq.1;subst this;have hy:yielded ops a.tmps j=some c:=by
     unfold yielded;simp[ht,h1]
    simp only[hy];rw[<-hw];cases c<;>cases ja<;>rfl
   ·rename_i hc;simp only[Option.some.injEq]at hw;obtain⟨u,h1,h2⟩:=h.slot t _ hc;cases h2 with
    | df hl _ =>
     rename_i vs;have hy:yielded ops a.tmps j=none:=by
      unfold yielded;simp[ht,h1]
     simp only[hy];rw[<-hw];rfl
   cases hw
theorem kp{ops:Array Oper}{o:Oper}{σ τ:St}(h:∀j ja t,o.guard=some (j,ja)->(ops[j]?).bind (·.dst)=some t->σ.get t=τ.get t):dg ops o σ=dg ops o τ:=by
 unfold dg;cases hg:o.guard with
 | none=>rfl
 | some p =>
  obtain⟨j,ja⟩:=p;simp only;cases ht:(ops[j]?).bind (·.dst)with
  | none=>rfl
  | some t =>
   simp only;rw[h j ja t hg ht]
theorem Cert.congr{P:Program}{o:Oper}{σ τ:St}{r:ae}{m:Mode}(h:Cert P o σ r m)(hn:σ.n=τ.n)(qo:∀x∈o.op.operands,σ.ev x=τ.ev x)(ho:m.ly τ.objs σ.objs):Cert P o τ r m:=by
 refine⟨?_,?_⟩
 ·have:=h.1;cases m with
  | wr n l O' =>
   intro i hi hl;rw[this i hi hl,show τ.objs=σ.objs from ho]
  | _=>trivial
 intro base ρ a g bM h1 h2 h3;refine h.2 base ρ a g bM (h1.trans hn.symm) (fun x hx y hy=>h2 x hx y ((qo x hx).symm.trans hy)) ?_;cases m with
 | pure=>trivial
 | rd id=>exact Eq.trans h3 ho
 | new id _=>exact Eq.trans h3 ho
 | _=>exact Eq.trans h3 ho
def kg(P:Program)(ops:Array Oper)(i:Nat)(k:Kind)(σ fE:St):Prop :=
 ∃o,ops[i]?=some o ∧
  ((dg ops o σ=some true∧∃r m,Cert P o σ r m∧m.kind=k∧fE=σ.put o.dst r (m.post σ.objs)) ∨
   (dg ops o σ=some false∧k=.pure∧fE=σ.skip o.dst))
def eR(P:Program)(ops:Array Oper):List (Nat×Kind)->St->St->Prop
 | [],σ,τ=>gz σ τ
 | (i,k)::r,σ,τ=>∃fE,kg P ops i k σ fE∧eR P ops r fE τ
theorem kg.same{P:Program}{ops:Array Oper}{i:Nat}{k:Kind}{σ fE τ:St}(h:kg P ops i k σ fE)(hs:gz σ τ):∃Bn,kg P ops i k τ Bn∧gz fE Bn:=by
 obtain⟨o,ho,h⟩:=h;rcases h with⟨h1,r,m,h2,h3,h4⟩|⟨h1,h2,h3⟩
 ·refine⟨τ.put o.dst r (m.post τ.objs),⟨o,ho,.inl ⟨?_,r,m,h2.congr hs.n (fun x _=>hs.ev x) (Mode.np (.inr hs.objs.symm)),h3,rfl⟩⟩,?_⟩
  ·rw[<-h1];exact kp fun _ _ t _ _=>(hs.get t).symm
  subst h4;rw[hs.objs];exact hs.put _ _ _
 refine⟨τ.skip o.dst,⟨o,ho,.inr ⟨?_,h2,rfl⟩⟩,?_⟩
 ·rw[<-h1];exact kp fun _ _ t _ _=>(hs.get t).symm
 subst h3;exact hs.skip _
theorem eR.same{P:Program}{ops:Array Oper}:∀{l:List (Nat×Kind)} {σ τ ρ:St},eR P ops l σ ρ->gz σ τ->eR P ops l τ ρ
 | [],_,_,_,h,hs=>hs.symm.trans h
 | (i,k)::r,σ,τ,ρ,h,hs=>by
  obtain⟨fE,h1,h2⟩:=h;obtain⟨Bn,h3,h4⟩:=h1.same hs;exact⟨Bn,h3,h2.same h4⟩
def bU(k k':Kind):Bool :=
 match k,k' with
 | .pure,_=>true
 | _,.pure=>true
 | .read,.read=>true
 | .rd _,.read=>true
 | .read,.rd _=>true
 | .rd _,.rd _=>true
 | .rd id,.wr n l=>decide (id<n)&&!l.contains id
 | .wr n l,.rd id=>decide (id<n)&&!l.contains id
 | .new i,.new j=>!decide (i=j)
 | .new i,.rd j=>!decide (i=j)
 | .rd i,.new j=>!decide (i=j)
 | _,_=>false
def Kind.ly(k:Kind)(O O0:List ak):Prop :=
 match k with
 | .pure=>True
 | .rd id=>O[id]?=O0[id]?
 | .new id=>O[id]?=O0[id]?
 | _=>O=O0
theorem Mode.vv{m:Mode}{O O0:List ak}(h:m.kind.ly O O0):m.ly O O0:=by
 cases m<;>exact h
theorem rF{ops:Array Oper}{o:Oper}{t:Nat}(h:(.tmp t:Operand)∈o.op.operands):t∈o.looksAt ops :=
 List.mem_append_left _ (List.mem_filterMap.2 ⟨.tmp t,Array.mem_toList_iff.2 h,rfl⟩)
theorem uP{ops:Array Oper}{o:Oper}{j:Nat}{ja:Bool}{t:Nat}(h:o.guard=some (j,ja))(ht:(ops[j]?).bind (·.dst)=some t):t∈o.looksAt ops:=by
 refine List.mem_append_right _ ?_;simp[h,ht]
structure F1(P:Program)(ops:Array Oper)(o:Oper)(k:Kind)(F:List ak->List ak)(σ fE:St):Prop where
 n:fE.n=σ.n
 get:∀s,o.dst≠some s->fE.get s=σ.get s
 Gc:FY k F
 objs:fE.objs=F σ.objs
 je:∀n l,k=.wr n l->∀i,i<n->i ∉ l->(F σ.objs)[i]?=σ.objs[i]?
 move:∀τ:St,τ.n=σ.n->(∀t∈o.looksAt ops,τ.get t=σ.get t)->k.ly τ.objs σ.objs ->
  ∃Bn,(dg ops o τ=some true∧(∃r m,Cert P o τ r m∧m.kind=k∧Bn=τ.put o.dst r (m.post τ.objs))∨dg ops o τ=some false∧k=.pure∧Bn=τ.skip o.dst) ∧
   (∀s,o.dst=some s->Bn.get s=fE.get s)∧(∀s,o.dst≠some s->Bn.get s=τ.get s)∧Bn.n=τ.n∧Bn.objs=F τ.objs
theorem D9{P:Program}{ops:Array Oper}{o:Oper}{k:Kind}{σ fE:St}
  (h:(dg ops o σ=some true∧∃r m,Cert P o σ r m∧m.kind=k∧fE=σ.put o.dst r (m.post σ.objs))∨(dg ops o σ=some false∧k=.pure∧fE=σ.skip o.dst)):∃F,F1 P ops o k F σ fE:=by
 have qo:∀τ:St,(∀t∈o.looksAt ops,τ.get t=σ.get t)->∀x∈o.op.operands,σ.ev x=τ.ev x:=fun τ ht x hx=>by
  cases x with
  | tmp t=>exact(ht t (rF hx)).symm
  | _=>rfl
 have D2:∀τ:St,(∀t∈o.looksAt ops,τ.get t=σ.get t)->dg ops o τ=dg ops o σ:=fun τ ht=>kp fun j w t hg hd=>ht t (uP hg hd);rcases h with⟨h1,r,m,h2,h3,h4⟩|⟨h1,h2,h3⟩
 ·subst h4;subst h3;have Cd:FY m.kind m.post:=by
   cases m with
   | new id o=>exact⟨o,fun _=>rfl⟩
   | write O=>exact fun _ _=>rfl
   | wr n l O=>exact fun _ _=>rfl
   | _=>exact fun _=>rfl
  refine⟨m.post,rfl,fun s hs=>by rw[mr,if_neg hs],Cd,rfl,fun n l hk i hi hl=>?_,fun τ hn ht ho=>⟨τ.put o.dst r (m.post τ.objs),.inl ⟨(D2 τ ht).trans h1,r,m,?_,rfl,rfl⟩,?_,?_,rfl,rfl⟩⟩
  ·cases m with
   | wr n' l' O' =>
    simp only[Mode.kind,Kind.wr.injEq]at hk;obtain⟨rfl,rfl⟩:=hk;exact h2.1 i hi hl
   | _=>simp[Mode.kind]at hk
  ·exact h2.congr hn.symm (qo τ ht) (Mode.vv ho)
  ·intro s hs;rw[mr,mr,if_pos hs,if_pos hs]
  intro s hs;rw[mr,if_neg hs]
 subst h3;subst h2;refine⟨id,rfl,fun s hs=>by rw[kA,if_neg hs],fun _=>rfl,rfl,fun n l hk=>(by cases hk),fun τ hn ht ho=>⟨τ.skip o.dst,.inr ⟨(D2 τ ht).trans h1,rfl,rfl⟩,?_,?_,rfl,rfl⟩⟩
 ·intro s hs;rw[kA,kA,if_pos hs,if_pos hs,hn]
 intro s hs;rw[kA,if_neg hs]
theorem vw{k:Kind}{O O':List ak}(h:k.ly O O'):k.ly O' O:=by
 cases k<;>first|trivial|exact Eq.symm h
theorem rO{kj ki:Kind}{F:List ak->List ak}{O:List ak}(hk:bU kj ki=true)(hF:FY kj F)(lA:∀n l,kj=.wr n l->∀i,i<n->i ∉ l->(F O)[i]?=O[i]?):ki.ly O (F O):=by
 cases ki with
 | pure=>trivial
 | rd id =>
  show O[id]?=(F O)[id]?;cases kj with
  | write=>simp[bU]at hk
  | wr n l =>
   simp only[bU,Bool.and_eq_true,decide_eq_true_eq,Bool.not_eq_true',List.contains_eq_mem,decide_eq_false_iff_not]at hk;exact(lA n l rfl id hk.1 hk.2).symm
  | new j =>
   obtain⟨o,hF⟩:=hF;simp only[bU,Bool.not_eq_true',decide_eq_false_iff_not]at hk;rw[hF,List.getElem?_set_ne hk]
  | _=>rw[hF O]
 | new id =>
  show O[id]?=(F O)[id]?;cases kj with
  | new j =>
   obtain⟨o,hF⟩:=hF;simp only[bU,Bool.not_eq_true',decide_eq_false_iff_not]at hk;rw[hF,List.getElem?_set_ne hk]
  | pure=>rw[hF O]
  | rd j=>rw[hF O]
  | _=>simp[bU]at hk
 | read=>cases kj<;>first | exact(hF O).symm | simp[bU]at hk
 | write=>cases kj<;>first | exact(hF O).symm | simp[bU]at hk
 | wr n l=>cases kj<;>first | exact(hF O).symm | simp[bU]at hk
theorem vx{k k':Kind}(h:bU k k'=true):bU k' k=true:=by
 cases k<;>cases k'<;>first|exact h|(simp only[bU,Bool.not_eq_true',decide_eq_false_iff_not]at h ⊢;exact fun e=>h e.symm)
theorem zG{kj ki:Kind}{Fj Fi:List ak->List ak}(hk:bU kj ki=true)(hj:FY kj Fj)(hi:FY ki Fi)(O:List ak):Fi (Fj O)=Fj (Fi O):=by
 cases kj with
 | new j =>
  obtain⟨oj,hj⟩:=hj;cases ki with
  | new i =>
   obtain⟨oi,hi⟩:=hi;simp only[bU,Bool.not_eq_true',decide_eq_false_iff_not]at hk;rw[hj,hi,hj,hi,List.set_comm _ _ hk]
  | pure=>rw[hi,hi]
  | rd _=>rw[hi,hi]
  | _=>simp[bU]at hk
 | pure=>rw[hj,hj]
 | read=>rw[hj,hj]
 | rd _=>rw[hj,hj]
 | write=>cases ki<;>first | (rw[hi,hi];done) | simp[bU]at hk
 | wr _ _=>cases ki<;>first | (rw[hi,hi];done) | simp[bU]at hk
theorem swap{P:Program}{ops:Array Oper}{i j:Nat}{oi oj:Oper}{ki kj:Kind}{σ Iw Ix:St}(hi:ops[i]?=some oi)(hj:ops[j]?=some oj)(Jq:oj.apart ops oi=true)(hk:bU kj ki=true)
  (h1:kg P ops j kj σ Iw) (h2:kg P ops i ki Iw Ix):∃FI FX,kg P ops i ki σ FI∧kg P ops j kj FI FX∧gz Ix FX:=by
 obtain⟨a1,a2,a3⟩:=Oper.apart_spec Jq;obtain⟨Kl,gY,h1⟩:=h1;rw[hj]at gY;simp only[Option.some.injEq]at gY;subst gY;obtain⟨Kk,fL,h2⟩:=h2;rw[hi]at fL;simp only[Option.some.injEq]at fL;subst fL;obtain⟨Fj,s1⟩:=D9 h1;obtain⟨Fi,s2⟩:=D9 h2;have Gy:∀s,oj.dst=some s->oi.dst≠some s:=fun s hs e=>a2 s hs e;have mO:=rO hk s1.Gc s1.je;rw[<-s1.objs]at mO;obtain⟨FI,t1,t2,t3,t4,t5⟩:=s2.move σ s1.n.symm (fun t ht=>(s1.get t (fun e=>a1 t e ht)).symm) mO;obtain⟨FX,u1,u2,u3,u4,u5⟩:=s1.move FI t4 (fun t ht=>t3 t (fun e=>a3 t e ht)) (by
  rw[t5];refine vw (rO (vx hk) s2.Gc fun n l e i hi hl=>?_);subst e;have h4:=s2.je n l rfl i hi hl;rw[s1.objs]at h4;have Jl:∀O,Fj O=O:=by
   have he:=s1.Gc;clear s1 h1 mO;cases kj with
   | pure=>exact he
   | rd _=>exact he
   | _=>simp[bU]at hk
  rw[Jl]at h4;exact h4)
 refine⟨FI,FX,⟨oi,hi,t1⟩,⟨oj,hj,u1⟩,⟨?_,?_,fun s=>?_⟩⟩
 ·rw[s2.n,s1.n,u4,t4]
 ·rw[s2.objs,s1.objs,u5,t5];exact zG hk s1.Gc s2.Gc _
 by_cases ei:oi.dst=some s
 ·have ej:oj.dst≠some s:=fun e=>Gy s e ei;rw[u3 s ej,t2 s ei]
 rw[s2.get s ei];by_cases ej:oj.dst=some s
 ·rw[u2 s ej]
 rw[u3 s ej,t3 s ei,s1.get s ej]
def indep(ops:Array Oper)(j i:Nat)(kj ki:Kind):Bool :=
 match ops[j]?,ops[i]? with
 | some oj,some oi=>oj.apart ops oi&&bU kj ki
 | _,_=>false
theorem eR.front{P:Program}{ops:Array Oper}{i:Nat}{ki:Kind}{l2:List (Nat×Kind)}:∀{l1:List (Nat×Kind)} {σ ρ:St},eR P ops (l1++(i,ki)::l2) σ ρ->(∀p∈l1,indep ops p.1 i p.2 ki=true)->eR P ops ((i,ki)::(l1++l2)) σ ρ
 | [],_,_,h,_=>h
 | (j,kj)::l1,σ,ρ,h,Cm=>by
  obtain⟨Iw,h1,h2⟩:=h;obtain⟨Ix,h3,h4⟩:=eR.front h2 (fun p hp=>Cm p (by simp[hp]));have nP:=Cm (j,kj) (by simp);simp only[indep]at nP;have FO:∃oi,ops[i]?=some oi:=by
   obtain⟨oi,FO,_⟩:=h3;exact⟨oi,FO⟩
  have Af:∃oj,ops[j]?=some oj:=by
   obtain⟨oj,Af,_⟩:=h1;exact⟨oj,Af⟩
  obtain⟨oi,FO⟩:=FO;obtain⟨oj,Af⟩:=Af;simp only[FO,Af,Bool.and_eq_true]at nP;obtain⟨FI,FX,q1,q2,q3⟩:=swap FO Af nP.1 nP.2 h1 h3;exact⟨FI,q1,FX,q2,h4.same q3⟩
def nd(ops:Array Oper):Nat->Nat->Nat->Bool
 | 0,_,_=>false
 | n+1,j,i =>
  match ops[i]? with
  | some o=>o.after.toList.any fun e=>Region.binds .any e&&(e.on == j || nd ops n j e.on)
  | none=>false
def DF(ops:Array Oper):Bool :=
 (List.range ops.size).all fun i =>
  match ops[i]? with
  | some o=>o.after.toList.all fun e=>!Region.binds .any e || decide (e.on<i)
  | none=>true
def l5(ops:Array Oper)(ks:List Kind):Bool :=
 DF ops&&(ks.length == ops.size) &&
 (List.range ops.size).all fun i=>(List.range i).all fun j=>nd ops ops.size j i ||indep ops j i (ks.getD j .write) (ks.getD i .write)
def sC(ops:Array Oper)(bH:Array Bool):Prop :=
 ∀i o,ops[i]?=some o->bH.getD i false=true->∀e∈o.after.toList,Region.binds .any e=true->bH.getD e.on false=true
theorem nZ{ops:Array Oper}{bH:Array Bool}(hc:sC ops bH):∀(n j i:Nat) (o:Oper),ops[i]?=some o->(∀e∈o.after.toList,Region.binds .any e=true->bH.getD e.on false=true)->nd ops n j i=true->bH.getD j false=true
 | 0,j,i,o,_,_,h=>by simp[nd]at h
 | n+1,j,i,o,ho,cM,h=>by
  simp only[nd,ho,List.any_eq_true,Bool.and_eq_true,Bool.or_eq_true,beq_iff_eq]at h;obtain⟨e,he,hb,h⟩:=h;have IZ:=cM e he hb;rcases h with h|h
  ·rw[<-h];exact IZ
  cases By:ops[e.on]? with
  | none =>
   cases n with
   | zero=>simp[nd]at h
   | succ n=>simp[nd,By]at h
  | some o'=>exact nZ hc n j e.on o' By (fun e' m5 yc=>hc e.on o' By IZ e' m5 yc) h
theorem na{ops:Array Oper}{bH:Array Bool}{i:Nat}:i∈Region.ready .any ops bH↔i<ops.size∧bH.getD i true=false∧∃o,ops[i]?=some o∧∀e∈o.after.toList,Region.binds .any e=true->bH.getD e.on false=true:=by
 unfold Region.ready;rw[List.mem_filter,List.mem_range];constructor
 ·rintro⟨h1,h2⟩;rw[Bool.and_eq_true]at h2;obtain⟨h2,h3⟩:=h2;refine⟨h1,by simpa using h2,?_⟩;cases ho:ops[i]? with
  | none=>simp[ho]at h3
  | some o =>
   refine⟨o,rfl,fun e he hb=>?_⟩;simp only[ho,Option.map_some,Option.getD_some]at h3;have:=Array.all_eq_true_iff_forall_mem.1 h3 e (Array.mem_toList_iff.1 he);simpa[hb]using this
 rintro⟨h1,h2,o,ho,h3⟩;refine⟨h1,?_⟩;rw[Bool.and_eq_true];refine⟨by simpa using h2,?_⟩;simp only[ho,Option.map_some,Option.getD_some];refine Array.all_eq_true_iff_forall_mem.2 fun e he=>?_;by_cases hb:Region.binds .any e=true
 ·simp only[hb,Bool.not_true,Bool.false_or];exact h3 e (Array.mem_toList_iff.2 he) hb
 simp[hb]
theorem range_split{n i:Nat}(h:i<n):List.range n=List.range i++i::(List.range n).drop (i+1):=by
 apply List.ext_getElem?;intro j;rw[List.getElem?_append];simp only[List.length_range];by_cases h1:j<i
 ·rw[if_pos h1,List.getElem?_range h1,List.getElem?_range (by omega)]
 rw[if_neg h1];by_cases h2:j=i
 ·subst h2;simp[h]
 obtain⟨m,hm⟩:∃m,j-i=m+1:=⟨j-i-1,by omega⟩
 rw[hm,List.getElem?_cons_succ,List.getElem?_drop];congr 1;omega
theorem qf{n i j:Nat}(h:j∈(List.range n).drop (i+1)):i<j∧j<n:=by
 obtain⟨k,hk⟩:=List.getElem?_of_mem h;rw[List.getElem?_drop]at hk;have:=I hk;simp only[List.length_range]at this;rw[List.getElem?_range this]at hk;simp only[Option.some.injEq]at hk;omega
def gx(ks:List Kind)(n:Nat)(bH:Array Bool):List (Nat×Kind) :=
 ((List.range n).filter fun i=>!bH.getD i true).map fun i=>(i,ks.getD i .write)
theorem xd(ks:List Kind){n:Nat}{bH:Array Bool}(cU:bH.size=n){i:Nat}(hi:i<n)(hl:bH.getD i true=false) :
  ∃l1 l2,gx ks n bH=l1++(i,ks.getD i .write)::l2∧gx ks n (bH.setIfInBounds i true)=l1++l2∧∀p∈l1,p.1<i∧bH.getD p.1 true=false∧p.2=ks.getD p.1 .write:=by
 refine⟨((List.range i).filter fun j=>!bH.getD j true).map fun j=>(j,ks.getD j .write),(((List.range n).drop (i+1)).filter fun j=>!bH.getD j true).map fun j=>(j,ks.getD j .write),?_,?_,?_⟩
 ·unfold gx;rw[range_split hi];rw[List.filter_append,List.map_append,List.filter_cons];simp only[hl,Bool.not_false,if_true,List.map_cons];rw[<-range_split hi]
 ·unfold gx;rw[range_split hi];rw[List.filter_append,List.map_append,List.filter_cons];have JA:(bH.setIfInBounds i true).getD i true=true:=by
   simp[Array.getD_eq_getD_getElem?,Array.getElem?_setIfInBounds_self_of_lt (by omega:i<bH.size)]
  simp only[JA,Bool.not_true,Bool.false_eq_true,if_false];rw[<-range_split hi];have cj:∀j,j≠i->(bH.setIfInBounds i true).getD j true=bH.getD j true:=fun j hj=>by
   simp[Array.getD_eq_getD_getElem?,Array.getElem?_setIfInBounds_ne (fun e=>hj e.symm)]
  congr 2
  ·apply List.filter_congr;intro j hj;rw[List.mem_range]at hj;rw[cj j (by omega)]
  apply List.filter_congr;intro j hj;have:=qf hj;rw[cj j (by omega)]
 intro p hp;rw[List.mem_map]at hp;obtain⟨j,hj,e⟩:=hp;subst e;rw[List.mem_filter,List.mem_range]at hj;exact⟨hj.1,by simpa using hj.2,rfl⟩
theorem rV{bH:Array Bool}{i:Nat}(h:i<bH.size):bH.getD i true=bH.getD i false:=by
 simp[Array.getD_eq_getD_getElem?,h]
theorem vi{P:Program}{ops:Array Oper}{ks:List Kind}(hB:l5 ops ks=true){base:G}{ρ:St}{Q:Exit->Act->World->Prop}(hQ:∀a g,Rel base ρ a g->Q .normal a g.w) :
  ∀(fuel:Nat) (bH:Array Bool) (σ:St) (a:Act) (g:G),bH.size=ops.size->sC ops bH->(gx ks ops.size bH).length<=fuel->eR P ops (gx ks ops.size bH) σ ρ->Rel base σ a g ->
   wpAny P .any ops Q fuel bH a g.w:=by
 simp only[l5,Bool.and_eq_true,List.all_eq_true,Bool.or_eq_true]at hB;obtain⟨⟨DI,_⟩,Cm⟩:=hB;have Ev:∀i o,ops[i]?=some o->∀e∈o.after.toList,Region.binds .any e=true->e.on<i:=by
  intro i o ho e he hb;simp only[DF,List.all_eq_true]at DI;have aZ:i<ops.size:=a5 ho;have:=DI i (List.mem_range.2 aZ);simp only[ho,List.all_eq_true,Bool.or_eq_true,decide_eq_true_eq]at this;have:=this e he;simpa[hb]using this
 have EE:∀bH:Array Bool,bH.size=ops.size->Region.ready .any ops bH=[]->gx ks ops.size bH=[]:=by
  intro bH cU hr;refine Classical.byContradiction fun cj=>?_;have hex:∃i,i<ops.size∧bH.getD i true=false:=by
   cases ht:gx ks ops.size bH with
   | nil=>exact absurd ht cj
   | cons p r =>
    have hm:p∈gx ks ops.size bH:=by rw[ht];simp
    simp only[gx,List.mem_map,List.mem_filter,List.mem_range]at hm;obtain⟨i,⟨h1,h2⟩,_⟩:=hm;exact⟨i,h1,by simpa using h2⟩
  have HZ:∃i,i<ops.size∧bH.getD i true=false∧∀j,j<i->bH.getD j true=true:=by
   obtain⟨i,h1,h2⟩:=hex;induction i using Nat.strongRecOn with
   | _ i ih =>
    by_cases h:∃j,j<i∧bH.getD j true=false
    ·obtain⟨j,h3,h4⟩:=h;exact ih j h3 (by omega) h4
    refine⟨i,h1,h2,fun j hj=>?_⟩;cases hc:bH.getD j true with
    | true=>rfl
    | false=>exact absurd ⟨j,hj,hc⟩ h
  obtain⟨i,h1,h2,h3⟩:=HZ;have hi:i∈Region.ready .any ops bH:=by
   refine na.2 ⟨h1,h2,ops[i],Array.getElem?_eq_getElem h1,fun e he hb=>?_⟩;have aZ:=Ev i _ (Array.getElem?_eq_getElem h1) e he hb;rw[<-rV (by omega)];exact h3 _ aZ
  rw[hr]at hi;cases hi
 intro fuel;induction fuel with
 | zero =>
  intro bH σ a g cU hc hlen mu bM;have ht:gx ks ops.size bH=[]:=List.length_eq_zero_iff.1 (by omega);rw[ht]at mu;refine⟨?_,hQ a g (gz.rel mu bM)⟩;cases hr:Region.ready .any ops bH with
  | nil=>rfl
  | cons i r =>
   have hi:i∈Region.ready .any ops bH:=by rw[hr];simp
   obtain⟨h1,h2,_⟩:=na.1 hi;have:(i,ks.getD i .write)∈gx ks ops.size bH:=by
    simp only[gx,List.mem_map,List.mem_filter,List.mem_range];exact⟨i,⟨h1,by rw[h2];rfl⟩,rfl⟩
   rw[ht]at this;cases this
 | succ fuel ih =>
  intro bH σ a g cU hc hlen mu bM;refine⟨fun hr=>?_,fun i hi=>?_⟩
  ·have ht:=EE bH cU hr;rw[ht]at mu;exact hQ a g (gz.rel mu bM)
  obtain⟨h1,h2,o,ho,h3⟩:=na.1 hi;obtain⟨l1,l2,e1,e2,e3⟩:=xd ks cU h1 h2;rw[e1]at mu;have HJ:=eR.front mu (fun p hp=>by
   obtain⟨q1,q2,q3⟩:=e3 p hp;have:=Cm i (List.mem_range.2 h1) p.1 (List.mem_range.2 q1);rcases this with this|this
   ·have:=nZ hc _ _ _ o ho h3 this;rw[<-rV (by omega),q2]at this;cases this
   rw[q3];exact this)
  obtain⟨fE,⟨o',ic,bV⟩,cP⟩:=HJ;rw[ho]at ic;simp only[Option.some.injEq]at ic;subst ic;rw[<-e2]at cP;have lW:(bH.setIfInBounds i true).size=ops.size:=by simpa using cU
  have lJ:sC ops (bH.setIfInBounds i true):=by
   intro j oj Af nQ e he hb;have xA:∀k,bH.getD k false=true->(bH.setIfInBounds i true).getD k false=true:=fun k hk=>getD_set_true hk;by_cases IT:j=i
   ·subst IT;rw[ho]at Af;simp only[Option.some.injEq]at Af;subst Af;exact xA _ (h3 e he hb)
   rw[getD_set_ne false (fun e=>IT e.symm)]at nQ;exact xA _ (hc j oj Af nQ e he hb)
  have gC:(gx ks ops.size (bH.setIfInBounds i true)).length<=fuel:=by
   rw[e1]at hlen;rw[e2];simp only[List.length_append,List.length_cons]at hlen ⊢;omega
  unfold wpOp;simp only[ho];rcases bV with⟨hw,r,m,ux,hk,An⟩|⟨hw,_,An⟩
  ·rw[if_pos (fK bM hw)];refine .inl (ux.2 base σ a g bM rfl (fun x _ y hy=>hy) (Mode.np (.inr rfl)) _ _ fun u g' mQ=>?_);subst An;exact ih _ _ _ _ lW lJ gC cP mQ
  rw[if_neg (by rw[fK bM hw];simp)];subst An;refine ih _ _ _ g lW lJ gC cP ?_;cases jo:o.dst with
  | none=>exact bM
  | some d=>exact bM.skip d
theorem lE{P:Program}(hm:P.follows .mixedOrders=true){ops:Array Oper}{ks:List Kind}(hB:l5 ops ks=true){id:Nat}{base:G}{σ ρ:St}{a:Act}{g:G}{Q:Exit->Act->World->Prop}
  (mu:eR P ops ((List.range ops.size).map fun i=>(i,ks.getD i .write)) σ ρ) (bM:Rel base σ a g) (hQ:∀a g,Rel base ρ a g->Q .normal a g.w):(Code.region id ops true).wp P Q a g.w:=by
 refine wp_region_any hm ?_;have DZ:gx ks ops.size (Array.replicate ops.size false)=(List.range ops.size).map fun i=>(i,ks.getD i .write):=by
  unfold gx;congr 1;rw[List.filter_eq_self];intro i hi;rw[List.mem_range]at hi;simp[Array.getD_eq_getD_getElem?,hi]
 have GL:=bM.good.heap (w':={ g.w with drawn:=g.w.drawn+1 }) rfl rfl rfl rfl;have HX:=Le.heap (g:=g) (w':={ g.w with drawn:=g.w.drawn+1 }) rfl rfl rfl rfl;have mQ:=bM.step HX GL;have gd:(⟨σ.n,σ.ba,g.objs⟩:St)=σ:=by rw[bM.objs]
 rw[gd]at mQ;refine vi hB hQ ops.size (Array.replicate ops.size false) σ a _ (by simp) ?_ ?_ (by rw[DZ];exact mu) mQ
 ·intro i o ho hl;have aZ:i<ops.size:=a5 ho;simp[Array.getD_eq_getD_getElem?,aZ]at hl
 rw[DZ];simp
theorem mf{P:Program}{ops:Array Oper}{base:G}{ρ:St}{Q:Exit->Act->World->Prop}(hQ:∀a g,Rel base ρ a g->Q .normal a g.w) :
  ∀(l:List (Nat×Kind)) (σ:St) (a:Act) (g:G),eR P ops l σ ρ->Rel base σ a g->wpOps P ops Q (l.map (·.1)) a g.w
 | [],σ,a,g,mu,bM=>hQ a g (gz.rel mu bM)
 | (i,k)::r,σ,a,g,mu,bM=>by
  obtain⟨fE,⟨o,ho,bV⟩,cP⟩:=mu;simp only[List.map_cons,wpOps,ho];rcases bV with⟨hw,r',m,ux,hk,An⟩|⟨hw,_,An⟩
  ·rw[if_pos (fK bM hw)];refine .inl (ux.2 base σ a g bM rfl (fun x _ y hy=>hy) (Mode.np (.inr rfl)) _ _ fun u g' mQ=>?_);subst An;exact mf hQ r _ _ _ cP mQ
  rw[if_neg (by rw[fK bM hw];simp)];subst An;refine mf hQ r _ _ g cP ?_;cases jo:o.dst with
  | none=>exact bM
  | some d=>exact bM.skip d
theorem kq{P:Program}{ops:Array Oper}{ks:List Kind}{id:Nat}{base:G}{σ ρ:St}{a:Act}{g:G}{Q:Exit->Act->World->Prop}
  (mu:eR P ops ((List.range ops.size).map fun i=>(i,ks.getD i .write)) σ ρ) (bM:Rel base σ a g) (hQ:∀a g,Rel base ρ a g->Q .normal a g.w):(Code.region id ops false).wp P Q a g.w:=by
 refine wp_region ?_;have:=mf (Q:=Q) hQ _ σ a g mu bM;rw[List.map_map]at this;rw[show((List.range ops.size).map ((fun x:Nat×Kind=>x.1) ∘ fun i=>(i,ks.getD i .write)))=List.range ops.size by
  conv=>rhs;rw[<-List.map_id (List.range ops.size)]
  rfl]at this
 exact this
inductive dR where
 | norm
 | ret
 | exit (id:Nat)
def Ec(base:G)(Q:dR->St->Prop):Exit->Act->World->Prop
 | .normal,a,w=>∃g σ,g.w=w∧Rel base σ a g∧Q .norm σ
 | .ret,a,w=>∃g σ,g.w=w∧Rel base σ a g∧Q .ret σ
 | .exit id,a,w=>∃g σ,g.w=w∧Rel base σ a g∧Q (.exit id) σ
 | _,_,_=>False
def cc(P:Program)(kb:Nat)(c:Code)(Q:dR->St->Prop)(σ:St):Prop :=
 ∀(base:G) (a:Act) (g:G),base.objs.length<=kb->Rel base σ a g->c.wp P (Ec base Q) a g.w
theorem cc.mono{P:Program}{kb:Nat}{c:Code}{Q Q':dR->St->Prop}{σ:St}(h:cc P kb c Q σ)(hq:∀e σ,Q e σ->Q' e σ):cc P kb c Q' σ:=fun base a g hb hr =>
 wp_mono (h base a g hb hr) fun e a w hp=>by
  cases e with
  | normal=>obtain⟨g,σ,h1,h2,h3⟩:=hp;exact⟨g,σ,h1,h2,hq _ _ h3⟩
  | ret=>obtain⟨g,σ,h1,h2,h3⟩:=hp;exact⟨g,σ,h1,h2,hq _ _ h3⟩
  | exit id=>obtain⟨g,σ,h1,h2,h3⟩:=hp;exact⟨g,σ,h1,h2,hq _ _ h3⟩
  | goto l=>exact hp
  | panic c=>exact hp
  | outgrown=>exact hp
theorem cc.weaken{P:Program}{kb:Nat}{c:Code}{Q:dR->St->Prop}{σ τ:St}(h:cc P kb c Q τ)(hw:∀base a g,base.objs.length<=kb->Rel base σ a g->∃g',g'.w=g.w∧Rel base τ a g'):cc P kb c Q σ:=fun base a g hb hr=>by
 obtain⟨g',h1,h2⟩:=hw base a g hb hr;rw[<-h1];exact h base a g' hb h2
def bL(P:Program)(kb:Nat)(b:Code)(Q:dR->St->Prop):dR->St->Prop
 | .norm,σ=>cc P kb b Q σ
 | e,σ=>Q e σ
theorem aK{P:Program}{kb:Nat}{x y:Code}{Q:dR->St->Prop}{σ:St}(h:cc P kb x (bL P kb y Q) σ):cc P kb (.seq x y) Q σ:=fun base a g hb hr =>
 wp_seq (wp_mono (h base a g hb hr) fun e a w hp=>by
  cases e with
  | normal =>
   obtain⟨g,σ,h1,h2,h3⟩:=hp;subst h1;exact h3 base a g hb h2
  | ret=>exact hp
  | exit id=>exact hp
  | goto l=>exact hp
  | panic c=>exact hp
  | outgrown=>exact hp)
theorem a8{P:Program}{kb:Nat}{Q:dR->St->Prop}{σ:St}(h:Q .norm σ):cc P kb .skip Q σ:=fun base _ g _ hr=>wp_skip ⟨g,σ,rfl,hr,h⟩
theorem aq{P:Program}{kb:Nat}{Q:dR->St->Prop}{σ:St}(h:Q .ret σ):cc P kb .ret Q σ:=fun base _ g _ hr=>wp_ret ⟨g,σ,rfl,hr,h⟩
theorem aR{P:Program}{kb:Nat}{Q:dR->St->Prop}{σ:St}{id:Nat}(h:Q (.exit id) σ):cc P kb (.exit id) Q σ:=fun base _ g _ hr=>wp_exit ⟨g,σ,rfl,hr,h⟩
def bK(id:Nat)(Q:dR->St->Prop):dR->St->Prop
 | .exit kD,σ=>if kD=id then Q .norm σ else Q (.exit kD) σ
 | e,σ=>Q e σ
theorem aj{P:Program}{kb:Nat}{id:Nat}{c:Code}{Q:dR->St->Prop}{σ:St}(h:cc P kb c (bK id Q) σ):cc P kb (.block id c) Q σ:=fun base a g hb hr =>
 wp_block (wp_mono (h base a g hb hr) fun e a w hp=>by
  cases e with
  | normal=>exact hp
  | ret=>exact hp
  | exit kD =>
   obtain⟨g,σ,h1,h2,h3⟩:=hp;simp only[bK]at h3;simp only[Exit.inBlock];split
   ·rename_i e;rw[if_pos e]at h3;exact⟨g,σ,h1,h2,h3⟩
   rename_i e;rw[if_neg e]at h3;exact⟨g,σ,h1,h2,h3⟩
  | goto l=>exact hp
  | panic c=>exact hp
  | outgrown=>exact hp)
theorem lM{P:Program}{kb:Nat}{c:Operand}{x y:Code}{Q:dR->St->Prop}{σ:St}{b:Bool}(hc:σ.ev c=some (.v (.bool b)))(ht:b=true->cc P kb x Q σ)(hf:b=false->cc P kb y Q σ):cc P kb (.cond c x y) Q σ:=fun base a g hb hr=>by
 have lJ:=(hr.eval hc).cq.1;cases b
 ·exact wp_cond_false lJ (hf rfl base a g hb hr)
 exact wp_cond_true lJ (ht rfl base a g hb hr)
def Sub(O:List ak)(x y:ae):Prop:=∀(g:G) (u:Value),g.objs=O->RV g x u->RV g y u
theorem Sub.refl{O:List ak}(x:ae):Sub O x x:=fun _ _ _ h=>h
theorem Sub.of_eq{O:List ak}{x y:ae}(h:x=y):Sub O x y:=h ▸ Sub.refl x
def gj(σ:St):List (Nat×ae)->Prop
 | []=>True
 | (s,y)::r=>(∃x,σ.get s=some x∧Sub σ.objs x y)∧gj σ r
theorem oO{σ:St}{base:G}{a:Act}{g:G}(hr:Rel base σ a g):∀{l:List (Nat×ae)},gj σ l->∀s y,look l s=some y->∃u,a.tmps[s]?=some u∧RV g y u
 | [],_,s,y,h=>by cases h
 | (k,z)::l,h,s,y,hl=>by
  obtain⟨⟨x,h1,h2⟩,h3⟩:=h;simp only[look]at hl;split at hl
  ·rename_i e;subst e;simp only[Option.some.injEq]at hl;subst hl;obtain⟨u,h4,h5⟩:=hr.slot k x h1;exact⟨u,h4,h2 g u hr.objs h5⟩
  exact oO hr h3 s y hl
structure bg(σ τ:St):Prop where
 n:σ.n=τ.n
 objs:σ.objs=τ.objs
 Iq:gj σ τ.ba
theorem bg.rel{σ τ:St}(h:bg σ τ){base:G}{a:Act}{g:G}(hr:Rel base σ a g):Rel base τ a g where
 le:=hr.le
 good:=hr.good
 objs:=hr.objs.trans h.objs
 size:=hr.size.trans h.n
 defers:=hr.defers
 slot:=fun s y hy=>oO hr h.Iq s y hy
theorem cc.cover{P:Program}{kb:Nat}{c:Code}{Q:dR->St->Prop}{σ τ:St}(h:cc P kb c Q τ)(hc:bg σ τ):cc P kb c Q σ:=fun base a g hb hr=>h base a g hb (hc.rel hr)
def fO{ι:Type}(L:ι->St)(μ:ι->Nat)(i:ι)(Q:dR->St->Prop):dR->St->Prop
 | .norm,σ=>∃j,μ j<μ i∧bg σ (L j)
 | e,σ=>Q e σ
theorem aU{P:Program}{kb:Nat}{c:Code}{Q:dR->St->Prop}{σ:St}{ι:Type}(L:ι->St)(μ:ι->Nat)(i0:ι)(h0:bg σ (L i0))(round:∀i,cc P kb c (fO L μ i Q) (L i)):cc P kb (.loop c) Q σ:=by
 intro base a g hb hr b k cs;have key:∀n i a g,μ i=n->Rel base (L i) a g->∃e a' w',Ec base Q e a' w'∧Arrives P (lone (b.at a (.code c::.inLoop c::k)) cs g.w) b k cs e a' w':=by
  intro n;induction n using Nat.strongRecOn with
  | _ n ih =>
   intro i a g hn hr;obtain⟨e,Eg,Hh,hq,eY⟩:=round i base a g hb hr b (.inLoop c::k) cs;cases e with
   | normal =>
    obtain⟨zV,xN,h1,h2,j,h3,h4⟩:=hq;subst h1;obtain⟨HA,Hy,Iu,GS,B8⟩:=ih (μ j) (hn ▸ h3) j Eg zV rfl (h4.rel h2);exact⟨HA,Hy,Iu,GS,.of_steps (Steps.trans eY (.one step_inLoop)) B8⟩
   | exit id =>
    obtain⟨zV,xN,h1,h2,h3⟩:=hq;exact⟨.exit id,Eg,Hh,⟨zV,xN,h1,h2,h3⟩,.pass (x:=.inLoop c) rfl (fun _ _=>.inl (by simp)) eY⟩
   | goto l=>exact hq.elim
   | ret =>
    obtain⟨zV,xN,h1,h2,h3⟩:=hq;exact⟨.ret,Eg,Hh,⟨zV,xN,h1,h2,h3⟩,.pass (x:=.inLoop c) rfl (fun _ _=>.inl (by simp)) eY⟩
   | panic ch=>exact hq.elim
   | outgrown=>exact hq.elim
 obtain⟨e,a',w',hq,eY⟩:=key _ i0 a g rfl (h0.rel hr);exact⟨e,a',w',hq,.of_steps (.one step_loop) eY⟩
theorem sr{P:Program}{kb:Nat}{c:Code}{Q:dR->St->Prop}{n:Nat}{ba:List (Nat×ae)}{O:List ak}(s:Nat){sz:Nat}{xs:List ae}(hs:look ba s=some (.aE sz xs .ex))
  (h:cc P kb c Q ⟨n,bu s (.aE sz xs (.tok O.length)) ba,O++[.spare xs.length]⟩):cc P kb c Q ⟨n,ba,O⟩ :=
 h.weaken fun base a g hb hr=>by
  have hO:g.objs=O:=hr.objs;refine⟨g.mark (.spare xs.length),rfl,?_⟩;have hle:=Le.mark hr.good (.spare xs.length);refine { le:=hr.le.trans hle,good:=Good.mark hr.good _,objs:=by simp[G.mark,hO],size:=hr.size,defers:=hr.defers,slot:=fun k x hx=>?_ };simp only[St.get,fq]at hx;split at hx
  ·rename_i e;subst e;simp only[Option.some.injEq]at hx;subst hx;obtain⟨u,h1,h2⟩:=hr.slot s _ hs;refine⟨u,h1,?_⟩;have h3:=h2.mono hle;cases h3 with
   | nil=>exact .nil (fun id e=>by simp only[kP.tok.injEq]at e;subst e;simp[G.mark,hO]) (by simp)
   | aE cU dz cQ cF hs f hm hr ho =>
    refine .aE cU dz cQ cF hs f hm hr ⟨by simp[G.mark,hO],fun m fm=>?_⟩;have:(g.mark (.spare xs.length)).objs[O.length]?=some (.spare xs.length):=by
     rw[<-hO];exact eE
    rw[this]at fm;simp only[Option.some.injEq,ak.spare.injEq]at fm;exact⟨by omega,fun _=>.inl ho⟩
  obtain⟨u,h1,h2⟩:=hr.slot k x hx;exact⟨u,h1,h2.mono hle⟩
theorem ov{P:Program}{kb:Nat}{c:Code}{Q:dR->St->Prop}{n:Nat}{ba:List (Nat×ae)}{O:List ak}(k:Nat)(hk:k<=O.length)(uD:kb<=k)(cN:List (Nat×ae))(hb:∀o∈O.take k,o.upto k)(hs:gj ⟨n,ba,O⟩ cN)
  (o5:∀s x,look cN s=some x->x.upto k) (h:cc P kb c Q ⟨n,cN,O.take k⟩):cc P kb c Q ⟨n,ba,O⟩:=by
 intro base a g Gn hr;have hO:g.objs=O:=hr.objs;have wC:Rel base ⟨n,cN,O.take k⟩ a (g.cD k):={
  le:=hr.le.cD (by omega)
  good:=hr.good.cD (by rw[hO];exact hk) (by rw[hO];exact hb)
  objs:=by simp only[G.cD,hO]
  size:=hr.size
  defers:=hr.defers
  slot:=fun s x hx=>by
   obtain⟨u,h1,h2⟩:=oO hr hs s x hx;exact⟨u,h1,h2.cD (by rw[hO];exact hk) (o5 s x hx)⟩ }
 exact h base a (g.cD k) Gn wC
theorem sc{P:Program}{o:Oper}{x:Operand}{args:Array Operand}{oq:Array TypeId}(ho:o.op=.call ⟨.value x,args,oq⟩){a:Act}{w:World}{f:FuncId}{us vs:Array Value}(hx:a.eval x=.func (.func f) us vs)(hf:vr P f) :
  (execOp a.eval o).run P w=.ok (.enter f (us++args.map a.eval++vs)) w:=by
 obtain⟨fn,h1,h2,h3⟩:=hf;simp only[execOp,ho,resolve,hx,Deferred.ofValue,Sem.run_bind,Sem.run_pure,Result.andThen_ok,invoke,callFunc,run_program,h1,h2,h3];rfl
theorem gZ.kS{g:G}{cs ds:List ae}{us vs:Array Value}(h:gZ g cs us)(k:gZ g ds vs):gZ g (cs++ds) (us++vs):=by
 have:=gZ.append (us:=us.toList) (vs:=vs.toList) (by simpa using h) (by simpa using k);have e:(us.toList++vs.toList).toArray=us++vs:=Array.ext' (by simp);rw[<-e];exact this
theorem oz{P:Program}{o:Oper}{σ:St}{x:Operand}{args:Array Operand}{oq:Array TypeId}{f:FuncId}{fs cs dC:List ae}{r:ae}(m:Mode)
  (ho:o.op=.call ⟨.value x,args,oq⟩) (hd:∀d,o.dst=some d->d<σ.n) (hx:σ.ev x=some (.fn (.func f) fs cs)) (ha:σ.uj args.toList=some dC) {args':List ae} (dY:∀g u,gZ g (fs++dC++cs) u->gZ g args' u)
  (dZ:∀O,(m=.pure∨O=σ.objs)->bc P f O args' fun r' O'=>r'=r∧O'=m.post O) (uy:vr P f) (hp:m.plain:=by trivial):Cert P o σ r m:=by
 refine⟨by cases m<;>first|trivial|exact hp.elim,?_⟩;intro base τ a g bM hn mO hm K Q hK;have vn:σ.ev x=some (.fn (.func f) fs cs):=hx;have h1:=bM.eval (mO x (by simp[ho,Op.operands,Call.operands]) _ hx);obtain⟨us,vs,e1,l1,l2,r1,r2⟩:=h1.zS;have h2:=nF (σ:=σ) (a:=a) (g:=g) (xs:=args.toList) (fun z hz y hy=>bM.eval (mO z (by
  rw[ho];simp only[Op.operands,Call.operands,Array.mem_append];exact .inr (Array.mem_toList_iff.1 hz)) y hy)) ha
 have HE:gZ g dC (args.map a.eval):=by
  have e:args.map a.eval=(args.toList.map a.eval).toArray:=Array.ext' (by rw[Array.toList_map]);rw[e];exact h2
 have cM:=dY g _ ((gZ.kS (gZ.kS ⟨l1,r1⟩ HE) ⟨l2,r2⟩));have bz:=sc (P:=P) (w:=g.w) ho e1 uy;unfold Oper.wp;rw[bz,Oper.upon_enter];refine((dZ g.objs (by
  rcases m.uU hp hm with hm|hm
  ·exact .inl hm
  exact .inr (bM.objs.trans hm))).2 g _ bM.good rfl cM).mono ?_
 rintro e w' ⟨g',v,r',q1,q2,q3,q4,q5,q6,q7⟩;subst q1;subst q2;subst q6;refine hK v g' ?_;have e:g'.objs=m.post τ.objs:=by rw[q7,bM.objs]
 cases jo:o.dst with
 | none =>
  have:=bM.step q3 q4;rw[e]at this;exact this
 | some d =>
  have:=bM.put q3 q4 (d:=d) (by rw[hn];exact hd d jo) q5;rw[e]at this;exact this
theorem gZ.share{g:G}{cs:List ae}{u:Array Value}(h:gZ g cs u):gZ g (cs.map ae.share) u :=
 ⟨by simpa using h.1,fun j c v a b=>by
  rw[List.getElem?_map,Option.map_eq_some_iff]at a;obtain⟨c',h1,h2⟩:=a;subst h2;exact(h.2 j c' v h1 b).share⟩
theorem vK{P:Program}{o:Oper}{σ:St}{x:Operand}{args:Array Operand}{oq:Array TypeId}{f:FuncId}{fs cs dC:List ae}{r:ae}
  (ho:o.op=.call ⟨.value x,args,oq⟩) (hd:∀d,o.dst=some d->d<σ.n) (hx:σ.ev x=some (.fn (.func f) fs cs)) (ha:σ.uj args.toList=some dC)
  (dZ:bw P f ((fs++dC++cs).map ae.share) r) (bC:aw 0 ((fs++dC++cs).map ae.share)):Cert P o σ r .pure :=
 oz .pure ho hd hx ha (args':=(fs++dC++cs).map ae.share) (fun _ _ h=>h.share) (fun O _=>dZ.use bC O) dZ.1
theorem pZ{P:Program}{o:Oper}{σ:St}{x:Operand}{args:Array Operand}{oq:Array TypeId}{f:FuncId}{fs cs dC:List ae}{r:ae}{O':List ak}
  (ho:o.op=.call ⟨.value x,args,oq⟩) (hd:∀d,o.dst=some d->d<σ.n) (hx:σ.ev x=some (.fn (.func f) fs cs)) (ha:σ.uj args.toList=some dC)
  (dZ:bc P f σ.objs (fs++dC++cs) fun r' O1=>r'=r∧O1=O'):Cert P o σ r (.write O') :=
 oz (.write O') ho hd hx ha (args':=fs++dC++cs) (fun _ _ h=>h) (fun O hO=>by
  have:O=σ.objs:=hO.resolve_left (by simp);subst this;exact dZ) dZ.1
theorem vL{P:Program}{o:Oper}{σ:St}{x:Operand}{args:Array Operand}{oq:Array TypeId}{f:FuncId}{fs cs dC:List ae}{r:ae}
  (ho:o.op=.call ⟨.value x,args,oq⟩) (hd:∀d,o.dst=some d->d<σ.n) (hx:σ.ev x=some (.fn (.func f) fs cs)) (ha:σ.uj args.toList=some dC)
  (dZ:bc P f σ.objs (fs++dC++cs) fun r' O1=>r'=r∧O1=σ.objs):Cert P o σ r .read :=
 oz .read ho hd hx ha (args':=fs++dC++cs) (fun _ _ h=>h) (fun O hO=>by
  have:O=σ.objs:=hO.resolve_left (by simp);subst this;exact dZ) dZ.1
theorem lr{g:G}{id:Nat}{o:ak}{l':Option Loc}(ho:g.objs[id]?=some o)(he:g.env[id]?=some l')(hp:¬o.aF)(hl:o.live):ku g id o l' .gone g.w where
 obj:=ho
 os:=rfl
 tape:=rfl
 output:=rfl
 size:=Nat.le_refl _
 block:=fun _ _ _=>rfl
 cell:=fun b off x hx _=>hx
 place:=fun _ _ h=>h.elim
 spare:=fun m h=>by subst h;exact absurd trivial hp
 plain:=fun _=>⟨by simp[ak.aF],he⟩
 gone:=fun h=>by subst h;exact hl
def G.freeze(g:G)(id:Nat)(l':Option Loc):G:=g.br id l' .gone g.w
def cw(O:List ak)(id:Nat)(x y:ae):Prop :=
 ∀(g:G) (u:Value) (l':Option Loc),Good g->g.objs=O->g.env[id]?=some l'->Le g (g.freeze id l')->RV g x u->RV (g.freeze id l') y u
theorem cw.refl{O:List ak}{id:Nat}(x:ae):cw O id x x:=fun _ _ _ _ _ _ hle h=>h.mono hle
theorem k6{g:G}(hg:Good g){id:Nat}{l:Loc}{o:ak}(he:g.env[id]?=some (some l))(ho:g.objs[id]?=some o)(hl:o.live)(off:Nat):¬jT (g.freeze id (some l)) l.block off:=by
 have aZ:=I ho;rintro(hf|⟨kD,l',o',h1,h2,h3,h4,_⟩)
 ·exact hg.fk id l o he ho hl off hf
 simp only[G.freeze,G.br]at h1 h2;by_cases e:kD=id
 ·subst e;rw[List.getElem?_set_self (by omega)]at h2;simp only[Option.some.injEq]at h2;subst h2;exact h3
 rw[List.getElem?_set_ne (Ne.symm e)]at h1 h2;exact e (hg.apart kD id l' l o' o h1 h2 h3 he ho hl h4)
theorem cw.mp{O:List ak}{id off:Nat}{cs ds:List ae}(fA:O[id]?=some (.cells cs))(hd:(cs.drop off).map ae.bk=ds):cw O id (.mp id off) (.ip none ds):=fun g u l' hg hO he hle h=>by
 obtain⟨l,o1,h1,h2,_,eu⟩:=h.lj;subst eu;rw[he]at h1;simp only[Option.some.injEq]at h1;subst h1;have ij:g.objs[id]?=some (.cells cs):=by rw[hO];exact fA
 obtain⟨arr,t',gQ,dp,hlen,eZ,jY,_⟩:=hg.row ij he;subst hd;refine .ip (.inl rfl) (fun c hc=>by
  obtain⟨c',h1,h2⟩:=List.mem_map.1 hc;subst h2;exact ae.en (jY c' (List.mem_of_mem_drop h1))) (fun j=>arr.getD (off+j) undef) (fun j c hj=>?_) (fun j c hj=>?_)
 ·rw[List.getElem?_map,Option.map_eq_some_iff]at hj;obtain⟨c',hj,_⟩:=hj;rw[List.getElem?_drop]at hj;have aZ:=I hj;refine⟨?_,k6 hg he ij trivial _⟩;show g.w.cell? _=_;rw[cell_of_row dp];simp[Array.getD_eq_getD_getElem?,show off+j<arr.size by omega]
 rw[List.getElem?_map,Option.map_eq_some_iff]at hj;obtain⟨c',hj,e⟩:=hj;subst e;rw[List.getElem?_drop]at hj;have aZ:=I hj;exact((eZ _ c' _ hj (by simp[Array.getD_eq_getD_getElem?,show off+j<arr.size by omega])).mono hle).bk
theorem cw.ms{O:List ak}{id off len cap sz:Nat}{cs xs:List ae}(fA:O[id]?=some (.cells cs))(cU:∀x∈xs,x.cells.length=sz)(hlen:xs.length=len)(hd:((cs.drop off).take (len*sz)).map ae.bk=ao xs):cw O id (.ms id off len cap) (.aE sz xs .sh):=fun g u l' hg hO he hle h=>by
 obtain⟨l,o1,h1,h2,_,xy,cF,ez,cQ,eu⟩:=h.jL;subst eu;rw[he]at h1;simp only[Option.some.injEq]at h1;subst h1;have ij:g.objs[id]?=some (.cells cs):=by rw[hO];exact fA
 obtain⟨arr,t',gQ,dp,km,eZ,jY,_⟩:=hg.row ij he;subst hlen;have key:∀(j:Nat) (c:ae),(ao xs)[j]?=some c->∃c',cs[off+j]?=some c'∧c'.bk=c:=fun j c hj=>by
  rw[<-hd,List.getElem?_map,Option.map_eq_some_iff]at hj;obtain⟨c',hj,e⟩:=hj;have:=kJ hj;rw[List.getElem?_drop]at this;exact⟨c',this,e⟩
 refine .aE cU (fun x hx c hc=>?_) (Nat.le_trans xy cQ) cF (fun _=>rfl) (fun j=>arr.getD (off+j) undef) (fun j c hj=>?_) (fun j c hj=>?_) trivial
 ·have jZ:c∈ao xs:=by
   simp only[ao,List.mem_flatMap];exact⟨x,hx,hc⟩
  obtain⟨j,hj⟩:=List.getElem?_of_mem jZ;obtain⟨c',gY,e⟩:=key j c hj;subst e;exact ae.en (jY c' (List.mem_of_getElem? gY))
 ·obtain⟨c',gY,e⟩:=key j c hj;have aZ:=I gY;refine⟨?_,k6 hg he ij trivial _⟩;show g.w.cell? _=_;simp only;rw[cell_of_row dp];simp[Array.getD_eq_getD_getElem?,show off+j<arr.size by omega]
 obtain⟨c',gY,e⟩:=key j c hj;have aZ:=I gY;subst e;exact((eZ _ c' _ gY (by simp[Array.getD_eq_getD_getElem?,show off+j<arr.size by omega])).mono hle).bk
theorem cw.mm{O:List ak}{id:Nat}{kt:KT}{es:List (Value×ae)}(fA:O[id]?=some (.map kt es)):cw O id (.mm id) (.im kt es):=fun g u l' hg hO he hle h=>by
 obtain⟨l,o1,h1,h2,_,eu⟩:=h.wN;subst eu;rw[he]at h1;simp only[Option.some.injEq]at h1;subst h1;have ij:g.objs[id]?=some (.map kt es):=by rw[hO];exact fA
 obtain⟨l2,arr,clk,e1,e2,e3,e4,e5,e6⟩:=hg.map id kt es ij;rw[he]at e1;simp only[Option.some.injEq]at e1;subst e1;exact .im (r:=l.block) (clk:=clk) (arr:=arr) e3 (fun off=>k6 hg he ij trivial off) e4 (fun i e kx a b=>(e6 i e kx a b).1) e5 (fun i e kx a b=>(e6 i e kx a b).2.2.mono hle)
theorem vA{P:Program}{kb:Nat}{c:Code}{Q:dR->St->Prop}{n:Nat}{ba:List (Nat×ae)}{O:List ak}(id:Nat){o:ak}(fA:O[id]?=some o)(hp:¬o.aF)(j8:o.live)(cN:List (Nat×ae))
  (hs:∀s y,look cN s=some y->∃x,look ba s=some x∧cw O id x y) (h:cc P kb c Q ⟨n,cN,O.set id .gone⟩):cc P kb c Q ⟨n,ba,O⟩ :=
 h.weaken fun base a g hb hr=>by
  have hO:g.objs=O:=hr.objs;have ij:g.objs[id]?=some o:=by rw[hO];exact fA
  have aZ:=gN hr.good ij;have he:g.env[id]?=some g.env[id]:=List.getElem?_eq_getElem aZ;have ht:=lr ij he hp j8;have hle:=Le.br hr.good ht;refine⟨g.freeze id g.env[id],rfl,{ le:=hr.le.trans hle,good:=Good.br hr.good ht trivial (fun _ _ h=>h.elim),objs:=by simp[G.freeze,G.br,hO],size:=hr.size,defers:=hr.defers,slot:=fun s y hy=>?_ }⟩;obtain⟨x,h1,h2⟩:=hs s y hy;obtain⟨u,h3,h4⟩:=hr.slot s x h1;exact⟨u,h3,h2 g u _ hr.good hO he hle h4⟩
theorem aH{P:Program}{kb:Nat}{c:Code}{Q:dR->St->Prop}{n:Nat}{ba:List (Nat×ae)}{O:List ak}(s id:Nat){o:ak}{x:ae}(y:ae)(fA:O[id]?=some o)(hp:¬o.aF)(j8:o.live)(hx:look ba s=some x)(hf:cw O id x y)
  (h:cc P kb c Q ⟨n,bu s y ba,O.set id .gone⟩):cc P kb c Q ⟨n,ba,O⟩ :=
 vA id fA hp j8 (bu s y ba) (fun k z hz=>by
  rw[fq]at hz;split at hz
  ·rename_i e;subst e;simp only[Option.some.injEq]at hz;subst hz;exact⟨x,hx,hf⟩
  exact⟨z,hz,.refl z⟩) h
theorem kh{P:Program}{kb:Nat}{c:Code}{Q:dR->St->Prop}{n:Nat}{ba:List (Nat×ae)}{O:List ak}(id:Nat){o:ak}(fA:O[id]?=some o)(hp:¬o.aF)(j8:o.live)(cN:List (Nat×ae))
  (hs:∀s y,look cN s=some y->∃x,look ba s=some x∧cw O id x y) (k:Nat) (hk:k≠id) (cs ds:List ae) (jJ:O[k]?=some (.cells cs)) (hl:cs.length=ds.length) (dz:∀d∈ds,d.scalar)
  (eZ:∀(j:Nat) (c d:ae),cs[j]?=some c->ds[j]?=some d->cw O id c d) (h:cc P kb c Q ⟨n,cN,(O.set id .gone).set k (.cells ds)⟩):cc P kb c Q ⟨n,ba,O⟩ :=
 h.weaken fun base a g hb hr=>by
  have hO:g.objs=O:=hr.objs;have ij:g.objs[id]?=some o:=by rw[hO];exact fA
  have aZ:=gN hr.good ij;have he:g.env[id]?=some g.env[id]:=List.getElem?_eq_getElem aZ;have ht:=lr ij he hp j8;have hle:=Le.br hr.good ht;have c7:=Good.br hr.good ht trivial (fun _ _ h=>h.elim);obtain⟨l,arr,t,e1,e2,e3,e4,e5,e6⟩:=hr.good.cells k cs (by rw[hO];exact jJ);have wz:(g.freeze id g.env[id]).objs[k]?=some (.cells cs):=by
   simp only[G.freeze,G.br];rw[List.getElem?_set_ne (Ne.symm hk),hO];exact jJ
  have GG:(g.freeze id g.env[id]).env[k]?=some (some l):=by
   simp only[G.freeze,G.br];rw[List.getElem?_set_ne (Ne.symm hk)];exact e1
  have DY:ku (g.freeze id g.env[id]) k (.cells cs) (some l) (.cells ds) g.w:={
   obj:=wz
   os:=rfl
   tape:=rfl
   output:=rfl
   size:=Nat.le_refl _
   block:=fun _ _ _=>rfl
   cell:=fun b off x hx _=>hx
   place:=fun l1 h1 _=>by
    simp only[Option.some.injEq]at h1;subst h1;exact .inr ⟨l,GG,trivial,rfl,Nat.le_refl _⟩
   spare:=fun m h=>by cases h
   plain:=fun _=>⟨by simp[ak.aF],GG⟩
   gone:=by simp }
  have px:=Le.br c7 DY;have qq:=Good.br c7 DY ⟨l,arr,t,rfl,e2,e3,by omega,fun j d u hd hu=>by
   have aZ:=I hd;have hc:cs[j]?=some cs[j]:=List.getElem?_eq_getElem (by omega);exact(eZ j _ d hc hd g u _ hr.good hO he hle (e5 j _ u hc hu)).mono px,dz,e6.2⟩ (fun l1 h1 _=>by
    simp only[Option.some.injEq]at h1;subst h1;exact a5 e3)
  refine⟨(g.freeze id g.env[id]).br k (some l) (.cells ds) g.w,rfl,{ le:=(hr.le.trans hle).trans px,good:=qq,objs:=by simp[G.freeze,G.br,hO],size:=hr.size,defers:=hr.defers,slot:=fun s y hy=>?_ }⟩;obtain⟨x,h1,h2⟩:=hs s y hy;obtain⟨u,h3,h4⟩:=hr.slot s x h1;exact⟨u,h3,(h2 g u _ hr.good hO he hle h4).mono px⟩
theorem ns{P:Program}{kb:Nat}{c:Code}{Q:dR->St->Prop}{n:Nat}{ba:List (Nat×ae)}{O:List ak}(s:Nat){sz:Nat}{xs:List ae}{o:kP}(hs:look ba s=some (.aE sz xs o))
  (h1:xs=[]->cc P kb c Q ⟨n,bu s (.v (.slice none 0 0)) ba,O⟩) (h2:cc P kb c Q ⟨n,bu s (.aE sz xs .nn) ba,O⟩):cc P kb c Q ⟨n,ba,O⟩:=by
 intro base a g hb hr;obtain⟨u,e1,e2⟩:=hr.slot s _ hs;have key:∀y,RV g y u->Rel base ⟨n,bu s y ba,O⟩ a g:=fun y hy =>
  {le:=hr.le,good:=hr.good,objs:=hr.objs,size:=hr.size,defers:=hr.defers,slot:=fun k x hx=>by
    simp only[St.get,fq]at hx;split at hx
    ·rename_i e;subst e;simp only[Option.some.injEq]at hx;subst hx;exact⟨u,e1,hy⟩
    exact hr.slot k x hx }
 cases e2 with
 | nil ho hn=>exact h1 rfl base a g hb (key _ (.v trivial))
 | aE cU dz cQ cF hs f hm hr ho=>exact h2 base a g hb (key _ (.aE cU dz cQ cF hs f hm hr trivial))
theorem lp{P:Program}(w:World){t e:TypeId}(a:Addr)(n c:Nat)(ht:P.underlying t=some (.slice e)) :
  (binOp .neq t (.slice (some a) n c) (.slice none 0 0)).run P w=.ok (.bool true) w:=by
 have h:∀d:Nat,(Op.equalIn (d+1) t (.slice (some a) n c) (.slice none 0 0)).run P w=.ok false w:=fun d=>by
  simp[Op.equalIn,run_underlying ht]
 simp only[binOp];simp[Op.equal,Op.maxDepth,h 9999]
theorem lH{P:Program}(w:World){t e:TypeId}(n c:Nat)(ht:P.underlying t=some (.slice e)) :
  (binOp .neq t (.slice none n c) (.slice none 0 0)).run P w=.ok (.bool false) w:=by
 have h:∀d:Nat,(Op.equalIn (d+1) t (.slice none n c) (.slice none 0 0)).run P w=.ok true w:=fun d=>by
  simp[Op.equalIn,run_underlying ht]
 simp only[binOp];simp[Op.equal,Op.maxDepth,h 9999]
theorem tj{P:Program}(w:World){op:BinOp}{t e:TypeId}{u:Value}{b r:Bool}(ht:P.underlying t=some (.slice e))(hu:(∃n c,u=.slice none n c∧b=true)∨(∃a n c,u=.slice (some a) n c∧b=false))
  (hr:(op=.eql∧r=b)∨(op=.neq∧r=!b)):(binOp op t u (.slice none 0 0)).run P w=.ok (.bool r) w:=by
 rcases hu with⟨n,c,e1,e2⟩|⟨a,n,c,e1,e2⟩<;>rcases hr with⟨e3,e4⟩|⟨e3,e4⟩<;>subst e1<;>subst e2<;>subst e3<;>subst e4
 ·exact Go.Lib.run_eql_slice_nil_nil w n c ht
 ·exact lH w n c ht
 ·exact Go.Lib.run_eql_slice_some_nil w a n c ht
 exact lp w a n c ht
theorem tY{P:Program}{aW:eo}(hT:cb P aW){o:Oper}{σ:St}{t t' e:TypeId}{x:Operand}{ti:cr}{y:ae}{b r:Bool}{op:BinOp}
  (ho:o.op=.binOp op t x (.const (.slice none 0 0)) t') (hd:∀d,o.dst=some d->d<σ.n) (ht:aW t=some ti) (aT:ti.desc=.slice e) (hx:σ.ev x=some y)
  (hy:(y=.v (.slice none 0 0)∧b=true)∨(∃sz xs,y=.aE sz xs .nn∧b=false)∨(∃id off len cap,y=.ms id off len cap∧b=false)) (hr:(op=.eql∧r=b)∨(op=.neq∧r=!b)):Cert P o σ (.v (.bool r)) .pure :=
 Cert.bQ .pure (.inl rfl) hd fun a g _ h _=>by
  have hu:=bI hT ht aT;have fJ:=h x (by simp[ho,Op.operands]) _ hx;refine⟨.bool r,?_,.v trivial⟩;have o5:(∃n c,a.eval x=.slice none n c∧b=true)∨(∃ad n c,a.eval x=.slice (some ad) n c∧b=false):=by
   rcases hy with⟨e1,e2⟩|⟨sz,xs,e1,e2⟩|⟨id,off,len,cap,e1,e2⟩
   ·subst e1;exact .inl ⟨_,_,fJ.cq.1,e2⟩
   ·subst e1;cases hv:a.eval x with
    | slice ad len cap =>
     rw[hv]at fJ;cases fJ with
     | nil ho hn=>exact absurd rfl hn
     | aE cU dz cQ cF hs f hm hr ho=>exact .inr ⟨_,_,_,rfl,e2⟩
    | _=>rw[hv]at fJ;cases fJ
   subst e1;obtain⟨l,o1,_,_,_,_,_,ez,_,eu⟩:=fJ.jL;exact .inr ⟨_,_,_,eu,e2⟩
  have bz:=tj (P:=P) g.w hu o5 hr;have Cs:∃ad n c,a.eval x=.slice ad n c:=by
   rcases o5 with⟨_,_,e,_⟩|⟨_,_,_,e,_⟩
   ·exact⟨_,_,_,e⟩
   exact⟨_,_,_,e⟩
  obtain⟨ad,n,c,Cs⟩:=Cs;have hg:=cY (P:=P) op t x (.const (.slice none 0 0)) (.slice ad n c) (.slice none 0 0) g.w (by simp) (by simp);rw[Cs]at bz;have hc:a.eval (.const (.slice none 0 0))=.slice none 0 0:=rfl;simp[execOp,ho,Cs,hc,hg,bz]
theorem vJ{P:Program}{aW:eo}(hT:cb P aW){o:Oper}{σ:St}{t e:TypeId}{x:Operand}{ti:cr}{sz:Nat}{xs:List ae}
  (ho:o.op=.call ⟨.builtin .cap,#[x],#[t]⟩) (hd:∀d,o.dst=some d->d<σ.n) (ht:aW t=some ti) (aT:ti.desc=.slice e) (hx:σ.ev x=some (.aE sz xs .ex)):Cert P o σ (.v (.int .i64 xs.length)) .pure :=
 Cert.bQ .pure (.inl rfl) hd fun a g _ h _=>by
  have hu:=bI hT ht aT;have fJ:=h x (by simp[ho,Op.operands,Call.operands]) _ hx;have cF:=fJ.xG;have key:∃ad,a.eval x=.slice ad xs.length xs.length:=by
   rcases fJ.eT with⟨q1,q2⟩|⟨ad,cap,_,q1,_,_,_,_,_,_,_,q2⟩
   ·subst q2;exact⟨_,q1⟩
   have q3:cap=xs.length:=q2;subst q3;exact⟨_,q1⟩
  obtain⟨ad,q1⟩:=key;refine⟨.int .i64 xs.length,?_,.v ?_⟩
  ·rw[cz ho];simp[builtin,Builtin.cap_,q1,run_underlying hu,goInt]
  simp[kl,IntKind.min,IntKind.max,IntKind.bits,IntKind.signed];omega
theorem mM{P:Program}{o:Oper}{σ:St}{x:Operand}{y:ae}(ho:o.op=.nilCheck x)(hd:∀d,o.dst=some d->d<σ.n)(hx:σ.ev x=some y)
  (hy:(∃id off,y=.mp id off)∨∃oa cs,y=.ip oa cs):Cert P o σ y .pure :=
 Cert.bQ .pure (.inl rfl) hd fun a g _ h _=>by
  have fJ:=h x (by simp[ho,Op.operands]) _ hx;have key:∃ad,a.eval x=.pointer (some ad):=by
   rcases hy with⟨id,off,e⟩|⟨oa,cs,e⟩
   ·subst e;obtain⟨l,o1,_,_,_,eu⟩:=fJ.lj;exact⟨_,eu⟩
   subst e;obtain⟨b,off,f,eu,_⟩:=fJ.m9;exact⟨_,eu⟩
  obtain⟨ad,e⟩:=key;exact⟨a.eval x,by simp[execOp,ho,e],fJ⟩
theorem pr{P:Program}{aW:eo}(hT:cb P aW){o:Oper}{σ:St}{t e:TypeId}{x:Operand}{ti te:cr}{sz:Nat}{xs:List ae}{ow:kP}{lo hi:Option Operand}
  (ho:o.op=.slice t x lo hi none) (hd:∀d,o.dst=some d->d<σ.n) (ht:aW t=some ti) (aT:ti.desc=.slice e) (he:aW e=some te) (hx:σ.ev x=some (.aE sz xs ow))
  (gQ:lN σ lo 0 0) (mH:lN σ hi xs.length xs.length):Cert P o σ (.aE sz xs ow) .pure :=
 Cert.bQ .pure (.inl rfl) hd fun a g _ hh _=>by
  have hu:=bI hT ht aT;have fJ:=hh x (by cases lo<;>cases hi<;>simp[ho,Op.operands]) _ hx;have hl:(lo=none)∨∃q k,lo=some q∧a.eval q=.int k (0:Int):=by
   rcases gQ with q|⟨q,k,e1,e2⟩
   ·exact .inl q.1
   exact .inr ⟨q,k,e1,(hh q (by subst e1;cases hi<;>simp[ho,Op.operands]) _ e2).cq.1⟩
  have fL:(hi=none)∨∃q k,hi=some q∧a.eval q=.int k (xs.length:Int):=by
   rcases mH with q|⟨q,k,e1,e2⟩
   ·exact .inl q.1
   exact .inr ⟨q,k,e1,(hh q (by subst e1;cases lo<;>simp[ho,Op.operands]) _ e2).cq.1⟩
  have cv:execOp a.eval o=(do pure (.value (<-Instr.sliceAt t (a.eval x) (lo.map a.eval) (hi.map a.eval) none))):=by
   simp[execOp,ho]
  clear gQ mH ho;have bounds:∀cap:Nat,xs.length<=cap->(Instr.sliceBounds true xs.length cap (lo.map a.eval) (hi.map a.eval) none).run P g.w=.ok (0,xs.length,cap) g.w:=by
   intro cap cQ;rcases hl with e1|⟨p,k,e1,hk⟩
   ·rcases fL with e3|⟨q,k',e3,mw⟩
    ·subst e1 e3;simp[Instr.sliceBounds]
    subst e1 e3;have:=bp (P:=P) k' xs.length cap .sliceAcap g.w (by omega) (by omega);simp[Instr.sliceBounds,mw,this]
   rcases fL with e3|⟨q,k',e3,mw⟩
   ·subst e1 e3;have:=bp (P:=P) k 0 xs.length .sliceB g.w (by omega) (by omega);simp[Instr.sliceBounds,hk,this]
   subst e1 e3;have e1:=bp (P:=P) k' xs.length cap .sliceAcap g.w (by omega) (by omega);have e2:=bp (P:=P) k 0 xs.length .sliceB g.w (by omega) (by omega);simp[Instr.sliceBounds,hk,mw,e1,e2]
  have il:=(hT e te he).sizeOf g.w;refine⟨a.eval x,?_,fJ⟩;rw[cv];rcases fJ.eT with⟨q1,q2⟩|⟨ad,cap,f,q1,lW,dz,cQ,cF,hs,hm,hr,_⟩
  ·subst q2;have b:=bounds 0 (by simp);simp only[List.length_nil]at b;simp[Instr.sliceAt,run_underlying hu,Instr.slice,q1,il,b]
  have b:=bounds cap cQ;by_cases xx:cap=0
  ·subst xx;simp[Instr.sliceAt,run_underlying hu,Instr.slice,q1,il,b,Addr.add]
  simp[Instr.sliceAt,run_underlying hu,Instr.slice,q1,il,b,xx,Addr.add]
theorem rq{P:Program}{aW:eo}(hT:cb P aW){o:Oper}{σ:St}{t e:TypeId}{x:Operand}{ti te:cr}{id off len cap:Nat}{lo hi:Option Operand}{l h:Nat}
  (ho:o.op=.slice t x lo hi none) (hd:∀d,o.dst=some d->d<σ.n) (ht:aW t=some ti) (aT:ti.desc=.slice e) (he:aW e=some te) (hx:σ.ev x=some (.ms id off len cap))
  (gQ:lN σ lo 0 l) (mH:lN σ hi len h) (h1:l<=h) (h2:h<=cap) (h3:l<cap) (B6:h<=2 ^ 62):Cert P o σ (.ms id (off+l*te.size) (h-l) (cap-l)) .pure :=
 Cert.bQ .pure (.inl rfl) hd fun a g _ hh _=>by
  have hu:=bI hT ht aT;have fJ:=hh x (by cases lo<;>cases hi<;>simp[ho,Op.operands]) _ hx;have hl:(lo=none∧l=0)∨∃q k,lo=some q∧a.eval q=.int k (l:Int):=by
   rcases gQ with q|⟨q,k,e1,e2⟩
   ·exact .inl q
   exact .inr ⟨q,k,e1,(hh q (by subst e1;cases hi<;>simp[ho,Op.operands]) _ e2).cq.1⟩
  have fL:(hi=none∧h=len)∨∃q k,hi=some q∧a.eval q=.int k (h:Int):=by
   rcases mH with q|⟨q,k,e1,e2⟩
   ·exact .inl q
   exact .inr ⟨q,k,e1,(hh q (by subst e1;cases lo<;>simp[ho,Op.operands]) _ e2).cq.1⟩
  have cv:execOp a.eval o=(do pure (.value (<-Instr.sliceAt t (a.eval x) (lo.map a.eval) (hi.map a.eval) none))):=by
   simp[execOp,ho]
  clear gQ mH ho;obtain⟨lc,o1,q1,q2,q3,xy,cF,ez,cQ,eu⟩:=fJ.jL;have bounds:(Instr.sliceBounds true len ez (lo.map a.eval) (hi.map a.eval) none).run P g.w=.ok (l,h,ez) g.w:=by
   rcases hl with⟨e1,e2⟩|⟨p,k,e1,hk⟩
   ·rcases fL with⟨e3,e4⟩|⟨q,k',e3,mw⟩
    ·subst e1 e2 e3 e4;simp[Instr.sliceBounds]
    subst e1 e2 e3;have:=bp (P:=P) k' h ez .sliceAcap g.w (by omega) (by omega);simp[Instr.sliceBounds,mw,this]
   rcases fL with⟨e3,e4⟩|⟨q,k',e3,mw⟩
   ·subst e1 e3 e4;have:=bp (P:=P) k l h .sliceB g.w (by omega) (by omega);simp[Instr.sliceBounds,hk,this]
   subst e1 e3;have e1:=bp (P:=P) k' h ez .sliceAcap g.w (by omega) (by omega);have e2:=bp (P:=P) k l h .sliceB g.w (by omega) (by omega);simp[Instr.sliceBounds,hk,mw,e1,e2]
  have il:=(hT e te he).sizeOf g.w;refine⟨.slice (some ((⟨lc.block,off,none⟩:Addr).add (l*te.size))) (h-l) (ez-l),?_,?_⟩
  ·rw[cv];simp[Instr.sliceAt,run_underlying hu,Instr.slice,eu,bounds,il,show ez≠l by omega]
  rw[addr_add];exact .ms q1 q2 q3 (by omega) (by omega) (by omega)
theorem qc{P:Program}{aW:eo}(hT:cb P aW){o:Oper}{σ:St}{t e:TypeId}{x:Operand}{ti te:cr}{id sz len:Nat}{lo hi:Option Operand} 
  (ho:o.op=.slice t x lo hi none) (hd:∀d,o.dst=some d->d<σ.n) (ht:aW t=some ti) (aT:ti.desc=.slice e) (he:aW e=some te) (hx:σ.ev x=some (.raw sz len id))
  (gQ:lN σ lo 0 0) (mH:lN σ hi len 0) (h3:0<len):Cert P o σ (.aE sz [] (.tok id)) .pure :=
 Cert.bQ .pure (.inl rfl) hd fun a g _ hh _=>by
  have hu:=bI hT ht aT;have fJ:=hh x (by cases lo<;>cases hi<;>simp[ho,Op.operands]) _ hx;have hl:(lo=none∧(0:Nat)=0)∨∃q k,lo=some q∧a.eval q=.int k ((0:Nat):Int):=by
   rcases gQ with q|⟨q,k,e1,e2⟩
   ·exact .inl q
   exact .inr ⟨q,k,e1,(hh q (by subst e1;cases hi<;>simp[ho,Op.operands]) _ e2).cq.1⟩
  have fL:(hi=none∧(0:Nat)=len)∨∃q k,hi=some q∧a.eval q=.int k ((0:Nat):Int):=by
   rcases mH with q|⟨q,k,e1,e2⟩
   ·exact .inl q
   exact .inr ⟨q,k,e1,(hh q (by subst e1;cases lo<;>simp[ho,Op.operands]) _ e2).cq.1⟩
  have cv:execOp a.eval o=(do pure (.value (<-Instr.sliceAt t (a.eval x) (lo.map a.eval) (hi.map a.eval) none))):=by
   simp[execOp,ho]
  clear gQ mH ho;obtain⟨ad,ez,eu,cQ,H2⟩:=fJ.CC;have bounds:(Instr.sliceBounds true len ez (lo.map a.eval) (hi.map a.eval) none).run P g.w=.ok (0,0,ez) g.w:=by
   rcases hl with⟨e1,e2⟩|⟨p,k,e1,hk⟩
   ·rcases fL with⟨e3,e4⟩|⟨q,k',e3,mw⟩
    ·omega
    subst e1 e3;have:=bp (P:=P) k' 0 ez .sliceAcap g.w (by omega) (by omega);simp[Instr.sliceBounds,mw,this]
   rcases fL with⟨e3,e4⟩|⟨q,k',e3,mw⟩
   ·omega
   subst e1 e3;have e1:=bp (P:=P) k' 0 ez .sliceAcap g.w (by omega) (by omega);have e2:=bp (P:=P) k 0 0 .sliceB g.w (by omega) (by omega);simp[Instr.sliceBounds,hk,mw,e1,e2]
  have il:=(hT e te he).sizeOf g.w;refine⟨.slice (some (ad.add (0*te.size))) (0-0) (ez-0),?_,?_⟩
  ·rw[cv];simp[Instr.sliceAt,run_underlying hu,Instr.slice,eu,bounds,il,show ez≠0 by omega]
  rw[Nat.zero_mul,show ad.add 0=ad by cases ad;rfl];exact .aE (xs:=[]) (by simp) (by simp) (Nat.zero_le _) (Nat.zero_le _) (by simp) (fun _=>undef) (by simp[ao]) (by simp[ao]) H2
theorem ph{P:Program}{aW:eo}(hT:cb P aW){o:Oper}{σ:St}{t e:TypeId}{x y:Operand}{ti te:cr}{sz:Nat}{xs ys:List ae}{ow:kP}
  (ho:o.op=.call ⟨.builtin .append,#[x,y],#[t,t]⟩) (hd:∀d,o.dst=some d->d<σ.n) (ht:aW t=some ti) (aT:ti.desc=.slice e) (he:aW e=some te) (cU:te.size=sz) (hx:σ.ev x=some (.aE sz xs .ex)) (hy:σ.ev y=some (.aE sz ys ow))
  (hn:ys.length≠0) (hlen:xs.length+ys.length<=2 ^ 62) (hb:(xs.length+ys.length)*te.bytes<=2 ^ 47) :
  Cert P o σ (.ms σ.objs.length 0 (xs.length+ys.length) (xs.length+ys.length)) (.write (σ.objs++[.cells (ao (xs++ys.map ae.share))])) :=
 Cert.gu hd fun base fE a g bM h ic=>by
  have hO:g.objs=σ.objs:=ic.resolve_left (by simp);have hg:=bM.good;have hu:=bI hT ht aT;subst cU;have fJ:=h x (by simp[ho,Op.operands,Call.operands]) _ hx;have nU:=h y (by simp[ho,Op.operands,Call.operands]) _ hy;obtain⟨tG,jB,eN,ex,yk,vm,Ak,yl,uL,uM⟩:=fJ.eA (P:=P);obtain⟨Ed,vF,news,ey,ra,rb,qz,vo,sU,mI⟩:=nU.eA (P:=P);obtain⟨⟨i,z,h1,h2,h3,h4,h5,h6,h7,h8,h9⟩,_⟩:=hT e te he;have lT:jB=xs.length:=by
   rcases fJ.eT with⟨q1,q2⟩|⟨ad,cap,f,q1,_,_,_,_,_,_,_,q2⟩
   ·rw[ex]at q1;cases q2;simp at q1;simp[q1]
   rw[ex]at q1;simp only[Value.slice.injEq]at q1;rw[q1.2.2];exact q2
  subst lT;have cv:=cz (P:=P) ho a g.w;simp only[builtin,List.map_toArray,List.map_cons,List.map_nil]at cv;have bz:=eF (P:=P) g.w t o.type e i z hu h1 h4 tG xs.length xs.length ys.length (a.eval y) eN news ra (by rw[h2];exact rb g.w.drew rfl) (by rw[h2,<-ex];exact vm g.w.drew rfl) (by omega) hlen (by rw[h3];exact hb);rw[<-ex]at bz;obtain⟨cap,cQ⟩:∃cap,cap=grownCap g.w (xs.length+ys.length) xs.length e:=⟨_,rfl⟩
  obtain⟨rest,cP⟩:∃rest,rest=Builtin.zeroCells z.cells (cap-(xs.length+ys.length)):=⟨_,rfl⟩
  have lK:=grownCap_ge g.w (xs.length+ys.length) xs.length e;rw[<-cQ]at bz lK;rw[<-cP]at bz;obtain⟨arr,eY⟩:∃arr,arr=eN.toArray++news.toArray++rest:=⟨_,rfl⟩
  rw[<-eY]at bz;have j7:=hg.heap (w':=g.w.drew) rfl rfl rfl rfl;have jG:=Le.heap (g:=g) (w':=g.w.drew) rfl rfl rfl rfl;obtain⟨g1,gP⟩:∃g1:G,g1=⟨g.w.drew,g.fr,g.env,g.objs⟩:=⟨_,rfl⟩
  rw[<-gP]at j7 jG;have nT:g1.w=g.w.drew:=by rw[gP]
  have kO:g1.objs=σ.objs:=by rw[gP];exact hO
  have gO:=Ak.append qz.iF;rw[<-cI]at gO;have eJ:(ao (xs++ys.map ae.share)).length=(xs.length+ys.length)*te.size:=by
   rw[bO (sz:=te.size) (fun x hx=>by
    rcases List.mem_append.1 hx with q|q
    ·exact yl x q
    exact dM vo x q)]
   simp
  have k9:(ao (xs++ys.map ae.share)).length<=arr.size:=by
   rw[eJ,eY];simp only[Array.size_append,List.size_toArray,uM,mI,<-Nat.add_mul];omega
  have hle:=jG.trans (Le.alloc j7 (.cells arr e) 0 (.cells (ao (xs++ys.map ae.share))));have gd:Fits (g1.alloc (.cells arr e) 0 (.cells (ao (xs++ys.map ae.share)))) (.cells arr e) (.cells (ao (xs++ys.map ae.share))):=by
   refine⟨arr,e,rfl,k9,fun j c u hj hu=>?_,fun c hc=>?_⟩
   ·have aZ:=I hj;rw[eJ]at aZ;rw[eY]at hu;have oI:=cV hu (by simp only[List.size_toArray,uM,mI,<-Nat.add_mul];exact aZ);exact(gO.2 j c u hj (by simpa using oI)).mono hle
   rw[cI]at hc;rcases List.mem_append.1 hc with q|q
   ·exact uL c q
   exact dB sU c q
  have c7:=Good.alloc j7 (.cells arr e) 0 (.cells (ao (xs++ys.map ae.share))) (.inr rfl) gd;refine⟨.slice (some ⟨g.w.heap.size,0,none⟩) (xs.length+ys.length) cap,_,.inl ?_,hle,c7,?_,?_⟩
  ·rw[cv];simp[bz,G.alloc,nT]
  ·simp[G.alloc,kO,Mode.post]
  rw[<-kO];have e1:(g.w.heap.size)=g1.w.heap.size:=by rw[nT];rfl
  rw[e1];exact .ms (l:=⟨g1.w.heap.size,0,_⟩) (gJ j7) eE (by simp[ak.aF]) (Nat.le_refl _) lK hlen
theorem lC{P:Program}(w:World)(t t' ty e:TypeId)(i:TypeInfo)(z:Value)(ht:P.underlying t=some (.slice e))(GX:P.underlying t'=some (.int .i64))(hi:P.info? e=some i)(hz:i.zero=some z)(s:Option Addr)(n:Nat)
  (hs:(Builtin.firstCells i.size 0 (.slice s 0 0)).run P w.drew=.ok #[] w.drew) (hn:0<n) (Jg:n<=2 ^ 62) (bB:n*i.bytes<=2 ^ 47) (cU:0<i.size) :
  (Builtin.append_ #[t,t'] ty #[.slice s 0 0,.int .i64 n]).run P w =
   .ok (.slice (some ⟨w.heap.size,0,none⟩) n (grownCap w n 0 e)) (w.drew.alloc (.cells (Builtin.zeroCells z.cells n++Builtin.zeroCells z.cells (grownCap w n 0 e-n)) e)):=by
 have hw:IntKind.i64.wrap (n:Int)=n:=lx .i64 n (by simp[IntKind.min,IntKind.bits,IntKind.signed]<;>omega) (by simp[IntKind.max,IntKind.bits,IntKind.signed]<;>omega);have h0:¬((n:Int)<0):=by omega
 have ID:¬((2:Int) ^ 48<(n:Int)*(i.bytes:Int)):=by
  rw[<-Int.natCast_mul];omega
 have Ki:¬(n<=0):=by omega
 have cj:¬(n*i.size=0):=by
  have:=Nat.mul_pos hn cU;omega
 have h1:¬(9223372036854775807<(n:Int)):=by omega
 have cQ:Builtin.nextslicecap n 0=n:=by
  unfold Builtin.nextslicecap;rw[if_pos (by omega)]
 have ha:∀w:World,(asInt (.int .i64 (n:Int))).run P w=.ok (n:Int) w:=fun _=>rfl;have HF:¬(281474976710656<(n:Int)*(i.bytes:Int)):=by
  rw[<-Int.natCast_mul];omega
 have Gg:¬(281474976710656<n*i.bytes):=by omega
 have tJ:¬(n=0):=by omega
 simp[Builtin.append_,run_underlying ht,run_underlying GX,Go.sizeOf,typeInfo,hi,ha,hw,tJ,HF,Gg,cQ,Question.forced,hs,Go.zeroValue,hz,Go.newRow,grownCap,h1];rw[if_neg h0,if_neg cj]
theorem oy{P:Program}{aW:eo}(hT:cb P aW){o:Oper}{σ:St}{t t' e:TypeId}{x y:Operand}{ti te:cr}{sz:Nat}{n:Int}
  (ho:o.op=.call ⟨.builtin .append,#[x,y],#[t,t']⟩) (hd:∀d,o.dst=some d->d<σ.n) (ht:aW t=some ti) (aT:ti.desc=.slice e) (he:aW e=some te) (GX:P.underlying t'=some (.int .i64)) (hx:σ.ev x=some (.aE sz [] .ex)) (hy:σ.ev y=some (.v (.int .i64 n)))
  (hn:0<n) (hlen:n.toNat<=2 ^ 62) (hb:n.toNat*te.bytes<=2 ^ 47) (cU:0<te.size) :
  Cert P o σ (.ms σ.objs.length 0 n.toNat n.toNat) (.write (σ.objs++[.cells (List.replicate n.toNat te.zero).flatten])) :=
 Cert.gu hd fun base fE a g bM h ic=>by
  have hO:g.objs=σ.objs:=ic.resolve_left (by simp);have hg:=bM.good;have hu:=bI hT ht aT;have fJ:=h x (by simp[ho,Op.operands,Call.operands]) _ hx;have ey:=(h y (by simp[ho,Op.operands,Call.operands]) _ hy).cq.1;obtain⟨tG,jB,eN,ex,yk,vm,Ak,yl,uL,uM⟩:=fJ.eA (P:=P);obtain⟨⟨i,z,h1,h2,h3,h4,h5,h6,h7,h8,h9⟩,_⟩:=hT e te he;obtain⟨m,rfl⟩:=Int.eq_ofNat_of_zero_le (show 0<=n by omega);simp only[Int.toNat_natCast]at *;have lT:jB=0:=by
   rcases fJ.eT with⟨q1,q2⟩|⟨ad,cap,f,q1,_,_,_,_,_,_,_,q2⟩
   ·rw[ex]at q1;simp at q1;exact q1.2
   rw[ex]at q1;simp only[Value.slice.injEq]at q1;rw[q1.2.2];exact q2
  subst lT;simp only[List.length_nil]at ex;have cv:=cz (P:=P) ho a g.w;simp only[builtin,List.map_toArray,List.map_cons,List.map_nil]at cv;have bz:=lC (P:=P) g.w t t' o.type e i z hu GX h1 h4 tG m (by cases tG<;>simp[Builtin.firstCells,loadCells,loadCellsFrom]) (by omega) hlen (by rw[h3];exact hb) (by omega);rw[<-ex]at bz;obtain⟨cap,cQ⟩:∃cap,cap=grownCap g.w m 0 e:=⟨_,rfl⟩
  have lK:=grownCap_ge g.w m 0 e;rw[<-cQ]at bz lK;obtain⟨rest,cP⟩:∃rest,rest=Builtin.zeroCells z.cells (cap-m):=⟨_,rfl⟩
  rw[<-cP]at bz;obtain⟨arr,eY⟩:∃arr,arr=Builtin.zeroCells z.cells m++rest:=⟨_,rfl⟩
  rw[<-eY]at bz;have j7:=hg.heap (w':=g.w.drew) rfl rfl rfl rfl;have jG:=Le.heap (g:=g) (w':=g.w.drew) rfl rfl rfl rfl;obtain⟨g1,gP⟩:∃g1:G,g1=⟨g.w.drew,g.fr,g.env,g.objs⟩:=⟨_,rfl⟩
  rw[<-gP]at j7 jG;have nT:g1.w=g.w.drew:=by rw[gP]
  have kO:g1.objs=σ.objs:=by rw[gP];exact hO
  have qp:(List.replicate m te.zero).flatten.length=m*te.size:=by simp[h6]
  have fS:∀(j:Nat) (c:ae),(List.replicate m te.zero).flatten[j]?=some c->te.zero[j % te.size]?=some c:=fun j c=>h6 ▸ oc te.zero (by omega) m j c;have hle:=jG.trans (Le.alloc j7 (.cells arr e) 0 (.cells (List.replicate m te.zero).flatten));have sW:(Builtin.zeroCells z.cells m).size=m*te.size:=by rw[size_zeroCells,h5,h6]
  have gd:Fits (g1.alloc (.cells arr e) 0 (.cells (List.replicate m te.zero).flatten)) (.cells arr e) (.cells (List.replicate m te.zero).flatten):=by
   refine⟨arr,e,rfl,by rw[qp,eY,Array.size_append,sW];omega,fun j c u hj hu=>?_,fun c hc=>?_⟩
   ·have gY:=fS j c hj;have aZ:=I hj;rw[qp]at aZ;rw[eY,Array.getElem?_append,if_pos (by rw[sW];exact aZ)]at hu;have jH:j % te.size<z.cells.size:=by rw[h5];exact I gY
    refine h8 _ _ _ _ gY ?_;simp only[Builtin.zeroCells,Array.getElem?_map,h5,h6,Array.getElem?_range,if_pos aZ,Option.map_some,Option.some.injEq]at hu;subst hu;simp[jH]
   rw[List.mem_flatten]at hc;obtain⟨l,hl,hc⟩:=hc;rw[List.mem_replicate]at hl;exact h9 c (hl.2 ▸ hc)
  have c7:=Good.alloc j7 (.cells arr e) 0 (.cells (List.replicate m te.zero).flatten) (.inr rfl) gd;refine⟨.slice (some ⟨g.w.heap.size,0,none⟩) m cap,_,.inl ?_,hle,c7,?_,?_⟩
  ·rw[cv,ey];simp[bz,G.alloc,nT]
  ·simp[G.alloc,kO,Mode.post]
  rw[<-kO];have e1:(g.w.heap.size)=g1.w.heap.size:=by rw[nT];rfl
  rw[e1];exact .ms (l:=⟨g1.w.heap.size,0,_⟩) (gJ j7) eE (by simp[ak.aF]) (Nat.le_refl _) (by omega) hlen
theorem pj{P:Program}{aW:eo}(hT:cb P aW){o:Oper}{σ:St}{t t' e:TypeId}{x y:Operand}{ti te:cr}{sz:Nat}{n:Int}
  (ho:o.op=.call ⟨.builtin .append,#[x,y],#[t,t']⟩) (hd:∀d,o.dst=some d->d<σ.n) (ht:aW t=some ti) (aT:ti.desc=.slice e) (he:aW e=some te) (GX:P.underlying t'=some (.int .i64)) (hx:σ.ev x=some (.aE sz [] .ex)) (hy:σ.ev y=some (.v (.int .i64 n)))
  (hn:0<n) (hlen:n.toNat<=2 ^ 62) (hb:n.toNat*te.bytes<=2 ^ 47) (cU:0<te.size) :
  Cert P o σ (.raw te.size n.toNat σ.objs.length) (.write (σ.objs++[.spare 0])) :=
 Cert.gu hd fun base fE a g bM h ic=>by
  have hO:g.objs=σ.objs:=ic.resolve_left (by simp);have hg:=bM.good;have hu:=bI hT ht aT;have fJ:=h x (by simp[ho,Op.operands,Call.operands]) _ hx;have ey:=(h y (by simp[ho,Op.operands,Call.operands]) _ hy).cq.1;obtain⟨tG,jB,eN,ex,yk,vm,Ak,yl,uL,uM⟩:=fJ.eA (P:=P);obtain⟨⟨i,z,h1,h2,h3,h4,h5,h6,h7,h8,h9⟩,_⟩:=hT e te he;obtain⟨m,rfl⟩:=Int.eq_ofNat_of_zero_le (show 0<=n by omega);simp only[Int.toNat_natCast]at *;have lT:jB=0:=by
   rcases fJ.eT with⟨q1,q2⟩|⟨ad,cap,f,q1,_,_,_,_,_,_,_,q2⟩
   ·rw[ex]at q1;simp at q1;exact q1.2
   rw[ex]at q1;simp only[Value.slice.injEq]at q1;rw[q1.2.2];exact q2
  subst lT;simp only[List.length_nil]at ex;have cv:=cz (P:=P) ho a g.w;simp only[builtin,List.map_toArray,List.map_cons,List.map_nil]at cv;have bz:=lC (P:=P) g.w t t' o.type e i z hu GX h1 h4 tG m (by cases tG<;>simp[Builtin.firstCells,loadCells,loadCellsFrom]) (by omega) hlen (by rw[h3];exact hb) (by omega);rw[<-ex]at bz;obtain⟨cap,cQ⟩:∃cap,cap=grownCap g.w m 0 e:=⟨_,rfl⟩
  have lK:=grownCap_ge g.w m 0 e;rw[<-cQ]at bz lK;obtain⟨rest,cP⟩:∃rest,rest=Builtin.zeroCells z.cells (cap-m):=⟨_,rfl⟩
  rw[<-cP]at bz;obtain⟨arr,eY⟩:∃arr,arr=Builtin.zeroCells z.cells m++rest:=⟨_,rfl⟩
  rw[<-eY]at bz;have j7:=hg.heap (w':=g.w.drew) rfl rfl rfl rfl;have jG:=Le.heap (g:=g) (w':=g.w.drew) rfl rfl rfl rfl;obtain⟨g1,gP⟩:∃g1:G,g1=⟨g.w.drew,g.fr,g.env,g.objs⟩:=⟨_,rfl⟩
  rw[<-gP]at j7 jG;have nT:g1.w=g.w.drew:=by rw[gP]
  have kO:g1.objs=σ.objs:=by rw[gP];exact hO
  have hle:=jG.trans (Le.alloc j7 (.cells arr e) 0 (.spare 0));have sW:(Builtin.zeroCells z.cells m).size=m*te.size:=by rw[size_zeroCells,h5,h6]
  have c7:=Good.alloc j7 (.cells arr e) 0 (.spare 0) (.inr rfl) ⟨arr,e,rfl⟩;have pG:rest.size=(cap-m)*te.size:=by rw[cP,size_zeroCells,h5,h6]
  refine⟨.slice (some ⟨g.w.heap.size,0,none⟩) m cap,_,.inl ?_,hle,c7,?_,?_⟩
  ·rw[cv,ey];simp[bz,G.alloc,nT]
  ·simp[G.alloc,kO,Mode.post]
  rw[<-kO];have e1:(g.w.heap.size)=g1.w.heap.size:=by rw[nT];rfl
  rw[e1];refine .raw (by omega) ⟨by simp[G.alloc],fun m' fm=>?_⟩;have sQ:(g1.alloc (.cells arr e) 0 (.spare 0)).objs[g1.objs.length]?=some (.spare 0):=eE;rw[sQ]at fm;simp only[Option.some.injEq,ak.spare.injEq]at fm;subst fm;refine⟨Nat.le_refl _,fun _=>.inr ⟨⟨g1.w.heap.size,0,_⟩,arr,e,gJ j7,rfl,by simp,dq _ _,?_⟩⟩;rw[eY,Array.size_append,sW,pG,<-Nat.add_mul];exact Nat.mul_le_mul_right _ (by omega)
theorem pW{P:Program}{aW:eo}(hT:cb P aW){o:Oper}{σ:St}{t e:TypeId}{x y:Operand}{ti te:cr}{id off len cap sz:Nat}{cs ys:List ae}{ow:kP}
  (ho:o.op=.call ⟨.builtin .append,#[x,y],#[t,t]⟩) (hd:∀d,o.dst=some d->d<σ.n) (ht:aW t=some ti) (aT:ti.desc=.slice e) (he:aW e=some te) (cU:te.size=sz) (hx:σ.ev x=some (.ms id off len cap)) (lU:σ.objs[id]?=some (.cells cs)) (hy:σ.ev y=some (.aE sz ys ow))
  (iU:len+ys.length<=cap) (B6:len+ys.length<=2 ^ 62) (uC:off+(len+ys.length)*sz<=cs.length) :
  Cert P o σ (.ms id off (len+ys.length) cap) (.write (σ.objs.set id (.cells (aS cs (off+len*sz) (ao (ys.map ae.share)))))) :=
 Cert.gu hd fun base fE a g bM h ic=>by
  have hO:g.objs=σ.objs:=ic.resolve_left (by simp);have hg:=bM.good;have hu:=bI hT ht aT;subst cU;have fJ:=h x (by simp[ho,Op.operands,Call.operands]) _ hx;have nU:=h y (by simp[ho,Op.operands,Call.operands]) _ hy;obtain⟨l,o1,q1,q2,q3,xy,cF,ez,cQ,eu⟩:=fJ.jL;obtain⟨Ed,vF,news,ey,ra,rb,qz,vo,sU,mI⟩:=nU.eA (P:=P);obtain⟨⟨i,z,h1,h2,h3,h4,h5,h6,h7,h8,h9⟩,_⟩:=hT e te he;have gD:g.objs[id]?=some (.cells cs):=by rw[hO];exact lU
  obtain⟨arr,t',gQ,dp,hlen,eZ,jY,wq⟩:=hg.row gD q1;have cv:=cz (P:=P) ho a g.w;simp only[builtin,List.map_toArray,List.map_cons,List.map_nil]at cv;obtain⟨bZ,fb⟩:∃bZ,bZ=(arr.toList.take (off+len*te.size)++news++arr.toList.drop (off+len*te.size+news.length)).toArray:=⟨_,rfl⟩
  have hmul:off+(len+ys.length)*te.size=off+len*te.size+ys.length*te.size:=by rw[Nat.add_mul];omega
  have dD:=run_storeCells_at P l.block (off+len*te.size) t' news 0 arr g.w dp (by rw[mI];omega) (fun u hu=>by
   obtain⟨j,hj⟩:=List.getElem?_of_mem hu;have aZ:=I hj;have cU:=qz.1;simp only[List.size_toArray]at cU;rw[cU]at aZ;have hc:=List.getElem?_eq_getElem aZ;exact((qz.2 j _ u hc (by simpa using hj)).fD (sU _ (List.mem_of_getElem? hc))).1)
  simp only[Nat.add_zero]at dD;rw[<-fb]at dD;have bz:=e9 (P:=P) g.w (g.w.setRow l.block bZ) t o.type e i hu h1 ⟨l.block,off,none⟩ len ez ys.length (a.eval y) news ra (by rw[h2];exact rb g.w rfl) (by omega) (by rw[addr_add,h2];exact dD);rw[<-eu]at bz;have ec:=gV (cs':=aS cs (off+len*te.size) (ao (ys.map ae.share))) gD q1 gQ bZ;have hle:=Le.br hg ec;have iy:=qz.iF;have eJ:(ao (ys.map ae.share)).length=ys.length*te.size:=by
   rw[bO (dM vo)];simp
  have fQ:=gZ.aS ⟨hlen,eZ⟩ iy (off:=off+len*te.size) (by rw[eJ];omega);simp only at fQ;rw[<-fb]at fQ;refine⟨.slice (some ⟨l.block,off,none⟩) (len+ys.length) ez,g.br id (some l) (.cells (aS cs (off+len*te.size) (ao (ys.map ae.share)))) (g.w.setRow l.block bZ),.inl ?_,hle,Good.br hg ec ?_ ?_,?_,?_⟩
  ·rw[cv];simp[bz,G.br]
  ·refine⟨l,bZ,t',rfl,gQ,?_,fQ.1,fun j c u a b=>(fQ.2 j c u a b).mono hle,fun c hc=>?_,?_⟩
   ·exact setRow_heap g.w l.block arr bZ t' (0,0) dp
   ·simp only[aS,List.mem_append]at hc;rcases hc with hc|hc|hc
    ·exact jY c (List.mem_of_mem_take hc)
    ·exact dB sU c hc
    exact jY c (List.mem_of_mem_drop hc)
   have q:=mI;have q2:=hmul;rw[fb];simp only[List.size_toArray,List.length_append,List.length_take,List.length_drop,Array.length_toList];omega
  ·intro l1 h1 _;simp only[Option.some.injEq]at h1;subst h1;rw[setRow_size];exact a5 dp
  ·simp only[G.br,Mode.post,hO]
  have aZ:id<g.objs.length:=I gD;have Ab:=gN hg gD;refine .ms (l:=l) (o:=.cells (aS cs (off+len*te.size) (ao (ys.map ae.share)))) ?_ ?_ (by simp[ak.aF]) iU cQ B6
  ·simp only[G.br];rw[List.getElem?_set_self Ab]
  simp only[G.br];rw[List.getElem?_set_self aZ]
theorem ri{P:Program}{aW:eo}(hT:cb P aW){o:Oper}{σ:St}{t e:TypeId}{x:Operand}{ti te:cr}{id off len cap:Nat}{cs:List ae}
  (ho:o.op=.call ⟨.builtin .clear,#[x],#[t]⟩) (hd:o.dst=none) (ht:aW t=some ti) (aT:ti.desc=.slice e) (he:aW e=some te) (hx:σ.ev x=some (.ms id off len cap)) (lU:σ.objs[id]?=some (.cells cs))
  (lV:0<len) (hz:0<te.size) (uC:off+len*te.size<=cs.length) :
  Cert P o σ (.df []) (.write (σ.objs.set id (.cells (aS cs off (List.replicate len te.zero).flatten)))) :=
 Cert.gu (by simp[hd]) fun base fE a g bM h ic=>by
  have hO:g.objs=σ.objs:=ic.resolve_left (by simp);have hg:=bM.good;have hu:=bI hT ht aT;have fJ:=h x (by simp[ho,Op.operands,Call.operands]) _ hx;obtain⟨l,o1,q1,q2,q3,xy,cF,ez,cQ,eu⟩:=fJ.jL;obtain⟨⟨i,z,h1,h2,h3,h4,h5,h6,h7,h8,h9⟩,_⟩:=hT e te he;have gD:g.objs[id]?=some (.cells cs):=by rw[hO];exact lU
  obtain⟨arr,t',gQ,dp,hlen,eZ,jY,wq⟩:=hg.row gD q1;have cv:=cz (P:=P) ho a g.w;simp only[builtin,List.map_toArray,List.map_cons,List.map_nil]at cv;have sW:(Builtin.zeroCells z.cells len).size=len*te.size:=by rw[size_zeroCells,h5,h6]
  have qp:(List.replicate len te.zero).flatten.length=len*te.size:=by simp[h6]
  have fS:∀(j:Nat) (c:ae),(List.replicate len te.zero).flatten[j]?=some c->te.zero[j % te.size]?=some c:=fun j c=>h6 ▸ oc te.zero (by omega) len j c;have y1:gZ g (List.replicate len te.zero).flatten (Builtin.zeroCells z.cells len):=⟨by rw[sW,qp],fun j c u hj hu=>by
   have gY:=fS j c hj;have aZ:=I hj;rw[qp]at aZ;have jH:j % te.size<z.cells.size:=by rw[h5];exact I gY
   refine h8 _ _ _ _ gY ?_;simp only[Builtin.zeroCells,Array.getElem?_map,h5,h6,Array.getElem?_range,if_pos aZ,Option.map_some,Option.some.injEq]at hu;subst hu;simp[jH]⟩
  have Am:∀c∈(List.replicate len te.zero).flatten,c.scalar:=fun c hc=>by
   rw[List.mem_flatten]at hc;obtain⟨l,hl,hc⟩:=hc;rw[List.mem_replicate]at hl;exact h9 c (hl.2 ▸ hc)
  obtain⟨news,lB⟩:∃news,news=(Builtin.zeroCells z.cells len).toList:=⟨_,rfl⟩
  have yX:news.length=len*te.size:=by rw[lB,Array.length_toList,sW]
  obtain⟨bZ,fb⟩:∃bZ,bZ=(arr.toList.take off++news++arr.toList.drop (off+news.length)).toArray:=⟨_,rfl⟩
  have dD:=run_storeCells_at P l.block off t' news 0 arr g.w dp (by rw[yX];omega) (fun u hu=>by
   obtain⟨j,hj⟩:=List.getElem?_of_mem hu;have aZ:=I hj;rw[yX,<-qp]at aZ;have hc:=List.getElem?_eq_getElem aZ;exact((y1.2 j _ u hc (by rw[lB]at hj;simpa using hj)).fD (Am _ (List.mem_of_getElem? hc))).1)
  simp only[Nat.add_zero]at dD;rw[<-fb]at dD;have bz:(Builtin.clear_ #[t] o.type #[a.eval x]).run P g.w=.ok (.tuple #[]) (g.w.setRow l.block bZ):=by
   obtain⟨k,rfl⟩:∃k,len=k+1:=⟨len-1,by omega⟩
   rw[eu];simp[Builtin.clear_,run_underlying hu,Go.zeroValue,typeInfo,h1,h4,<-lB,dD]
  have ec:=gV (cs':=aS cs off (List.replicate len te.zero).flatten) gD q1 gQ bZ;have hle:=Le.br hg ec;have fQ:=gZ.aS ⟨hlen,eZ⟩ y1 (off:=off) (by rw[qp];omega);rw[<-lB,<-fb]at fQ;refine⟨.tuple #[],g.br id (some l) (.cells (aS cs off (List.replicate len te.zero).flatten)) (g.w.setRow l.block bZ),?_,hle,Good.br hg ec ?_ ?_,?_,.df rfl (by simp)⟩
  ·refine .inl ?_;rw[cv];simp[bz,G.br]
  ·refine⟨l,bZ,t',rfl,gQ,?_,fQ.1,fun j c u a b=>(fQ.2 j c u a b).mono hle,fun c hc=>?_,?_⟩
   ·exact setRow_heap g.w l.block arr bZ t' (0,0) dp
   ·simp only[aS,List.mem_append]at hc;rcases hc with hc|hc|hc
    ·exact jY c (List.mem_of_mem_take hc)
    ·exact Am c hc
    exact jY c (List.mem_of_mem_drop hc)
   have q:=yX;rw[fb];simp only[List.size_toArray,List.length_append,List.length_take,List.length_drop,Array.length_toList];omega
  ·intro l1 h1 _;simp only[Option.some.injEq]at h1;subst h1;rw[setRow_size];exact a5 dp
  simp only[G.br,Mode.post,hO]
def G.jQ(g:G)(id:Nat)(l:Loc)(o:ak):G:=⟨g.w,g.fr,g.env++[some l],g.objs.set id .gone++[o]⟩
theorem mB{g:G}{id:Nat}{l:Loc}{o:ak}(hg:Good g)(fA:id<g.objs.length){i:Nat}{l':Loc}{o':ak}(h1:(g.jQ id l o).env[i]?=some (some l'))(h2:(g.jQ id l o).objs[i]?=some o')(h3:o'.live) :
  (i≠id∧g.env[i]?=some (some l')∧g.objs[i]?=some o')∨(i=g.objs.length∧l'=l∧o'=o):=by
 have hlen:=hg.len;rcases aQ h1 with q1|⟨q1,D6⟩
 ·rcases aQ h2 with q2|⟨q2,_⟩
  ·by_cases e:id=i
   ·subst e;rw[List.getElem?_set_self fA]at q2;simp only[Option.some.injEq]at q2;subst q2;exact h3.elim
   rw[List.getElem?_set_ne e]at q2;exact .inl ⟨Ne.symm e,q1,q2⟩
  have:=I q1;simp only[List.length_set]at q2;omega
 rcases aQ h2 with q2|⟨q2,CB⟩
 ·have:=I q2;simp only[List.length_set]at this;omega
 simp only[Option.some.injEq]at D6;exact .inr ⟨by omega,D6,CB⟩
theorem iM.jQ{g:G}{id:Nat}{l:Loc}{o o1:ak}(hg:Good g)(he:g.env[id]?=some (some l))(ho:g.objs[id]?=some o1)(hl:o1.live){b off:Nat}(h:iM (g.jQ id l o) b off):iM g b off:=by
 obtain⟨i,l',o',h1,h2,h3,h4,h5⟩:=h;rcases mB hg (I ho) h1 h2 h3 with⟨_,q1,q2⟩|⟨_,q1,_⟩
 ·exact⟨i,l',o',q1,q2,h3,h4,h5⟩
 subst q1;exact⟨id,l',o1,he,ho,hl,h4,h5⟩
theorem fM.jQ{g:G}{id:Nat}{l:Loc}{o o1:ak}(hg:Good g)(he:g.env[id]?=some (some l))(ho:g.objs[id]?=some o1)(hl:o1.live){b:Nat}(h:fM (g.jQ id l o) b):fM g b:=by
 obtain⟨i,l',o',h1,h2,h3,h4⟩:=h;exact(iM.jQ hg he ho hl ⟨i,l',o',h1,h2,h3,h4,Nat.le_refl _⟩).block
theorem tg{g:G}{id i:Nat}{l:Loc}{o o':ak}(cj:id≠i)(h:g.objs[i]?=some o'):(g.jQ id l o).objs[i]?=some o':=by
 have:=I h;simp only[G.jQ];rw[List.getElem?_append,if_pos (by simpa using this),List.getElem?_set_ne cj];exact h
theorem uW{g:G}{id:Nat}{l:Loc}{o:ak}(h:id<g.objs.length):(g.jQ id l o).objs[id]?=some .gone:=by
 simp only[G.jQ];rw[List.getElem?_append,if_pos (by simpa using h),List.getElem?_set_self h]
theorem n7{g:G}{id i:Nat}{l:Loc}{o:ak}(h:i<g.env.length):(g.jQ id l o).env[i]?=g.env[i]?:=by
 simp only[G.jQ];rw[List.getElem?_append,if_pos h]
theorem Le.jQ{g:G}{id:Nat}{l:Loc}{o o1:ak}(hg:Good g)(he:g.env[id]?=some (some l))(ho:g.objs[id]?=some o1)(hl:o1.live)(hs:¬o1.aF):Le g (g.jQ id l o) where
 os:=rfl
 tape:=rfl
 output:=rfl
 fr:=rfl
 size:=Nat.le_refl _
 block:=fun k _ h=>⟨rfl,fun q=>h (fM.jQ hg he ho hl q)⟩
 cell:=fun b off x hx hn=>⟨hx,fun q=>hn (iM.jQ hg he ho hl q)⟩
 len:=by simp[G.jQ]
 spare:=fun i m hm=>by
  have cj:id≠i:=by
   intro e;subst e;rw[ho]at hm;simp only[Option.some.injEq]at hm;subst hm;exact hs trivial
  exact .inl ⟨m,tg cj hm,Nat.le_refl _⟩
 plain:=fun i o' ic hn=>by
  refine⟨?_,n7 (by have:=I ic;have:=hg.len;omega)⟩;by_cases e:id=i
  ·subst e;exact⟨.gone,uW (I ho),by simp[ak.aF]⟩
  exact⟨o',tg e ic,hn⟩
 gone:=fun i hi=>by
  by_cases e:id=i
  ·subst e;exact uW (I ho)
  exact tg e hi
 tok:=fun i m hm _=>⟨n7 (by have:=I hm;have:=hg.len;omega),fun _ _=>rfl⟩
theorem Good.jQ{g:G}{id:Nat}{l:Loc}{cs:List ae}(hg:Good g)(he:g.env[id]?=some (some l))(ho:g.objs[id]?=some (.cells cs)):Good (g.jQ id l (.cells cs)):=by
 have aZ:=I ho;have hle:=Le.jQ (o:=.cells cs) hg he ho trivial (by simp[ak.aF]);have sQ:(g.jQ id l (.cells cs)).env[g.objs.length]?=some (some l):=by
  simp only[G.jQ];rw[<-hg.len];simp
 refine⟨hg.frlt,?_,by simp[G.jQ,hg.len],?_,?_,?_,?_,?_⟩
 ·intro i l' o' h1 h2 h3;rcases mB hg aZ h1 h2 h3 with⟨_,q1,q2⟩|⟨_,q1,_⟩
  ·exact hg.fk i l' o' q1 q2 h3
  subst q1;exact hg.fk id l' _ he ho trivial
 ·intro i l' o' h1 h2 h3;rcases mB hg aZ h1 h2 h3 with⟨_,q1,q2⟩|⟨_,q1,_⟩
  ·exact hg.loc i l' o' q1 q2 h3
  subst q1;exact hg.loc id l' _ he ho trivial
 ·intro i j l1 l2 o1 o2 h1 h2 h3 k1 k2 k3 hb;rcases mB hg aZ h1 h2 h3 with⟨n1,q1,q2⟩|⟨n1,q1,_⟩
  ·rcases mB hg aZ k1 k2 k3 with⟨_,r1,r2⟩|⟨m1,r1,_⟩
   ·exact hg.apart i j l1 l2 o1 o2 q1 q2 h3 r1 r2 k3 hb
   subst r1;exact absurd (hg.apart i id l1 l2 o1 _ q1 q2 h3 he ho trivial hb) n1
  rcases mB hg aZ k1 k2 k3 with⟨m1,r1,r2⟩|⟨m1,r1,_⟩
  ·subst q1;exact absurd (hg.apart j id l2 l1 o2 _ r1 r2 k3 he ho trivial hb.symm) m1
  omega
 ·intro i ds h;have j8:(ak.cells ds).live:=trivial;rcases aQ h with q|⟨q,q'⟩
  ·have cj:id≠i:=by
    intro e;subst e;rw[List.getElem?_set_self aZ]at q;cases q
   rw[List.getElem?_set_ne cj]at q;obtain⟨l',arr,t,e1,e0,e2,e3,e4,e5⟩:=hg.cells i ds q;exact⟨l',arr,t,(n7 (by have:=I q;have:=hg.len;omega)).trans e1,e0,e2,e3,fun j c u a b=>(e4 j c u a b).mono hle,e5⟩
  simp only[ak.cells.injEq]at q';subst q';obtain⟨l',arr,t,e1,e0,e2,e3,e4,e5⟩:=hg.cells id _ ho;rw[he]at e1;simp only[Option.some.injEq]at e1;subst e1;refine⟨l,arr,t,?_,e0,e2,e3,fun j c u a b=>(e4 j c u a b).mono hle,e5⟩;rw[q,List.length_set];exact sQ
 ·intro i m l' h h1;rcases aQ h with q|⟨q,q'⟩
  ·have cj:id≠i:=by
    intro e;subst e;rw[List.getElem?_set_self aZ]at q;cases q
   rw[List.getElem?_set_ne cj]at q;rw[n7 (by have:=I q;have:=hg.len;omega)]at h1;exact hg.spare i m l' q h1
  cases q'
 intro i kt es h;rcases aQ h with q|⟨q,q'⟩
 ·have cj:id≠i:=by
   intro e;subst e;rw[List.getElem?_set_self aZ]at q;cases q
  rw[List.getElem?_set_ne cj]at q;obtain⟨l',arr,clk,e1,e0,e2,e3,e6,e4⟩:=hg.map i kt es q;exact⟨l',arr,clk,(n7 (by have:=I q;have:=hg.len;omega)).trans e1,e0,e2,e3,e6,fun j e kx a b=>⟨(e4 j e kx a b).1,(e4 j e kx a b).2.1,(e4 j e kx a b).2.2.mono hle⟩⟩
 cases q'
theorem nz{P:Program}{aW:eo}(hT:cb P aW){o:Oper}{σ:St}{t e:TypeId}{x i:Operand}{ti te:cr}{id len sz:Nat}{k:IntKind}{n:Int}
  (ho:o.op=.indexAddr t x i) (hd:∀d,o.dst=some d->d<σ.n) (ht:aW t=some ti) (aT:ti.desc=.slice e) (he:aW e=some te)
  (hx:σ.ev x=some (.os id len sz)) (hi:σ.ev i=some (.v (.int k n))) (h0:0<=n) (hn:n<len):Cert P o σ (.mp id (n.toNat*te.size)) .pure :=
 Cert.bQ .pure (.inl rfl) hd fun a g _ h _=>by
  have ei:=(h i (by simp[ho,Op.operands]) _ hi).cq.1;have hu:=bI hT ht aT;obtain⟨l,o1,cap,h1,h2,h3,_,_,_,eu⟩:=(h x (by simp[ho,Op.operands]) _ hx).oN;exact⟨.pointer (some ⟨l.block,n.toNat*te.size,none⟩),by simp[execOp,ho,ei,eu,Instr.indexAt,asIntOf,run_underlying hu,h0,hn,(hT e te he).sizeOf,addr_add],.mp h1 h2 h3⟩
theorem rr{P:Program}{aW:eo}(hT:cb P aW){o:Oper}{σ:St}{t e:TypeId}{x:Operand}{ti te:cr}{id len sz:Nat}{lo hi:Option Operand}{h:Nat}
  (ho:o.op=.slice t x lo hi none) (hd:∀d,o.dst=some d->d<σ.n) (ht:aW t=some ti) (aT:ti.desc=.slice e) (he:aW e=some te) (hx:σ.ev x=some (.os id len sz))
  (gQ:lN σ lo 0 0) (mH:lN σ hi len h) (h2:h<=len) (h3:0<len):Cert P o σ (.os id h sz) .pure :=
 Cert.bQ .pure (.inl rfl) hd fun a g _ hh _=>by
  have hu:=bI hT ht aT;have fJ:=hh x (by cases lo<;>cases hi<;>simp[ho,Op.operands]) _ hx;have hl:(lo=none∧(0:Nat)=0)∨∃q k,lo=some q∧a.eval q=.int k ((0:Nat):Int):=by
   rcases gQ with q|⟨q,k,e1,e2⟩
   ·exact .inl q
   exact .inr ⟨q,k,e1,(hh q (by subst e1;cases hi<;>simp[ho,Op.operands]) _ e2).cq.1⟩
  have fL:(hi=none∧h=len)∨∃q k,hi=some q∧a.eval q=.int k (h:Int):=by
   rcases mH with q|⟨q,k,e1,e2⟩
   ·exact .inl q
   exact .inr ⟨q,k,e1,(hh q (by subst e1;cases lo<;>simp[ho,Op.operands]) _ e2).cq.1⟩
  have cv:execOp a.eval o=(do pure (.value (<-Instr.sliceAt t (a.eval x) (lo.map a.eval) (hi.map a.eval) none))):=by
   simp[execOp,ho]
  clear gQ mH ho;obtain⟨lc,o1,ez,q1,q2,q3,xy,Br,cF,eu⟩:=fJ.oN;have bounds:(Instr.sliceBounds true len ez (lo.map a.eval) (hi.map a.eval) none).run P g.w=.ok (0,h,ez) g.w:=by
   rcases hl with⟨e1,e2⟩|⟨p,k,e1,hk⟩
   ·rcases fL with⟨e3,e4⟩|⟨q,k',e3,mw⟩
    ·subst e1 e3 e4;simp[Instr.sliceBounds]
    subst e1 e3;have:=bp (P:=P) k' h ez .sliceAcap g.w (by omega) (by omega);simp[Instr.sliceBounds,mw,this]
   rcases fL with⟨e3,e4⟩|⟨q,k',e3,mw⟩
   ·subst e1 e3 e4;have:=bp (P:=P) k 0 h .sliceB g.w (by omega) (by omega);simp[Instr.sliceBounds,hk,this]
   subst e1 e3;have e1:=bp (P:=P) k' h ez .sliceAcap g.w (by omega) (by omega);have e2:=bp (P:=P) k 0 h .sliceB g.w (by omega) (by omega);simp[Instr.sliceBounds,hk,mw,e1,e2]
  have il:=(hT e te he).sizeOf g.w;refine⟨.slice (some ((⟨lc.block,0,none⟩:Addr).add (0*te.size))) (h-0) (ez-0),?_,?_⟩
  ·rw[cv];simp[Instr.sliceAt,run_underlying hu,Instr.slice,eu,bounds,il,show ez≠0 by omega]
  rw[addr_add];simp only[Nat.zero_mul,Nat.add_zero,Nat.sub_zero];exact .os q1 q2 q3 (by omega) Br (by omega)
theorem nv{P:Program}{aW:eo}(hT:cb P aW){o:Oper}{σ:St}{t e:TypeId}{x y:Operand}{ti te:cr}{sz:Nat}{xs ys:List ae}{ow:kP}
  (ho:o.op=.call ⟨.builtin .append,#[x,y],#[t,t]⟩) (hd:∀d,o.dst=some d->d<σ.n) (ht:aW t=some ti) (aT:ti.desc=.slice e) (he:aW e=some te) (cU:te.size=sz) (hx:σ.ev x=some (.aE sz xs .ex)) (hy:σ.ev y=some (.aE sz ys ow))
  (hn:ys.length≠0) (hlen:xs.length+ys.length<=2 ^ 62) (hb:(xs.length+ys.length)*te.bytes<=2 ^ 47) :
  Cert P o σ (.os σ.objs.length (xs.length+ys.length) sz) (.write (σ.objs++[.cells (ao (xs++ys.map ae.share))])) :=
 Cert.gu hd fun base fE a g bM h ic=>by
  have hO:g.objs=σ.objs:=ic.resolve_left (by simp);have hg:=bM.good;have hu:=bI hT ht aT;subst cU;have fJ:=h x (by simp[ho,Op.operands,Call.operands]) _ hx;have nU:=h y (by simp[ho,Op.operands,Call.operands]) _ hy;obtain⟨tG,jB,eN,ex,yk,vm,Ak,yl,uL,uM⟩:=fJ.eA (P:=P);obtain⟨Ed,vF,news,ey,ra,rb,qz,vo,sU,mI⟩:=nU.eA (P:=P);obtain⟨⟨i,z,h1,h2,h3,h4,h5,h6,h7,h8,h9⟩,_⟩:=hT e te he;have lT:jB=xs.length:=by
   rcases fJ.eT with⟨q1,q2⟩|⟨ad,cap,f,q1,_,_,_,_,_,_,_,q2⟩
   ·rw[ex]at q1;cases q2;simp at q1;simp[q1]
   rw[ex]at q1;simp only[Value.slice.injEq]at q1;rw[q1.2.2];exact q2
  subst lT;have cv:=cz (P:=P) ho a g.w;simp only[builtin,List.map_toArray,List.map_cons,List.map_nil]at cv;have bz:=eF (P:=P) g.w t o.type e i z hu h1 h4 tG xs.length xs.length ys.length (a.eval y) eN news ra (by rw[h2];exact rb g.w.drew rfl) (by rw[h2,<-ex];exact vm g.w.drew rfl) (by omega) hlen (by rw[h3];exact hb);rw[<-ex]at bz;obtain⟨cap,cQ⟩:∃cap,cap=grownCap g.w (xs.length+ys.length) xs.length e:=⟨_,rfl⟩
  obtain⟨rest,cP⟩:∃rest,rest=Builtin.zeroCells z.cells (cap-(xs.length+ys.length)):=⟨_,rfl⟩
  have lK:=grownCap_ge g.w (xs.length+ys.length) xs.length e;rw[<-cQ]at bz lK;rw[<-cP]at bz;have pG:rest.size=(cap-(xs.length+ys.length))*te.size:=by rw[cP,size_zeroCells,h5,h6]
  obtain⟨arr,eY⟩:∃arr,arr=eN.toArray++news.toArray++rest:=⟨_,rfl⟩
  rw[<-eY]at bz;have j7:=hg.heap (w':=g.w.drew) rfl rfl rfl rfl;have jG:=Le.heap (g:=g) (w':=g.w.drew) rfl rfl rfl rfl;obtain⟨g1,gP⟩:∃g1:G,g1=⟨g.w.drew,g.fr,g.env,g.objs⟩:=⟨_,rfl⟩
  rw[<-gP]at j7 jG;have nT:g1.w=g.w.drew:=by rw[gP]
  have kO:g1.objs=σ.objs:=by rw[gP];exact hO
  have gO:=Ak.append qz.iF;rw[<-cI]at gO;have eJ:(ao (xs++ys.map ae.share)).length=(xs.length+ys.length)*te.size:=by
   rw[bO (sz:=te.size) (fun x hx=>by
    rcases List.mem_append.1 hx with q|q
    ·exact yl x q
    exact dM vo x q)]
   simp
  have k9:arr.size=cap*te.size:=by
   rw[eY];simp only[Array.size_append,List.size_toArray,uM,mI,pG,<-Nat.add_mul];rw[show xs.length+ys.length+(cap-(xs.length+ys.length))=cap by omega]
  have hle:=jG.trans (Le.alloc j7 (.cells arr e) 0 (.cells (ao (xs++ys.map ae.share))));have gd:Fits (g1.alloc (.cells arr e) 0 (.cells (ao (xs++ys.map ae.share)))) (.cells arr e) (.cells (ao (xs++ys.map ae.share))):=by
   refine⟨arr,e,rfl,by rw[eJ,k9];exact Nat.mul_le_mul_right _ lK,fun j c u hj hu=>?_,fun c hc=>?_⟩
   ·have aZ:=I hj;rw[eJ]at aZ;rw[eY]at hu;have oI:=cV hu (by simp only[List.size_toArray,uM,mI,<-Nat.add_mul];exact aZ);exact(gO.2 j c u hj (by simpa using oI)).mono hle
   rw[cI]at hc;rcases List.mem_append.1 hc with q|q
   ·exact uL c q
   exact dB sU c q
  have c7:=Good.alloc j7 (.cells arr e) 0 (.cells (ao (xs++ys.map ae.share))) (.inr rfl) gd;refine⟨.slice (some ⟨g.w.heap.size,0,none⟩) (xs.length+ys.length) cap,_,.inl ?_,hle,c7,?_,?_⟩
  ·rw[cv];simp[bz,G.alloc,nT]
  ·simp[G.alloc,kO,Mode.post]
  rw[<-kO];have e1:(g.w.heap.size)=g1.w.heap.size:=by rw[nT];rfl
  rw[e1];exact .os (l:=⟨g1.w.heap.size,0,arr.size⟩) (gJ j7) eE (by simp[ak.aF]) lK (by rw[k9];exact Nat.le_refl _) hlen
theorem pX{P:Program}{aW:eo}(hT:cb P aW){o:Oper}{σ:St}{t e:TypeId}{x y:Operand}{ti te:cr}{id len sz:Nat}{cs ys:List ae}{ow:kP}
  (ho:o.op=.call ⟨.builtin .append,#[x,y],#[t,t]⟩) (hd:∀d,o.dst=some d->d<σ.n) (ht:aW t=some ti) (aT:ti.desc=.slice e) (he:aW e=some te) (cU:te.size=sz) (hx:σ.ev x=some (.os id len sz)) (lU:σ.objs[id]?=some (.cells cs)) (hy:σ.ev y=some (.aE sz ys ow))
  (uC:len*sz<=cs.length) (hn:ys.length≠0) (hlen:len+ys.length<=2 ^ 62) (hb:(len+ys.length)*te.bytes<=2 ^ 47) :
  Cert P o σ (.os σ.objs.length (len+ys.length) sz) (.write (σ.objs.set id .gone++[.cells (cs.take (len*sz)++ao (ys.map ae.share))])) :=
 Cert.gu hd fun base fE a g bM h ic=>by
  have hO:g.objs=σ.objs:=ic.resolve_left (by simp);have hg:=bM.good;have hu:=bI hT ht aT;subst cU;have fJ:=h x (by simp[ho,Op.operands,Call.operands]) _ hx;have nU:=h y (by simp[ho,Op.operands,Call.operands]) _ hy;obtain⟨l,o1,cap,q1,q2,q3,xy,Br,cF,eu⟩:=fJ.oN;obtain⟨Ed,vF,news,ey,ra,rb,qz,vo,sU,mI⟩:=nU.eA (P:=P);obtain⟨⟨i,z,h1,h2,h3,h4,h5,h6,h7,h8,h9⟩,_⟩:=hT e te he;have gD:g.objs[id]?=some (.cells cs):=by rw[hO];exact lU
  have nO:=I gD;obtain⟨arr,t',gQ,dp,Gu,eZ,jY,wq⟩:=hg.row gD q1;have cv:=cz (P:=P) ho a g.w;simp only[builtin,List.map_toArray,List.map_cons,List.map_nil]at cv;have iy:=qz.iF;have eJ:(ao (ys.map ae.share)).length=ys.length*te.size:=by
   rw[bO (dM vo)];simp
  obtain⟨m,hm⟩:∃m,m=len*te.size:=⟨_,rfl⟩
  obtain⟨eN,yh⟩:∃eN,eN=arr.toList.take m:=⟨_,rfl⟩
  obtain⟨ds,nk⟩:∃ds,ds=cs.take (len*te.size)++ao (ys.map ae.share):=⟨_,rfl⟩
  rw[<-hm]at nk uC;have qw:eN.length=m:=by rw[yh];simp;omega
  have holds:gZ g (cs.take m) eN.toArray:=by
   refine⟨by simp[qw];omega,fun j c u hj hu=>?_⟩;have aZ:=I hj;simp only[List.length_take]at aZ;rw[List.getElem?_take,if_pos (by omega)]at hj;refine eZ j c u hj ?_;simp only[List.getElem?_toArray,yh]at hu;rw[List.getElem?_take,if_pos (by omega)]at hu;simpa using hu
  have cM:gZ g ds (eN++news).toArray:=by
   rw[nk];exact holds.append iy
  have jP:ds.length=m+ys.length*te.size:=by
   rw[nk,List.length_append,List.length_take,eJ];omega
  have zZ:∀c∈ds,c.scalar:=fun c hc=>by
   rw[nk]at hc;rcases List.mem_append.1 hc with hc|hc
   ·exact jY c (List.mem_of_mem_take hc)
   exact dB sU c hc
  have uF:(len+ys.length)*te.size=m+ys.length*te.size:=by rw[Nat.add_mul,hm]
  rw[<-hm,<-nk];by_cases iU:len+ys.length<=cap
  ·have bB:m+ys.length*te.size<=arr.size:=by
    have:=Nat.mul_le_mul_right te.size iU;omega
   obtain⟨bZ,fb⟩:∃bZ,bZ=(arr.toList.take m++news++arr.toList.drop (m+news.length)).toArray:=⟨_,rfl⟩
   have dD:=run_storeCells_at P l.block m t' news 0 arr g.w dp (by rw[mI];omega) (fun u hu=>by
    obtain⟨j,hj⟩:=List.getElem?_of_mem hu;have aZ:=I hj;have cU:=qz.1;simp only[List.size_toArray]at cU;rw[cU]at aZ;have hc:=List.getElem?_eq_getElem aZ;exact((qz.2 j _ u hc (by simpa using hj)).fD (sU _ (List.mem_of_getElem? hc))).1)
   simp only[Nat.add_zero]at dD;rw[<-fb]at dD;have bz:=e9 (P:=P) g.w (g.w.setRow l.block bZ) t o.type e i hu h1 ⟨l.block,0,none⟩ len cap ys.length (a.eval y) news ra (by rw[h2];exact rb g.w rfl) (by omega) (by rw[addr_add,h2,Nat.zero_add,<-hm];exact dD);rw[<-eu]at bz;have ec:=gV (cs':=ds) gD q1 gQ bZ;have hle:=Le.br hg ec;have k9:bZ.size=arr.size:=by
    rw[fb];simp only[List.size_toArray,List.length_append,List.length_take,List.length_drop,Array.length_toList,mI];omega
   have c7:=Good.br hg ec (by
    refine⟨l,bZ,t',rfl,gQ,setRow_heap g.w l.block arr bZ t' (0,0) dp,by rw[jP,k9];exact bB,fun j c u hj my=>?_,zZ,by rw[k9];exact wq⟩;have aZ:=I hj;rw[jP]at aZ;have e1:bZ=eN.toArray++news.toArray++(arr.toList.drop (m+news.length)).toArray:=by
     rw[fb,yh];simp
    rw[e1]at my;have oI:=cV my (by simp only[List.size_toArray,qw,mI];exact aZ);exact(cM.2 j c u hj (by simpa using oI)).mono hle) (fun l1 h1 _=>by
    simp only[Option.some.injEq]at h1;subst h1;rw[setRow_size];exact a5 dp)
   obtain⟨g1,gP⟩:∃g1:G,g1=g.br id (some l) (.cells ds) (g.w.setRow l.block bZ):=⟨_,rfl⟩
   rw[<-gP]at hle c7;have pE:g1.env[id]?=some (some l):=by
    rw[gP];simp only[G.br];rw[List.getElem?_set_self (gN hg gD)]
   have kO:g1.objs[id]?=some (.cells ds):=by
    rw[gP];simp only[G.br];rw[List.getElem?_set_self nO]
   have dL:g1.objs.length=σ.objs.length:=by
    rw[gP,<-hO];simp[G.br]
   refine⟨.slice (some ⟨l.block,0,none⟩) (len+ys.length) cap,g1.jQ id l (.cells ds),.inl ?_,hle.trans (Le.jQ c7 pE kO trivial (by simp[ak.aF])),Good.jQ c7 pE kO,?_,?_⟩
   ·rw[cv,gP];simp[bz,G.br,G.jQ]
   ·simp only[G.jQ,gP,G.br,Mode.post,List.set_set,hO]
   refine .os (l:=l) (o:=.cells ds) ?_ ?_ (by simp[ak.aF]) iU Br hlen
   ·simp only[G.jQ];rw[<-dL,<-c7.len];simp
   simp only[G.jQ];rw[<-dL];simp
  have bz:=eF (P:=P) g.w t o.type e i z hu h1 h4 (some ⟨l.block,0,none⟩) len cap ys.length (a.eval y) eN news ra (by rw[h2];exact rb g.w.drew rfl) (by
   rw[h2];simp only[Builtin.firstCells];rw[<-hm];have:=run_loadCells (P:=P) g.w.drew ⟨l.block,0,none⟩ m (fun j=>arr.getD j undef) (fun j hj=>by
    rw[addr_add,Nat.zero_add];have:g.w.drew.cell? ⟨l.block,j,none⟩=arr[j]?:=cell_of_row (w:=g.w.drew) dp j;rw[this];simp[Array.getD_eq_getD_getElem?,show j<arr.size by omega])
   rw[kn eN m _ qw (fun j hj=>by
    rw[yh,List.getElem?_take,if_pos hj];simp[Array.getD_eq_getD_getElem?,show j<arr.size by omega])]at this
   exact this) (by omega) hlen (by rw[h3];exact hb)
  rw[<-eu]at bz;obtain⟨jU,cQ⟩:∃jU,jU=grownCap g.w (len+ys.length) cap e:=⟨_,rfl⟩
  obtain⟨rest,cP⟩:∃rest,rest=Builtin.zeroCells z.cells (jU-(len+ys.length)):=⟨_,rfl⟩
  have lK:=grownCap_ge g.w (len+ys.length) cap e;rw[<-cQ]at bz lK;rw[<-cP]at bz;have pG:rest.size=(jU-(len+ys.length))*te.size:=by rw[cP,size_zeroCells,h5,h6]
  obtain⟨jx,eY⟩:∃jx,jx=eN.toArray++news.toArray++rest:=⟨_,rfl⟩
  rw[<-eY]at bz;have j7:=hg.heap (w':=g.w.drew) rfl rfl rfl rfl;have jG:=Le.heap (g:=g) (w':=g.w.drew) rfl rfl rfl rfl;obtain⟨g1,gP⟩:∃g1:G,g1=⟨g.w.drew,g.fr,g.env,g.objs⟩:=⟨_,rfl⟩
  rw[<-gP]at j7 jG;have nT:g1.w=g.w.drew:=by rw[gP]
  have kO:g1.objs=σ.objs:=by rw[gP];exact hO
  have k9:jx.size=jU*te.size:=by
   rw[eY];simp only[Array.size_append,List.size_toArray,qw,mI,pG];have:(len+ys.length)*te.size+(jU-(len+ys.length))*te.size=jU*te.size:=by
    rw[<-Nat.add_mul,show len+ys.length+(jU-(len+ys.length))=jU by omega]
   omega
  have hle:=jG.trans (Le.alloc j7 (.cells jx e) 0 (.cells ds));have gd:Fits (g1.alloc (.cells jx e) 0 (.cells ds)) (.cells jx e) (.cells ds):=by
   refine⟨jx,e,rfl,by rw[jP,k9,<-uF];exact Nat.mul_le_mul_right _ lK,fun j c u hj hu=>?_,zZ⟩;have aZ:=I hj;rw[jP]at aZ;rw[eY]at hu;have oI:=cV hu (by simp only[List.size_toArray,qw,mI];exact aZ);exact(cM.2 j c u hj (by simpa using oI)).mono hle
  have c7:=Good.alloc j7 (.cells jx e) 0 (.cells ds) (.inr rfl) gd;obtain⟨g2,wk⟩:∃g2:G,g2=g1.alloc (.cells jx e) 0 (.cells ds):=⟨_,rfl⟩
  rw[<-wk]at hle c7;have z5:g2.env[id]?=some (some l):=by
   rw[wk];simp only[G.alloc];rw[List.getElem?_append,if_pos (by rw[gP];exact gN hg gD),gP];exact q1
  have uG:g2.objs[id]?=some (.cells cs):=by
   rw[wk];simp only[G.alloc];rw[List.getElem?_append,if_pos (by rw[gP];exact nO),gP];exact gD
  have ec:=lr uG z5 (by simp[ak.aF]) trivial;have Ia:g2.w=g.w.drew.alloc (.cells jx e):=by rw[wk,<-nT];rfl
  refine⟨.slice (some ⟨g.w.heap.size,0,none⟩) (len+ys.length) jU,g2.br id (some l) .gone g2.w,.inl ?_,hle.trans (Le.br c7 ec),Good.br c7 ec trivial (fun _ _ hh=>hh.elim),?_,?_⟩
  ·rw[cv];simp[bz,G.br,Ia]
  ·simp only[G.br,wk,G.alloc,kO,Mode.post];rw[List.set_append,if_pos (by rw[<-hO];exact nO)]
  have e1:(g.w.heap.size)=g1.w.heap.size:=by rw[nT];rfl
  have EK:id<g1.objs.length:=by rw[gP];exact nO
  rw[e1,<-kO];refine .os (l:=⟨g1.w.heap.size,0,jx.size⟩) (o:=.cells ds) ?_ ?_ (by simp[ak.aF]) lK (by rw[k9];exact Nat.le_refl _) hlen
  ·simp only[G.br,wk,G.alloc];rw[List.getElem?_set_ne (by omega)];exact gJ j7
  simp only[G.br,wk,G.alloc];rw[List.getElem?_set_ne (by omega)];exact eE
end Go.Av
