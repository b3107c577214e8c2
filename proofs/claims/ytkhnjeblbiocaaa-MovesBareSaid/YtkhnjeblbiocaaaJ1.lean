/-
  Texts bound together by a program of mine: YtakdmelemfnmdaaAva, YtakdmelemfnmdaaAvb, YtakdmelemfnmdaaAvc, YtakdmelemfnmdaaAvd, YtakdmelemfnmdaaAve, YtakdmelemfnmdaaAvf, YtakdmelemfnmdaaAvg, YtakdmelemfnmdaaAvh, YtakdmelemfnmdaaAvi, YtakdmelemfnmdaaAvj, YtakdmelemfnmdaaAvk, YtakdmelemfnmdaaAvx, YtakdmelemfnmdaaAvy.
-/
import Derived.Calls
import Derived.Orders
import Derived.Laws.AppendOwn
import Derived.Laws.OwnMore
import Derived.Laws.CopyRow
import Derived.Laws.Strings
import Derived.Lib.BufferMore
set_option linter.all false

namespace Go.Av
inductive Own where
 | sh
 | ex
 | nn
 | tok (id:Nat)
 | loc (a:Addr)
inductive KT where
 | str
 | int (k:IntKind)
def KT.ok:KT→Value→Prop
 | .str,.string _=>True
 | .int k,.int k' _=>k'=k
 | _,_=>False
inductive AVal where
 | v (x:Value)
 | agg (cs:List AVal)
 | lst (sz:Nat) (xs:List AVal) (o:Own)
 | ip (oa:Option Addr) (cs:List AVal)
 | mp (id off:Nat)
 | ms (id off len cap:Nat)
 | os (id len sz:Nat)
 | raw (sz n id:Nat)
 | mm (id:Nat)
 | im (kt:KT) (es:List (Value×AVal))
 | fn (f:Fn) (first captured:List AVal)
 | tup (vs:List AVal)
instance:Inhabited AVal:=⟨.v (.bool false)⟩
def AVal.cells:AVal→List AVal
 | .agg cs=>cs
 | x=>[x]
def flatOK:Value→Prop
 | .int k n=>k.min≤n∧n≤k.max
 | .agg _=>False
 | .tuple _=>False
 | _=>True
def AVal.scalar:AVal→Prop
 | .agg _=>False
 | .tup _=>False
 | _=>True
inductive AObj where
 | cells (cs:List AVal)
 | spare (n:Nat)
 | map (kt:KT) (es:List (Value×AVal))
 | gone
def AObj.live:AObj→Prop
 | .gone=>False
 | _=>True
def AObj.isSpare:AObj→Prop
 | .spare _=>True
 | _=>False
structure Loc where
 block:Nat
 lo:Nat
 sz:Nat
structure G where
 w:World
 fr:Nat→Nat→Prop
 env:List (Option Loc)
 objs:List AObj
def G.cell(g:G)(b off:Nat):Option Value:=g.w.cell? ⟨b,off,none⟩
def OwnL(g:G)(b off:Nat):Prop :=
 ∃(id:Nat) (l:Loc) (o:AObj),g.env[id]?=some (some l)∧g.objs[id]?=some o∧o.live∧l.block=b∧l.lo≤off
def OwnLB(g:G)(b:Nat):Prop :=
 ∃(id:Nat) (l:Loc) (o:AObj),g.env[id]?=some (some l)∧g.objs[id]?=some o∧o.live∧l.block=b
def OwnC(g:G)(b off:Nat):Prop:=g.fr b off∨OwnL g b off
theorem OwnL.block{g:G}{b off:Nat}(h:OwnL g b off):OwnLB g b:=by
 obtain⟨id,l,o,h1,h2,h3,h4,_⟩:=h
 exact⟨id,l,o,h1,h2,h3,h4⟩
def cellsAll(xs:List AVal):List AVal:=xs.flatMap AVal.cells
def OwnOK(g:G)(o:Own)(a:Addr)(sz len cap:Nat):Prop :=
 match o with
 | .sh=>True
 | .nn=>True
 | .ex=>cap=len
 | .loc a'=>a=a'
 | .tok id=>id<g.objs.length∧∀m:Nat,g.objs[id]?=some (.spare m)→len≤m∧(len=m→cap=len ∨
   ∃(l:Loc) (arr:Array Value) (t:TypeId),g.env[id]?=some (some l)∧a=⟨l.block,0,none⟩∧l.lo=len * sz∧g.w.heap[l.block]?=some (.cells arr t (0,0))∧cap * sz≤arr.size)
inductive RV(g:G):AVal→Value→Prop
 | v {x:Value} (h:flatOK x):RV g (.v x) x
 | agg {cs:List AVal} {vs:Array Value} (hl:vs.size=cs.length) (hsc:∀c∈cs,c.scalar)
   (h:∀(i:Nat) c u,cs[i]?=some c→vs[i]?=some u→RV g c u):RV g (.agg cs) (.agg vs)
 | nil {sz:Nat} {o:Own} (ho:∀id,o=.tok id→id<g.objs.length) (hn:o≠.nn):RV g (.lst sz [] o) (.slice none 0 0)
 | lst {sz:Nat} {xs:List AVal} {o:Own} {a:Addr} {cap:Nat} (hsz:∀x∈xs,x.cells.length=sz) (hsc:∀x∈xs,∀c∈x.cells,c.scalar)
   (hcap:xs.length≤cap) (hmax:xs.length≤2 ^ 62) (hs:xs≠[]→a.spot=none) (f:Nat→Value)
   (hm:∀(j:Nat) (c:AVal),(cellsAll xs)[j]?=some c→g.cell a.block (a.off+j)=some (f j)∧¬OwnC g a.block (a.off+j))
   (hr:∀(j:Nat) (c:AVal),(cellsAll xs)[j]?=some c→RV g c (f j)) (ho:OwnOK g o a sz xs.length cap):RV g (.lst sz xs o) (.slice (some a) xs.length cap)
 | ip {oa:Option Addr} {cs:List AVal} {b off:Nat} (ha:oa=none∨oa=some ⟨b,off,none⟩) (hsc:∀c∈cs,c.scalar) (f:Nat→Value)
   (hm:∀(j:Nat) (c:AVal),cs[j]?=some c→g.cell b (off+j)=some (f j)∧¬OwnC g b (off+j))
   (hr:∀(j:Nat) (c:AVal),cs[j]?=some c→RV g c (f j)):RV g (.ip oa cs) (.pointer (some ⟨b,off,none⟩))
 | mp {id off:Nat} {l:Loc} {o:AObj} (he:g.env[id]?=some (some l)) (ho:g.objs[id]?=some o) (hn:¬o.isSpare) :
   RV g (.mp id off) (.pointer (some ⟨l.block,off,none⟩))
 | ms {id off len cap:Nat} {l:Loc} {o:AObj} (he:g.env[id]?=some (some l)) (ho:g.objs[id]?=some o) (hn:¬o.isSpare) {cap':Nat} (hc:len≤cap) (hc':cap≤cap') (hmax:len≤2 ^ 62) :
   RV g (.ms id off len cap) (.slice (some ⟨l.block,off,none⟩) len cap')
 | os {id len sz:Nat} {l:Loc} {o:AObj} (he:g.env[id]?=some (some l)) (ho:g.objs[id]?=some o) (hn:¬o.isSpare) {cap:Nat} (hc:len≤cap) (hb:cap * sz≤l.sz) (hmax:len≤2 ^ 62) :
   RV g (.os id len sz) (.slice (some ⟨l.block,0,none⟩) len cap)
 | raw {sz n id:Nat} {a:Addr} {cap:Nat} (hn:n≤cap) (ho:OwnOK g (.tok id) a sz 0 cap):RV g (.raw sz n id) (.slice (some a) n cap)
 | mm {id:Nat} {l:Loc} {o:AObj} (he:g.env[id]?=some (some l)) (ho:g.objs[id]?=some o) (hn:¬o.isSpare):RV g (.mm id) (.map (some l.block))
 | im {kt:KT} {es:List (Value×AVal)} {r clk:Nat} {arr:Array MapEntry} (hh:g.w.heap[r]?=some (.map arr clk)) (hn:∀off,¬OwnC g r off) (hl:arr.size=es.length)
   (hk:∀(i:Nat) e (kx:Value×AVal),arr[i]?=some e→es[i]?=some kx→e.key=kx.1) (hkt:∀p∈es,kt.ok p.1)
   (hr:∀(i:Nat) e (kx:Value×AVal),arr[i]?=some e→es[i]?=some kx→RV g kx.2 e.val):RV g (.im kt es) (.map (some r))
 | fn {f:Fn} {fs cs:List AVal} {us vs:Array Value} (hl:us.size=fs.length) (hl':vs.size=cs.length)
   (h:∀(i:Nat) c u,fs[i]?=some c→us[i]?=some u→RV g c u) (h':∀(i:Nat) c u,cs[i]?=some c→vs[i]?=some u→RV g c u):RV g (.fn f fs cs) (.func f us vs)
 | tup {cs:List AVal} {vs:Array Value} (hl:vs.size=cs.length)
   (h:∀(i:Nat) c u,cs[i]?=some c→vs[i]?=some u→RV g c u):RV g (.tup cs) (.tuple vs)
structure Le(g g':G):Prop where
 os:g'.w.os=g.w.os
 tape:g'.w.tape=g.w.tape
 output:g'.w.output=g.w.output
 fr:g'.fr=g.fr
 size:g.w.heap.size≤g'.w.heap.size
 block:∀k,k<g.w.heap.size→¬OwnLB g k→g'.w.heap[k]?=g.w.heap[k]?∧¬OwnLB g' k
 cell:∀b off x,g.cell b off=some x→¬OwnL g b off→g'.cell b off=some x∧¬OwnL g' b off
 len:g.objs.length≤g'.objs.length
 spare:∀(id:Nat) (m:Nat),g.objs[id]?=some (.spare m)→(∃m':Nat,g'.objs[id]?=some (.spare m')∧m≤m')∨∃o':AObj,g'.objs[id]?=some o'∧¬o'.isSpare
 plain:∀(id:Nat) (o:AObj),g.objs[id]?=some o→¬o.isSpare→(∃o':AObj,g'.objs[id]?=some o'∧¬o'.isSpare)∧g'.env[id]?=g.env[id]?
 gone:∀id:Nat,g.objs[id]?=some .gone→g'.objs[id]?=some .gone
 tok:∀(id m:Nat),g.objs[id]?=some (.spare m)→g'.objs[id]?=some (.spare m)→g'.env[id]?=g.env[id]?∧∀l:Loc,g.env[id]?=some (some l)→g'.w.heap[l.block]?=g.w.heap[l.block]?
theorem Le.refl(g:G):Le g g where
 os:=rfl
 tape:=rfl
 output:=rfl
 fr:=rfl
 size:=Nat.le_refl _
 block:=fun _ _ h=>⟨rfl,h⟩
 cell:=fun _ _ _ h k=>⟨h,k⟩
 len:=Nat.le_refl _
 spare:=fun _ m h=>.inl ⟨m,h,Nat.le_refl _⟩
 plain:=fun _ o h k=>⟨⟨o,h,k⟩,rfl⟩
 gone:=fun _ h=>h
 tok:=fun _ _ _ _=>⟨rfl,fun _ _=>rfl⟩
theorem Le.trans{a b c:G}(h:Le a b)(k:Le b c):Le a c where
 os:=k.os.trans h.os
 tape:=k.tape.trans h.tape
 output:=k.output.trans h.output
 fr:=k.fr.trans h.fr
 size:=Nat.le_trans h.size k.size
 block:=fun i hi hn=>by
  obtain⟨h1,h2⟩:=h.block i hi hn
  obtain⟨k1,k2⟩:=k.block i (Nat.lt_of_lt_of_le hi h.size) h2
  exact⟨k1.trans h1,k2⟩
 cell:=fun b off x hx hn=>by
  obtain⟨h1,h2⟩:=h.cell b off x hx hn
  exact k.cell b off x h1 h2
 len:=Nat.le_trans h.len k.len
 spare:=fun id m hm=>by
  rcases h.spare id m hm with⟨m',h1,h2⟩ | ⟨o',h1,h2⟩
  ·rcases k.spare id m' h1 with⟨m'',k1,k2⟩ | k1
   ·exact .inl ⟨m'',k1,Nat.le_trans h2 k2⟩
   exact .inr k1
  exact .inr (k.plain id o' h1 h2).1
 plain:=fun id o ho hn=>by
  obtain⟨⟨o',h1,h2⟩,h3⟩:=h.plain id o ho hn
  obtain⟨k1,k3⟩:=k.plain id o' h1 h2
  exact⟨k1,k3.trans h3⟩
 gone:=fun id hg=>k.gone id (h.gone id hg)
 tok:=fun id m ha hc=>by
  rcases h.spare id m ha with⟨m',h1,h2⟩ | ⟨o',h1,h2⟩
  ·rcases k.spare id m' h1 with⟨m'',k1,k2⟩ | ⟨o',k1,k2⟩
   ·rw [k1] at hc
    simp only [Option.some.injEq,AObj.spare.injEq] at hc
    have:m'=m:=by omega
    subst this
    subst hc
    obtain⟨e1,e2⟩:=h.tok id _ ha h1
    obtain⟨e3,e4⟩:=k.tok id _ h1 k1
    refine⟨e3.trans e1,fun l hl=>?_⟩
    exact(e4 l (e1.trans hl)).trans (e2 l hl)
   rw [k1] at hc
   simp only [Option.some.injEq] at hc
   exact absurd (hc ▸ trivial) k2
  obtain⟨⟨o'',k1,k2⟩,_⟩:=k.plain id o' h1 h2
  rw [k1] at hc
  simp only [Option.some.injEq] at hc
  exact absurd (hc ▸ trivial) k2
theorem Le.ownC{g g':G}(h:Le g g'){b off:Nat}{x:Value}(hx:g.cell b off=some x)(hn:¬OwnC g b off):g'.cell b off=some x∧¬OwnC g' b off:=by
 obtain⟨h1,h2⟩:=h.cell b off x hx fun hh=>hn (.inr hh)
 refine⟨h1,?_⟩
 rintro(hf | hl)
 ·exact hn (.inl (h.fr ▸ hf))
 exact h2 hl
theorem lt_of_getElem?{α:Type}{l:List α}{i:Nat}{x:α}(h:l[i]?=some x):i<l.length:=by
 rcases Nat.lt_or_ge i l.length with h1 | h1
 ·exact h1
 rw [List.getElem?_eq_none h1] at h
 cases h
theorem lt_of_getElem?'{α:Type}{l:Array α}{i:Nat}{x:α}(h:l[i]?=some x):i<l.size:=by
 rcases Nat.lt_or_ge i l.size with h1 | h1
 ·exact h1
 rw [Array.getElem?_eq_none h1] at h
 cases h
theorem OwnOK.mono{g g':G}(h:Le g g'){o:Own}{a:Addr}{sz len cap:Nat}(k:OwnOK g o a sz len cap):OwnOK g' o a sz len cap:=by
 cases o with
 | sh=>trivial
 | nn=>trivial
 | ex=>exact k
 | loc a=>exact k
 | tok id =>
  obtain⟨hlt,hk⟩:=k
  refine⟨Nat.lt_of_lt_of_le hlt h.len,fun m' hm'=>?_⟩
  have ho:g.objs[id]?=some g.objs[id]:=List.getElem?_eq_getElem hlt
  cases hobj:g.objs[id] with
  | spare m =>
   rw [hobj] at ho
   obtain⟨h1,h2⟩:=hk m ho
   rcases h.spare id m ho with⟨m'',k1,k2⟩ | ⟨o',k1,k2⟩
   ·rw [k1] at hm'
    simp only [Option.some.injEq,AObj.spare.injEq] at hm'
    subst hm'
    refine⟨Nat.le_trans h1 k2,fun e=>?_⟩
    have hmm:m=m'':=by omega
    subst hmm
    obtain⟨e1,e2⟩:=h.tok id m ho k1
    rcases h2 (by omega) with e3 | ⟨l,arr,t,q1,q2,q3,q4,q5⟩
    ·exact .inl e3
    exact .inr ⟨l,arr,t,e1.trans q1,q2,q3,(e2 l q1).trans q4,q5⟩
   rw [k1] at hm'
   simp only [Option.some.injEq] at hm'
   exact absurd (hm' ▸ trivial) k2
  | gone =>
   rw [hobj] at ho
   rw [h.gone id ho] at hm'
   simp at hm'
  | cells cs =>
   rw [hobj] at ho
   obtain⟨⟨o',q1,q2⟩,_⟩:=h.plain id _ ho (by simp [AObj.isSpare])
   rw [q1] at hm'
   simp only [Option.some.injEq] at hm'
   subst hm'
   simp [AObj.isSpare] at q2
  | map kt es =>
   rw [hobj] at ho
   obtain⟨⟨o',q1,q2⟩,_⟩:=h.plain id _ ho (by simp [AObj.isSpare])
   rw [q1] at hm'
   simp only [Option.some.injEq] at hm'
   subst hm'
   simp [AObj.isSpare] at q2
theorem RV.mono{g g':G}(h:Le g g'){x:AVal}{u:Value}(k:RV g x u):RV g' x u:=by
 induction k with
 | v hx=>exact .v hx
 | agg hl hsc _ ih=>exact .agg hl hsc ih
 | nil ho hn=>exact .nil (fun id e=>Nat.lt_of_lt_of_le (ho id e) h.len) hn
 | lst hsz hsc hcap hmax hs f hm _ ho ih=>exact .lst hsz hsc hcap hmax hs f (fun j c hj=>h.ownC (hm j c hj).1 (hm j c hj).2) ih (ho.mono h)
 | ip ha hsc f hm _ ih=>exact .ip ha hsc f (fun j c hj=>h.ownC (hm j c hj).1 (hm j c hj).2) ih
 | mp he ho hn =>
  obtain⟨⟨o',q1,q2⟩,q3⟩:=h.plain _ _ ho hn
  exact .mp (q3.trans he) q1 q2
 | ms he ho hn hc hc' hmax =>
  obtain⟨⟨o',q1,q2⟩,q3⟩:=h.plain _ _ ho hn
  exact .ms (q3.trans he) q1 q2 hc hc' hmax
 | os he ho hn hc hb hmax =>
  obtain⟨⟨o',q1,q2⟩,q3⟩:=h.plain _ _ ho hn
  exact .os (q3.trans he) q1 q2 hc hb hmax
 | raw hn ho=>exact .raw hn (ho.mono h)
 | mm he ho hn =>
  obtain⟨⟨o',q1,q2⟩,q3⟩:=h.plain _ _ ho hn
  exact .mm (q3.trans he) q1 q2
 | im hh hn hl hk hkt _ ih =>
  have hlt:=lt_of_getElem?' hh
  rename_i kt es r clk arr _
  have hb:¬OwnLB g r:=by
   rintro⟨id,l,o,h1,h2,h3,h4⟩
   exact hn l.lo (.inr ⟨id,l,o,h1,h2,h3,h4,Nat.le_refl _⟩)
  obtain⟨q1,q2⟩:=h.block _ hlt hb
  refine .im (q1.trans hh) ?_ hl hk hkt ih
  rintro off (hf | hf)
  ·exact hn off (.inl (h.fr ▸ hf))
  exact q2 hf.block
 | fn hl hl' _ _ ih ih'=>exact .fn hl hl' ih ih'
 | tup hl _ ih=>exact .tup hl ih
structure Good(g:G):Prop where
 frlt:∀b off,g.fr b off→b<g.w.heap.size
 frown:∀(id:Nat) (l:Loc) (o:AObj),g.env[id]?=some (some l)→g.objs[id]?=some o→o.live→∀off,¬g.fr l.block off
 len:g.env.length=g.objs.length
 loc:∀(id:Nat) (l:Loc) (o:AObj),g.env[id]?=some (some l)→g.objs[id]?=some o→o.live→l.block<g.w.heap.size
 apart:∀(id id':Nat) (l l':Loc) (o o':AObj),g.env[id]?=some (some l)→g.objs[id]?=some o→o.live→g.env[id']?=some (some l')→g.objs[id']?=some o'→o'.live→l.block=l'.block→id=id'
 cells:∀(id:Nat) (cs:List AVal),g.objs[id]?=some (.cells cs)→∃(l:Loc) (arr:Array Value) (t:TypeId),g.env[id]?=some (some l)∧l.lo=0∧g.w.heap[l.block]?=some (.cells arr t (0,0))∧cs.length≤arr.size ∧
  (∀(j:Nat) (c:AVal) (u:Value),cs[j]?=some c→arr[j]?=some u→RV g c u)∧(∀c∈cs,c.scalar)∧l.sz≤arr.size
 spare:∀(id m:Nat) (l:Loc),g.objs[id]?=some (.spare m)→g.env[id]?=some (some l)→∃(arr:Array Value) (t:TypeId),g.w.heap[l.block]?=some (.cells arr t (0,0))
 map:∀(id:Nat) (kt:KT) (es:List (Value×AVal)),g.objs[id]?=some (.map kt es)→∃(l:Loc) (arr:Array MapEntry) (clk:Nat),g.env[id]?=some (some l)∧l.lo=0∧g.w.heap[l.block]?=some (.map arr clk)∧arr.size=es.length∧(∀p∈es,kt.ok p.1) ∧
  ∀(i:Nat) (e:MapEntry) (kx:Value×AVal),arr[i]?=some e→es[i]?=some kx→e.key=kx.1∧flatOK kx.1∧RV g kx.2 e.val
structure St where
 n:Nat
 slots:List (Nat×AVal)
 objs:List AObj
def look:List (Nat×AVal)→Nat→Option AVal
 | [],_=>none
 | (k,x)::r,s=>if k=s then some x else look r s
def dropS(d:Nat):List (Nat×AVal)→List (Nat×AVal)
 | []=>[]
 | (k,x)::r=>if k=d then dropS d r else (k,x)::dropS d r
def putS(d:Nat)(x:AVal)(l:List (Nat×AVal)):List (Nat×AVal):=(d,x)::dropS d l
theorem look_dropS_ne{d s:Nat}(h:d≠s):∀l:List (Nat×AVal),look (dropS d l) s=look l s
 | []=>rfl
 | (k,x)::r=>by
  have ih:=look_dropS_ne h r
  unfold dropS
  split
  ·rename_i hk
   subst hk
   simp [look,h,ih]
  simp only [look,ih]
theorem look_dropS_eq{d:Nat}:∀l:List (Nat×AVal),look (dropS d l) d=none
 | []=>rfl
 | (k,x)::r=>by
  have ih:=look_dropS_eq (d:=d) r
  unfold dropS
  split
  ·exact ih
  rename_i hk
  simp [look,hk,ih]
theorem look_putS(d s:Nat)(x:AVal)(l:List (Nat×AVal)):look (putS d x l) s=if d=s then some x else look l s:=by
 unfold putS
 simp only [look]
 split
 ·rfl
 rename_i h
 exact look_dropS_ne h l
def St.get(σ:St)(s:Nat):Option AVal:=look σ.slots s
structure Rel(base:G)(σ:St)(a:Act)(g:G):Prop where
 le:Le base g
 good:Good g
 objs:g.objs=σ.objs
 size:a.tmps.size=σ.n
 defers:a.defers=[]
 slot:∀(s:Nat) (x:AVal),σ.get s=some x→∃u,a.tmps[s]?=some u∧RV g x u
theorem Rel.put{base:G}{σ:St}{a:Act}{g g':G}(h:Rel base σ a g)(hl:Le g g')(hg:Good g'){d:Nat}(hd:d<σ.n){r:AVal}{u:Value}(hr:RV g' r u) :
  Rel base ⟨σ.n,putS d r σ.slots,g'.objs⟩ (a.put (some d) u) g' where
 le:=h.le.trans hl
 good:=hg
 objs:=rfl
 size:=by simp [Act.put,h.size]
 defers:=by simp [Act.put,h.defers]
 slot:=fun s x hx=>by
  simp only [St.get,look_putS] at hx
  split at hx
  ·rename_i hds
   subst hds
   simp only [Option.some.injEq] at hx
   subst hx
   exact⟨u,by simp [Act.put,h.size,hd],hr⟩
  rename_i hds
  obtain⟨y,hy,hry⟩:=h.slot s x hx
  exact⟨y,by simp [Act.put,Array.getElem?_setIfInBounds_ne hds,hy],hry.mono hl⟩
theorem Rel.step{base:G}{σ:St}{a:Act}{g g':G}(h:Rel base σ a g)(hl:Le g g')(hg:Good g'):Rel base ⟨σ.n,σ.slots,g'.objs⟩ a g' where
 le:=h.le.trans hl
 good:=hg
 objs:=rfl
 size:=h.size
 defers:=h.defers
 slot:=fun s x hx=>by
  obtain⟨y,hy,hry⟩:=h.slot s x hx
  exact⟨y,hy,hry.mono hl⟩
theorem Rel.forget{base:G}{σ:St}{a:Act}{g:G}(h:Rel base σ a g)(d:Nat)(u:Value):Rel base ⟨σ.n,dropS d σ.slots,σ.objs⟩ (a.put (some d) u) g where
 le:=h.le
 good:=h.good
 objs:=h.objs
 size:=by simp [Act.put,h.size]
 defers:=by simp [Act.put,h.defers]
 slot:=fun s x hx=>by
  by_cases hds:d=s
  ·subst hds
   simp [St.get,look_dropS_eq] at hx
  simp only [St.get,look_dropS_ne hds] at hx
  obtain⟨y,hy,hry⟩:=h.slot s x hx
  exact⟨y,by simp [Act.put,Array.getElem?_setIfInBounds_ne hds,hy],hry⟩
theorem Le.heap{g:G}{w':World}(h1:w'.heap=g.w.heap)(h2:w'.os=g.w.os)(h3:w'.tape=g.w.tape)(h4:w'.output=g.w.output):Le g ⟨w',g.fr,g.env,g.objs⟩ where
 os:=h2
 tape:=h3
 output:=h4
 fr:=rfl
 size:=by simp [h1]
 block:=fun k _ h=>⟨by simp [h1],h⟩
 cell:=fun b off x hx hn=>⟨by simpa [G.cell,World.cell?,h1] using hx,hn⟩
 len:=Nat.le_refl _
 spare:=fun _ m h=>.inl ⟨m,h,Nat.le_refl _⟩
 plain:=fun _ o h k=>⟨⟨o,h,k⟩,rfl⟩
 gone:=fun _ h=>h
 tok:=fun _ _ _ _=>⟨rfl,fun _ _=>by simp [h1]⟩
theorem Good.heap{g:G}{w':World}(hg:Good g)(h1:w'.heap=g.w.heap)(h2:w'.os=g.w.os)(h3:w'.tape=g.w.tape)(h4:w'.output=g.w.output):Good ⟨w',g.fr,g.env,g.objs⟩ where
 frlt:=fun b off h=>by simpa [h1] using hg.frlt b off h
 frown:=hg.frown
 len:=hg.len
 loc:=fun id l o a b c=>by simpa [h1] using hg.loc id l o a b c
 apart:=hg.apart
 cells:=fun id cs h=>by
  obtain⟨l,arr,t,e1,e0,e2,e3,e4,e5⟩:=hg.cells id cs h
  exact⟨l,arr,t,e1,e0,by simpa [h1] using e2,e3,fun j c u a b=>(e4 j c u a b).mono (Le.heap h1 h2 h3 h4),e5⟩
 spare:=fun id m l a b=>by simpa [h1] using hg.spare id m l a b
 map:=fun id kt es h=>by
  obtain⟨l,arr,clk,e1,e0,e2,e3,e6,e4⟩:=hg.map id kt es h
  exact⟨l,arr,clk,e1,e0,by simpa [h1] using e2,e3,e6,fun i e kx a b=>⟨(e4 i e kx a b).1,(e4 i e kx a b).2.1,(e4 i e kx a b).2.2.mono (Le.heap h1 h2 h3 h4)⟩⟩
theorem heap_push_lt(w:World)(o:Obj){k:Nat}(h:k<w.heap.size):(w.alloc o).heap[k]?=w.heap[k]?:=by
 simp only [World.alloc]
 rw [Array.getElem?_push,if_neg (by omega)]
theorem heap_push_new(w:World)(o:Obj):(w.alloc o).heap[w.heap.size]?=some o:=by
 simp only [World.alloc]
 rw [Array.getElem?_push,if_pos rfl]
theorem cell_lt{g:G}{b off:Nat}{x:Value}(h:g.cell b off=some x):b<g.w.heap.size:=by
 simp only [G.cell,World.cell?] at h
 split at h
 ·rename_i hh
  exact lt_of_getElem?' hh
 cases h
theorem cell_congr{w w':World}{b:Nat}(h:w'.heap[b]?=w.heap[b]?)(off:Nat):w'.cell? ⟨b,off,none⟩=w.cell? ⟨b,off,none⟩:=by
 simp only [World.cell?,h]
def G.push(g:G)(o:Obj):G:=⟨g.w.alloc o,g.fr,g.env,g.objs⟩
theorem Le.push(g:G)(hg:Good g)(o:Obj):Le g (g.push o) where
 os:=rfl
 tape:=rfl
 output:=rfl
 fr:=rfl
 size:=by show g.w.heap.size≤(g.w.heap.push o).size;rw [Array.size_push];omega
 block:=fun k hk h=>⟨heap_push_lt _ _ hk,h⟩
 cell:=fun b off x hx hn=>⟨by
  have:=cell_lt hx
  simpa [G.cell,G.push,cell_congr (heap_push_lt g.w o this)] using hx,hn⟩
 len:=Nat.le_refl _
 spare:=fun _ m h=>.inl ⟨m,h,Nat.le_refl _⟩
 plain:=fun _ o h k=>⟨⟨o,h,k⟩,rfl⟩
 gone:=fun _ h=>h
 tok:=fun id m h _=>⟨rfl,fun l hl=>heap_push_lt _ _ (hg.loc id l _ hl h trivial)⟩
theorem Good.push{g:G}(hg:Good g)(o:Obj):Good (g.push o) where
 frlt:=fun b off h=>by
  have:=hg.frlt b off h
  show b<(g.w.heap.push o).size
  rw [Array.size_push]
  omega
 frown:=hg.frown
 len:=hg.len
 loc:=fun id l o' a b c=>by
  have:=hg.loc id l o' a b c
  show l.block<(g.w.heap.push o).size
  rw [Array.size_push]
  omega
 apart:=hg.apart
 cells:=fun id cs h=>by
  obtain⟨l,arr,t,e1,e0,e2,e3,e4,e5⟩:=hg.cells id cs h
  exact⟨l,arr,t,e1,e0,(heap_push_lt _ _ (lt_of_getElem?' e2)).trans e2,e3,fun j c u a b=>(e4 j c u a b).mono (Le.push g hg o),e5⟩
 spare:=fun id m l a b=>by
  obtain⟨arr,t,e⟩:=hg.spare id m l a b
  exact⟨arr,t,(heap_push_lt _ _ (lt_of_getElem?' e)).trans e⟩
 map:=fun id kt es h=>by
  obtain⟨l,arr,clk,e1,e0,e2,e3,e6,e4⟩:=hg.map id kt es h
  exact⟨l,arr,clk,e1,e0,(heap_push_lt _ _ (lt_of_getElem?' e2)).trans e2,e3,e6,fun i e kx a b=>⟨(e4 i e kx a b).1,(e4 i e kx a b).2.1,(e4 i e kx a b).2.2.mono (Le.push g hg o)⟩⟩
def G.add(g:G)(l:Option Loc)(o:AObj):G:=⟨g.w,g.fr,g.env++[l],g.objs++[o]⟩
theorem getElem?_snoc{α:Type}{l:List α}{x:α}{i:Nat}{y:α}(h:(l++[x])[i]?=some y):l[i]?=some y∨(i=l.length∧y=x):=by
 rw [List.getElem?_append] at h
 split at h
 ·exact .inl h
 rename_i hh
 have:i - l.length<1:=by
  rcases Nat.lt_or_ge (i - l.length) 1 with q | q
  ·exact q
  rw [List.getElem?_eq_none (by simpa using q)] at h
  cases h
 have e:i=l.length:=by omega
 subst e
 simp at h
 exact .inr ⟨rfl,h.symm⟩
theorem getElem?_snoc_lt{α:Type}{l:List α}{x:α}{i:Nat}{y:α}(h:l[i]?=some y):(l++[x])[i]?=some y:=by
 rw [List.getElem?_append,if_pos (lt_of_getElem? h)]
 exact h
theorem OwnL.add{g:G}(hg:Good g){l:Option Loc}{o:AObj}{b off:Nat}(h:OwnL (g.add l o) b off):OwnL g b off∨∃l',l=some l'∧o.live∧l'.block=b∧l'.lo≤off:=by
 obtain⟨id,l',o',h1,h2,h3,h4,h5⟩:=h
 rcases getElem?_snoc h1 with q1 | ⟨q1,q1'⟩
 ·rcases getElem?_snoc h2 with q2 | ⟨q2,q2'⟩
  ·exact .inl ⟨id,l',o',q1,q2,h3,h4,h5⟩
  have:=lt_of_getElem? q1
  have:=hg.len
  omega
 rcases getElem?_snoc h2 with q2 | ⟨q2,q2'⟩
 ·have:=lt_of_getElem? q2
  have:=hg.len
  omega
 subst q2'
 exact .inr ⟨l',q1'.symm,h3,h4,h5⟩
theorem OwnLB.add{g:G}(hg:Good g){l:Option Loc}{o:AObj}{b:Nat}(h:OwnLB (g.add l o) b):OwnLB g b∨∃l',l=some l'∧o.live∧l'.block=b:=by
 obtain⟨id,l',o',h1,h2,h3,h4⟩:=h
 rcases OwnL.add hg ⟨id,l',o',h1,h2,h3,h4,Nat.le_refl _⟩ with q | ⟨q,q1,q2,q3,_⟩
 ·exact .inl q.block
 exact .inr ⟨q,q1,q2,q3⟩
def blockSize:Obj→Nat
 | .cells arr _=>arr.size
 | _=>0
def G.alloc(g:G)(ob:Obj)(lo:Nat)(o:AObj):G:=⟨g.w.alloc ob,g.fr,g.env++[some ⟨g.w.heap.size,lo,blockSize ob⟩],g.objs++[o]⟩
def G.mark(g:G)(o:AObj):G:=⟨g.w,g.fr,g.env++[none],g.objs++[o]⟩
theorem Le.addAny{g g':G}(hg:Good g)(l:Option Loc)(o:AObj)(h:Le g g')(he:g'.env=g.env)(ho:g'.objs=g.objs)
  (hn:∀l',l=some l'→g.w.heap.size≤l'.block):Le g (g'.add l o) where
 os:=h.os
 tape:=h.tape
 output:=h.output
 fr:=h.fr
 size:=h.size
 block:=fun k hk hh=>⟨(h.block k hk hh).1,fun q=>by
  obtain⟨id,l',o',h1,h2,h3,h4⟩:=q
  rw [show(g'.add l o).env=g.env++[l] by simp [G.add,he]] at h1
  rw [show(g'.add l o).objs=g.objs++[o] by simp [G.add,ho]] at h2
  rcases OwnLB.add (l:=l) (o:=o) (b:=k) hg ⟨id,l',o',h1,h2,h3,h4⟩ with q | ⟨l',q1,_,q3⟩
  ·exact hh q
  have:=hn l' q1
  omega⟩
 cell:=fun b off x hx hh=>⟨(h.cell b off x hx hh).1,fun q=>by
  obtain⟨id,l',o',h1,h2,h3,h4⟩:=q
  rw [show(g'.add l o).env=g.env++[l] by simp [G.add,he]] at h1
  rw [show(g'.add l o).objs=g.objs++[o] by simp [G.add,ho]] at h2
  have hk:=cell_lt hx
  rcases OwnL.add (l:=l) (o:=o) (b:=b) (off:=off) hg ⟨id,l',o',h1,h2,h3,h4⟩ with q | ⟨l',q1,_,q3,_⟩
  ·exact hh q
  have:=hn l' q1
  omega⟩
 len:=by simp [G.add,ho]
 spare:=fun id m hm=>.inl ⟨m,by simp only [G.add,ho];exact getElem?_snoc_lt hm,Nat.le_refl _⟩
 plain:=fun id o' ho' k=>⟨⟨o',by simp only [G.add,ho];exact getElem?_snoc_lt ho',k⟩,by
  have hlt:=lt_of_getElem? ho'
  simp only [G.add,he]
  rw [List.getElem?_append,if_pos (by have:=hg.len;omega)]⟩
 gone:=fun id hm=>by simp only [G.add,ho];exact getElem?_snoc_lt hm
 tok:=fun id m hm _=>⟨by
  have hlt:=lt_of_getElem? hm
  simp only [G.add,he]
  rw [List.getElem?_append,if_pos (by have:=hg.len;omega)],fun l hl=>(h.tok id m hm (by rw [ho];exact hm)).2 l hl⟩
theorem Le.alloc{g:G}(hg:Good g)(ob:Obj)(lo:Nat)(o:AObj):Le g (g.alloc ob lo o) :=
 Le.addAny (g':=g.push ob) hg (some ⟨g.w.heap.size,lo,blockSize ob⟩) o (Le.push g hg ob) rfl rfl (fun l' h=>by simp at h;subst h;exact Nat.le_refl _)
theorem Le.mark{g:G}(hg:Good g)(o:AObj):Le g (g.mark o) :=
 Le.addAny (g':=g) hg none o (Le.refl g) rfl rfl (fun l' h=>by simp at h)
def Fits(g':G)(ob:Obj)(o:AObj):Prop :=
 match o with
 | .cells cs=>∃(arr:Array Value) (t:TypeId),ob=.cells arr t (0,0)∧cs.length≤arr.size∧(∀(j:Nat) (c:AVal) (u:Value),cs[j]?=some c→arr[j]?=some u→RV g' c u)∧∀c∈cs,c.scalar
 | .spare _=>∃(arr:Array Value) (t:TypeId),ob=.cells arr t (0,0)
 | .map kt es=>∃(arr:Array MapEntry) (clk:Nat),ob=.map arr clk∧arr.size=es.length∧(∀p∈es,kt.ok p.1) ∧
   ∀(i:Nat) (e:MapEntry) (kx:Value×AVal),arr[i]?=some e→es[i]?=some kx→e.key=kx.1∧flatOK kx.1∧RV g' kx.2 e.val
 | .gone=>True
theorem Good.alloc{g:G}(hg:Good g)(ob:Obj)(lo:Nat)(o:AObj)(hlo:o.isSpare∨lo=0)(hf:Fits (g.alloc ob lo o) ob o):Good (g.alloc ob lo o) where
 frlt:=fun b off h=>by
  have:=hg.frlt b off h
  show b<(g.w.heap.push ob).size
  rw [Array.size_push]
  omega
 frown:=fun id l o' a b c off hf=>by
  rcases getElem?_snoc a with a | ⟨a,a'⟩
  ·rcases getElem?_snoc b with b | ⟨b,b'⟩
   ·exact hg.frown id l o' a b c off hf
   have:=lt_of_getElem? a
   have:=hg.len
   omega
  simp only [Option.some.injEq] at a'
  subst a'
  have hf':g.fr g.w.heap.size off:=hf
  have:=hg.frlt _ _ hf'
  omega
 len:=by simp [G.alloc,hg.len]
 loc:=fun id l o' a b c=>by
  show l.block<(g.w.heap.push ob).size
  rw [Array.size_push]
  rcases getElem?_snoc a with a | ⟨a,a'⟩
  ·rcases getElem?_snoc b with b | ⟨b,b'⟩
   ·have:=hg.loc id l o' a b c
    omega
   have:=lt_of_getElem? a
   have:=hg.len
   omega
  simp only [Option.some.injEq] at a'
  subst a'
  show g.w.heap.size<_
  omega
 apart:=fun id id' l l' o' o'' a b c a' b' c' hb=>by
  rcases getElem?_snoc a with a | ⟨a1,a2⟩
  ·rcases getElem?_snoc a' with a' | ⟨a1',a2'⟩
   ·rcases getElem?_snoc b with b | ⟨b1,b2⟩
    ·rcases getElem?_snoc b' with b' | ⟨b1',b2'⟩
     ·exact hg.apart id id' l l' o' o'' a b c a' b' c' hb
     have:=lt_of_getElem? a'
     have:=hg.len
     omega
    have:=lt_of_getElem? a
    have:=hg.len
    omega
   simp only [Option.some.injEq] at a2'
   subst a2'
   rcases getElem?_snoc b with b | ⟨b1,b2⟩
   ·have:=hg.loc id l o' a b c
    simp at hb
    omega
   have:=lt_of_getElem? a
   have:=hg.len
   omega
  rcases getElem?_snoc a' with a' | ⟨a1',a2'⟩
  ·simp only [Option.some.injEq] at a2
   subst a2
   rcases getElem?_snoc b' with b' | ⟨b1',b2'⟩
   ·have:=hg.loc id' l' o'' a' b' c'
    simp at hb
    omega
   have:=lt_of_getElem? a'
   have:=hg.len
   omega
  omega
 cells:=fun id cs h=>by
  rcases getElem?_snoc h with h | ⟨hq,h'⟩
  ·obtain⟨l,arr,t,e1,e0,e2,e3,e4,e5⟩:=hg.cells id cs h
   exact⟨l,arr,t,getElem?_snoc_lt e1,e0,(heap_push_lt _ _ (lt_of_getElem?' e2)).trans e2,e3,fun j c u a b=>(e4 j c u a b).mono (Le.alloc hg ob lo o),e5⟩
  subst h'
  obtain⟨arr,t,e1,e2,e3,e4⟩:=hf
  refine⟨⟨g.w.heap.size,lo,blockSize ob⟩,arr,t,?_,?_,?_,e2,e3,e4,by rw [e1];exact Nat.le_refl _⟩
  ·subst hq
   simp only [G.alloc]
   rw [←hg.len]
   simp
  ·rcases hlo with q | q
   ·exact q.elim
   exact q
  rw [←e1]
  exact heap_push_new _ _
 spare:=fun id m l a b=>by
  rcases getElem?_snoc a with a | ⟨a,a'⟩
  ·rcases getElem?_snoc b with b | ⟨b1,b2⟩
   ·obtain⟨arr,t,e⟩:=hg.spare id m l a b
    exact⟨arr,t,(heap_push_lt _ _ (lt_of_getElem?' e)).trans e⟩
   have:=lt_of_getElem? a
   have:=hg.len
   omega
  rcases getElem?_snoc b with b | ⟨b1,b2⟩
  ·have:=lt_of_getElem? b
   have:=hg.len
   omega
  subst a'
  simp only [Option.some.injEq] at b2
  subst b2
  obtain⟨arr,t,e⟩:=hf
  exact⟨arr,t,by rw [←e];exact heap_push_new _ _⟩
 map:=fun id kt es h=>by
  rcases getElem?_snoc h with h | ⟨hq,h'⟩
  ·obtain⟨l,arr,clk,e1,e0,e2,e3,e6,e4⟩:=hg.map id kt es h
   exact⟨l,arr,clk,getElem?_snoc_lt e1,e0,(heap_push_lt _ _ (lt_of_getElem?' e2)).trans e2,e3,e6,fun i e kx a b=>⟨(e4 i e kx a b).1,(e4 i e kx a b).2.1,(e4 i e kx a b).2.2.mono (Le.alloc hg ob lo o)⟩⟩
  subst h'
  obtain⟨arr,clk,e1,e2,e3⟩:=hf
  refine⟨⟨g.w.heap.size,lo,blockSize ob⟩,arr,clk,?_,?_,?_,e2,e3⟩
  ·subst hq
   simp only [G.alloc]
   rw [←hg.len]
   simp
  ·rcases hlo with q | q
   ·exact q.elim
   exact q
  rw [←e1]
  exact heap_push_new _ _
theorem Good.mark{g:G}(hg:Good g)(m:Nat):Good (g.mark (.spare m)) where
 frlt:=hg.frlt
 frown:=fun id l o' a b c off hf=>by
  rcases getElem?_snoc a with a | ⟨a,a'⟩
  ·rcases getElem?_snoc b with b | ⟨b,b'⟩
   ·exact hg.frown id l o' a b c off hf
   have:=lt_of_getElem? a
   have:=hg.len
   omega
  cases a'
 len:=by simp [G.mark,hg.len]
 loc:=fun id l o' a b c=>by
  rcases getElem?_snoc a with a | ⟨a,a'⟩
  ·rcases getElem?_snoc b with b | ⟨b,b'⟩
   ·exact hg.loc id l o' a b c
   have:=lt_of_getElem? a
   have:=hg.len
   omega
  cases a'
 apart:=fun id id' l l' o' o'' a b c a' b' c' hb=>by
  rcases getElem?_snoc a with a | ⟨a1,a2⟩
  ·rcases getElem?_snoc a' with a' | ⟨a1',a2'⟩
   ·rcases getElem?_snoc b with b | ⟨b1,b2⟩
    ·rcases getElem?_snoc b' with b' | ⟨b1',b2'⟩
     ·exact hg.apart id id' l l' o' o'' a b c a' b' c' hb
     have:=lt_of_getElem? a'
     have:=hg.len
     omega
    have:=lt_of_getElem? a
    have:=hg.len
    omega
   cases a2'
  cases a2
 cells:=fun id cs h=>by
  rcases getElem?_snoc h with h | ⟨h,h'⟩
  ·obtain⟨l,arr,t,e1,e0,e2,e3,e4,e5⟩:=hg.cells id cs h
   exact⟨l,arr,t,getElem?_snoc_lt e1,e0,e2,e3,fun j c u a b=>(e4 j c u a b).mono (Le.mark hg _),e5⟩
  cases h'
 spare:=fun id m' l a b=>by
  rcases getElem?_snoc b with b | ⟨b1,b2⟩
  ·rcases getElem?_snoc a with a | ⟨a,a'⟩
   ·exact hg.spare id m' l a b
   have:=lt_of_getElem? b
   have:=hg.len
   omega
  cases b2
 map:=fun id kt es h=>by
  rcases getElem?_snoc h with h | ⟨h,h'⟩
  ·obtain⟨l,arr,clk,e1,e0,e2,e3,e6,e4⟩:=hg.map id kt es h
   exact⟨l,arr,clk,getElem?_snoc_lt e1,e0,e2,e3,e6,fun i e kx a b=>⟨(e4 i e kx a b).1,(e4 i e kx a b).2.1,(e4 i e kx a b).2.2.mono (Le.mark hg _)⟩⟩
  cases h'
def G.turn(g:G)(id:Nat)(l':Option Loc)(o':AObj)(w':World):G:=⟨w',g.fr,g.env.set id l',g.objs.set id o'⟩
structure Turns(g:G)(id:Nat)(o:AObj)(l':Option Loc)(o':AObj)(w':World):Prop where
 obj:g.objs[id]?=some o
 os:w'.os=g.w.os
 tape:w'.tape=g.w.tape
 output:w'.output=g.w.output
 size:g.w.heap.size≤w'.heap.size
 block:∀k,k<g.w.heap.size→(∀l:Loc,g.env[id]?=some (some l)→o.live→l.block≠k)→w'.heap[k]?=g.w.heap[k]?
 cell:∀b off x,g.cell b off=some x→(∀l:Loc,g.env[id]?=some (some l)→o.live→l.block=b→off<l.lo)→w'.cell? ⟨b,off,none⟩=some x
 place:∀l1:Loc,l'=some l1→o'.live→g.w.heap.size≤l1.block∨∃l:Loc,g.env[id]?=some (some l)∧o.live∧l.block=l1.block∧l.lo≤l1.lo
 spare:∀m,o=.spare m→(∃m',o'=.spare m'∧m<m')∨¬o'.isSpare
 plain:¬o.isSpare→¬o'.isSpare∧g.env[id]?=some l'
 gone:o≠.gone
theorem env_lt{g:G}(hg:Good g){id:Nat}{o:AObj}(h:g.objs[id]?=some o):id<g.env.length:=by
 have:=lt_of_getElem? h
 have:=hg.len
 omega
theorem OwnL.turn{g:G}{id:Nat}{o:AObj}{l':Option Loc}{o':AObj}{w':World}(hg:Good g)(ht:Turns g id o l' o' w'){b off:Nat}(h:OwnL (g.turn id l' o' w') b off) :
  OwnL g b off∨g.w.heap.size≤b:=by
 obtain⟨i,l1,o1,h1,h2,h3,h4,h5⟩:=h
 simp only [G.turn] at h1 h2
 by_cases e:id=i
 ·subst e
  rw [List.getElem?_set_self (env_lt hg ht.obj)] at h1
  rw [List.getElem?_set_self (lt_of_getElem? ht.obj)] at h2
  simp only [Option.some.injEq] at h1 h2
  subst h2
  rcases ht.place l1 h1 h3 with q | ⟨l,q1,q2,q3,q4⟩
  ·exact .inr (h4 ▸ q)
  exact .inl ⟨id,l,o,q1,ht.obj,q2,q3.trans h4,Nat.le_trans q4 h5⟩
 rw [List.getElem?_set_ne e] at h1 h2
 exact .inl ⟨i,l1,o1,h1,h2,h3,h4,h5⟩
theorem OwnLB.turn{g:G}{id:Nat}{o:AObj}{l':Option Loc}{o':AObj}{w':World}(hg:Good g)(ht:Turns g id o l' o' w'){b:Nat}(h:OwnLB (g.turn id l' o' w') b) :
  OwnLB g b∨g.w.heap.size≤b:=by
 obtain⟨i,l1,o1,h1,h2,h3,h4⟩:=h
 rcases OwnL.turn hg ht ⟨i,l1,o1,h1,h2,h3,h4,Nat.le_refl _⟩ with q | q
 ·exact .inl q.block
 exact .inr q
theorem Le.turn{g:G}{id:Nat}{o:AObj}{l':Option Loc}{o':AObj}{w':World}(hg:Good g)(ht:Turns g id o l' o' w'):Le g (g.turn id l' o' w') where
 os:=ht.os
 tape:=ht.tape
 output:=ht.output
 fr:=rfl
 size:=ht.size
 block:=fun k hk hn=>⟨ht.block k hk fun l hl hlive e=>hn ⟨id,l,o,hl,ht.obj,hlive,e⟩,fun hh=>by
  rcases OwnLB.turn hg ht hh with q | q
  ·exact hn q
  omega⟩
 cell:=fun b off x hx hn=>⟨ht.cell b off x hx fun l hl hlive e=>by
   rcases Nat.lt_or_ge off l.lo with q | q
   ·exact q
   exact absurd ⟨id,l,o,hl,ht.obj,hlive,e,q⟩ hn,fun hh=>by
  rcases OwnL.turn hg ht hh with q | q
  ·exact hn q
  have:=cell_lt hx
  omega⟩
 len:=by simp [G.turn]
 spare:=fun i m hm=>by
  by_cases e:id=i
  ·subst e
   have hm':=hm.symm.trans ht.obj
   simp only [Option.some.injEq] at hm'
   rcases ht.spare m hm'.symm with⟨m',q1,q2⟩ | q1
   ·exact .inl ⟨m',by simp only [G.turn];rw [List.getElem?_set_self (lt_of_getElem? ht.obj),q1],by omega⟩
   exact .inr ⟨o',by simp only [G.turn];rw [List.getElem?_set_self (lt_of_getElem? ht.obj)],q1⟩
  exact .inl ⟨m,by simp only [G.turn];rw [List.getElem?_set_ne e];exact hm,Nat.le_refl _⟩
 plain:=fun i o1 ho hn=>by
  by_cases e:id=i
  ·subst e
   have ho':=ho.symm.trans ht.obj
   simp only [Option.some.injEq] at ho'
   subst ho'
   obtain⟨q1,q2⟩:=ht.plain hn
   exact⟨⟨o',by simp only [G.turn];rw [List.getElem?_set_self (lt_of_getElem? ht.obj)],q1⟩,by simp only [G.turn];rw [List.getElem?_set_self (env_lt hg ht.obj),q2]⟩
  exact⟨⟨o1,by simp only [G.turn];rw [List.getElem?_set_ne e];exact ho,hn⟩,by simp only [G.turn];rw [List.getElem?_set_ne e]⟩
 gone:=fun i hi=>by
  by_cases e:id=i
  ·subst e
   have:=hi.symm.trans ht.obj
   simp only [Option.some.injEq] at this
   exact absurd this.symm ht.gone
  simp only [G.turn]
  rw [List.getElem?_set_ne e]
  exact hi
 tok:=fun i m hm hm'=>by
  by_cases e:id=i
  ·subst e
   have h1:=hm.symm.trans ht.obj
   simp only [Option.some.injEq] at h1
   simp only [G.turn] at hm'
   rw [List.getElem?_set_self (lt_of_getElem? ht.obj)] at hm'
   simp only [Option.some.injEq] at hm'
   rcases ht.spare m h1.symm with⟨m',q1,q2⟩ | q1
   ·rw [q1] at hm'
    simp only [AObj.spare.injEq] at hm'
    omega
   exact absurd (hm' ▸ trivial) q1
  refine⟨by simp only [G.turn];rw [List.getElem?_set_ne e],fun l hl=>ht.block _ (hg.loc i l _ hl hm trivial) fun l1 hl1 hlive eb=>?_⟩
  exact e (hg.apart id i l1 l o _ hl1 ht.obj hlive hl hm trivial eb)
def FitsAt(g':G)(l':Option Loc)(o:AObj):Prop :=
 match o with
 | .cells cs=>∃(l:Loc) (arr:Array Value) (t:TypeId),l'=some l∧l.lo=0∧g'.w.heap[l.block]?=some (.cells arr t (0,0))∧cs.length≤arr.size ∧
   (∀(j:Nat) (c:AVal) (u:Value),cs[j]?=some c→arr[j]?=some u→RV g' c u)∧(∀c∈cs,c.scalar)∧l.sz≤arr.size
 | .spare _=>∀l,l'=some l→∃(arr:Array Value) (t:TypeId),g'.w.heap[l.block]?=some (.cells arr t (0,0))
 | .map kt es=>∃(l:Loc) (arr:Array MapEntry) (clk:Nat),l'=some l∧l.lo=0∧g'.w.heap[l.block]?=some (.map arr clk)∧arr.size=es.length∧(∀p∈es,kt.ok p.1) ∧
   ∀(i:Nat) (e:MapEntry) (kx:Value×AVal),arr[i]?=some e→es[i]?=some kx→e.key=kx.1∧flatOK kx.1∧RV g' kx.2 e.val
 | .gone=>True
theorem Good.turn{g:G}{id:Nat}{o:AObj}{l':Option Loc}{o':AObj}{w':World}(hg:Good g)(ht:Turns g id o l' o' w')(hf:FitsAt (g.turn id l' o' w') l' o')
  (hsz:∀l1,l'=some l1→o'.live→l1.block<w'.heap.size):Good (g.turn id l' o' w'):=by
 have hle:=Le.turn hg ht
 have henv:∀i l1,i≠id→(g.turn id l' o' w').env[i]?=some (some l1)→g.env[i]?=some (some l1):=fun i l1 hne h=>by
  simp only [G.turn] at h
  rwa [List.getElem?_set_ne (Ne.symm hne)] at h
 have hobj:∀i o1,i≠id→(g.turn id l' o' w').objs[i]?=some o1→g.objs[i]?=some o1:=fun i l1 hne h=>by
  simp only [G.turn] at h
  rwa [List.getElem?_set_ne (Ne.symm hne)] at h
 have henv':∀l1,(g.turn id l' o' w').env[id]?=some l1→l'=l1:=fun l1 h=>by
  simp only [G.turn] at h
  rw [List.getElem?_set_self (env_lt hg ht.obj)] at h
  simpa using h
 have hobj':∀o1,(g.turn id l' o' w').objs[id]?=some o1→o'=o1:=fun l1 h=>by
  simp only [G.turn] at h
  rw [List.getElem?_set_self (lt_of_getElem? ht.obj)] at h
  simpa using h
 have hblk:∀i l1 o1,i≠id→g.env[i]?=some (some l1)→g.objs[i]?=some o1→o1.live→w'.heap[l1.block]?=g.w.heap[l1.block]?:=fun i l1 o1 hne h1 h2 h3 =>
  ht.block _ (hg.loc i l1 o1 h1 h2 h3) fun l2 hl2 hlive eb=>hne (hg.apart id i l2 l1 o o1 hl2 ht.obj hlive h1 h2 h3 eb).symm
 refine⟨fun b off h=>Nat.lt_of_lt_of_le (hg.frlt b off h) ht.size,?_,?_,?_,?_,?_,?_,?_⟩
 ·intro i l1 o1 h1 h2 h3 off hf0
  have hf1:g.fr l1.block off:=hf0
  by_cases e:i=id
  ·subst e
   have q1:=henv' _ h1
   have q2:=hobj' _ h2
   subst q2
   rcases ht.place l1 q1 h3 with q | ⟨l,p1,p2,p3,_⟩
   ·have:=hg.frlt _ _ hf1
    omega
   exact hg.frown i l o p1 ht.obj p2 off (p3 ▸ hf1)
  exact hg.frown i l1 o1 (henv i l1 e h1) (hobj i o1 e h2) h3 off hf1
 ·simp [G.turn,hg.len]
 ·intro i l1 o1 h1 h2 h3
  by_cases e:i=id
  ·subst e
   have:=henv' _ h1
   have:=hobj' _ h2
   subst this
   exact hsz l1 (by assumption) h3
  have:=hg.loc i l1 o1 (henv i l1 e h1) (hobj i o1 e h2) h3
  exact Nat.lt_of_lt_of_le this ht.size
 ·intro i j l1 l2 o1 o2 h1 h2 h3 k1 k2 k3 hb
  by_cases e:i=id
  ·by_cases e':j=id
   ·omega
   subst e
   have q1:=henv' _ h1
   have q2:=hobj' _ h2
   subst q2
   have r1:=henv j l2 e' k1
   have r2:=hobj j o2 e' k2
   rcases ht.place l1 q1 h3 with q | ⟨l,p1,p2,p3,_⟩
   ·have:=hg.loc j l2 o2 r1 r2 k3
    omega
   exact hg.apart i j l l2 o o2 p1 ht.obj p2 r1 r2 k3 (p3.trans hb)
  by_cases e':j=id
  ·subst e'
   have q1:=henv' _ k1
   have q2:=hobj' _ k2
   subst q2
   have r1:=henv i l1 e h1
   have r2:=hobj i o1 e h2
   rcases ht.place l2 q1 k3 with q | ⟨l,p1,p2,p3,_⟩
   ·have:=hg.loc i l1 o1 r1 r2 h3
    omega
   exact hg.apart i j l1 l o1 o r1 r2 h3 p1 ht.obj p2 (hb.trans p3.symm)
  exact hg.apart i j l1 l2 o1 o2 (henv i l1 e h1) (hobj i o1 e h2) h3 (henv j l2 e' k1) (hobj j o2 e' k2) k3 hb
 ·intro i cs h
  by_cases e:i=id
  ·subst e
   have q:=hobj' _ h
   subst q
   obtain⟨l,arr,t,p1,p2,p3,p4,p5,p6⟩:=hf
   exact⟨l,arr,t,by simp only [G.turn];rw [List.getElem?_set_self (env_lt hg ht.obj),p1],p2,p3,p4,p5,p6⟩
  obtain⟨l,arr,t,p1,p2,p3,p4,p5,p6⟩:=hg.cells i cs (hobj i _ e h)
  exact⟨l,arr,t,by simp only [G.turn];rw [List.getElem?_set_ne (Ne.symm e)];exact p1,p2,(hblk i l _ e p1 (hobj i _ e h) trivial).trans p3,p4,fun j c u a b=>(p5 j c u a b).mono hle,p6⟩
 ·intro i m l1 h h1
  by_cases e:i=id
  ·subst e
   have q:=hobj' _ h
   subst q
   exact hf l1 (henv' _ h1)
  obtain⟨arr,t,p⟩:=hg.spare i m l1 (hobj i _ e h) (henv i l1 e h1)
  exact⟨arr,t,(hblk i l1 _ e (henv i l1 e h1) (hobj i _ e h) trivial).trans p⟩
 intro i kt es h
 by_cases e:i=id
 ·subst e
  have q:=hobj' _ h
  subst q
  obtain⟨l,arr,clk,p1,p2,p3,p4,p6,p5⟩:=hf
  exact⟨l,arr,clk,by simp only [G.turn];rw [List.getElem?_set_self (env_lt hg ht.obj),p1],p2,p3,p4,p6,p5⟩
 obtain⟨l,arr,clk,p1,p2,p3,p4,p6,p5⟩:=hg.map i kt es (hobj i _ e h)
 exact⟨l,arr,clk,by simp only [G.turn];rw [List.getElem?_set_ne (Ne.symm e)];exact p1,p2,(hblk i l _ e p1 (hobj i _ e h) trivial).trans p3,p4,p6,fun j e kx a b=>⟨(p5 j e kx a b).1,(p5 j e kx a b).2.1,(p5 j e kx a b).2.2.mono hle⟩⟩
end Go.Av
namespace Go.Av
inductive TD where
 | other
 | struct (fs:List (Nat×TypeId))
 | slice (e:TypeId)
 | array (n:Nat) (e:TypeId)
 | map (k e:TypeId)
structure TInfo where
 size:Nat
 bytes:Nat
 zero:List AVal
 desc:TD
def TD.agg:TD→Bool
 | .struct _ | .array _ _=>true
 | _=>false
def descIs(d:TypeDesc):TD→Prop
 | .struct fs=>∃fields:Array Field,d=.struct fields∧fields.toList.map (fun f=>(f.offset,f.type))=fs
 | .slice e=>d=.slice e
 | .array n e=>d=.array n e
 | .map k e=>d=.map k e
 | .other=>(match d with | .struct _=>False | .array _ _=>False | _=>True)
structure TOK(P:Program)(t:TypeId)(ti:TInfo):Prop where
 info:∃(i:TypeInfo) (z:Value),P.info? t=some i∧i.size=ti.size∧i.bytes=ti.bytes∧i.zero=some z∧z.cells.size=ti.zero.length∧ti.zero.length=ti.size ∧
  ((ti.desc.agg=true→∃cs,z=.agg cs)∧(ti.desc.agg=false→z.cells = #[z]))∧(∀g:G,∀(j:Nat) (c:AVal) (u:Value),ti.zero[j]?=some c→z.cells[j]?=some u→RV g c u)∧∀c∈ti.zero,c.scalar
 desc:∃d,P.underlying t=some d∧descIs d ti.desc
abbrev Tab:=TypeId→Option TInfo
def TabOK(P:Program)(tab:Tab):Prop:=∀t ti,tab t=some ti→TOK P t ti
def loK:IntKind→Int
 | .i8=>-128
 | .i16=>-32768
 | .i32=>-2147483648
 | .i64=>-9223372036854775808
 | _=>0
def hiK:IntKind→Int
 | .i8=>127
 | .i16=>32767
 | .i32=>2147483647
 | .i64=>9223372036854775807
 | .u8=>255
 | .u16=>65535
 | .u32=>4294967295
 | .u64=>18446744073709551615
theorem loK_eq(k:IntKind):loK k=k.min:=by cases k<;>rfl
theorem hiK_eq(k:IntKind):hiK k=k.max:=by cases k<;>rfl
def aconst:Value→Option AVal
 | .int k n=>if loK k≤n∧n≤hiK k then some (.v (.int k n)) else none
 | .agg _=>none
 | .tuple _=>none
 | x=>some (.v x)
def St.ev(σ:St):Operand→Option AVal
 | .tmp t=>σ.get t
 | .const x=>aconst x
 | .func f=>some (.fn (.func f) [] [])
 | .global _=>none
theorem Rel.eval{base:G}{σ:St}{a:Act}{g:G}(h:Rel base σ a g){x:Operand}{y:AVal}(hx:σ.ev x=some y):RV g y (a.eval x):=by
 cases x with
 | tmp t =>
  obtain⟨u,h1,h2⟩:=h.slot t y hx
  have:a.eval (.tmp t)=u:=by simp [Act.eval,Array.getD_eq_getD_getElem?,h1]
  rw [this]
  exact h2
 | const v =>
  simp only [St.ev] at hx
  unfold aconst at hx
  split at hx
  ·split at hx
   ·rename_i hh
    simp only [Option.some.injEq] at hx
    subst hx
    rw [loK_eq,hiK_eq] at hh
    exact .v hh
   cases hx
  ·cases hx
  ·cases hx
  rename_i h1 h2 h3
  simp only [Option.some.injEq] at hx
  subst hx
  refine .v ?_
  unfold flatOK
  split
  ·rename_i k n
   exact absurd rfl (h1 k n)
  ·rename_i cs
   exact absurd rfl (h2 cs)
  ·rename_i vs
   exact absurd rfl (h3 vs)
  trivial
 | func f =>
  simp only [St.ev,Option.some.injEq] at hx
  subst hx
  exact .fn rfl rfl (by simp) (by simp)
 | global _=>cases hx
inductive Mode where
 | pure
 | read
 | rd (id:Nat)
 | write (O:List AObj)
 | wr (n:Nat) (l:List Nat) (O:List AObj)
 | new (id:Nat) (o:AObj)
def Mode.post(m:Mode)(O:List AObj):List AObj :=
 match m with
 | .write O'=>O'
 | .wr _ _ O'=>O'
 | .new id o=>O.set id o
 | _=>O
def Mode.agree(m:Mode)(O O0:List AObj):Prop :=
 match m with
 | .pure=>True
 | .rd id=>O[id]?=O0[id]?
 | .new id _=>O[id]?=O0[id]?
 | _=>O=O0
def Mode.ok(m:Mode)(O:List AObj):Prop :=
 match m with
 | .wr n l O'=>∀i,i<n→i ∉ l→O'[i]?=O[i]?
 | _=>True
theorem Mode.agree_of{m:Mode}{O O0:List AObj}(h:m=.pure∨O=O0):m.agree O O0:=by
 rcases h with h | h
 ·subst h
  trivial
 subst h
 cases m<;>first | trivial | rfl
def putO(d:Option Nat)(r:AVal)(l:List (Nat×AVal)):List (Nat×AVal) :=
 match d with
 | some d=>putS d r l
 | none=>l
def Cert(P:Program)(o:Oper)(σ0:St)(r:AVal)(m:Mode):Prop :=
 m.ok σ0.objs∧∀(base:G) (σ:St) (a:Act) (g:G),Rel base σ a g→σ.n=σ0.n→(∀x∈o.op.operands,∀y,σ0.ev x=some y→σ.ev x=some y)→m.agree σ.objs σ0.objs →
  ∀(K:Act→World→Prop) (Q:Exit→Act→World→Prop),(∀u g',Rel base ⟨σ.n,putO o.dst r σ.slots,m.post σ.objs⟩ (a.put o.dst u) g'→K (a.put o.dst u) g'.w)→o.wp P a g.w K Q
theorem Cert.ofAgree{P:Program}{o:Oper}{σ0:St}{r:AVal}{m:Mode}(hok:m.ok σ0.objs)(hd:∀d,o.dst=some d→d<σ0.n)
  (h:∀(base:G) (σ:St) (a:Act) (g:G),Rel base σ a g→(∀x∈o.op.operands,∀y,σ0.ev x=some y→RV g y (a.eval x))→m.agree g.objs σ0.objs →
   ∃u g',((execOp a.eval o).run P g.w=.ok (.value u) g'.w∨(o.dst=none∧(execOp a.eval o).run P g.w=.ok .skip g'.w))∧Le g g'∧Good g'∧g'.objs=m.post g.objs∧RV g' r u):Cert P o σ0 r m:=by
 refine⟨hok,?_⟩
 intro base σ a g hrel hn hag hm K Q hK
 obtain⟨u,g',hrun,hle,hgood,hobjs,hrv⟩:=h base σ a g hrel (fun x hx y hy=>hrel.eval (hag x hx y hy)) (by rw [hrel.objs];exact hm)
 have key:Rel base ⟨σ.n,putO o.dst r σ.slots,m.post σ.objs⟩ (a.put o.dst u) g':=by
  have e:g'.objs=m.post σ.objs:=by rw [hobjs,hrel.objs]
  cases hdst:o.dst with
  | none =>
   have:=hrel.step hle hgood
   rw [e] at this
   exact this
  | some d =>
   have:=hrel.put hle hgood (d:=d) (by rw [hn];exact hd d hdst) hrv
   rw [e] at this
   exact this
 unfold Oper.wp
 rcases hrun with hrun | ⟨hdn,hrun⟩
 ·rw [hrun,Oper.upon_value]
  exact hK u g' key
 rw [hrun,Oper.upon_skip]
 have:=hK u g' key
 rw [hdn] at this ⊢
 exact this
def Mode.plain:Mode→Prop
 | .rd _=>False
 | .wr _ _ _=>False
 | .new _ _=>False
 | _=>True
theorem Mode.plain_or{m:Mode}(hp:m.plain){O O0:List AObj}(h:m.agree O O0):m=.pure∨O=O0:=by
 cases m<;>first | exact .inl rfl | exact .inr h | exact hp.elim
theorem Cert.ofRun{P:Program}{o:Oper}{σ0:St}{r:AVal}{m:Mode}(hd:∀d,o.dst=some d→d<σ0.n)
  (h:∀(base:G) (σ:St) (a:Act) (g:G),Rel base σ a g→(∀x∈o.op.operands,∀y,σ0.ev x=some y→RV g y (a.eval x))→(m=.pure∨g.objs=σ0.objs) →
   ∃u g',((execOp a.eval o).run P g.w=.ok (.value u) g'.w∨(o.dst=none∧(execOp a.eval o).run P g.w=.ok .skip g'.w))∧Le g g'∧Good g'∧g'.objs=m.post g.objs∧RV g' r u) (hp:m.plain:=by trivial):Cert P o σ0 r m :=
 Cert.ofAgree (by cases m<;>first | trivial | exact hp.elim) hd fun base σ a g hrel hag hm=>h base σ a g hrel hag (m.plain_or hp hm)
theorem Cert.close{P:Program}{o:Oper}{σ0:St}{r:AVal}{O':List AObj}(h:Cert P o σ0 r (.write O')){n:Nat}{l:List Nat}(hk:∀i,i<n→i ∉ l→O'[i]?=σ0.objs[i]?):Cert P o σ0 r (.wr n l O'):=⟨hk,h.2⟩
theorem Cert.ofQuiet{P:Program}{o:Oper}{σ0:St}{r:AVal}(m:Mode)(hm:m=.pure∨m=.read)(hd:∀d,o.dst=some d→d<σ0.n)
  (h:∀(a:Act) (g:G),Good g→(∀x∈o.op.operands,∀y,σ0.ev x=some y→RV g y (a.eval x))→(m=.pure∨g.objs=σ0.objs) →
   ∃u,(execOp a.eval o).run P g.w=.ok (.value u) g.w∧RV g r u):Cert P o σ0 r m :=
 Cert.ofRun (hp:=by rcases hm with hm | hm<;>subst hm<;>trivial) hd fun base σ a g hrel hag ho=>by
  obtain⟨u,h1,h2⟩:=h a g hrel.good hag ho
  refine⟨u,g,.inl h1,Le.refl g,hrel.good,?_,h2⟩
  rcases hm with hm | hm<;>subst hm<;>rfl
theorem Cert.ofRd{P:Program}{o:Oper}{σ0:St}{r:AVal}{id:Nat}(hd:∀d,o.dst=some d→d<σ0.n)
  (h:∀(a:Act) (g:G),Good g→(∀x∈o.op.operands,∀y,σ0.ev x=some y→RV g y (a.eval x))→g.objs[id]?=σ0.objs[id]? →
   ∃u,(execOp a.eval o).run P g.w=.ok (.value u) g.w∧RV g r u):Cert P o σ0 r (.rd id) :=
 Cert.ofAgree trivial hd fun base σ a g hrel hag ho=>by
  obtain⟨u,h1,h2⟩:=h a g hrel.good hag ho
  exact⟨u,g,.inl h1,Le.refl g,hrel.good,rfl,h2⟩
theorem addr_add(b off j:Nat):(⟨b,off,none⟩:Addr).add j=⟨b,off+j,none⟩:=by
 unfold Addr.add
 split
 ·rename_i h
  subst h
  rfl
 rfl
section
variable {P:Program} {t:TypeId} {ti:TInfo}
theorem TOK.sizeOf(h:TOK P t ti)(w:World):(Go.sizeOf t).run P w=.ok ti.size w:=by
 obtain⟨⟨i,z,h1,h2,_⟩,_⟩:=h
 simp [Go.sizeOf,typeInfo,h1,h2]
theorem TOK.isAgg(h:TOK P t ti)(w:World):(Go.isAgg t).run P w=.ok ti.desc.agg w:=by
 obtain⟨_,d,h1,h2⟩:=h
 simp only [Go.isAgg,Go.underlying,Sem.run_bind,run_program,Result.andThen_ok,h1]
 cases hd:ti.desc<;>rw [hd] at h2<;>simp only [descIs] at h2
 ·cases d<;>simp_all [TD.agg]
 ·obtain⟨fs,h3,_⟩:=h2
  subst h3
  simp [TD.agg]
 ·subst h2;simp [TD.agg]
 ·subst h2;simp [TD.agg]
 subst h2;simp [TD.agg]
theorem TOK.zeroValue(h:TOK P t ti):∃z,(∀w,(Go.zeroValue t).run P w=.ok z w)∧z.cells.size=ti.zero.length∧ti.zero.length=ti.size∧(ti.desc.agg=true→∃cs,z=.agg cs) ∧
  (∀g:G,∀(j:Nat) (c:AVal) (u:Value),ti.zero[j]?=some c→z.cells[j]?=some u→RV g c u)∧∀c∈ti.zero,c.scalar:=by
 obtain⟨⟨i,z,h1,h2,h3,h4,h5,h6,h7,h8,h9⟩,_⟩:=h
 exact⟨z,fun w=>by simp [Go.zeroValue,typeInfo,h1,h4],h5,h6,h7.1,h8,h9⟩
theorem TOK.loadVar_agg(h:TOK P t ti)(hagg:ti.desc.agg=true)(w:World)(b off:Nat)(f:Nat→Value)(hc:∀j,j<ti.size→w.cell? ⟨b,off+j,none⟩=some (f j)) :
  (loadVar t ⟨b,off,none⟩).run P w=.ok (.agg ((List.range ti.size).map f).toArray) w:=by
 have hl:=run_loadCells (P:=P) w ⟨b,off,none⟩ ti.size f (fun j hj=>by rw [addr_add];exact hc j hj)
 simp [loadVar,h.isAgg,h.sizeOf,hagg,hl]
theorem TOK.loadVar_cell(h:TOK P t ti)(hagg:ti.desc.agg=false)(w:World)(a:Addr)(u:Value)(hc:w.cell? a=some u):(loadVar t a).run P w=.ok u w:=by
 simp [loadVar,h.isAgg,hagg,hc]
end
theorem wrap_in(k:IntKind)(n:Int)(h1:k.min≤n)(h2:n≤k.max):k.wrap n=n:=by
 cases k<;>simp [IntKind.min,IntKind.max,IntKind.wrap,IntKind.bits,IntKind.signed] at *<;>omega
theorem RV.scalar_cell{g:G}{x:AVal}{u:Value}(h:RV g x u)(hs:x.scalar):u.oneCell'=true∧u.cells = #[u]:=by
 cases h with
 | v hx =>
  cases u<;>simp [flatOK] at hx<;>simp [Value.oneCell',Value.cells]
 | agg=>exact hs.elim
 | tup=>exact hs.elim
 | nil=>simp [Value.oneCell',Value.cells]
 | lst=>simp [Value.oneCell',Value.cells]
 | ip=>simp [Value.oneCell',Value.cells]
 | mp=>simp [Value.oneCell',Value.cells]
 | ms=>simp [Value.oneCell',Value.cells]
 | os=>simp [Value.oneCell',Value.cells]
 | raw=>simp [Value.oneCell',Value.cells]
 | mm=>simp [Value.oneCell',Value.cells]
 | im=>simp [Value.oneCell',Value.cells]
 | fn=>simp [Value.oneCell',Value.cells]
theorem RV.cells{g:G}{x:AVal}{u:Value}(h:RV g x u)(hs:∀c∈x.cells,c.scalar):u.cells.size=x.cells.length∧∀(j:Nat) (c:AVal) (e:Value),x.cells[j]?=some c→u.cells[j]?=some e→RV g c e:=by
 by_cases hx:x.scalar
 ·have:=(h.scalar_cell hx).2
  have hc:x.cells=[x]:=by
   cases x<;>simp [AVal.scalar] at hx<;>rfl
  rw [this,hc]
  refine⟨rfl,fun j c e h1 h2=>?_⟩
  match j,h1,h2 with
  | 0,h1,h2 =>
   simp at h1 h2
   subst h1
   subst h2
   exact h
 cases h with
 | agg hl hsc hh=>exact⟨hl,hh⟩
 | tup=>exact absurd (hs _ (List.mem_singleton.2 rfl)) (by simp [AVal.scalar])
 | _=>exact absurd trivial hx
theorem list_eq_range{α:Type}(l:List α)(n:Nat)(f:Nat→α)(hn:l.length=n)(h:∀j,j<n→l[j]?=some (f j)):(List.range n).map f=l:=by
 apply List.ext_getElem?
 intro i
 rcases Nat.lt_or_ge i n with hi | hi
 ·rw [h i hi]
  simp [hi]
 rw [List.getElem?_eq_none (by simpa using hi),List.getElem?_eq_none (by omega)]
theorem RV.ofRow{g:G}(cs:List AVal)(f:Nat→Value)(hsc:∀c∈cs,c.scalar)(hr:∀(j:Nat)(c:AVal),cs[j]?=some c→RV g c (f j)):RV g (.agg cs) (.agg ((List.range cs.length).map f).toArray) :=
 .agg (by simp) hsc fun i c u h1 h2=>by
  have hi:=lt_of_getElem? h1
  simp [hi] at h2
  subst h2
  exact hr i c h1
theorem RV.v_inv{g:G}{x u:Value}(h:RV g (.v x) u):u=x∧flatOK x:=by
 cases h with
 | v h=>exact⟨rfl,h⟩
theorem RV.ip_inv{g:G}{oa:Option Addr}{cs:List AVal}{u:Value}(h:RV g (.ip oa cs) u):∃(b off:Nat) (f:Nat→Value),u=.pointer (some ⟨b,off,none⟩)∧(oa=none∨oa=some ⟨b,off,none⟩)∧(∀c∈cs,c.scalar) ∧
  (∀(j:Nat) (c:AVal),cs[j]?=some c→g.cell b (off+j)=some (f j)∧¬OwnC g b (off+j))∧∀(j:Nat) (c:AVal),cs[j]?=some c→RV g c (f j):=by
 cases h with
 | ip ha hsc f hm hr=>exact⟨_,_,f,rfl,ha,hsc,hm,hr⟩
theorem RV.mp_inv{g:G}{id off:Nat}{u:Value}(h:RV g (.mp id off) u):∃(l:Loc) (o:AObj),g.env[id]?=some (some l)∧g.objs[id]?=some o∧¬o.isSpare∧u=.pointer (some ⟨l.block,off,none⟩):=by
 cases h with
 | mp he ho hn=>exact⟨_,_,he,ho,hn,rfl⟩
theorem RV.ms_inv{g:G}{id off len cap:Nat}{u:Value}(h:RV g (.ms id off len cap) u):∃(l:Loc) (o:AObj),g.env[id]?=some (some l)∧g.objs[id]?=some o∧¬o.isSpare∧len≤cap∧len≤2 ^ 62∧∃cap',cap≤cap'∧u=.slice (some ⟨l.block,off,none⟩) len cap':=by
 cases h with
 | ms he ho hn hc hc' hmax=>exact⟨_,_,he,ho,hn,hc,hmax,_,hc',rfl⟩
theorem RV.os_inv{g:G}{id len sz:Nat}{u:Value}(h:RV g (.os id len sz) u):∃(l:Loc) (o:AObj) (cap:Nat),g.env[id]?=some (some l)∧g.objs[id]?=some o∧¬o.isSpare∧len≤cap∧cap * sz≤l.sz∧len≤2 ^ 62∧u=.slice (some ⟨l.block,0,none⟩) len cap:=by
 cases h with
 | os he ho hn hc hb hmax=>exact⟨_,_,_,he,ho,hn,hc,hb,hmax,rfl⟩
theorem RV.raw_inv{g:G}{sz n id:Nat}{u:Value}(h:RV g (.raw sz n id) u):∃(a:Addr) (cap:Nat),u=.slice (some a) n cap∧n≤cap∧OwnOK g (.tok id) a sz 0 cap:=by
 cases h with
 | raw hn ho=>exact⟨_,_,rfl,hn,ho⟩
theorem RV.mm_inv{g:G}{id:Nat}{u:Value}(h:RV g (.mm id) u):∃(l:Loc) (o:AObj),g.env[id]?=some (some l)∧g.objs[id]?=some o∧¬o.isSpare∧u=.map (some l.block):=by
 cases h with
 | mm he ho hn=>exact⟨_,_,he,ho,hn,rfl⟩
theorem RV.agg_inv{g:G}{cs:List AVal}{u:Value}(h:RV g (.agg cs) u):∃vs:Array Value,u=.agg vs∧vs.size=cs.length∧(∀c∈cs,c.scalar)∧∀(i:Nat) (c:AVal) (e:Value),cs[i]?=some c→vs[i]?=some e→RV g c e:=by
 cases h with
 | agg hl hsc h=>exact⟨_,rfl,hl,hsc,h⟩
theorem RV.tup_inv{g:G}{cs:List AVal}{u:Value}(h:RV g (.tup cs) u):∃vs:Array Value,u=.tuple vs∧vs.size=cs.length∧∀(i:Nat) (c:AVal) (e:Value),cs[i]?=some c→vs[i]?=some e→RV g c e:=by
 cases h with
 | tup hl h=>exact⟨_,rfl,hl,h⟩
theorem RV.fn_inv{g:G}{f:Fn}{fs cs:List AVal}{u:Value}(h:RV g (.fn f fs cs) u):∃us vs:Array Value,u=.func f us vs∧us.size=fs.length∧vs.size=cs.length ∧
  (∀(i:Nat) (c:AVal) (e:Value),fs[i]?=some c→us[i]?=some e→RV g c e)∧∀(i:Nat) (c:AVal) (e:Value),cs[i]?=some c→vs[i]?=some e→RV g c e:=by
 cases h with
 | fn hl hl' h h'=>exact⟨_,_,rfl,hl,hl',h,h'⟩
theorem RV.im_inv{g:G}{kt:KT}{es:List (Value×AVal)}{u:Value}(h:RV g (.im kt es) u):∃(r clk:Nat) (arr:Array MapEntry),u=.map (some r)∧g.w.heap[r]?=some (.map arr clk)∧arr.size=es.length ∧
  (∀(i:Nat) (e:MapEntry) (kx:Value×AVal),arr[i]?=some e→es[i]?=some kx→e.key=kx.1)∧(∀p∈es,kt.ok p.1)∧∀(i:Nat) (e:MapEntry) (kx:Value×AVal),arr[i]?=some e→es[i]?=some kx→RV g kx.2 e.val:=by
 cases h with
 | im hh hn hl hk hkt hr=>exact⟨_,_,_,rfl,hh,hl,hk,hkt,hr⟩
theorem RV.lst_inv{g:G}{sz:Nat}{xs:List AVal}{o:Own}{u:Value}(h:RV g (.lst sz xs o) u) :
  (u=.slice none 0 0∧xs=[])∨∃(a:Addr) (cap:Nat) (f:Nat→Value),u=.slice (some a) xs.length cap∧(∀x∈xs,x.cells.length=sz)∧(∀x∈xs,∀c∈x.cells,c.scalar)∧xs.length≤cap∧xs.length≤2 ^ 62∧(xs≠[]→a.spot=none) ∧
   (∀(j:Nat) (c:AVal),(cellsAll xs)[j]?=some c→g.cell a.block (a.off+j)=some (f j)∧¬OwnC g a.block (a.off+j))∧(∀(j:Nat) (c:AVal),(cellsAll xs)[j]?=some c→RV g c (f j))∧OwnOK g o a sz xs.length cap:=by
 cases h with
 | nil=>exact .inl ⟨rfl,rfl⟩
 | lst hsz hsc hcap hmax hs f hm hr ho=>exact .inr ⟨_,_,f,rfl,hsz,hsc,hcap,hmax,hs,hm,hr,ho⟩
theorem RV.lst_len{g:G}{sz:Nat}{xs:List AVal}{o:Own}{u:Value}(h:RV g (.lst sz xs o) u):xs.length≤2 ^ 62:=by
 rcases h.lst_inv with⟨_,h⟩ | ⟨_,_,_,_,_,_,_,h,_⟩
 ·subst h
  simp
 exact h
theorem RV.lst_share{g:G}{sz:Nat}{xs:List AVal}{o:Own}{u:Value}(h:RV g (.lst sz xs o) u):RV g (.lst sz xs .sh) u:=by
 cases h with
 | nil=>exact .nil (fun id e=>by cases e) (by simp)
 | lst hsz hsc hcap hmax hs f hm hr ho=>exact .lst hsz hsc hcap hmax hs f hm hr trivial
theorem cellsAll_getElem?{sz:Nat}{xs:List AVal}(hsz:∀x∈xs,x.cells.length=sz){i j:Nat}{x c:AVal}(hx:xs[i]?=some x)(hc:x.cells[j]?=some c):(cellsAll xs)[i * sz+j]?=some c:=by
 induction xs generalizing i with
 | nil=>simp at hx
 | cons y ys ih =>
  have hy:=hsz y (by simp)
  cases i with
  | zero =>
   simp at hx
   subst hx
   simp only [cellsAll,List.flatMap_cons,Nat.zero_mul,Nat.zero_add]
   rw [List.getElem?_append,if_pos (lt_of_getElem? hc)]
   exact hc
  | succ i =>
   simp at hx
   have:=ih (fun x hx=>hsz x (by simp [hx])) hx
   simp only [cellsAll,List.flatMap_cons] at this ⊢
   rw [List.getElem?_append,if_neg (by rw [hy,Nat.succ_mul];omega),hy]
   rw [show(i+1) * sz+j - sz=i * sz+j by rw [Nat.succ_mul];omega]
   exact this
theorem cellsAll_length{sz:Nat}{xs:List AVal}(hsz:∀x∈xs,x.cells.length=sz):(cellsAll xs).length=xs.length * sz:=by
 induction xs with
 | nil=>simp [cellsAll]
 | cons y ys ih =>
  have hy:=hsz y (by simp)
  have:=ih (fun x hx=>hsz x (by simp [hx]))
  simp only [cellsAll,List.flatMap_cons,List.length_append,List.length_cons] at this ⊢
  rw [this,hy,Nat.succ_mul]
  omega
theorem cert_move{P:Program}{o:Oper}{σ:St}{x:Operand}{y:AVal}(ho:o.op=.move x∨o.op=.assign x)(hd:∀d,o.dst=some d→d<σ.n)(hx:σ.ev x=some y):Cert P o σ y .pure :=
 Cert.ofQuiet .pure (.inl rfl) hd fun a g _ h _=>⟨a.eval x,by rcases ho with ho | ho<;>simp [execOp,ho],h x (by rcases ho with ho | ho<;>simp [ho,Op.operands]) y hx⟩
theorem cert_nil{P:Program}{o:Oper}{σ:St}(sz:Nat)(ho:o.op=.move (.const (.slice none 0 0))∨o.op=.assign (.const (.slice none 0 0)))(hd:∀d,o.dst=some d→d<σ.n):Cert P o σ (.lst sz [] .ex) .pure :=
 Cert.ofQuiet .pure (.inl rfl) hd fun a g _ _ _=>⟨.slice none 0 0,by rcases ho with ho | ho<;>simp [execOp,ho,Act.eval],.nil (fun id e=>by cases e) (by simp)⟩
theorem cert_pick{P:Program}{o:Oper}{σ:St}{c x z:Operand}{b:Bool}{y:AVal}(ho:o.op=.pick c x z)(hd:∀d,o.dst=some d→d<σ.n)(hc:σ.ev c=some (.v (.bool b)))
  (hx:b=true→σ.ev x=some y) (hz:b=false→σ.ev z=some y):Cert P o σ y .pure :=
 Cert.ofQuiet .pure (.inl rfl) hd fun a g _ h _=>by
  have e2:=(h c (by simp [ho,Op.operands]) _ hc).v_inv.1
  cases b
  ·exact⟨a.eval z,by simp [execOp,ho,e2,asBool],h z (by simp [ho,Op.operands]) y (hz rfl)⟩
  exact⟨a.eval x,by simp [execOp,ho,e2,asBool],h x (by simp [ho,Op.operands]) y (hx rfl)⟩
theorem take_get{α:Type}{l:List α}{n j:Nat}{c:α}(h:(l.take n)[j]?=some c):l[j]?=some c:=by
 rw [List.getElem?_take] at h
 split at h
 ·exact h
 cases h
theorem cert_load_ip{P:Program}{tab:Tab}(hT:TabOK P tab){o:Oper}{σ:St}{t:TypeId}{x:Operand}{ti:TInfo}{oa:Option Addr}{cs:List AVal}(ho:o.op=.load t x)(hd:∀d,o.dst=some d→d<σ.n)
  (ht:tab t=some ti) (hx:σ.ev x=some (.ip oa cs)) (hagg:ti.desc.agg=true) (hs:ti.size≤cs.length):Cert P o σ (.agg (cs.take ti.size)) .pure :=
 Cert.ofQuiet .pure (.inl rfl) hd fun a g _ h _=>by
  obtain⟨b,off,f,e,_,hsc,hm,hr⟩:=(h x (by simp [ho,Op.operands]) _ hx).ip_inv
  have hrun:=(hT t ti ht).loadVar_agg hagg g.w b off f (fun j hj=>(hm j _ (List.getElem?_eq_getElem (by omega))).1)
  have hlen:(cs.take ti.size).length=ti.size:=by simp;omega
  refine⟨.agg ((List.range ti.size).map f).toArray,by simp [execOp,ho,e,Instr.loadAt,Instr.sureAddr,hrun],?_⟩
  have:=RV.ofRow (g:=g) (cs.take ti.size) f (fun c hc=>hsc c (List.mem_of_mem_take hc)) (fun j c hj=>hr j c (take_get hj))
  rw [hlen] at this
  exact this
theorem cert_load_ip1{P:Program}{tab:Tab}(hT:TabOK P tab){o:Oper}{σ:St}{t:TypeId}{x:Operand}{ti:TInfo}{oa:Option Addr}{cs:List AVal}{c:AVal}(ho:o.op=.load t x)(hd:∀d,o.dst=some d→d<σ.n)
  (ht:tab t=some ti) (hx:σ.ev x=some (.ip oa cs)) (hagg:ti.desc.agg=false) (hs:cs[0]?=some c):Cert P o σ c .pure :=
 Cert.ofQuiet .pure (.inl rfl) hd fun a g _ h _=>by
  obtain⟨b,off,f,e,_,hsc,hm,hr⟩:=(h x (by simp [ho,Op.operands]) _ hx).ip_inv
  have hrun:=(hT t ti ht).loadVar_cell hagg g.w ⟨b,off,none⟩ (f 0) (hm 0 c hs).1
  exact⟨f 0,by simp [execOp,ho,e,Instr.loadAt,Instr.sureAddr,hrun],hr 0 c hs⟩
theorem Good.row{g:G}(hg:Good g){id:Nat}{cs:List AVal}{l:Loc}(ho:g.objs[id]?=some (.cells cs))(he:g.env[id]?=some (some l)) :
  ∃(arr:Array Value) (t:TypeId),l.lo=0∧g.w.heap[l.block]?=some (.cells arr t (0,0))∧cs.length≤arr.size∧(∀(j:Nat) (c:AVal) (u:Value),cs[j]?=some c→arr[j]?=some u→RV g c u)∧(∀c∈cs,c.scalar)∧l.sz≤arr.size:=by
 obtain⟨l',arr,t,h1,h2,h3,h4,h5,h6⟩:=hg.cells id cs ho
 rw [he] at h1
 simp only [Option.some.injEq] at h1
 subst h1
 exact⟨arr,t,h2,h3,h4,h5,h6⟩
theorem cell_of_row{w:World}{b:Nat}{arr:Array Value}{t:TypeId}{fz:Nat×Nat}(h:w.heap[b]?=some (.cells arr t fz))(off:Nat):w.cell? ⟨b,off,none⟩=arr[off]?:=by
 simp [World.cell?,h]
theorem cert_load_mp{P:Program}{tab:Tab}(hT:TabOK P tab){o:Oper}{σ:St}{t:TypeId}{x:Operand}{ti:TInfo}{id off:Nat}{cs:List AVal}(ho:o.op=.load t x)(hd:∀d,o.dst=some d→d<σ.n)
  (ht:tab t=some ti) (hx:σ.ev x=some (.mp id off)) (hob:σ.objs[id]?=some (.cells cs)) (hagg:ti.desc.agg=true) (hs:off+ti.size≤cs.length):Cert P o σ (.agg ((cs.drop off).take ti.size)) (.rd id) :=
 Cert.ofRd hd fun a g hg h hO=>by
  obtain⟨l,o1,he,h1,_,e⟩:=(h x (by simp [ho,Op.operands]) _ hx).mp_inv
  obtain⟨arr,t',_,hrow,hlen,hrv,hsc,_⟩:=hg.row (by rw [hO];exact hob) he
  obtain⟨f,hf⟩:∃f:Nat→Value,∀j,off+j<arr.size→arr[off+j]?=some (f j):=⟨fun j=>arr.getD (off+j) undef,fun j hj=>by simp [Array.getD_eq_getD_getElem?,hj]⟩
  have hrun:=(hT t ti ht).loadVar_agg hagg g.w l.block off f (fun j hj=>by
   rw [cell_of_row hrow]
   exact hf j (by omega))
  have hl:((cs.drop off).take ti.size).length=ti.size:=by simp;omega
  refine⟨.agg ((List.range ti.size).map f).toArray,by simp [execOp,ho,e,Instr.loadAt,Instr.sureAddr,hrun],?_⟩
  have:=RV.ofRow (g:=g) ((cs.drop off).take ti.size) f (fun c hc=>hsc c (List.mem_of_mem_drop (List.mem_of_mem_take hc))) (fun j c hj=>by
   have hj':=take_get hj
   rw [List.getElem?_drop] at hj'
   have hlt:=lt_of_getElem? hj'
   exact hrv (off+j) c _ hj' (hf j (by omega)))
  rw [hl] at this
  exact this
theorem cert_load_mp1{P:Program}{tab:Tab}(hT:TabOK P tab){o:Oper}{σ:St}{t:TypeId}{x:Operand}{ti:TInfo}{id off:Nat}{cs:List AVal}{c:AVal}(ho:o.op=.load t x)(hd:∀d,o.dst=some d→d<σ.n)
  (ht:tab t=some ti) (hx:σ.ev x=some (.mp id off)) (hob:σ.objs[id]?=some (.cells cs)) (hagg:ti.desc.agg=false) (hs:cs[off]?=some c):Cert P o σ c (.rd id) :=
 Cert.ofRd hd fun a g hg h hO=>by
  obtain⟨l,o1,he,h1,_,e⟩:=(h x (by simp [ho,Op.operands]) _ hx).mp_inv
  obtain⟨arr,t',_,hrow,hlen,hrv,hsc,_⟩:=hg.row (by rw [hO];exact hob) he
  have hlt:=lt_of_getElem? hs
  have hcell:g.w.cell? ⟨l.block,off,none⟩=some arr[off]:=by
   rw [cell_of_row hrow]
   simp [show off<arr.size by omega]
  have hrun:=(hT t ti ht).loadVar_cell hagg g.w ⟨l.block,off,none⟩ _ hcell
  exact⟨arr[off],by simp [execOp,ho,e,Instr.loadAt,Instr.sureAddr,hrun],hrv off c _ hs (by simp [show off<arr.size by omega])⟩
theorem run_fieldPlace{P:Program}{tab:Tab}(hT:TabOK P tab){f:Field}{tf:TInfo}(hf:tab f.type=some tf)(hs:tf.size≠0)(w:World)(b off:Nat) :
  (fieldPlace ⟨b,off,none⟩ f).run P w=.ok ⟨b,off+f.offset,none⟩ w:=by
 have:=(hT _ _ hf).sizeOf w
 simp [fieldPlace,this,hs,addr_add]
theorem struct_field{P:Program}{tab:Tab}(hT:TabOK P tab){s:TypeId}{ti:TInfo}{fs:List (Nat×TypeId)}{k off':Nat}{ft:TypeId}(ht:tab s=some ti)(hdesc:ti.desc=.struct fs)(hk:fs[k]?=some (off',ft)) :
  ∃(fields:Array Field) (f:Field),P.underlying s=some (.struct fields)∧fields[k]?=some f∧f.offset=off'∧f.type=ft:=by
 obtain⟨_,d,h1,h2⟩:=hT s ti ht
 rw [hdesc] at h2
 obtain⟨fields,h3,h4⟩:=h2
 subst h3
 rw [←h4] at hk
 simp only [List.getElem?_map,Option.map_eq_some_iff,Prod.mk.injEq,Array.getElem?_toList] at hk
 obtain⟨f,e1,e2,e3⟩:=hk
 exact⟨fields,f,h1,e1,e2,e3⟩
theorem cert_fieldAddr_ip{P:Program}{tab:Tab}(hT:TabOK P tab){o:Oper}{σ:St}{s:TypeId}{x:Operand}{k off':Nat}{ft:TypeId}{ti tf:TInfo}{fs:List (Nat×TypeId)}{oa:Option Addr}{cs:List AVal}
  (ho:o.op=.fieldAddr s x k) (hd:∀d,o.dst=some d→d<σ.n) (ht:tab s=some ti) (hdesc:ti.desc=.struct fs) (hk:fs[k]?=some (off',ft)) (hf:tab ft=some tf) (hz:tf.size≠0)
  (hx:σ.ev x=some (.ip oa cs)):Cert P o σ (.ip (oa.map (·.add off')) (cs.drop off')) .pure :=
 Cert.ofQuiet .pure (.inl rfl) hd fun a g _ h _=>by
  obtain⟨b,off,f,e,ha,hsc,hm,hr⟩:=(h x (by simp [ho,Op.operands]) _ hx).ip_inv
  obtain⟨fields,fl,h1,h2,h3,h4⟩:=struct_field hT ht hdesc hk
  subst h3
  subst h4
  refine⟨.pointer (some ⟨b,off+fl.offset,none⟩),by simp [execOp,ho,e,Instr.fieldAt,run_underlying h1,h2,Instr.sureAddr,run_fieldPlace hT hf hz],?_⟩
  refine .ip ?_ (fun c hc=>hsc c (List.mem_of_mem_drop hc)) (fun j=>f (fl.offset+j)) (fun j c hj=>?_) (fun j c hj=>?_)
  ·rcases ha with ha | ha<;>subst ha<;>simp [addr_add]
  ·rw [List.getElem?_drop] at hj
   rw [Nat.add_assoc]
   exact hm _ c hj
  rw [List.getElem?_drop] at hj
  exact hr _ c hj
theorem cert_fieldAddr_mp{P:Program}{tab:Tab}(hT:TabOK P tab){o:Oper}{σ:St}{s:TypeId}{x:Operand}{k off':Nat}{ft:TypeId}{ti tf:TInfo}{fs:List (Nat×TypeId)}{id off:Nat}
  (ho:o.op=.fieldAddr s x k) (hd:∀d,o.dst=some d→d<σ.n) (ht:tab s=some ti) (hdesc:ti.desc=.struct fs) (hk:fs[k]?=some (off',ft)) (hf:tab ft=some tf) (hz:tf.size≠0)
  (hx:σ.ev x=some (.mp id off)):Cert P o σ (.mp id (off+off')) .pure :=
 Cert.ofQuiet .pure (.inl rfl) hd fun a g _ h _=>by
  obtain⟨l,o1,he,h1,hn,e⟩:=(h x (by simp [ho,Op.operands]) _ hx).mp_inv
  obtain⟨fields,fl,h2,h3,h4,h5⟩:=struct_field hT ht hdesc hk
  subst h4
  subst h5
  exact⟨.pointer (some ⟨l.block,off+fl.offset,none⟩),by simp [execOp,ho,e,Instr.fieldAt,run_underlying h2,h3,Instr.sureAddr,run_fieldPlace hT hf hz],.mp he h1 hn⟩
theorem slice_desc{P:Program}{tab:Tab}(hT:TabOK P tab){t e:TypeId}{ti:TInfo}(ht:tab t=some ti)(hdesc:ti.desc=.slice e):P.underlying t=some (.slice e):=by
 obtain⟨_,d,h1,h2⟩:=hT t ti ht
 rw [hdesc] at h2
 simp only [descIs] at h2
 rw [h1,h2]
def ownAt:Own→Nat→Option Addr
 | .sh,_=>none
 | .ex,_=>none
 | .nn,_=>none
 | .tok _,_=>none
 | .loc a,k=>some ⟨a.block,a.off+k,none⟩
theorem cert_indexAddr_lst{P:Program}{tab:Tab}(hT:TabOK P tab){o:Oper}{σ:St}{t e:TypeId}{x i:Operand}{ti te:TInfo}{sz:Nat}{xs:List AVal}{ow:Own}{k:IntKind}{n:Int}{y:AVal}
  (ho:o.op=.indexAddr t x i) (hd:∀d,o.dst=some d→d<σ.n) (ht:tab t=some ti) (hdesc:ti.desc=.slice e) (he:tab e=some te) (hsz:te.size=sz)
  (hx:σ.ev x=some (.lst sz xs ow)) (hi:σ.ev i=some (.v (.int k n))) (h0:0≤n) (hy:xs[n.toNat]?=some y):Cert P o σ (.ip (ownAt ow (n.toNat * te.size)) y.cells) .pure :=
 Cert.ofQuiet .pure (.inl rfl) hd fun a g _ h _=>by
  have ei:=(h i (by simp [ho,Op.operands]) _ hi).v_inv.1
  have hu:=slice_desc hT ht hdesc
  have hlt:=lt_of_getElem? hy
  rcases (h x (by simp [ho,Op.operands]) _ hx).lst_inv with⟨_,e0⟩ | ⟨ad,cap,f,eu,hsz',hsc,_,hmax,hs,hm,hr,hown⟩
  ·subst e0
   simp at hlt
  have hspot:=hs (by intro e;subst e;simp at hlt)
  obtain⟨b,off,sp⟩:=ad
  simp only at hspot
  subst hspot
  subst hsz
  have hmem:y∈xs:=List.mem_of_getElem? hy
  refine⟨.pointer (some ⟨b,off+n.toNat * te.size,none⟩),?_,?_⟩
  ·have hlt':n<(xs.length:Int):=by omega
   simp [execOp,ho,ei,eu,Instr.indexAt,asIntOf,run_underlying hu,h0,hlt',(hT e te he).sizeOf,addr_add]
  have haddr:ownAt ow (n.toNat * te.size)=none∨ownAt ow (n.toNat * te.size)=some ⟨b,off+n.toNat * te.size,none⟩:=by
   cases ow with
   | loc a' =>
    have e:(⟨b,off,none⟩:Addr)=a':=hown
    subst e
    exact .inr rfl
   | _=>exact .inl rfl
  refine .ip haddr (hsc y hmem) (fun j=>f (n.toNat * te.size+j)) (fun j c hj=>?_) (fun j c hj=>?_)
  ·rw [Nat.add_assoc]
   exact hm _ c (cellsAll_getElem? hsz' hy hj)
  exact hr _ c (cellsAll_getElem? hsz' hy hj)
theorem cert_indexAddr_ms{P:Program}{tab:Tab}(hT:TabOK P tab){o:Oper}{σ:St}{t e:TypeId}{x i:Operand}{ti te:TInfo}{id off len cap:Nat}{k:IntKind}{n:Int}
  (ho:o.op=.indexAddr t x i) (hd:∀d,o.dst=some d→d<σ.n) (ht:tab t=some ti) (hdesc:ti.desc=.slice e) (he:tab e=some te)
  (hx:σ.ev x=some (.ms id off len cap)) (hi:σ.ev i=some (.v (.int k n))) (h0:0≤n) (hn:n<len):Cert P o σ (.mp id (off+n.toNat * te.size)) .pure :=
 Cert.ofQuiet .pure (.inl rfl) hd fun a g _ h _=>by
  have ei:=(h i (by simp [ho,Op.operands]) _ hi).v_inv.1
  have hu:=slice_desc hT ht hdesc
  obtain⟨l,o1,h1,h2,h3,_,_,_,_,eu⟩:=(h x (by simp [ho,Op.operands]) _ hx).ms_inv
  exact⟨.pointer (some ⟨l.block,off+n.toNat * te.size,none⟩),by simp [execOp,ho,ei,eu,Instr.indexAt,asIntOf,run_underlying hu,h0,hn,(hT e te he).sizeOf,addr_add],.mp h1 h2 h3⟩
end Go.Av
namespace Go.Av
theorem cert_field{P:Program}{tab:Tab}(hT:TabOK P tab){o:Oper}{σ:St}{s:TypeId}{x:Operand}{k off':Nat}{ft:TypeId}{ti tf:TInfo}{fs:List (Nat×TypeId)}{cs:List AVal}{r:AVal}
  (ho:o.op=.field s x k) (hd:∀d,o.dst=some d→d<σ.n) (ht:tab s=some ti) (hdesc:ti.desc=.struct fs) (hk:fs[k]?=some (off',ft)) (hf:tab ft=some tf)
  (hx:σ.ev x=some (.agg cs)) (hr:if tf.desc.agg then r=.agg ((cs.drop off').take tf.size) else cs[off']?=some r):Cert P o σ r .pure :=
 Cert.ofQuiet .pure (.inl rfl) hd fun a g _ h _=>by
  obtain⟨vs,e,hl,hsc,hh⟩:=(h x (by simp [ho,Op.operands]) _ hx).agg_inv
  obtain⟨fields,fl,h1,h2,h3,h4⟩:=struct_field hT ht hdesc hk
  subst h3
  subst h4
  have hag:=(hT _ _ hf).isAgg g.w
  have hsz:=(hT _ _ hf).sizeOf g.w
  split at hr
  ·rename_i hagg
   subst hr
   refine⟨.agg (vs.extract fl.offset (fl.offset+tf.size)),by simp [execOp,ho,e,Instr.field,run_underlying h1,h2,asAgg,part,hag,hagg,hsz],?_⟩
   refine .agg ?_ (fun c hc=>hsc c (List.mem_of_mem_drop (List.mem_of_mem_take hc))) (fun i c u hi hu=>?_)
   ·simp [hl];omega
   have hi':=take_get hi
   rw [List.getElem?_drop] at hi'
   refine hh (fl.offset+i) c u hi' ?_
   have:i<tf.size:=by
    have:=lt_of_getElem? hi
    simp at this
    omega
   rw [Array.getElem?_extract] at hu
   split at hu
   ·exact hu
   cases hu
  rename_i hagg
  have hlt:fl.offset<vs.size:=by
   rw [hl]
   exact lt_of_getElem? hr
  exact⟨vs[fl.offset],by simp [execOp,ho,e,Instr.field,run_underlying h1,h2,asAgg,part,hag,hagg,hlt],hh _ _ _ hr (by simp [hlt])⟩
theorem cert_extract{P:Program}{o:Oper}{σ:St}{x:Operand}{k:Nat}{cs:List AVal}{r:AVal}
  (ho:o.op=.extract x k) (hd:∀d,o.dst=some d→d<σ.n) (hx:σ.ev x=some (.tup cs)) (hr:cs[k]?=some r):Cert P o σ r .pure :=
 Cert.ofQuiet .pure (.inl rfl) hd fun a g _ h _=>by
  obtain⟨vs,e,hl,hh⟩:=(h x (by simp [ho,Op.operands]) _ hx).tup_inv
  have hlt:k<vs.size:=by
   rw [hl]
   exact lt_of_getElem? hr
  exact⟨vs[k],by simp [execOp,ho,e,Instr.extract,hlt],hh _ _ _ hr (by simp [hlt])⟩
theorem run_eqGuard_flat{P:Program}(op:BinOp)(t:TypeId)(x y:Operand)(a b:Value)(w:World)(h1:a≠.nilIface)(h2:∀cs,a≠.agg cs):(eqGuard op t x y a b).run P w=.ok () w:=by
 cases op<;>first | rfl | (cases a<;>first | rfl | exact absurd rfl h1 | exact absurd rfl (h2 _))
def cmpInt:BinOp→Int→Int→Option Bool
 | .eql,a,b=>some (decide (a=b))
 | .neq,a,b=>some (!decide (a=b))
 | .lss,a,b=>some (decide (a<b))
 | .leq,a,b=>some (decide (a≤b))
 | .gtr,a,b=>some (decide (b<a))
 | .geq,a,b=>some (decide (b≤a))
 | _,_,_=>none
theorem cert_cmpInt{P:Program}{o:Oper}{σ:St}{op:BinOp}{t t':TypeId}{x y:Operand}{k:IntKind}{m n:Int}{r:Bool}
  (ho:o.op=.binOp op t x y t') (hd:∀d,o.dst=some d→d<σ.n) (hx:σ.ev x=some (.v (.int k m))) (hy:σ.ev y=some (.v (.int k n))) (hr:cmpInt op m n=some r):Cert P o σ (.v (.bool r)) .pure :=
 Cert.ofQuiet .pure (.inl rfl) hd fun a g _ h _=>by
  have ex:=(h x (by simp [ho,Op.operands]) _ hx).v_inv.1
  have ey:=(h y (by simp [ho,Op.operands]) _ hy).v_inv.1
  have hg:=run_eqGuard_flat (P:=P) op t x y (.int k m) (.int k n) g.w (by simp) (by simp)
  refine⟨.bool r,?_,.v trivial⟩
  have hb:(binOp op t (.int k m) (.int k n)).run P g.w=.ok (.bool r) g.w:=by
   cases op<;>first | (cases hr;done) | (obtain rfl:=Option.some.inj hr;simp [binOp,Op.intCmp];try (rw [Bool.eq_iff_iff];simp))
  simp [execOp,ho,ex,ey,hg,hb]
def bitsOf(k:IntKind)(f:BitVec k.bits→BitVec k.bits→BitVec k.bits)(a b:Int):Int:=k.wrap (f (BitVec.ofInt k.bits a) (BitVec.ofInt k.bits b)).toNat
def arithInt(k:IntKind):BinOp→Int→Int→Option Int
 | .add,a,b=>some (a+b)
 | .sub,a,b=>some (a - b)
 | .mul,a,b=>some (a * b)
 | .quo,a,b=>if b=0 then none else some (a.tdiv b)
 | .rem,a,b=>if b=0 then none else some (a.tmod b)
 | .and,a,b=>some (bitsOf k (fun x y=>x&&& y) a b)
 | .or,a,b=>some (bitsOf k (fun x y=>x ||| y) a b)
 | .xor,a,b=>some (bitsOf k (fun x y=>x ^^^ y) a b)
 | .andNot,a,b=>some (bitsOf k (fun x y=>x&&& ~~~y) a b)
 | _,_,_=>none
theorem cert_arithInt{P:Program}{o:Oper}{σ:St}{op:BinOp}{t t':TypeId}{x y:Operand}{k:IntKind}{m n r:Int}
  (ho:o.op=.binOp op t x y t') (hd:∀d,o.dst=some d→d<σ.n) (hx:σ.ev x=some (.v (.int k m))) (hy:σ.ev y=some (.v (.int k n))) (hr:arithInt k op m n=some r) (h1:k.min≤r) (h2:r≤k.max) :
  Cert P o σ (.v (.int k r)) .pure :=
 Cert.ofQuiet .pure (.inl rfl) hd fun a g _ h _=>by
  have ex:=(h x (by simp [ho,Op.operands]) _ hx).v_inv.1
  have ey:=(h y (by simp [ho,Op.operands]) _ hy).v_inv.1
  have hg:=run_eqGuard_flat (P:=P) op t x y (.int k m) (.int k n) g.w (by simp) (by simp)
  have hw:=wrap_in k r h1 h2
  refine⟨.int k r,?_,.v ⟨h1,h2⟩⟩
  have hb:(binOp op t (.int k m) (.int k n)).run P g.w=.ok (.int k r) g.w:=by
   cases op with
   | add | sub | mul=>simp [arithInt] at hr;subst hr;simp [binOp,Op.intArith,hw]
   | quo | rem =>
    simp only [arithInt] at hr
    split at hr
    ·cases hr
    rename_i hn0
    simp only [Option.some.injEq] at hr
    subst hr
    simp [binOp,Op.intDiv,hn0,hw]
   | and | or | xor | andNot=>simp [arithInt] at hr;subst hr;simp [binOp,Op.intBits,bitsOf]
   | _=>simp [arithInt] at hr
  simp [execOp,ho,ex,ey,hg,hb]
def isShift:BinOp→Bool
 | .add=>false
 | .sub=>false
 | .mul=>false
 | .quo=>false
 | .rem=>false
 | .and=>false
 | .or=>false
 | .xor=>false
 | .shl=>true
 | .shr=>true
 | .andNot=>false
 | .eql=>false
 | .neq=>false
 | .lss=>false
 | .leq=>false
 | .gtr=>false
 | .geq=>false
def shiftInt(k:IntKind):BinOp→Int→Int→Int
 | .shl,a,n=>k.wrap (a * 2 ^ (min n.toNat k.bits))
 | _,a,n=>a.fdiv (2 ^ (min n.toNat k.bits))
theorem cert_shiftInt{P:Program}{o:Oper}{σ:St}{op:BinOp}{t t':TypeId}{x y:Operand}{k k':IntKind}{m n:Int}
  (ho:o.op=.binOp op t x y t') (hd:∀d,o.dst=some d→d<σ.n) (hx:σ.ev x=some (.v (.int k m))) (hy:σ.ev y=some (.v (.int k' n))) (hs:isShift op=true) (hn:0≤n) (h1:k.min≤shiftInt k op m n) (h2:shiftInt k op m n≤k.max) :
  Cert P o σ (.v (.int k (shiftInt k op m n))) .pure :=
 Cert.ofQuiet .pure (.inl rfl) hd fun a g _ h _=>by
  have ex:=(h x (by simp [ho,Op.operands]) _ hx).v_inv.1
  have ey:=(h y (by simp [ho,Op.operands]) _ hy).v_inv.1
  have hg:=run_eqGuard_flat (P:=P) op t x y (.int k m) (.int k' n) g.w (by simp) (by simp)
  have hn':¬n<0:=by omega
  refine⟨.int k (shiftInt k op m n),?_,.v ⟨h1,h2⟩⟩
  have hb:(binOp op t (.int k m) (.int k' n)).run P g.w=.ok (.int k (shiftInt k op m n)) g.w:=by
   cases op with
   | shl | shr=>simp [binOp,Op.shift,hn',shiftInt]
   | _=>simp [isShift] at hs
  simp [execOp,ho,ex,ey,hg,hb]
theorem bytes_eq(a b:ByteArray):(a.toList == b.toList)=decide (a=b):=by
 rw [Bool.eq_iff_iff]
 simp only [beq_iff_eq,decide_eq_true_eq]
 refine⟨fun h=>?_,fun h=>by rw [h]⟩
 rw [ByteArray.toList_eq,ByteArray.toList_eq] at h
 exact ByteArray.ext (Array.toList_inj.1 h)
theorem cert_eqString{P:Program}{o:Oper}{σ:St}{op:BinOp}{t t':TypeId}{x y:Operand}{m n:ByteArray}{r:Bool}
  (ho:o.op=.binOp op t x y t') (hd:∀d,o.dst=some d→d<σ.n) (hx:σ.ev x=some (.v (.string m))) (hy:σ.ev y=some (.v (.string n)))
  (hr:(op=.eql∧r=decide (m=n))∨(op=.neq∧r=!decide (m=n))):Cert P o σ (.v (.bool r)) .pure :=
 Cert.ofQuiet .pure (.inl rfl) hd fun a g _ h _=>by
  have ex:=(h x (by simp [ho,Op.operands]) _ hx).v_inv.1
  have ey:=(h y (by simp [ho,Op.operands]) _ hy).v_inv.1
  have hg:=run_eqGuard_flat (P:=P) op t x y (.string m) (.string n) g.w (by simp) (by simp)
  refine⟨.bool r,?_,.v trivial⟩
  have hb:(binOp op t (.string m) (.string n)).run P g.w=.ok (.bool r) g.w:=by
   have hbe:=bytes_eq m n
   rcases hr with⟨e1,e2⟩ | ⟨e1,e2⟩<;>subst e1<;>subst e2
   ·simp only [binOp,Op.stringOp,Sem.run_pure,hbe]
   simp only [binOp,Op.stringOp,Sem.run_pure,hbe]
  simp [execOp,ho,ex,ey,hg,hb]
theorem cert_eqBool{P:Program}{o:Oper}{σ:St}{op:BinOp}{t t':TypeId}{x y:Operand}{m n r:Bool}
  (ho:o.op=.binOp op t x y t') (hd:∀d,o.dst=some d→d<σ.n) (ht:P.underlying t=some .bool) (hx:σ.ev x=some (.v (.bool m))) (hy:σ.ev y=some (.v (.bool n)))
  (hr:(op=.eql∧r=(m == n))∨(op=.neq∧r=!(m == n))):Cert P o σ (.v (.bool r)) .pure :=
 Cert.ofQuiet .pure (.inl rfl) hd fun a g _ h _=>by
  have ex:=(h x (by simp [ho,Op.operands]) _ hx).v_inv.1
  have ey:=(h y (by simp [ho,Op.operands]) _ hy).v_inv.1
  have hg:=run_eqGuard_flat (P:=P) op t x y (.bool m) (.bool n) g.w (by simp) (by simp)
  refine⟨.bool r,?_,.v trivial⟩
  have he:(Op.equal t (.bool m) (.bool n)).run P g.w=.ok (m == n) g.w:=by
   have e:∃d,Op.equal t (.bool m) (.bool n)=Op.equalIn (d+1) t (.bool m) (.bool n):=⟨9999,rfl⟩
   obtain⟨d,e⟩:=e
   rw [e]
   simp only [Op.equalIn,Sem.run_bind,run_underlying ht,Result.andThen_ok,Sem.run_pure]
  rcases hr with⟨e1,e2⟩ | ⟨e1,e2⟩<;>subst e1<;>subst e2<;>simp [execOp,ho,ex,ey,hg,binOp,he]
theorem cert_not{P:Program}{o:Oper}{σ:St}{t:TypeId}{x:Operand}{m:Bool}
  (ho:o.op=.unOp .not t x) (hd:∀d,o.dst=some d→d<σ.n) (hx:σ.ev x=some (.v (.bool m))):Cert P o σ (.v (.bool !m)) .pure :=
 Cert.ofQuiet .pure (.inl rfl) hd fun a g _ h _=>by
  have ex:=(h x (by simp [ho,Op.operands]) _ hx).v_inv.1
  exact⟨.bool !m,by simp [execOp,ho,ex,Op.unary],.v trivial⟩
theorem cert_neg{P:Program}{o:Oper}{σ:St}{t:TypeId}{x:Operand}{k:IntKind}{m:Int}
  (ho:o.op=.unOp .neg t x) (hd:∀d,o.dst=some d→d<σ.n) (hx:σ.ev x=some (.v (.int k m))) (h1:k.min≤-m) (h2:-m≤k.max):Cert P o σ (.v (.int k (-m))) .pure :=
 Cert.ofQuiet .pure (.inl rfl) hd fun a g _ h _=>by
  have ex:=(h x (by simp [ho,Op.operands]) _ hx).v_inv.1
  have hw:=wrap_in k (-m) h1 h2
  exact⟨.int k (-m),by simp [execOp,ho,ex,Op.unary,Op.intArith,hw],.v ⟨h1,h2⟩⟩
theorem run_builtin1{P:Program}{o:Oper}{b:Builtin}{args:Array Operand}{ats:Array TypeId}(ho:o.op=.call ⟨.builtin b,args,ats⟩)(a:Act)(w:World) :
  (execOp a.eval o).run P w=(builtin b ats o.type (args.map fun | .const _=>true | _=>false) (args.map a.eval)).run P w:=by
 simp [execOp,ho,resolve,invoke]
 rfl
theorem cert_len{P:Program}{tab:Tab}(hT:TabOK P tab){o:Oper}{σ:St}{t e:TypeId}{x:Operand}{ti:TInfo}{n:Nat}{y:AVal}
  (ho:o.op=.call ⟨.builtin .len,#[x],#[t]⟩) (hd:∀d,o.dst=some d→d<σ.n) (ht:tab t=some ti) (hdesc:ti.desc=.slice e) (hx:σ.ev x=some y)
  (hy:(∃sz xs ow,y=.lst sz xs ow∧n=xs.length)∨(∃id off cap,y=.ms id off n cap)∨∃id sz,y=.os id n sz):Cert P o σ (.v (.int .i64 n)) .pure :=
 Cert.ofQuiet .pure (.inl rfl) hd fun a g _ h _=>by
  have hu:=slice_desc hT ht hdesc
  have hx':=h x (by simp [ho,Op.operands,Call.operands]) _ hx
  have key:∃ad cap,a.eval x=.slice ad n cap∧n≤2 ^ 62:=by
   rcases hy with⟨sz,xs,ow,e1,e2⟩ | ⟨id,off,cap,e1⟩ | ⟨id,sz,e1⟩
   ·subst e1
    subst e2
    rcases hx'.lst_inv with⟨q1,q2⟩ | ⟨ad,cap,_,q1,_,_,_,q2,_⟩
    ·subst q2
     exact⟨_,_,q1,by simp⟩
    exact⟨_,_,q1,q2⟩
   ·subst e1
    obtain⟨l,_,_,_,_,_,q2,_,_,q1⟩:=hx'.ms_inv
    exact⟨_,_,q1,q2⟩
   subst e1
   obtain⟨l,_,_,_,_,_,_,_,q2,q1⟩:=hx'.os_inv
   exact⟨_,_,q1,q2⟩
  obtain⟨ad,cap,q1,q2⟩:=key
  refine⟨.int .i64 n,?_,.v ?_⟩
  ·rw [run_builtin1 ho]
   simp [builtin,Builtin.len_,q1,run_underlying hu,goInt]
  simp [flatOK,IntKind.min,IntKind.max,IntKind.bits,IntKind.signed]
  omega
theorem run_sliceBound{P:Program}(k:IntKind)(n:Int)(y:Nat)(c:BoundsCode)(w:World)(h0:0≤n)(h1:n≤y):(Instr.sliceBound (.int k n) y c).run P w=.ok n.toNat w:=by
 simp [Instr.sliceBound,asIntOf,h0,h1]
theorem cut_get{sz:Nat}{xs:List AVal}(hsz:∀x∈xs,x.cells.length=sz)(lo hi j:Nat)(c:AVal)(h:(cellsAll ((xs.take hi).drop lo))[j]?=some c):(cellsAll xs)[lo * sz+j]?=some c:=by
 induction xs generalizing lo hi j with
 | nil=>simp [cellsAll] at h
 | cons y ys ih =>
  have hy:=hsz y (by simp)
  have ih':=ih (fun x hx=>hsz x (by simp [hx]))
  cases hi with
  | zero=>simp [cellsAll] at h
  | succ hi =>
   cases lo with
   | zero =>
    simp only [List.take_succ_cons,List.drop_zero,cellsAll,List.flatMap_cons,Nat.zero_mul,Nat.zero_add] at h ⊢
    rw [List.getElem?_append] at h ⊢
    split at h
    ·rename_i hj
     rw [if_pos hj]
     exact h
    rename_i hj
    rw [if_neg hj]
    have:=ih' 0 hi (j - y.cells.length) (by simpa [cellsAll] using h)
    simpa [cellsAll] using this
   | succ lo =>
    simp only [List.take_succ_cons,List.drop_succ_cons] at h
    have:=ih' lo hi j h
    simp only [cellsAll,List.flatMap_cons] at this ⊢
    rw [List.getElem?_append,if_neg (by rw [hy,Nat.succ_mul];omega),hy,show(lo+1) * sz+j - sz=lo * sz+j by rw [Nat.succ_mul];omega]
    exact this
def bndOK(σ:St)(p:Option Operand)(dflt n:Nat):Prop:=(p=none∧n=dflt)∨∃q k,p=some q∧σ.ev q=some (.v (.int k (n:Int)))
theorem cert_slice{P:Program}{tab:Tab}(hT:TabOK P tab){o:Oper}{σ:St}{t e:TypeId}{x:Operand}{ti te:TInfo}{sz:Nat}{xs:List AVal}{ow:Own}{lo hi:Option Operand}{l h:Nat}
  (ho:o.op=.slice t x lo hi none) (hd:∀d,o.dst=some d→d<σ.n) (ht:tab t=some ti) (hdesc:ti.desc=.slice e) (he:tab e=some te) (hsz:te.size=sz) (hx:σ.ev x=some (.lst sz xs ow))
  (hlo:bndOK σ lo 0 l) (hhi:bndOK σ hi xs.length h) (h1:l≤h) (h2:h≤xs.length):Cert P o σ (.lst sz ((xs.take h).drop l) .sh) .pure :=
 Cert.ofQuiet .pure (.inl rfl) hd fun a g _ hh _=>by
  have hu:=slice_desc hT ht hdesc
  have hx':=hh x (by cases lo<;>cases hi<;>simp [ho,Op.operands]) _ hx
  have hl:(lo=none∧l=0)∨∃q k,lo=some q∧a.eval q=.int k (l:Int):=by
   rcases hlo with q | ⟨q,k,e1,e2⟩
   ·exact .inl q
   exact .inr ⟨q,k,e1,(hh q (by subst e1;cases hi<;>simp [ho,Op.operands]) _ e2).v_inv.1⟩
  have hi':(hi=none∧h=xs.length)∨∃q k,hi=some q∧a.eval q=.int k (h:Int):=by
   rcases hhi with q | ⟨q,k,e1,e2⟩
   ·exact .inl q
   exact .inr ⟨q,k,e1,(hh q (by subst e1;cases lo<;>simp [ho,Op.operands]) _ e2).v_inv.1⟩
  have hexec:execOp a.eval o=(do pure (.value (←Instr.sliceAt t (a.eval x) (lo.map a.eval) (hi.map a.eval) none))):=by
   simp [execOp,ho]
  clear hlo hhi ho
  have bounds:∀cap:Nat,xs.length≤cap→(Instr.sliceBounds true xs.length cap (lo.map a.eval) (hi.map a.eval) none).run P g.w=.ok (l,h,cap) g.w:=by
   intro cap hcap
   rcases hl with⟨e1,e2⟩ | ⟨p,k,e1,hk⟩
   ·rcases hi' with⟨e3,e4⟩ | ⟨q,k',e3,hk'⟩
    ·subst e1 e2 e3 e4
     simp [Instr.sliceBounds]
    subst e1 e2 e3
    have:=run_sliceBound (P:=P) k' h cap .sliceAcap g.w (by omega) (by omega)
    simp [Instr.sliceBounds,hk',this]
   rcases hi' with⟨e3,e4⟩ | ⟨q,k',e3,hk'⟩
   ·subst e1 e3 e4
    have:=run_sliceBound (P:=P) k l xs.length .sliceB g.w (by omega) (by omega)
    simp [Instr.sliceBounds,hk,this]
   subst e1 e3
   have e1:=run_sliceBound (P:=P) k' h cap .sliceAcap g.w (by omega) (by omega)
   have e2:=run_sliceBound (P:=P) k l h .sliceB g.w (by omega) (by omega)
   simp [Instr.sliceBounds,hk,hk',e1,e2]
  have hsize:=(hT e te he).sizeOf g.w
  rcases hx'.lst_inv with⟨q1,q2⟩ | ⟨ad,cap,f,q1,hsz',hsc,hcap,hmax,hs,hm,hr,_⟩
  ·subst q2
   have b:=bounds 0 (by simp)
   simp at h2
   subst h2
   have:l=0:=by omega
   subst this
   refine⟨.slice none 0 0,?_,.nil (fun id e=>by cases e) (by simp)⟩
   rw [hexec]
   simp only [List.length_nil] at b
   simp [Instr.sliceAt,run_underlying hu,Instr.slice,q1,hsize,b]
  obtain⟨b0,off0,sp⟩:=ad
  have hlen:((xs.take h).drop l).length=h - l:=by simp;omega
  subst hsz
  by_cases hcl:cap=l
  ·-- the cut is empty and keeps the address
   have e1:l=xs.length:=by omega
   have e2:h=xs.length:=by omega
   subst hcl
   subst e2
   have b:=bounds cap hcap
   refine⟨.slice (some ⟨b0,off0,sp⟩) (xs.length - cap) (cap - cap),?_,?_⟩
   ·rw [hexec]
    simp [Instr.sliceAt,run_underlying hu,Instr.slice,q1,b,hsize]
   have hnil:(xs.take xs.length).drop cap=[]:=by simp;omega
   rw [hnil]
   have h0:xs.length - cap=0:=by omega
   rw [h0]
   exact .lst (by simp) (by simp) (by simp) (by simp) (by simp) f (by simp [cellsAll]) (by simp [cellsAll]) trivial
  have b:=bounds cap hcap
  refine⟨.slice (some ((⟨b0,off0,sp⟩:Addr).add (l * te.size))) (h - l) (cap - l),?_,?_⟩
  ·rw [hexec]
   simp [Instr.sliceAt,run_underlying hu,Instr.slice,q1,b,hsize,hcl]
  rw [←hlen]
  have hmem:∀y,y∈(xs.take h).drop l→y∈xs:=fun y hy=>List.mem_of_mem_take (List.mem_of_mem_drop hy)
  by_cases hne:xs=[]
  ·subst hne
   simp only [List.take_nil,List.drop_nil]
   exact .lst (by simp) (by simp) (by simp) (by simp) (by simp) f (by simp [cellsAll]) (by simp [cellsAll]) trivial
  have hsp:=hs hne
  simp only at hsp
  subst hsp
  rw [addr_add]
  refine .lst (fun y hy=>hsz' y (hmem y hy)) (fun y hy=>hsc y (hmem y hy)) (by rw [hlen];omega) (by rw [hlen];omega) (fun _=>rfl) (fun j=>f (l * te.size+j)) (fun j c hj=>?_) (fun j c hj=>?_) trivial
  ·have:=hm _ c (cut_get hsz' l h j c hj)
   simpa [Nat.add_assoc] using this
  exact hr _ c (cut_get hsz' l h j c hj)
def AVal.shareCell:AVal→AVal
 | .lst sz xs _=>.lst sz xs .sh
 | x=>x
def AVal.share:AVal→AVal
 | .lst sz xs _=>.lst sz xs .sh
 | .agg cs=>.agg (cs.map AVal.shareCell)
 | x=>x
theorem RV.shareCell{g:G}{x:AVal}{u:Value}(h:RV g x u):RV g x.shareCell u:=by
 unfold AVal.shareCell
 split
 ·exact h.lst_share
 exact h
theorem AVal.scalar_shareCell{x:AVal}(h:x.scalar):x.shareCell.scalar:=by
 cases x<;>first | exact h | trivial
theorem RV.share{g:G}{x:AVal}{u:Value}(h:RV g x u):RV g x.share u:=by
 unfold AVal.share
 split
 ·exact h.lst_share
 ·obtain⟨vs,e,hl,hsc,hh⟩:=h.agg_inv
  subst e
  refine .agg (by simpa using hl) (fun c hc=>?_) (fun i c w h1 h2=>?_)
  ·rw [List.mem_map] at hc
   obtain⟨c',h1,h2⟩:=hc
   subst h2
   exact AVal.scalar_shareCell (hsc c' h1)
  rw [List.getElem?_map,Option.map_eq_some_iff] at h1
  obtain⟨c',h3,h4⟩:=h1
  subst h4
  exact(hh i c' w h3 h2).shareCell
 exact h
def RVs(g:G)(cs:List AVal)(arr:Array Value):Prop:=arr.size=cs.length∧∀(j:Nat) (c:AVal) (u:Value),cs[j]?=some c→arr[j]?=some u→RV g c u
theorem RVs.mono{g g':G}(h:Le g g'){cs:List AVal}{arr:Array Value}(k:RVs g cs arr):RVs g' cs arr:=⟨k.1,fun j c u a b=>(k.2 j c u a b).mono h⟩
theorem RVs.agg{g:G}{cs:List AVal}{arr:Array Value}(k:RVs g cs arr)(hsc:∀c∈cs,c.scalar):RV g (.agg cs) (.agg arr):=.agg k.1 hsc k.2
theorem RV.cellsV{g:G}{x:AVal}{u:Value}(h:RV g x u)(hs:∀c∈x.cells,c.scalar):RVs g x.cells u.cells:=h.cells hs
def AVal.flat:AVal→Prop
 | .tup _=>False
 | _=>True
theorem RV.cells_scalar{g:G}{x:AVal}{u:Value}(h:RV g x u)(hx:x.flat):∀c∈x.cells,c.scalar:=by
 cases h with
 | agg hl hsc hh=>exact hsc
 | tup=>exact hx.elim
 | _=>intro c hc;simp only [AVal.cells,List.mem_singleton] at hc;subst hc;trivial
def splice(cs:List AVal)(off:Nat)(xs:List AVal):List AVal:=cs.take off++(xs++cs.drop (off+xs.length))
theorem splice_length{cs:List AVal}{off:Nat}{xs:List AVal}(h:off+xs.length≤cs.length):(splice cs off xs).length=cs.length:=by
 simp [splice]
 omega
theorem splice_get{cs:List AVal}{off:Nat}{xs:List AVal}(h:off+xs.length≤cs.length)(k:Nat) :
  (splice cs off xs)[k]?=if off≤k∧k<off+xs.length then xs[k - off]? else cs[k]?:=by
 simp only [splice]
 rw [List.getElem?_append,List.getElem?_append,List.getElem?_take,List.getElem?_drop]
 have hl:(cs.take off).length=off:=by simp;omega
 rw [hl]
 by_cases h1:k<off
 ·rw [if_pos h1,if_pos h1,if_neg (by omega)]
 rw [if_neg h1]
 by_cases h2:k - off<xs.length
 ·rw [if_pos h2,if_pos (by omega)]
 rw [if_neg h2,if_neg (by omega)]
 congr 1
 omega
theorem foldl_set(off:Nat):∀(vs:List Value) (n:Nat) (arr:Array Value),off+n+vs.length≤arr.size→∀k,((vs.zipIdx n).foldl (fun cs p=>cs.setIfInBounds (off+p.2) p.1) arr).size=arr.size ∧
  ((vs.zipIdx n).foldl (fun cs p=>cs.setIfInBounds (off+p.2) p.1) arr)[k]?=if off+n≤k∧k<off+n+vs.length then vs[k - (off+n)]? else arr[k]?
 | [],n,arr,_,k=>by
  refine⟨rfl,?_⟩
  rw [if_neg (by simp only [List.length_nil];omega)]
  rfl
 | v::vs,n,arr,h,k=>by
  simp only [List.length_cons] at h
  obtain⟨h1,h2⟩:=foldl_set off vs (n+1) (arr.setIfInBounds (off+n) v) (by rw [Array.size_setIfInBounds];omega) k
  simp only [List.zipIdx_cons,List.foldl_cons]
  refine⟨h1.trans (by simp),?_⟩
  rw [h2]
  simp only [List.length_cons]
  by_cases e1:off+(n+1)≤k∧k<off+(n+1)+vs.length
  ·rw [if_pos e1,if_pos (by omega),show k - (off+n)=(k - (off+(n+1)))+1 by omega]
   simp
  rw [if_neg e1]
  by_cases e2:k=off+n
  ·subst e2
   rw [if_pos (by omega),Nat.sub_self]
   rw [Array.getElem?_setIfInBounds_self_of_lt (by omega)]
   rfl
  rw [if_neg (by omega),Array.getElem?_setIfInBounds_ne (by omega)]
def fillA(place:Nat→Option (Nat×Nat)):List AVal→List (Nat×AVal)→Option (List AVal)
 | cs,[]=>some cs
 | cs,(i,x)::r =>
  match place i with
  | none=>none
  | some (off,size)=>if x.cells.length=size∧off+size≤cs.length then fillA place (splice cs off x.cells) r else none
inductive PRel(g:G):List (Nat×AVal)→List (Nat×Value)→Prop
 | nil:PRel g [] []
 | cons {i:Nat} {x:AVal} {u:Value} {ps:List (Nat×AVal)} {vs:List (Nat×Value)} (h:RV g x u) (hf:x.flat) (r:PRel g ps vs):PRel g ((i,x)::ps) ((i,u)::vs)
theorem fill_spec{g:G}(place:Nat→Option (Nat×Nat)){ps:List (Nat×AVal)}{vs:List (Nat×Value)}(hp:PRel g ps vs):∀{cs cs':List AVal} {arr:Array Value},RVs g cs arr→fillA place cs ps=some cs' →
  ∃arr',Instr.fill place arr vs=some arr'∧RVs g cs' arr'∧((∀c∈cs,c.scalar)→∀c∈cs',c.scalar):=by
 induction hp with
 | nil =>
  intro cs cs' arr h e
  simp only [fillA,Option.some.injEq] at e
  subst e
  exact⟨arr,rfl,h,fun h=>h⟩
 | cons hx hf r ih =>
  rename_i i x u ps vs
  intro cs cs' arr h e
  simp only [fillA] at e
  cases hpl:place i with
  | none=>simp [hpl] at e
  | some p =>
   obtain⟨off,size⟩:=p
   simp only [hpl] at e
   split at e
   ·rename_i hc
    obtain⟨hc1,hc2⟩:=hc
    have hcs:=hx.cells_scalar hf
    obtain⟨q1,q2⟩:=hx.cellsV hcs
    have hsz:off+0+u.cells.toList.length≤arr.size:=by
     simp only [Array.length_toList,q1,hc1,h.1]
     omega
    have hset:=foldl_set off u.cells.toList 0 arr hsz
    have hnew:RVs g (splice cs off x.cells) (u.cells.zipIdx.foldl (fun cs p=>cs.setIfInBounds (off+p.2) p.1) arr):=by
     have hconv:u.cells.zipIdx.foldl (fun cs p=>cs.setIfInBounds (off+p.2) p.1) arr=(u.cells.toList.zipIdx 0).foldl (fun cs p=>cs.setIfInBounds (off+p.2) p.1) arr:=by
      rw [←Array.foldl_toList]
      congr 1
      simp [Array.toList_zipIdx]
     rw [hconv]
     refine⟨?_,fun j c w hj hw=>?_⟩
     ·rw [(hset 0).1,splice_length (by omega),h.1]
     rw [(hset j).2] at hw
     rw [splice_get (by omega)] at hj
     simp only [Nat.add_zero,Array.length_toList,q1] at hw
     by_cases hin:off≤j∧j<off+x.cells.length
     ·rw [if_pos hin] at hj hw
      exact q2 _ c w hj (by simpa using hw)
     rw [if_neg hin] at hj hw
     exact h.2 j c w hj hw
    obtain⟨arr',e1,e2,e3⟩:=ih hnew e
    refine⟨arr',?_,e2,fun hall=>e3 fun c hc=>?_⟩
    ·simp only [Instr.fill,hpl]
     rw [if_neg (by simp [q1,hc1,h.1];omega)]
     exact e1
    simp only [splice,List.mem_append] at hc
    rcases hc with hc | hc | hc
    ·exact hall c (List.mem_of_mem_take hc)
    ·exact hcs c hc
    exact hall c (List.mem_of_mem_drop hc)
   cases e
def St.evParts(σ:St):List (Nat×Operand)→Option (List (Nat×AVal))
 | []=>some []
 | (i,x)::r =>
  match σ.ev x,σ.evParts r with
  | some y,some ys=>some ((i,y)::ys)
  | _,_=>none
theorem evParts_rel{σ:St}{a:Act}{g:G}:∀{parts:List (Nat×Operand)} {ps:List (Nat×AVal)},(∀x∈parts.map (·.2),∀y,σ.ev x=some y→RV g y (a.eval x))→σ.evParts parts=some ps→(∀p∈ps,p.2.flat) →
  PRel g ps (parts.map fun p=>(p.1,a.eval p.2))
 | [],ps,_,h,_=>by
  simp only [St.evParts,Option.some.injEq] at h
  subst h
  exact .nil
 | (i,x)::r,ps,hag,h,hf=>by
  simp only [St.evParts] at h
  cases hx:σ.ev x with
  | none=>simp [hx] at h
  | some y =>
   cases hr:σ.evParts r with
   | none=>simp [hx,hr] at h
   | some ys =>
    simp only [hx,hr,Option.some.injEq] at h
    subst h
    exact .cons (hag x (by simp) y hx) (hf (i,y) (List.mem_cons_self)) (evParts_rel (fun z hz=>hag z (by simp only [List.map_cons,List.mem_cons];exact .inr hz)) hr fun p hp=>hf p (List.mem_cons_of_mem _ hp))
def placesOf(tab:Tab):List (Nat×TypeId)→Option (List (Nat×Nat))
 | []=>some []
 | (off,t)::r =>
  match tab t,placesOf tab r with
  | some ti,some ps=>some ((off,ti.size)::ps)
  | _,_=>none
theorem places_mapM{P:Program}{tab:Tab}(hT:TabOK P tab):∀{fields:List Field} {ps:List (Nat×Nat)},placesOf tab (fields.map fun f=>(f.offset,f.type))=some ps →
  fields.mapM (fun f=>(P.info? f.type).map fun i=>(f.offset,i.size))=some ps
 | [],ps,h=>by
  simp only [List.map_nil,placesOf,Option.some.injEq] at h
  subst h
  rfl
 | f::r,ps,h=>by
  simp only [List.map_cons,placesOf] at h
  cases ht:tab f.type with
  | none=>simp [ht] at h
  | some ti =>
   cases hr:placesOf tab (r.map fun f=>(f.offset,f.type)) with
   | none=>simp [ht,hr] at h
   | some qs =>
    simp only [ht,hr,Option.some.injEq] at h
    subst h
    obtain⟨⟨i,z,h1,h2,_⟩,_⟩:=hT _ _ ht
    have ih:=places_mapM hT hr
    simp only [List.mapM_cons,h1,Option.map_some,ih]
    simp [h2]
theorem cert_build{P:Program}{tab:Tab}(hT:TabOK P tab){o:Oper}{σ:St}{t:TypeId}{parts:Array (Nat×Operand)}{ti:TInfo}{fs:List (Nat×TypeId)}{places:List (Nat×Nat)}{ps:List (Nat×AVal)}{cs:List AVal}
  (ho:o.op=.build t parts) (hd:∀d,o.dst=some d→d<σ.n) (ht:tab t=some ti) (hdesc:ti.desc=.struct fs) (hpl:placesOf tab fs=some places) (hev:σ.evParts parts.toList=some ps) (hfl:∀p∈ps,p.2.flat)
  (hcs:fillA (fun i=>places[i]?) ti.zero ps=some cs):Cert P o σ (.agg cs) .pure :=
 Cert.ofQuiet .pure (.inl rfl) hd fun a g _ h _=>by
  have hrel:=evParts_rel (a:=a) (g:=g) (fun x hx y hy=>h x (by simpa [ho,Op.operands] using hx) y hy) hev hfl
  obtain⟨⟨i,z,h1,h2,h3,h4,h5,h6,h7,h8,h9⟩,d,h10,h11⟩:=hT t ti ht
  rw [hdesc] at h11
  obtain⟨fields,e1,e2⟩:=h11
  subst e1
  obtain⟨arr',q1,q2,q3⟩:=fill_spec (fun i=>places[i]?) hrel (cs:=ti.zero) (arr:=z.cells) ⟨h5,h8 g⟩ hcs
  have hp:=places_mapM hT (fields:=fields.toList) (ps:=places) (by rw [e2];exact hpl)
  have hb:P.built t (parts.map fun(i,x)=>(i,a.eval x)).toList=some arr':=by
   unfold Program.built
   simp only [h1,h10,h4,hp]
   rw [Array.toList_map]
   simpa using q1
  have hrun:=run_build g.w t _ arr' hb
  exact⟨.agg arr',by simp [execOp,ho,hrun],q2.agg (q3 h9)⟩
theorem RV.newRow{g:G}(hg:Good g){xs:List AVal}{sz:Nat}{arr:Array Value}{t:TypeId}(hsz:∀x∈xs,x.cells.length=sz)(hsc:∀x∈xs,∀c∈x.cells,c.scalar)(hmax:xs.length≤2 ^ 62)
  (hr:RVs g (cellsAll xs) arr):RV (g.push (.cells arr t)) (.lst sz xs .ex) (.slice (some ⟨g.w.heap.size,0,none⟩) xs.length xs.length):=by
 have hle:=Le.push g hg (.cells arr t)
 have hg':=hg.push (.cells arr t)
 refine .lst hsz hsc (Nat.le_refl _) hmax (fun _=>rfl) (fun j=>arr.getD j undef) (fun j c hj=>?_) (fun j c hj=>?_) rfl
 ·have hlt:=lt_of_getElem? hj
  rw [←hr.1] at hlt
  refine⟨?_,?_⟩
  ·simp only [G.cell,G.push,Nat.zero_add]
   rw [cell_of_row (heap_push_new _ _)]
   simp [Array.getD_eq_getD_getElem?,hlt]
  rintro(hf | ⟨id,l,o,h1,h2,h3,h4,_⟩)
  ·have hf':g.fr g.w.heap.size (0+j):=hf
   have:=hg.frlt _ _ hf'
   omega
  have:=hg.loc id l o h1 h2 h3
  have h4':l.block=g.w.heap.size:=h4
  omega
 have hlt:=lt_of_getElem? hj
 rw [←hr.1] at hlt
 exact(hr.2 j c _ hj (by simp [Array.getD_eq_getD_getElem?,hlt])).mono hle
theorem fillA_seq{sz:Nat}:∀(ys:List AVal) (k:Nat) (cs cs':List AVal),fillA (fun i=>some (i * sz,sz)) cs ((ys.zipIdx k).map fun p=>(p.2,p.1))=some cs'→(k+ys.length) * sz≤cs.length →
  cs'=cs.take (k * sz)++(cellsAll ys++cs.drop ((k+ys.length) * sz))∧∀y∈ys,y.cells.length=sz
 | [],k,cs,cs',h,hl=>by
  simp only [List.zipIdx_nil,List.map_nil,fillA,Option.some.injEq] at h
  subst h
  simp [cellsAll]
 | y::ys,k,cs,cs',h,hl=>by
  simp only [List.zipIdx_cons,List.map_cons,fillA] at h
  split at h
  ·rename_i hc
   obtain⟨hc1,hc2⟩:=hc
   have hl':(k+1+ys.length) * sz≤(splice cs (k * sz) y.cells).length:=by
    rw [splice_length (by omega)]
    simp only [List.length_cons] at hl
    rw [show k+1+ys.length=k+(ys.length+1) by omega]
    exact hl
   obtain⟨e1,e2⟩:=fillA_seq ys (k+1) _ cs' h hl'
   refine⟨?_,fun z hz=>?_⟩
   ·rw [e1]
    apply List.ext_getElem?
    intro j
    simp only [List.length_cons] at hl ⊢
    have hk1:(k+1) * sz=k * sz+sz:=Nat.succ_mul k sz
    have hsp:(splice cs (k * sz) y.cells).take ((k+1) * sz)=cs.take (k * sz)++y.cells:=by
     simp only [splice]
     rw [hk1,List.take_append]
     have hlen:(cs.take (k * sz)).length=k * sz:=by simp;omega
     have ht1:(cs.take (k * sz)).take (k * sz+sz)=cs.take (k * sz):=List.take_of_length_le (by omega)
     rw [hlen,ht1,show k * sz+sz - k * sz=sz by omega,List.take_append,List.take_of_length_le (Nat.le_of_eq hc1),hc1,Nat.sub_self]
     simp
    have hdr:(splice cs (k * sz) y.cells).drop ((k+1+ys.length) * sz)=cs.drop ((k+(ys.length+1)) * sz):=by
     simp only [splice]
     have hlen:(cs.take (k * sz)).length=k * sz:=by simp;omega
     have hmul:(k+1+ys.length) * sz=k * sz+sz+ys.length * sz:=by rw [Nat.add_mul,hk1]
     have hmul':(k+(ys.length+1)) * sz=k * sz+sz+ys.length * sz:=by rw [Nat.add_mul,Nat.succ_mul];omega
     have hd1:(cs.take (k * sz)).drop (k * sz+sz+ys.length * sz)=[]:=List.drop_of_length_le (by rw [hlen];omega)
     have hd2:y.cells.drop (k * sz+sz+ys.length * sz - k * sz)=[]:=List.drop_of_length_le (by omega)
     rw [hmul,hmul',List.drop_append,hd1,hlen,List.nil_append,List.drop_append,hd2,List.nil_append,List.drop_drop,hc1]
     congr 1
     omega
    rw [hsp,hdr]
    simp [cellsAll,List.append_assoc]
   rcases List.mem_cons.1 hz with hz | hz
   ·subst hz
    exact hc1
   exact e2 z hz
  cases h
def seqParts:Nat→List (Nat×AVal)→Option (List AVal)
 | _,[]=>some []
 | k,(i,x)::r =>
  if i=k then
   match seqParts (k+1) r with
   | some xs=>some (x::xs)
   | none=>none
  else none
theorem seqParts_eq:∀{ps:List (Nat×AVal)} {k:Nat} {xs:List AVal},seqParts k ps=some xs→ps=(xs.zipIdx k).map fun p=>(p.2,p.1)
 | [],k,xs,h=>by
  simp only [seqParts,Option.some.injEq] at h
  subst h
  rfl
 | (i,x)::r,k,xs,h=>by
  simp only [seqParts] at h
  split at h
  ·rename_i hi
   subst hi
   cases hr:seqParts (i+1) r with
   | none=>simp [hr] at h
   | some ys =>
    simp only [hr,Option.some.injEq] at h
    subst h
    simp [seqParts_eq hr]
  cases h
theorem AVal.cells_share(x:AVal):x.share.cells=x.cells.map AVal.shareCell:=by
 cases x<;>rfl
theorem RVs.map_share{g:G}{cs:List AVal}{arr:Array Value}(h:RVs g cs arr):RVs g (cs.map AVal.shareCell) arr :=
 ⟨by simpa using h.1,fun j c u h1 h2=>by
  rw [List.getElem?_map,Option.map_eq_some_iff] at h1
  obtain⟨c',h3,h4⟩:=h1
  subst h4
  exact(h.2 j c' u h3 h2).shareCell⟩
theorem cellsAll_share(xs:List AVal):cellsAll (xs.map AVal.share)=(cellsAll xs).map AVal.shareCell:=by
 induction xs with
 | nil=>rfl
 | cons y ys ih =>
  simp only [cellsAll,List.map_cons,List.flatMap_cons,List.map_append,AVal.cells_share] at ih ⊢
  rw [ih]
theorem cert_buildSlice{P:Program}{tab:Tab}(hT:TabOK P tab){o:Oper}{σ:St}{t e:TypeId}{len:Nat}{parts:Array (Nat×Operand)}{ti te:TInfo}{ps:List (Nat×AVal)}{xs:List AVal}
  (ho:o.op=.buildSlice t len parts) (hd:∀d,o.dst=some d→d<σ.n) (ht:tab t=some ti) (hdesc:ti.desc=.slice e) (he:tab e=some te) (hpos:0<te.size) (hev:σ.evParts parts.toList=some ps) (hfl:∀p∈ps,p.2.flat)
  (hseq:seqParts 0 ps=some xs) (hlen:xs.length=len) (hsz:∀x∈xs,x.cells.length=te.size) (hsm:len * te.size≤2 ^ 24):Cert P o σ (.lst te.size (xs.map AVal.share) .ex) .pure :=
 Cert.ofRun hd fun base σ' a g hrel h _=>by
  have hg:=hrel.good
  have hpr:=evParts_rel (a:=a) (g:=g) (fun x hx y hy=>h x (by simpa [ho,Op.operands] using hx) y hy) hev hfl
  have hu:=slice_desc hT ht hdesc
  obtain⟨⟨i,z,h1,h2,h3,h4,h5,h6,h7,h8,h9⟩,_⟩:=hT e te he
  have hps:=seqParts_eq hseq
  have hsc:∀x∈xs,∀c∈x.cells,c.scalar:=by
   have aux:∀{ps:List (Nat×AVal)} {vs:List (Nat×Value)},PRel g ps vs→∀p∈ps,∀c∈p.2.cells,c.scalar:=by
    intro ps vs hr
    induction hr with
    | nil=>intro p hp;cases hp
    | cons hx hf r ih =>
     intro p hp
     rcases List.mem_cons.1 hp with hp | hp
     ·subst hp
      exact hx.cells_scalar hf
     exact ih p hp
   intro x hx c hc
   have hmem:∃k,(k,x)∈ps:=by
    obtain⟨k,hk⟩:=List.getElem?_of_mem hx
    refine⟨0+k,?_⟩
    rw [hps,List.mem_map]
    refine⟨(x,0+k),?_,rfl⟩
    rw [List.mem_iff_getElem?]
    exact⟨k,by simp [hk]⟩
   obtain⟨k,hk⟩:=hmem
   exact aux hpr _ hk c hc
  by_cases hz:len=0
  ·subst hz
   have hxs:xs=[]:=List.length_eq_zero_iff.1 hlen
   subst hxs
   have hps0:ps=[]:=by rw [hps];rfl
   subst hps0
   have hpart:parts.toList=[]:=by
    cases hp:parts.toList with
    | nil=>rfl
    | cons p r =>
     obtain⟨i,x⟩:=p
     rw [hp] at hev
     simp only [St.evParts] at hev
     cases hx:σ.ev x with
     | none=>simp [hx] at hev
     | some y =>
      cases hr:σ.evParts r with
      | none=>simp [hx,hr] at hev
      | some ys=>simp [hx,hr] at hev
   have hpart':parts = #[]:=Array.toList_eq_nil_iff.1 hpart
   subst hpart'
   refine⟨.slice (some ⟨g.w.heap.size,0,none⟩) 0 0,g.push (.cells #[] e),.inl ?_,Le.push g hg _,hg.push _,rfl,?_⟩
   ·have er:Array.range 0 = #[]:=rfl
    simp [execOp,ho,Instr.buildSlice,run_underlying hu,Go.sizeOf,typeInfo,h1,Instr.fill,Go.newRow,G.push,er]
   exact RV.newRow (xs:=[]) hg (by simp) (by simp) (by simp) ⟨by simp [cellsAll],by simp [cellsAll]⟩
  have hne:¬len * i.size=0:=by
   rw [h2]
   intro e0
   rcases Nat.mul_eq_zero.1 e0 with q | q<;>omega
  obtain⟨zs,hzs⟩:∃zs:Array Value,zs=(Array.range (len * i.size)).map (z.cells[· % z.cells.size]!):=⟨_,rfl⟩
  have hzsz:zs.size=len * te.size:=by rw [hzs];simp [h2]
  obtain⟨zc,hzc,hzr,hzl⟩:∃zc:List AVal,(∀c∈zc,c.scalar)∧RVs g zc zs∧zc.length=len * te.size:=by
   refine⟨(List.range (len * te.size)).map fun j=>te.zero.getD (j % te.size) (.v (.bool false)),fun c hc=>?_,⟨by simp [hzsz],fun j c u hj hju=>?_⟩,by simp⟩
   ·rw [List.mem_map] at hc
    obtain⟨j,_,e⟩:=hc
    subst e
    have hlt:j % te.size<te.zero.length:=by rw [h6];exact Nat.mod_lt _ hpos
    rw [List.getD_eq_getElem?_getD,List.getElem?_eq_getElem hlt]
    exact h9 _ (List.getElem_mem hlt)
   have hj':=lt_of_getElem? hj
   simp only [List.length_map,List.length_range] at hj'
   rw [List.getElem?_map,List.getElem?_range hj'] at hj
   simp only [Option.map_some,Option.some.injEq] at hj
   subst hj
   have hlt:j % te.size<te.zero.length:=by rw [h6];exact Nat.mod_lt _ hpos
   have hlt':j % te.size<z.cells.size:=by rw [h5];exact hlt
   rw [hzs] at hju
   simp only [Array.getElem?_map,h2,Array.getElem?_range,if_pos hj',Option.map_some,Option.some.injEq] at hju
   subst hju
   rw [List.getD_eq_getElem?_getD,List.getElem?_eq_getElem hlt]
   refine h8 g (j % te.size) _ _ (List.getElem?_eq_getElem hlt) ?_
   rw [h5,h6]
   simp [hlt']
  have hfill:∃cs',fillA (fun i=>some (i * te.size,te.size)) zc ps=some cs':=by
   have aux:∀(ys:List AVal) (k:Nat) (cs:List AVal),(∀y∈ys,y.cells.length=te.size)→(k+ys.length) * te.size≤cs.length→∃cs',fillA (fun i=>some (i * te.size,te.size)) cs ((ys.zipIdx k).map fun p=>(p.2,p.1))=some cs':=by
    intro ys
    induction ys with
    | nil=>intro k cs _ _;exact⟨cs,rfl⟩
    | cons y ys ih =>
     intro k cs hy hl
     simp only [List.zipIdx_cons,List.map_cons,fillA]
     simp only [List.length_cons] at hl
     have hk1:(k+1) * te.size=k * te.size+te.size:=Nat.succ_mul k te.size
     have hmono:(k+1) * te.size≤(k+(ys.length+1)) * te.size:=Nat.mul_le_mul_right _ (by omega)
     have hc:y.cells.length=te.size∧k * te.size+te.size≤cs.length:=⟨hy y (by simp),by omega⟩
     rw [if_pos hc]
     refine ih (k+1) _ (fun z hz=>hy z (List.mem_cons_of_mem _ hz)) ?_
     rw [splice_length (by omega),show k+1+ys.length=k+(ys.length+1) by omega]
     exact hl
   rw [hps]
   exact aux xs 0 zc hsz (by rw [hzl,hlen,Nat.zero_add];exact Nat.le_refl _)
  obtain⟨cs',hcs'⟩:=hfill
  obtain⟨arr',q1,q2,_⟩:=fill_spec (fun i=>some (i * te.size,te.size)) hpr hzr hcs'
  obtain⟨e1,_⟩:=fillA_seq xs 0 zc cs' (by rw [←hps];exact hcs') (by rw [hzl,hlen,Nat.zero_add];exact Nat.le_refl _)
  have e2:cs'=cellsAll xs:=by
   rw [e1]
   simp only [Nat.zero_mul,List.take_zero,List.nil_append,Nat.zero_add]
   rw [List.drop_of_length_le (by rw [hzl,hlen];omega),List.append_nil]
  subst e2
  have hrun:(Instr.buildSlice t len (parts.map fun(i,x)=>(i,a.eval x))).run P g.w=.ok (.slice (some ⟨g.w.heap.size,0,none⟩) len len) (g.w.alloc (.cells arr' e)):=by
   have hbig:¬len * i.size > 2 ^ 24:=by rw [h2];omega
   rw [hzs,←h2] at q1
   have q1':Instr.fill (fun i_1=>some (i_1 * i.size,i.size)) ((Array.range (len * i.size)).map (z.cells[· % z.cells.size]!)) (parts.map fun(i,x)=>(i,a.eval x)).toList=some arr':=by
    rw [Array.toList_map]
    exact q1
   simp only [Instr.buildSlice,run_underlying hu,Go.sizeOf,typeInfo,Go.zeroValue,Sem.run_bind,run_program,Result.andThen_ok,h1,Sem.run_pure,Go.newRow]
   rw [if_neg hbig,if_neg hne]
   simp only [Sem.run_bind,Sem.run_pure,Result.andThen_ok,run_program,h1,h4,q1',run_newObj]
   rfl
  refine⟨.slice (some ⟨g.w.heap.size,0,none⟩) len len,g.push (.cells arr' e),.inl (by simp [execOp,ho,hrun,G.push]),Le.push g hg _,hg.push _,rfl,?_⟩
  have:=RV.newRow (xs:=xs.map AVal.share) (sz:=te.size) (arr:=arr') (t:=e) hg (fun x hx=>by
   rw [List.mem_map] at hx
   obtain⟨y,h1,h2⟩:=hx
   subst h2
   rw [AVal.cells_share,List.length_map]
   exact hsz y h1) (fun x hx c hc=>by
   rw [List.mem_map] at hx
   obtain⟨y,h1,h2⟩:=hx
   subst h2
   rw [AVal.cells_share,List.mem_map] at hc
   obtain⟨c',h3,h4⟩:=hc
   subst h4
   exact AVal.scalar_shareCell (hsc y h1 c' h3)) (by
    simp only [List.length_map,hlen]
    have:len≤len * te.size:=Nat.le_mul_of_pos_right _ hpos
    omega) (by rw [cellsAll_share];exact q2.map_share)
  rw [List.length_map,hlen] at this
  exact this
end Go.Av
namespace Go.Av
theorem objs_new{g:G}{o:AObj}:(g.objs++[o])[g.objs.length]?=some o:=by simp
theorem env_new{g:G}(hg:Good g){l:Option Loc}:(g.env++[l])[g.objs.length]?=some l:=by
 rw [←hg.len]
 simp
theorem cert_box{P:Program}{o:Oper}{σ:St}{t:TypeId}{x:Operand}{y:AVal}(ho:o.op=.box t x)(hd:∀d,o.dst=some d→d<σ.n)(hx:σ.ev x=some y)(hf:y.flat) :
  Cert P o σ (.mp σ.objs.length 0) (.write (σ.objs++[.cells y.cells])) :=
 Cert.ofRun hd fun base σ' a g hrel h ho'=>by
  have hO:g.objs=σ.objs:=ho'.resolve_left (by simp)
  have hg:=hrel.good
  have hx':=h x (by simp [ho,Op.operands]) _ hx
  have hsc:=hx'.cells_scalar hf
  have hrv:=hx'.cellsV hsc
  have hle:=Le.alloc hg (.cells (a.eval x).cells t) 0 (.cells y.cells)
  refine⟨.pointer (some ⟨g.w.heap.size,0,none⟩),g.alloc (.cells (a.eval x).cells t) 0 (.cells y.cells),.inl ?_,hle,Good.alloc hg _ 0 _ (.inr rfl) ⟨_,t,rfl,by rw [hrv.1];exact Nat.le_refl _,(hrv.mono hle).2,hsc⟩,?_,?_⟩
  ·simp [execOp,ho,Instr.box,Go.newVar,Go.newRow,G.alloc]
  ·simp [G.alloc,hO,Mode.post]
  rw [←hO]
  exact .mp (l:=⟨g.w.heap.size,0,_⟩) (env_new hg) objs_new (by simp [AObj.isSpare])
theorem cert_alloc{P:Program}{tab:Tab}(hT:TabOK P tab){o:Oper}{σ:St}{t:TypeId}{ti:TInfo}(ho:o.op=.alloc t)(hd:∀d,o.dst=some d→d<σ.n)(ht:tab t=some ti) :
  Cert P o σ (.mp σ.objs.length 0) (.write (σ.objs++[.cells ti.zero])) :=
 Cert.ofRun hd fun base σ' a g hrel h ho'=>by
  have hO:g.objs=σ.objs:=ho'.resolve_left (by simp)
  have hg:=hrel.good
  obtain⟨z,hz,h5,_,_,h8,h9⟩:=(hT t ti ht).zeroValue
  have hle:=Le.alloc hg (.cells z.cells t) 0 (.cells ti.zero)
  refine⟨.pointer (some ⟨g.w.heap.size,0,none⟩),g.alloc (.cells z.cells t) 0 (.cells ti.zero),.inl ?_,hle,Good.alloc hg _ 0 _ (.inr rfl) ⟨_,t,rfl,by rw [h5];exact Nat.le_refl _,fun j c u a b=>h8 _ j c u a b,h9⟩,?_,?_⟩
  ·simp [execOp,ho,Instr.alloc,hz,Go.newVar,Go.newRow,G.alloc]
  ·simp [G.alloc,hO,Mode.post]
  rw [←hO]
  exact .mp (l:=⟨g.w.heap.size,0,_⟩) (env_new hg) objs_new (by simp [AObj.isSpare])
theorem cert_makeMap{P:Program}{o:Oper}{σ:St}{t:TypeId}(kt:KT)(ho:o.op=.makeMap t none)(hd:∀d,o.dst=some d→d<σ.n) :
  Cert P o σ (.mm σ.objs.length) (.write (σ.objs++[.map kt []])) :=
 Cert.ofRun hd fun base σ' a g hrel h ho'=>by
  have hO:g.objs=σ.objs:=ho'.resolve_left (by simp)
  have hg:=hrel.good
  have hle:=Le.alloc hg (.map #[] 0) 0 (.map kt [])
  refine⟨.map (some g.w.heap.size),g.alloc (.map #[] 0) 0 (.map kt []),.inl ?_,hle,Good.alloc hg _ 0 _ (.inr rfl) ⟨#[],0,rfl,rfl,by simp,by simp⟩,?_,?_⟩
  ·simp [execOp,ho,Instr.makeMap,G.alloc]
  ·simp [G.alloc,hO,Mode.post]
  rw [←hO]
  exact .mm (l:=⟨g.w.heap.size,0,_⟩) (env_new hg) objs_new (by simp [AObj.isSpare])
theorem rep_get(z:List AVal)(hz:0<z.length):∀(m j:Nat) (c:AVal),(List.replicate m z).flatten[j]?=some c→z[j % z.length]?=some c
 | 0,j,c=>by simp
 | m+1,j,c=>by
  intro hj
  rw [List.replicate_succ,List.flatten_cons,List.getElem?_append] at hj
  split at hj
  ·rename_i hlt
   rw [Nat.mod_eq_of_lt hlt]
   exact hj
  rename_i hge
  have:=rep_get z hz m _ c hj
  rw [Nat.mod_eq_sub_mod (by omega)]
  exact this
theorem cert_makeSlice{P:Program}{tab:Tab}(hT:TabOK P tab){o:Oper}{σ:St}{t e:TypeId}{x y:Operand}{ti te:TInfo}{k k':IntKind}{n:Int}
  (ho:o.op=.makeSlice t x y) (hd:∀d,o.dst=some d→d<σ.n) (ht:tab t=some ti) (hdesc:ti.desc=.slice e) (he:tab e=some te) (hx:σ.ev x=some (.v (.int k n))) (hy:σ.ev y=some (.v (.int k' n)))
  (h0:0≤n) (hb:te.bytes * n.toNat≤2 ^ 48) (h62:n.toNat≤2 ^ 62) (hs:0<te.size) :
  Cert P o σ (.ms σ.objs.length 0 n.toNat n.toNat) (.write (σ.objs++[.cells (List.replicate n.toNat te.zero).flatten])) :=
 Cert.ofRun hd fun base σ' a g hrel h ho'=>by
  have hO:g.objs=σ.objs:=ho'.resolve_left (by simp)
  have hg:=hrel.good
  have ex:=(h x (by simp [ho,Op.operands]) _ hx).v_inv.1
  have ey:=(h y (by simp [ho,Op.operands]) _ hy).v_inv.1
  have hu:=slice_desc hT ht hdesc
  obtain⟨⟨i,z,h1,h2,h3,h4,h5,h6,h7,h8,h9⟩,_⟩:=hT e te he
  obtain⟨m,rfl⟩:=Int.eq_ofNat_of_zero_le h0
  simp only [Int.toNat_natCast] at *
  have hb':(i.bytes:Int) * (m:Int)≤281474976710656:=by
   rw [h3,←Int.natCast_mul]
   omega
  have hrun:=run_make (P:=P) g.w t e i z hu h1 h4 k k' m m (by omega) (Int.le_refl _) hb' (by omega)
  simp only [Int.toNat_natCast] at hrun
  have hlen:(List.replicate m te.zero).flatten.length=m * te.size:=by simp [h6]
  have hget:∀(j:Nat) (c:AVal),(List.replicate m te.zero).flatten[j]?=some c→te.zero[j % te.size]?=some c:=fun j c=>h6 ▸ rep_get te.zero (by omega) m j c
  have hle:=Le.alloc hg (.cells (madeCells z.cells (m * i.size)) e) 0 (.cells (List.replicate m te.zero).flatten)
  refine⟨.slice (some ⟨g.w.heap.size,0,none⟩) m m,g.alloc (.cells (madeCells z.cells (m * i.size)) e) 0 (.cells (List.replicate m te.zero).flatten),.inl ?_,hle,Good.alloc hg _ 0 _ (.inr rfl) ⟨_,e,rfl,?_,?_,?_⟩,?_,?_⟩
  ·simp [execOp,ho,ex,ey,hrun,G.alloc]
  ·rw [hlen,size_madeCells,h2]
   exact Nat.le_refl _
  ·intro j c u hj hu'
   have hj':=hget j c hj
   have hlt:=lt_of_getElem? hj
   rw [hlen] at hlt
   have hlt':j % te.size<z.cells.size:=by rw [h5];exact lt_of_getElem? hj'
   refine h8 _ _ _ _ hj' ?_
   simp only [madeCells,Array.getElem?_map,h2,Array.getElem?_range,if_pos hlt,Option.map_some,Option.some.injEq] at hu'
   subst hu'
   rw [h5,h6]
   simp [hlt']
  ·intro c hc
   rw [List.mem_flatten] at hc
   obtain⟨l,hl,hc⟩:=hc
   rw [List.mem_replicate] at hl
   exact h9 c (hl.2 ▸ hc)
  ·simp [G.alloc,hO,Mode.post]
  rw [←hO]
  exact .ms (l:=⟨g.w.heap.size,0,_⟩) (env_new hg) objs_new (by simp [AObj.isSpare]) (Nat.le_refl _) (Nat.le_refl _) h62
theorem RVs.splice{g:G}{cs xs:List AVal}{arr vs:Array Value}(h:cs.length≤arr.size∧∀(j:Nat)(c:AVal)(u:Value),cs[j]?=some c→arr[j]?=some u→RV g c u)(k:RVs g xs vs){off:Nat}(ho:off+xs.length≤cs.length) :
  (splice cs off xs).length≤(arr.toList.take off++vs.toList++arr.toList.drop (off+vs.toList.length)).toArray.size ∧
  ∀(j:Nat) (c:AVal) (u:Value),(splice cs off xs)[j]?=some c→(arr.toList.take off++vs.toList++arr.toList.drop (off+vs.toList.length)).toArray[j]?=some u→RV g c u:=by
 obtain⟨h1,h2⟩:=h
 obtain⟨k1,k2⟩:=k
 have hl:(arr.toList.take off).length=off:=by simp;omega
 refine⟨?_,fun j c u hj hu=>?_⟩
 ·rw [splice_length ho]
  simp [k1]
  omega
 rw [splice_get ho] at hj
 have hu':(arr.toList.take off++vs.toList++arr.toList.drop (off+vs.toList.length))[j]?=some u:=by simpa using hu
 rw [List.append_assoc,List.getElem?_append,hl,List.getElem?_append,Array.length_toList,k1] at hu'
 by_cases e1:j<off
 ·rw [if_pos e1] at hu'
  rw [if_neg (by omega)] at hj
  rw [List.getElem?_take,if_pos e1] at hu'
  exact h2 j c u hj (by simpa using hu')
 rw [if_neg e1] at hu'
 by_cases e2:j - off<xs.length
 ·rw [if_pos e2] at hu'
  rw [if_pos (by omega)] at hj
  exact k2 _ c u hj (by simpa using hu')
 rw [if_neg e2] at hu'
 rw [if_neg (by omega)] at hj
 rw [List.getElem?_drop] at hu'
 refine h2 j c u hj ?_
 rw [show off+xs.length+(j - off - xs.length)=j by omega] at hu'
 simpa using hu'
theorem setRow_other(w:World)(b k:Nat)(cs:Array Value)(h:k≠b):(w.setRow b cs).heap[k]?=w.heap[k]?:=by
 simp only [World.setRow,Array.getElem?_modify]
 rw [if_neg (by omega)]
theorem setRow_size(w:World)(b:Nat)(cs:Array Value):(w.setRow b cs).heap.size=w.heap.size:=by
 simp [World.setRow]
theorem turns_cells{g:G}{id:Nat}{cs cs':List AVal}{l:Loc}(ho:g.objs[id]?=some (.cells cs))(he:g.env[id]?=some (some l))(hlo:l.lo=0)(arr':Array Value):Turns g id (.cells cs) (some l) (.cells cs') (g.w.setRow l.block arr') where
 obj:=ho
 os:=rfl
 tape:=rfl
 output:=rfl
 size:=by rw [setRow_size];exact Nat.le_refl _
 block:=fun k _ hk=>setRow_other _ _ _ _ (fun e=>hk l he trivial e.symm)
 cell:=fun b off x hx hb=>by
  by_cases e:b=l.block
  ·have:=hb l he trivial e.symm
   omega
  rw [cell_congr (setRow_other g.w l.block b arr' e)]
  exact hx
 place:=fun l1 h1 _=>by
  simp only [Option.some.injEq] at h1
  subst h1
  exact .inr ⟨l,he,trivial,rfl,Nat.le_refl _⟩
 spare:=fun m h=>by cases h
 plain:=fun _=>⟨by simp [AObj.isSpare],he⟩
 gone:=by simp
theorem cert_store{P:Program}{tab:Tab}(hT:TabOK P tab){o:Oper}{σ:St}{t:TypeId}{x y:Operand}{ti:TInfo}{id off:Nat}{cs:List AVal}{v:AVal}(ho:o.op=.store t x y)(hdst:o.dst=none)
  (ht:tab t=some ti) (hx:σ.ev x=some (.mp id off)) (hob:σ.objs[id]?=some (.cells cs)) (hy:σ.ev y=some v) (hf:v.flat) (hsz:v.cells.length=ti.size) (hs:off+ti.size≤cs.length) :
  Cert P o σ (.v (.bool false)) (.write (σ.objs.set id (.cells (splice cs off v.cells)))) :=
 Cert.ofRun (by simp [hdst]) fun base σ' a g hrel h ho'=>by
  have hO:g.objs=σ.objs:=ho'.resolve_left (by simp)
  have hg:=hrel.good
  obtain⟨l,o1,he,h1,_,ex⟩:=(h x (by simp [ho,Op.operands]) _ hx).mp_inv
  have hy':=h y (by simp [ho,Op.operands]) _ hy
  have hsc:=hy'.cells_scalar hf
  have hrv:=hy'.cellsV hsc
  have hob':g.objs[id]?=some (.cells cs):=by rw [hO];exact hob
  obtain⟨arr,t',hlo,hrow,hlen,hcs,hcsc,hlsz⟩:=hg.row hob' he
  obtain⟨arr',harr'⟩:∃arr',arr'=(arr.toList.take off++(a.eval y).cells.toList++arr.toList.drop (off+(a.eval y).cells.toList.length)).toArray:=⟨_,rfl⟩
  have hst:=run_storeCells_at P l.block off t' (a.eval y).cells.toList 0 arr g.w hrow (by simp [hrv.1];omega) (fun u hu=>by
   obtain⟨j,hj⟩:=List.getElem?_of_mem hu
   have hj':(a.eval y).cells[j]?=some u:=by simpa using hj
   have hlt:=lt_of_getElem?' hj'
   rw [hrv.1] at hlt
   have hc:=List.getElem?_eq_getElem hlt
   exact((hrv.2 j _ u hc hj').scalar_cell (hsc _ (List.mem_of_getElem? hc))).1)
  simp only [Nat.add_zero] at hst
  rw [←harr'] at hst
  have hturn:=turns_cells (cs':=splice cs off v.cells) hob' he hlo arr'
  have hle:=Le.turn hg hturn
  have hsp:=RVs.splice ⟨hlen,hcs⟩ hrv (off:=off) (by omega)
  rw [←harr'] at hsp
  refine⟨.bool false,g.turn id (some l) (.cells (splice cs off v.cells)) (g.w.setRow l.block arr'),.inr ⟨hdst,?_⟩,hle,Good.turn hg hturn ?_ ?_,?_,.v trivial⟩
  ·have hs':((a.eval y).cells.size≠ti.size)=False:=by simp [hrv.1,hsz]
   simp [execOp,ho,ex,Instr.storeAt,Instr.sureAddr,Go.storeVar,(hT t ti ht).sizeOf,hrv.1,hsz,hst,G.turn]
  ·refine⟨l,arr',t',rfl,hlo,?_,hsp.1,fun j c u a b=>(hsp.2 j c u a b).mono hle,fun c hc=>?_,?_⟩
   ·exact setRow_heap g.w l.block arr arr' t' (0,0) hrow
   ·simp only [splice,List.mem_append] at hc
    rcases hc with hc | hc | hc
    ·exact hcsc c (List.mem_of_mem_take hc)
    ·exact hsc c hc
    exact hcsc c (List.mem_of_mem_drop hc)
   have q:=hrv.1
   rw [harr']
   simp only [List.size_toArray,List.length_append,List.length_take,List.length_drop,Array.length_toList]
   omega
  ·intro l1 h1 _
   simp only [Option.some.injEq] at h1
   subst h1
   rw [setRow_size]
   exact lt_of_getElem?' hrow
  simp only [G.turn,Mode.post,hO]
section
variable {P:Program}
theorem run_append_in(w w':World)(t ty e:TypeId)(i:TypeInfo)(ht:P.underlying t=some (.slice e))(hi:P.info? e=some i)(a:Addr)(sLen sCap n:Nat)(x:Value)(news:List Value)
  (hx1:∀w,(Builtin.lenOf x).run P w=.ok n w) (hx2:(Builtin.firstCells i.size n x).run P w=.ok news.toArray w) (hroom:sLen+n≤sCap) (hst:(storeCells (a.add (sLen * i.size)) news).run P w=.ok () w') :
  (Builtin.append_ #[t,t] ty #[.slice (some a) sLen sCap,x]).run P w=.ok (.slice (some a) (sLen+n) sCap) w':=by
 simp [Builtin.append_,run_underlying ht,Go.sizeOf,typeInfo,hi,hx1,hroom,hx2,hst]
theorem run_append_new(w:World)(t ty e:TypeId)(i:TypeInfo)(z:Value)(ht:P.underlying t=some (.slice e))(hi:P.info? e=some i)(hz:i.zero=some z)(s:Option Addr)(sLen sCap n:Nat)(x:Value)(olds news:List Value)
  (hx1:∀w,(Builtin.lenOf x).run P w=.ok n w) (hx2:(Builtin.firstCells i.size n x).run P w.drew=.ok news.toArray w.drew) (hs:(Builtin.firstCells i.size sLen (.slice s sLen sCap)).run P w.drew=.ok olds.toArray w.drew)
  (hroom:sCap<sLen+n) (h63:sLen+n≤2 ^ 62) (hfit:(sLen+n) * i.bytes≤2 ^ 47) :
  (Builtin.append_ #[t,t] ty #[.slice s sLen sCap,x]).run P w =
   .ok (.slice (some ⟨w.heap.size,0,none⟩) (sLen+n) (grownCap w (sLen+n) sCap e)) (w.drew.alloc (.cells (olds.toArray++news.toArray++Builtin.zeroCells z.cells (grownCap w (sLen+n) sCap e - (sLen+n))) e)):=by
 have hn:¬(sLen+n≤sCap):=by omega
 have h63':¬(9223372036854775807<((sLen:Int)+(n:Int))):=by omega
 have h48:¬(281474976710656<Builtin.nextslicecap (sLen+n) sCap * i.bytes):=by
  have h1:=nextslicecap_le hroom
  have h2:=Nat.mul_le_mul_right i.bytes h1
  rw [Nat.mul_assoc] at h2
  omega
 simp [Builtin.append_,run_underlying ht,Go.sizeOf,typeInfo,Go.zeroValue,hi,hz,hx1,hn,h63',h48,Question.forced,hx2,hs,Go.newRow,grownCap]
 congr 2
 apply Array.ext'
 simp [List.append_assoc]
end
theorem RV.lst_read{P:Program}{g:G}{sz:Nat}{xs:List AVal}{o:Own}{u:Value}(h:RV g (.lst sz xs o) u):∃(ad:Option Addr) (cap:Nat) (vs:List Value),u=.slice ad xs.length cap∧(∀w,(Builtin.lenOf u).run P w=.ok xs.length w) ∧
  (∀w:World,w.heap=g.w.heap→(Builtin.firstCells sz xs.length u).run P w=.ok vs.toArray w)∧RVs g (cellsAll xs) vs.toArray∧(∀x∈xs,x.cells.length=sz)∧(∀c∈cellsAll xs,c.scalar)∧vs.length=xs.length * sz:=by
 rcases h.lst_inv with⟨e1,e2⟩ | ⟨a,cap,f,e1,hsz,hsc,_,_,hs,hm,hr,_⟩
 ·subst e1 e2
  exact⟨none,0,[],rfl,fun w=>rfl,fun w _=>by simp [Builtin.firstCells],⟨by simp [cellsAll],by simp [cellsAll]⟩,by simp,by simp [cellsAll],by simp⟩
 subst e1
 have hl:=cellsAll_length hsz
 refine⟨some a,cap,(List.range (xs.length * sz)).map f,rfl,fun w=>rfl,fun w hw=>?_,⟨by simp [hl],fun j c u hj hu=>?_⟩,hsz,fun c hc=>?_,by simp⟩
 ·simp only [Builtin.firstCells]
  refine run_loadCells w a (xs.length * sz) f fun j hj=>?_
  have hj':j<(cellsAll xs).length:=by omega
  have hne:xs≠[]:=by
   intro e
   subst e
   simp [cellsAll] at hj'
  have:=(hm j _ (List.getElem?_eq_getElem hj')).1
  obtain⟨b,off,sp⟩:=a
  have hsp:=hs hne
  simp only at hsp
  subst hsp
  rw [addr_add]
  simp only [World.cell?,hw]
  exact this
 ·have hlt:=lt_of_getElem? hj
  rw [hl] at hlt
  have hu':((List.range (xs.length * sz)).map f)[j]?=some u:=by simpa using hu
  rw [List.getElem?_map,List.getElem?_range hlt] at hu'
  simp only [Option.map_some,Option.some.injEq] at hu'
  subst hu'
  exact hr j c hj
 simp only [cellsAll,List.mem_flatMap] at hc
 obtain⟨x,hx,hc⟩:=hc
 exact hsc x hx c hc
theorem cellsAll_append(xs ys:List AVal):cellsAll (xs++ys)=cellsAll xs++cellsAll ys:=by simp [cellsAll]
theorem RVs.append{g:G}{cs ds:List AVal}{us vs:List Value}(h:RVs g cs us.toArray)(k:RVs g ds vs.toArray):RVs g (cs++ds) (us++vs).toArray:=by
 obtain⟨h1,h2⟩:=h
 obtain⟨k1,k2⟩:=k
 simp only [List.size_toArray] at h1 k1
 refine⟨by simp [h1,k1],fun j c u hj hu=>?_⟩
 have hu':(us++vs)[j]?=some u:=by simpa using hu
 rw [List.getElem?_append] at hj hu'
 by_cases e:j<cs.length
 ·rw [if_pos e] at hj
  rw [if_pos (by omega)] at hu'
  exact h2 j c u hj (by simpa using hu')
 rw [if_neg e] at hj
 rw [if_neg (by omega),h1] at hu'
 exact k2 _ c u hj (by simpa using hu')
theorem RV.rowList{g:G}{zs:List AVal}{sz cap:Nat}{l:Loc}{arr:Array Value}{t:TypeId}{id:Nat}(hg:Good g)(hsz:∀x∈zs,x.cells.length=sz)(hsc:∀c∈cellsAll zs,c.scalar)(hmax:zs.length≤2 ^ 62)(hcap:zs.length≤cap)
  (he:g.env[id]?=some (some l)) (hid:g.objs[id]?=some (.spare zs.length)) (hlo:l.lo=zs.length * sz) (hrow:g.w.heap[l.block]?=some (.cells arr t (0,0))) (hc:cap * sz≤arr.size) (hfr:∀off,¬g.fr l.block off)
  (hr:∀(j:Nat) (c:AVal) (u:Value),(cellsAll zs)[j]?=some c→arr[j]?=some u→RV g c u):RV g (.lst sz zs (.tok id)) (.slice (some ⟨l.block,0,none⟩) zs.length cap):=by
 have hl:=cellsAll_length hsz
 have hle:zs.length * sz≤cap * sz:=Nat.mul_le_mul_right _ hcap
 refine .lst hsz (fun x hx c hc=>hsc c (by simp only [cellsAll,List.mem_flatMap];exact⟨x,hx,hc⟩)) hcap hmax (fun _=>rfl) (fun j=>arr.getD j undef) (fun j c hj=>?_) (fun j c hj=>?_) ⟨lt_of_getElem? hid,fun m hm=>?_⟩
 ·have hlt:=lt_of_getElem? hj
  rw [hl] at hlt
  refine⟨?_,?_⟩
  ·simp only [G.cell,Nat.zero_add]
   rw [cell_of_row hrow]
   simp [Array.getD_eq_getD_getElem?,show j<arr.size by omega]
  rintro(hf | ⟨id',l',o',h1,h2,h3,h4,h5⟩)
  ·exact hfr _ hf
  have hb:l'.block=l.block:=h4
  have:=hg.apart id' id l' l o' _ h1 h2 h3 he hid trivial hb
  subst this
  rw [he] at h1
  simp only [Option.some.injEq] at h1
  subst h1
  simp only [Nat.zero_add] at h5
  omega
 ·have hlt:=lt_of_getElem? hj
  rw [hl] at hlt
  exact hr j c _ hj (by simp [Array.getD_eq_getD_getElem?,show j<arr.size by omega])
 rw [hid] at hm
 simp only [Option.some.injEq,AObj.spare.injEq] at hm
 subst hm
 exact⟨Nat.le_refl _,fun _=>.inr ⟨l,arr,t,he,rfl,hlo,hrow,hc⟩⟩
theorem RVs.share_list{g:G}{ys:List AVal}{vs:List Value}(h:RVs g (cellsAll ys) vs.toArray):RVs g (cellsAll (ys.map AVal.share)) vs.toArray:=by
 rw [cellsAll_share]
 exact h.map_share
theorem map_share_size{ys:List AVal}{sz:Nat}(h:∀x∈ys,x.cells.length=sz):∀x∈ys.map AVal.share,x.cells.length=sz:=fun x hx=>by
 rw [List.mem_map] at hx
 obtain⟨y,h1,h2⟩:=hx
 subst h2
 rw [AVal.cells_share,List.length_map]
 exact h y h1
theorem map_share_scalar{ys:List AVal}(h:∀c∈cellsAll ys,c.scalar):∀c∈cellsAll (ys.map AVal.share),c.scalar:=fun c hc=>by
 rw [cellsAll_share,List.mem_map] at hc
 obtain⟨c',h1,h2⟩:=hc
 subst h2
 exact AVal.scalar_shareCell (h c' h1)
theorem append_cells_get{olds news rest:Array Value}{j:Nat}{u:Value}(h:(olds++news++rest)[j]?=some u)(hj:j<olds.size+news.size):(olds++news)[j]?=some u:=by
 rw [Array.getElem?_append] at h
 rw [if_pos (by simpa using hj)] at h
 exact h
theorem cert_append_ex{P:Program}{tab:Tab}(hT:TabOK P tab){o:Oper}{σ:St}{t e:TypeId}{x y:Operand}{ti te:TInfo}{sz:Nat}{xs ys:List AVal}{ow:Own}
  (ho:o.op=.call ⟨.builtin .append,#[x,y],#[t,t]⟩) (hd:∀d,o.dst=some d→d<σ.n) (ht:tab t=some ti) (hdesc:ti.desc=.slice e) (he:tab e=some te) (hsz:te.size=sz) (hx:σ.ev x=some (.lst sz xs .ex)) (hy:σ.ev y=some (.lst sz ys ow))
  (hlen:xs.length+ys.length≤2 ^ 62) (hb:(xs.length+ys.length) * te.bytes≤2 ^ 47) :
  Cert P o σ (.lst sz (xs++ys.map AVal.share) (.tok σ.objs.length)) (.write (σ.objs++[.spare (xs.length+ys.length)])) :=
 Cert.ofRun hd fun base σ' a g hrel h ho'=>by
  have hO:g.objs=σ.objs:=ho'.resolve_left (by simp)
  have hg:=hrel.good
  have hu:=slice_desc hT ht hdesc
  subst hsz
  have hx':=h x (by simp [ho,Op.operands,Call.operands]) _ hx
  have hy':=h y (by simp [ho,Op.operands,Call.operands]) _ hy
  obtain⟨adx,capx,olds,ex,hx1,hx2,hx3,hx4,hx5,hx6⟩:=hx'.lst_read (P:=P)
  obtain⟨ady,capy,news,ey,hy1,hy2,hy3,hy4,hy5,hy6⟩:=hy'.lst_read (P:=P)
  obtain⟨⟨i,z,h1,h2,h3,h4,h5,h6,h7,h8,h9⟩,_⟩:=hT e te he
  have hcapx:capx=xs.length:=by
   rcases hx'.lst_inv with⟨q1,q2⟩ | ⟨ad,cap,f,q1,_,_,_,_,_,_,_,q2⟩
   ·rw [ex] at q1
    cases q2
    simp at q1
    simp [q1]
   rw [ex] at q1
   simp only [Value.slice.injEq] at q1
   rw [q1.2.2]
   exact q2
  subst hcapx
  have hexec:=run_builtin1 (P:=P) ho a g.w
  simp only [builtin,List.map_toArray,List.map_cons,List.map_nil] at hexec
  by_cases hn:ys.length=0
  ·have hys:ys=[]:=List.length_eq_zero_iff.1 hn
   subst hys
   have hnews:news=[]:=by
    have:news.length=0:=by simpa using hy6
    exact List.length_eq_zero_iff.1 this
   subst hnews
   have hrun:(Builtin.append_ #[t,t] o.type #[a.eval x,a.eval y]).run P g.w=.ok (a.eval x) g.w:=by
    rw [ex]
    cases adx with
    | none =>
     have hx0:xs=[]:=by
      rcases hx'.lst_inv with⟨_,q2⟩ | ⟨ad,cap,f,q1,_⟩
      ·exact q2
      rw [ex] at q1
      simp at q1
     subst hx0
     have q:=hy2 g.w rfl
     simp only [List.length_nil] at q
     simp [Builtin.append_,run_underlying hu,Go.sizeOf,typeInfo,h1,hy1,h2,q]
    | some ad =>
     have:=run_append_in (P:=P) g.w g.w t o.type e i hu h1 ad xs.length xs.length 0 (a.eval y) [] (fun w=>by simpa using hy1 w) (by rw [h2];simpa using hy2 g.w rfl) (by omega) (by simp [storeCells])
     simpa using this
   refine⟨a.eval x,g.mark (.spare (xs.length+0)),.inl (by rw [hexec];simp [hrun,G.mark]),Le.mark hg _,Good.mark hg _,by simp [G.mark,hO,Mode.post],?_⟩
   simp only [List.map_nil,List.append_nil]
   have hxm:=hx'.mono (Le.mark hg (.spare (xs.length+0)))
   cases hu':a.eval x with
   | slice ad len cap =>
    rw [hu'] at hxm
    cases hxm with
    | nil=>exact .nil (fun id e=>by simp only [Own.tok.injEq] at e;subst e;simp [G.mark,hO]) (by simp)
    | lst hsz hsc hcap hmax hs f hm hr how =>
     refine .lst hsz hsc hcap hmax hs f hm hr ⟨by simp [G.mark,hO],fun m hm'=>?_⟩
     have:(g.mark (.spare (xs.length+0))).objs[σ.objs.length]?=some (.spare (xs.length+0)):=by
      rw [←hO]
      exact objs_new
     rw [this] at hm'
     simp only [Option.some.injEq,AObj.spare.injEq] at hm'
     exact⟨by omega,fun _=>.inl how⟩
   | _=>rw [ex] at hu';cases hu'
  have hrun:=run_append_new (P:=P) g.w t o.type e i z hu h1 h4 adx xs.length xs.length ys.length (a.eval y) olds news hy1 (by rw [h2];exact hy2 g.w.drew rfl) (by rw [h2,←ex];exact hx2 g.w.drew rfl) (by omega) hlen (by rw [h3];exact hb)
  rw [←ex] at hrun
  obtain⟨cap,hcap⟩:∃cap,cap=grownCap g.w (xs.length+ys.length) xs.length e:=⟨_,rfl⟩
  obtain⟨rest,hrest⟩:∃rest,rest=Builtin.zeroCells z.cells (cap - (xs.length+ys.length)):=⟨_,rfl⟩
  have hge:=grownCap_ge g.w (xs.length+ys.length) xs.length e
  rw [←hcap] at hrun hge
  rw [←hrest] at hrun
  have hrs:rest.size=(cap - (xs.length+ys.length)) * te.size:=by rw [hrest,size_zeroCells,h5,h6]
  obtain⟨arr,harr⟩:∃arr,arr=olds.toArray++news.toArray++rest:=⟨_,rfl⟩
  rw [←harr] at hrun
  have hgd:=hg.heap (w':=g.w.drew) rfl rfl rfl rfl
  have hled:=Le.heap (g:=g) (w':=g.w.drew) rfl rfl rfl rfl
  obtain⟨g1,hg1⟩:∃g1:G,g1=⟨g.w.drew,g.fr,g.env,g.objs⟩:=⟨_,rfl⟩
  rw [←hg1] at hgd hled
  have hw1:g1.w=g.w.drew:=by rw [hg1]
  have ho1:g1.objs=σ.objs:=by rw [hg1];exact hO
  have hobj:Fits (g1.alloc (.cells arr e) ((xs.length+ys.length) * te.size) (.spare (xs.length+ys.length))) (.cells arr e) (.spare (xs.length+ys.length)):=⟨arr,e,rfl⟩
  have hgood:=Good.alloc hgd (.cells arr e) ((xs.length+ys.length) * te.size) (.spare (xs.length+ys.length)) (.inl trivial) hobj
  have hle:=hled.trans (Le.alloc hgd (.cells arr e) ((xs.length+ys.length) * te.size) (.spare (xs.length+ys.length)))
  refine⟨.slice (some ⟨g.w.heap.size,0,none⟩) (xs.length+ys.length) cap,_,.inl ?_,hle,hgood,?_,?_⟩
  ·rw [hexec]
   simp [hrun,G.alloc,hw1]
  ·simp [G.alloc,ho1,Mode.post]
  have hlen':(xs++ys.map AVal.share).length=xs.length+ys.length:=by simp
  have hcells:=hx3.append hy3.share_list
  rw [←cellsAll_append] at hcells
  have hcl:(cellsAll (xs++ys.map AVal.share)).length=(xs.length+ys.length) * te.size:=by
   rw [cellsAll_length (sz:=te.size) (fun x hx=>by
    rcases List.mem_append.1 hx with q | q
    ·exact hx4 x q
    exact map_share_size hy4 x q),hlen']
  have:=RV.rowList (g:=g1.alloc (.cells arr e) ((xs.length+ys.length) * te.size) (.spare (xs.length+ys.length))) (zs:=xs++ys.map AVal.share) (sz:=te.size) (cap:=cap) (l:=⟨g.w.heap.size,(xs.length+ys.length) * te.size,arr.size⟩) (arr:=arr) (t:=e) (id:=σ.objs.length) hgood
   (fun x hx=>by
    rcases List.mem_append.1 hx with q | q
    ·exact hx4 x q
    exact map_share_size hy4 x q)
   (fun c hc=>by
    rw [cellsAll_append] at hc
    rcases List.mem_append.1 hc with q | q
    ·exact hx5 c q
    exact map_share_scalar hy5 c q)
   (by rw [hlen'];exact hlen) (by rw [hlen'];exact hge) (by
    have:=env_new hgd (l:=some ⟨g1.w.heap.size,(xs.length+ys.length) * te.size,blockSize (.cells arr e)⟩)
    rw [ho1] at this
    simp only [G.alloc]
    rw [this,hw1]
    rfl) (by rw [hlen',←ho1];exact objs_new) (by rw [hlen']) (by
    have:=heap_push_new g1.w (.cells arr e)
    rw [hw1] at this
    simp only [G.alloc,hw1]
    exact this) (by
    rw [harr]
    simp only [Array.size_append,List.size_toArray,hx6,hy6,hrs,←Nat.add_mul]
    rw [show xs.length+ys.length+(cap - (xs.length+ys.length))=cap by omega]
    exact Nat.le_refl _) (fun off hf=>by
    have hf':g.fr g.w.heap.size off:=by rw [hg1] at hf;exact hf
    have:=hg.frlt _ _ hf'
    omega) (fun j c u hj hu=>by
    have hlt:=lt_of_getElem? hj
    rw [hcl] at hlt
    rw [harr] at hu
    have hu2:=append_cells_get hu (by simp only [List.size_toArray,hx6,hy6,←Nat.add_mul];exact hlt)
    exact(hcells.2 j c u hj (by simpa using hu2)).mono hle)
  rw [hlen'] at this
  exact this
theorem cert_append_tok{P:Program}{tab:Tab}(hT:TabOK P tab){o:Oper}{σ:St}{t e:TypeId}{x y:Operand}{ti te:TInfo}{sz:Nat}{xs ys:List AVal}{ow:Own}{id:Nat}
  (ho:o.op=.call ⟨.builtin .append,#[x,y],#[t,t]⟩) (hd:∀d,o.dst=some d→d<σ.n) (ht:tab t=some ti) (hdesc:ti.desc=.slice e) (he:tab e=some te) (hsz:te.size=sz) (hx:σ.ev x=some (.lst sz xs (.tok id))) (hy:σ.ev y=some (.lst sz ys ow))
  (hid:σ.objs[id]?=some (.spare xs.length)) (hlen:xs.length+ys.length≤2 ^ 62) (hb:(xs.length+ys.length) * te.bytes≤2 ^ 47) :
  Cert P o σ (.lst sz (xs++ys.map AVal.share) (.tok id)) (.write (σ.objs.set id (.spare (xs.length+ys.length)))) :=
 Cert.ofRun hd fun base σ' a g hrel h ho'=>by
  have hO:g.objs=σ.objs:=ho'.resolve_left (by simp)
  have hg:=hrel.good
  have hu:=slice_desc hT ht hdesc
  subst hsz
  have hx':=h x (by simp [ho,Op.operands,Call.operands]) _ hx
  have hy':=h y (by simp [ho,Op.operands,Call.operands]) _ hy
  obtain⟨adx,capx,olds,ex,hx1,hx2,hx3,hx4,hx5,hx6⟩:=hx'.lst_read (P:=P)
  obtain⟨ady,capy,news,ey,hy1,hy2,hy3,hy4,hy5,hy6⟩:=hy'.lst_read (P:=P)
  obtain⟨⟨i,z,h1,h2,h3,h4,h5,h6,h7,h8,h9⟩,_⟩:=hT e te he
  have hid':g.objs[id]?=some (.spare xs.length):=by rw [hO];exact hid
  have hexec:=run_builtin1 (P:=P) ho a g.w
  simp only [builtin,List.map_toArray,List.map_cons,List.map_nil] at hexec
  have hset:∀m,m=xs.length→g.objs.set id (.spare m)=g.objs:=fun m hm=>by
   subst hm
   apply List.ext_getElem?
   intro k
   by_cases e:id=k
   ·subst e
    rw [List.getElem?_set_self (lt_of_getElem? hid'),hid']
   rw [List.getElem?_set_ne e]
  have hlen':(xs++ys.map AVal.share).length=xs.length+ys.length:=by simp
  have hzsz:∀x∈xs++ys.map AVal.share,x.cells.length=te.size:=fun x hx=>by
   rcases List.mem_append.1 hx with q | q
   ·exact hx4 x q
   exact map_share_size hy4 x q
  have hzsc:∀c∈cellsAll (xs++ys.map AVal.share),c.scalar:=fun c hc=>by
   rw [cellsAll_append] at hc
   rcases List.mem_append.1 hc with q | q
   ·exact hx5 c q
   exact map_share_scalar hy5 c q
  have hcl:(cellsAll (xs++ys.map AVal.share)).length=(xs.length+ys.length) * te.size:=by
   rw [cellsAll_length hzsz,hlen']
  have hcells:=hx3.append hy3.share_list
  rw [←cellsAll_append] at hcells
  by_cases hn:ys.length=0
  ·have hys:ys=[]:=List.length_eq_zero_iff.1 hn
   subst hys
   have hnews:news=[]:=by
    have:news.length=0:=by simpa using hy6
    exact List.length_eq_zero_iff.1 this
   subst hnews
   have hcap:xs.length≤capx:=by
    rcases hx'.lst_inv with⟨_,q2⟩ | ⟨ad,cap,f,q1,_,_,q2,_⟩
    ·simp [q2]
    rw [ex] at q1
    simp only [Value.slice.injEq] at q1
    rw [q1.2.2]
    exact q2
   have hrun:(Builtin.append_ #[t,t] o.type #[a.eval x,a.eval y]).run P g.w=.ok (a.eval x) g.w:=by
    rw [ex]
    cases adx with
    | none =>
     have hx0:xs=[]∧capx=0:=by
      rcases hx'.lst_inv with⟨q1,q2⟩ | ⟨ad,cap,f,q1,_⟩
      ·rw [ex] at q1
       simp only [Value.slice.injEq] at q1
       exact⟨q2,q1.2.2⟩
      rw [ex] at q1
      simp at q1
     obtain⟨e1,e2⟩:=hx0
     subst e1
     subst e2
     have q:=hy2 g.w rfl
     simp only [List.length_nil] at q
     simp [Builtin.append_,run_underlying hu,Go.sizeOf,typeInfo,h1,hy1,h2,q]
    | some ad =>
     have:=run_append_in (P:=P) g.w g.w t o.type e i hu h1 ad xs.length capx 0 (a.eval y) [] (fun w=>by simpa using hy1 w) (by rw [h2];simpa using hy2 g.w rfl) (by omega) (by simp [storeCells])
     simpa using this
   refine⟨a.eval x,g,.inl (by rw [hexec];simp [hrun]),Le.refl g,hg,?_,?_⟩
   ·simp only [Mode.post,←hO]
    exact(hset _ (by simp)).symm
   simpa using hx'
  have hm:xs.length<xs.length+ys.length:=by omega
  by_cases hroom:xs.length+ys.length≤capx
  ·-- in place
   obtain⟨l,arr,t',q1,q2,q3,q4,q5⟩:∃(l:Loc) (arr:Array Value) (t':TypeId),g.env[id]?=some (some l)∧adx=some ⟨l.block,0,none⟩∧l.lo=xs.length * te.size∧g.w.heap[l.block]?=some (.cells arr t' (0,0))∧capx * te.size≤arr.size:=by
    rcases hx'.lst_inv with⟨q1,q2⟩ | ⟨ad,cap,f,q1,_,_,_,_,_,_,_,q2⟩
    ·rw [ex] at q1
     simp only [Value.slice.injEq] at q1
     omega
    rw [ex] at q1
    simp only [Value.slice.injEq] at q1
    obtain⟨e1,_,e3⟩:=q1
    subst e1
    subst e3
    rcases (q2.2 _ hid').2 rfl with q | ⟨l,arr,t',q1,q2,q3,q4,q5⟩
    ·omega
    exact⟨l,arr,t',q1,by rw [q2],q3,q4,q5⟩
   subst q2
   have hfit:xs.length * te.size+0+news.length≤arr.size:=by
    rw [hy6,Nat.add_zero,←Nat.add_mul]
    exact Nat.le_trans (Nat.mul_le_mul_right _ hroom) q5
   have hone:∀v∈news,v.oneCell'=true:=fun v hv=>by
    obtain⟨j,hj⟩:=List.getElem?_of_mem hv
    have hlt:=lt_of_getElem? hj
    have hs:=hy3.1
    simp only [List.size_toArray] at hs
    rw [hs] at hlt
    have hc:=List.getElem?_eq_getElem hlt
    exact((hy3.2 j _ v hc (by simpa using hj)).scalar_cell (hy5 _ (List.mem_of_getElem? hc))).1
   have hst:=run_storeCells_at P l.block (xs.length * te.size) t' news 0 arr g.w q4 hfit hone
   simp only [Nat.add_zero] at hst
   obtain⟨arr',harr'⟩:∃arr',arr'=(arr.toList.take (xs.length * te.size)++news++arr.toList.drop (xs.length * te.size+news.length)).toArray:=⟨_,rfl⟩
   rw [←harr'] at hst
   have hsz':arr'.size=arr.size:=by
    rw [harr']
    simp
    omega
   have hlow:∀j,j<xs.length * te.size→arr'[j]?=arr[j]?:=fun j hj=>by
    rw [harr']
    simp only [List.append_assoc,List.getElem?_toArray]
    rw [List.getElem?_append,if_pos (by simp;omega),List.getElem?_take,if_pos hj]
    simp
   have hnew:∀j u,arr'[j]?=some u→xs.length * te.size≤j→j<(xs.length+ys.length) * te.size→news[j - xs.length * te.size]?=some u:=fun j u hj h1 h2=>by
    rw [harr'] at hj
    simp only [List.append_assoc,List.getElem?_toArray] at hj
    have hl0:(arr.toList.take (xs.length * te.size)).length=xs.length * te.size:=by simp;omega
    rw [List.getElem?_append,hl0,if_neg (by omega),List.getElem?_append,if_pos (by rw [hy6];rw [Nat.add_mul] at h2;omega)] at hj
    exact hj
   have hrun:=run_append_in (P:=P) g.w (g.w.setRow l.block arr') t o.type e i hu h1 ⟨l.block,0,none⟩ xs.length capx ys.length (a.eval y) news hy1 (by rw [h2];exact hy2 g.w rfl) hroom (by rw [h2,addr_add,Nat.zero_add];exact hst)
   rw [←ex] at hrun
   have hturn:Turns g id (.spare xs.length) (some ⟨l.block,(xs.length+ys.length) * te.size,0⟩) (.spare (xs.length+ys.length)) (g.w.setRow l.block arr'):={
    obj:=hid'
    os:=rfl
    tape:=rfl
    output:=rfl
    size:=by rw [setRow_size];exact Nat.le_refl _
    block:=fun k _ hk=>setRow_other _ _ _ _ (fun e=>hk l q1 trivial e.symm)
    cell:=fun b off x hx hb=>by
     by_cases e:b=l.block
     ·subst e
      have hlt:=hb l q1 trivial rfl
      rw [q3] at hlt
      rw [cell_of_row (setRow_heap g.w l.block arr arr' t' (0,0) q4),hlow off hlt]
      simp only [G.cell] at hx
      rw [cell_of_row q4] at hx
      exact hx
     rw [cell_congr (setRow_other g.w l.block b arr' e)]
     exact hx
    place:=fun l1 h1 _=>by
     simp only [Option.some.injEq] at h1
     subst h1
     exact .inr ⟨l,q1,trivial,rfl,by rw [q3];exact Nat.mul_le_mul_right _ (by omega)⟩
    spare:=fun m h=>by
     simp only [AObj.spare.injEq] at h
     subst h
     exact .inl ⟨_,rfl,hm⟩
    plain:=fun h=>absurd trivial h
    gone:=by simp }
   have hle:=Le.turn hg hturn
   have hgood:=Good.turn hg hturn (fun l1 h1=>by
    simp only [Option.some.injEq] at h1
    subst h1
    exact⟨arr',t',setRow_heap g.w l.block arr arr' t' (0,0) q4⟩) (fun l1 h1 _=>by
    simp only [Option.some.injEq] at h1
    subst h1
    rw [setRow_size]
    exact lt_of_getElem?' q4)
   refine⟨.slice (some ⟨l.block,0,none⟩) (xs.length+ys.length) capx,_,.inl ?_,hle,hgood,by simp only [G.turn,Mode.post,hO],?_⟩
   ·rw [hexec]
    simp [hrun,G.turn]
   have:=RV.rowList (g:=g.turn id (some ⟨l.block,(xs.length+ys.length) * te.size,0⟩) (.spare (xs.length+ys.length)) (g.w.setRow l.block arr')) (zs:=xs++ys.map AVal.share) (sz:=te.size) (cap:=capx)
    (l:=⟨l.block,(xs.length+ys.length) * te.size,0⟩) (arr:=arr') (t:=t') (id:=id) hgood hzsz hzsc (by rw [hlen'];exact hlen) (by rw [hlen'];exact hroom)
    (by simp only [G.turn];rw [List.getElem?_set_self (env_lt hg hid')]) (by rw [hlen'];simp only [G.turn];rw [List.getElem?_set_self (lt_of_getElem? hid')]) (by rw [hlen'])
    (setRow_heap g.w l.block arr arr' t' (0,0) q4) (by rw [hsz'];exact q5) (fun off hf=>?_) (fun j c u hj hu=>?_)
   ·rw [hlen'] at this
    exact this
   ·have hf':g.fr l.block off:=hf
    exact absurd hf' (hg.frown id l _ q1 hid' trivial off)
   have hlt:=lt_of_getElem? hj
   rw [hcl] at hlt
   refine(hcells.2 j c u hj ?_).mono hle
   have hol:olds.length=xs.length * te.size:=hx6
   simp only [List.getElem?_toArray]
   rw [List.getElem?_append]
   by_cases e:j<olds.length
   ·rw [if_pos e]
    have hj':(cellsAll xs)[j]?=some c:=by
     rw [cellsAll_append,List.getElem?_append,if_pos (by rw [cellsAll_length hx4];omega)] at hj
     exact hj
    rw [hlow j (by omega)] at hu
    have hfc:=hx2 g.w rfl
    rw [ex] at hfc
    simp only [Builtin.firstCells] at hfc
    have hload:=run_loadCells (P:=P) g.w ⟨l.block,0,none⟩ (xs.length * te.size) (fun k=>arr.getD k undef) (fun k hk=>by
     rw [addr_add,cell_of_row q4,Nat.zero_add]
     simp [Array.getD_eq_getD_getElem?,show k<arr.size by omega])
    rw [hload] at hfc
    simp only [Result.ok.injEq,and_true] at hfc
    have holds:olds=(List.range (xs.length * te.size)).map (fun k=>arr.getD k undef):=by
     have:=congrArg Array.toList hfc
     simpa using this.symm
    rw [holds,List.getElem?_map,List.getElem?_range (by omega)]
    simp only [Option.map_some,Option.some.injEq]
    have hja:j<arr.size:=by omega
    simp only [Array.getElem?_eq_getElem hja,Option.some.injEq] at hu
    simp [Array.getD_eq_getD_getElem?,hja,hu]
   rw [if_neg e,hol]
   exact hnew j u hu (by omega) hlt
  -- a new row
  have hrun:=run_append_new (P:=P) g.w t o.type e i z hu h1 h4 adx xs.length capx ys.length (a.eval y) olds news hy1 (by rw [h2];exact hy2 g.w.drew rfl) (by rw [h2,←ex];exact hx2 g.w.drew rfl) (by omega) hlen (by rw [h3];exact hb)
  rw [←ex] at hrun
  obtain⟨cap,hcap⟩:∃cap,cap=grownCap g.w (xs.length+ys.length) capx e:=⟨_,rfl⟩
  obtain⟨rest,hrest⟩:∃rest,rest=Builtin.zeroCells z.cells (cap - (xs.length+ys.length)):=⟨_,rfl⟩
  have hge:=grownCap_ge g.w (xs.length+ys.length) capx e
  rw [←hcap] at hrun hge
  rw [←hrest] at hrun
  have hrs:rest.size=(cap - (xs.length+ys.length)) * te.size:=by rw [hrest,size_zeroCells,h5,h6]
  obtain⟨arr,harr⟩:∃arr,arr=olds.toArray++news.toArray++rest:=⟨_,rfl⟩
  rw [←harr] at hrun
  have hturn:Turns g id (.spare xs.length) (some ⟨g.w.heap.size,(xs.length+ys.length) * te.size,0⟩) (.spare (xs.length+ys.length)) (g.w.drew.alloc (.cells arr e)):={
   obj:=hid'
   os:=rfl
   tape:=rfl
   output:=rfl
   size:=by show g.w.heap.size≤(g.w.heap.push _).size;rw [Array.size_push];omega
   block:=fun k hk _=>heap_push_lt g.w.drew _ hk
   cell:=fun b off x hx _=>by
    have:=cell_lt hx
    rw [cell_congr (heap_push_lt g.w.drew (.cells arr e) this)]
    exact hx
   place:=fun l1 h1 _=>by
    simp only [Option.some.injEq] at h1
    subst h1
    exact .inl (Nat.le_refl _)
   spare:=fun m h=>by
    simp only [AObj.spare.injEq] at h
    subst h
    exact .inl ⟨_,rfl,hm⟩
   plain:=fun h=>absurd trivial h
   gone:=by simp }
  have hle:=Le.turn hg hturn
  have hgood:=Good.turn hg hturn (fun l1 h1=>by
   simp only [Option.some.injEq] at h1
   subst h1
   exact⟨arr,e,heap_push_new g.w.drew _⟩) (fun l1 h1 _=>by
   simp only [Option.some.injEq] at h1
   subst h1
   exact lt_of_getElem?' (heap_push_new g.w.drew (.cells arr e)))
  refine⟨.slice (some ⟨g.w.heap.size,0,none⟩) (xs.length+ys.length) cap,_,.inl ?_,hle,hgood,by simp only [G.turn,Mode.post,hO],?_⟩
  ·rw [hexec]
   simp [hrun,G.turn]
  have:=RV.rowList (g:=g.turn id (some ⟨g.w.heap.size,(xs.length+ys.length) * te.size,0⟩) (.spare (xs.length+ys.length)) (g.w.drew.alloc (.cells arr e))) (zs:=xs++ys.map AVal.share) (sz:=te.size) (cap:=cap)
   (l:=⟨g.w.heap.size,(xs.length+ys.length) * te.size,0⟩) (arr:=arr) (t:=e) (id:=id) hgood hzsz hzsc (by rw [hlen'];exact hlen) (by rw [hlen'];exact hge)
   (by simp only [G.turn];rw [List.getElem?_set_self (env_lt hg hid')]) (by rw [hlen'];simp only [G.turn];rw [List.getElem?_set_self (lt_of_getElem? hid')]) (by rw [hlen'])
   (heap_push_new g.w.drew _) (by
    rw [harr]
    simp only [Array.size_append,List.size_toArray,hx6,hy6,hrs,←Nat.add_mul]
    rw [show xs.length+ys.length+(cap - (xs.length+ys.length))=cap by omega]
    exact Nat.le_refl _) (fun off hf=>by
    have hf':g.fr g.w.heap.size off:=hf
    have:=hg.frlt _ _ hf'
    omega) (fun j c u hj hu=>by
    have hlt:=lt_of_getElem? hj
    rw [hcl] at hlt
    rw [harr] at hu
    have hu2:=append_cells_get hu (by simp only [List.size_toArray,hx6,hy6,←Nat.add_mul];exact hlt)
    exact(hcells.2 j c u hj (by simpa using hu2)).mono hle)
  rw [hlen'] at this
  exact this
end Go.Av
namespace Go.Av
def eqKey:Value→Value→Bool
 | .string a,.string b=>decide (a=b)
 | .int _ a,.int _ b=>decide (a=b)
 | _,_=>false
def lookV:List (Value×AVal)→Value→Option AVal
 | [],_=>none
 | (k,x)::r,key=>if eqKey k key then some x else lookV r key
def putV:List (Value×AVal)→Value→AVal→List (Value×AVal)
 | [],key,y=>[(key,y)]
 | (k,x)::r,key,y=>if eqKey k key then (key,y)::r else (k,x)::putV r key y
def KT.desc:KT→TypeDesc→Prop
 | .str,d=>d=.string
 | .int k,d=>d=.int k
theorem bytes_beq(s t:ByteArray):(s == t)=decide (s=t):=by
 obtain⟨a⟩:=s
 obtain⟨b⟩:=t
 have e:((⟨a⟩:ByteArray) == ⟨b⟩)=(a == b):=rfl
 rw [e,Bool.eq_iff_iff]
 simp
theorem sameNow_eq{kt:KT}{d:TypeDesc}(hd:kt.desc d){a b:Value}(ha:kt.ok a)(hb:kt.ok b):Instr.sameNow d a b=some (eqKey b a):=by
 cases kt with
 | str =>
  simp only [KT.desc] at hd
  subst hd
  cases a<;>simp only [KT.ok] at ha
  cases b<;>simp only [KT.ok] at hb
  rename_i s t
  simp only [Instr.sameNow,eqKey,Option.some.injEq,bytes_beq]
  rw [Bool.eq_iff_iff]
  simp only [decide_eq_true_eq]
  exact⟨Eq.symm,Eq.symm⟩
 | int k =>
  simp only [KT.desc] at hd
  subst hd
  cases a<;>simp only [KT.ok] at ha
  cases b<;>simp only [KT.ok] at hb
  rename_i s t
  subst ha
  subst hb
  simp only [Instr.sameNow,eqKey,if_true,Option.some.injEq]
  rw [Bool.eq_iff_iff]
  simp only [beq_iff_eq,decide_eq_true_eq]
  exact⟨Eq.symm,Eq.symm⟩
theorem findNow_spec{kt:KT}{d:TypeDesc}(hd:kt.desc d){key:Value}(hk:kt.ok key):∀(arr:List MapEntry) (es:List (Value×AVal)) (i:Nat),arr.length=es.length →
  (∀(j:Nat) (e:MapEntry) (kx:Value×AVal),arr[j]?=some e→es[j]?=some kx→e.key=kx.1)→(∀p∈es,kt.ok p.1) →
  ∃r,Instr.findNow d key arr i=some r ∧
   ((r=none∧lookV es key=none∧∀y,putV es key y=es++[(key,y)]) ∨
    ∃(j:Nat) (e:MapEntry) (x:AVal) (k0:Value),r=some (i+j,e.val)∧arr[j]?=some e∧es[j]?=some (k0,x)∧eqKey k0 key=true∧lookV es key=some x∧∀y,putV es key y=es.set j (key,y))
 | [],[],i,_,_,_=>⟨none,rfl,.inl ⟨rfl,rfl,fun _=>rfl⟩⟩
 | [],_::_,i,hl,_,_=>by simp at hl
 | _::_,[],i,hl,_,_=>by simp at hl
 | e::arr,(k0,x)::es,i,hl,hkey,hok=>by
  have he:e.key=k0:=hkey 0 e (k0,x) rfl rfl
  have hk0:kt.ok k0:=hok (k0,x) (by simp)
  have hs:=sameNow_eq hd hk (he ▸ hk0:kt.ok e.key)
  simp only [Instr.findNow,hs]
  cases hq:eqKey e.key key with
  | true =>
   refine⟨some (i,e.val),by rfl,.inr ⟨0,e,x,k0,by simp,rfl,rfl,he ▸ hq,?_,fun y=>?_⟩⟩
   ·rw [he] at hq
    simp [lookV,hq]
   rw [he] at hq
   simp [putV,hq]
  | false =>
   rw [he] at hq
   obtain⟨r,h1,h2⟩:=findNow_spec hd hk arr es (i+1) (by simpa using hl) (fun j e' kx a b=>hkey (j+1) e' kx (by simpa using a) (by simpa using b)) (fun p hp=>hok p (by simp [hp]))
   refine⟨r,h1,?_⟩
   rcases h2 with⟨q1,q2,q3⟩ | ⟨j,e',x',k',q1,q2,q3,q4,q5,q6⟩
   ·exact .inl ⟨q1,by simp [lookV,hq,q2],fun y=>by simp [putV,hq,q3]⟩
   refine .inr ⟨j+1,e',x',k',?_,by simpa using q2,by simpa using q3,q4,by simp [lookV,hq,q5],fun y=>by simp [putV,hq,q6]⟩
   rw [q1]
   simp only [Option.some.injEq,Prod.mk.injEq,and_true]
   omega
theorem map_desc{P:Program}{tab:Tab}(hT:TabOK P tab){t k e:TypeId}{ti:TInfo}(ht:tab t=some ti)(hdesc:ti.desc=.map k e):P.underlying t=some (.map k e):=by
 obtain⟨_,d,h1,h2⟩:=hT t ti ht
 rw [hdesc] at h2
 simp only [descIs] at h2
 rw [h1,h2]
theorem run_checkKey{P:Program}{kt:KT}{k:TypeId}{d:TypeDesc}(hu:P.underlying k=some d)(hd:kt.desc d){key:Value}(w:World)(b:Bool)(n:Nat):(Instr.checkKey b (n+1) k key).run P w=.ok () w:=by
 cases kt<;>simp only [KT.desc] at hd<;>subst hd<;>simp [Instr.checkKey,run_underlying hu]
def zeroOf(ti:TInfo):AVal:=if ti.desc.agg then .agg ti.zero else ti.zero.getD 0 (.v (.bool false))
theorem zeroOf_spec{P:Program}{t:TypeId}{ti:TInfo}(h:TOK P t ti)(hs:ti.desc.agg=true∨ti.size=1):∃z,(∀w,(Go.zeroValue t).run P w=.ok z w)∧∀g,RV g (zeroOf ti) z:=by
 obtain⟨⟨i,z,h1,h2,h3,h4,h5,h6,h7,h8,h9⟩,_⟩:=h
 refine⟨z,fun w=>by simp [Go.zeroValue,typeInfo,h1,h4],fun g=>?_⟩
 unfold zeroOf
 split
 ·rename_i hagg
  obtain⟨cs,e⟩:=h7.1 hagg
  subst e
  exact .agg h5 h9 (h8 g)
 rename_i hagg
 have hsz:ti.zero.length=1:=by
  rcases hs with q | q
  ·exact absurd q hagg
  omega
 match hz:ti.zero,hsz with
 | [c],_ =>
  have hc1:z.cells.size=1:=by rw [h5,hz];rfl
  have hsc:c.scalar:=h9 c (by rw [hz];simp)
  have hr:=h8 g 0 c (z.cells[0]) (by rw [hz];rfl) (by simp [hc1])
  have hzz:=h7.2 (by simpa using hagg)
  have hzc:z.cells[0]=z:=by simp [hzz]
  rw [hzc] at hr
  exact hr
theorem zeroOf_cells{P:Program}{t:TypeId}{ti:TInfo}(h:TOK P t ti)(hs:ti.desc.agg=true∨ti.size=1):(zeroOf ti).cells=ti.zero∧ti.zero.length=ti.size∧∀c∈ti.zero,c.scalar:=by
 obtain⟨⟨i,z,h1,h2,h3,h4,h5,h6,h7,h8,h9⟩,_⟩:=h
 refine⟨?_,h6,h9⟩
 unfold zeroOf
 split
 ·rfl
 rename_i hagg
 have hsz:ti.zero.length=1:=by
  rcases hs with q | q
  ·exact absurd q hagg
  omega
 match hz:ti.zero,hsz with
 | [c],_ =>
  have hsc:c.scalar:=h9 c (by rw [hz];simp)
  simp only [List.getD_cons_zero]
  cases c<;>first | rfl | exact hsc.elim
theorem RV.lst_shareAll{g:G}{sz:Nat}{xs:List AVal}{o:Own}{u:Value}(h:RV g (.lst sz xs o) u):RV g (.lst sz (xs.map AVal.share) o) u:=by
 cases h with
 | nil ho hn=>exact .nil ho hn
 | lst hsz hsc hcap hmax hs f hm hr ho =>
  have key:∀(j:Nat) (c:AVal),(cellsAll (xs.map AVal.share))[j]?=some c→∃c',(cellsAll xs)[j]?=some c'∧c'.shareCell=c:=fun j c hj=>by
   rw [cellsAll_share,List.getElem?_map,Option.map_eq_some_iff] at hj
   exact hj
  have hl:(xs.map AVal.share).length=xs.length:=List.length_map _
  rw [←hl] at hcap hmax ho ⊢
  refine .lst (map_share_size hsz) (fun x hx c hc=>?_) hcap hmax (fun hne=>hs fun e=>hne (by rw [e];rfl)) f (fun j c hj=>?_) (fun j c hj=>?_) ho
  ·exact map_share_scalar (fun c hc=>by
    simp only [cellsAll,List.mem_flatMap] at hc
    obtain⟨x,hx,hc⟩:=hc
    exact hsc x hx c hc) c (by
    simp only [cellsAll,List.mem_flatMap]
    exact⟨x,hx,hc⟩)
  ·obtain⟨c',hc',_⟩:=key j c hj
   exact hm j c' hc'
  obtain⟨c',hc',rfl⟩:=key j c hj
  exact(hr j c' hc').shareCell
theorem cert_makeSliceV{P:Program}{tab:Tab}(hT:TabOK P tab){o:Oper}{σ:St}{t e:TypeId}{x y:Operand}{ti te:TInfo}{k k':IntKind}{n:Int}
  (ho:o.op=.makeSlice t x y) (hd:∀d,o.dst=some d→d<σ.n) (ht:tab t=some ti) (hdesc:ti.desc=.slice e) (he:tab e=some te) (hx:σ.ev x=some (.v (.int k n))) (hy:σ.ev y=some (.v (.int k' n)))
  (h0:0≤n) (hb:te.bytes * n.toNat≤2 ^ 48) (h62:n.toNat≤2 ^ 62) (hs:0<te.size) (hone:te.desc.agg=true∨te.size=1) :
  Cert P o σ (.lst te.size (List.replicate n.toNat (zeroOf te).share) .ex) .pure :=
 Cert.ofRun hd fun base σ' a g hrel h _=>by
  have hg:=hrel.good
  have ex:=(h x (by simp [ho,Op.operands]) _ hx).v_inv.1
  have ey:=(h y (by simp [ho,Op.operands]) _ hy).v_inv.1
  have hu:=slice_desc hT ht hdesc
  obtain⟨c1,c2,c3⟩:=zeroOf_cells (hT e te he) hone
  obtain⟨⟨i,z,h1,h2,h3,h4,h5,h6,h7,h8,h9⟩,_⟩:=hT e te he
  obtain⟨m,rfl⟩:=Int.eq_ofNat_of_zero_le h0
  simp only [Int.toNat_natCast] at *
  have hb':(i.bytes:Int) * (m:Int)≤281474976710656:=by
   rw [h3,←Int.natCast_mul]
   omega
  have hrun:=run_make (P:=P) g.w t e i z hu h1 h4 k k' m m (by omega) (Int.le_refl _) hb' (by omega)
  simp only [Int.toNat_natCast] at hrun
  have hca:cellsAll (List.replicate m (zeroOf te))=(List.replicate m te.zero).flatten:=by
   rw [cellsAll,List.flatMap_replicate,c1]
  have hlen:(List.replicate m te.zero).flatten.length=m * te.size:=by simp [h6]
  have hget:∀(j:Nat) (c:AVal),(List.replicate m te.zero).flatten[j]?=some c→te.zero[j % te.size]?=some c:=fun j c=>h6 ▸ rep_get te.zero (by omega) m j c
  have hle:=Le.push g hg (.cells (madeCells z.cells (m * i.size)) e)
  have hnew:=heap_push_new g.w (.cells (madeCells z.cells (m * i.size)) e (0,0))
  have hval:RV (g.push (.cells (madeCells z.cells (m * i.size)) e)) (.lst te.size (List.replicate m (zeroOf te)) .ex) (.slice (some ⟨g.w.heap.size,0,none⟩) m m):=by
   have key:=@RV.lst (g.push (.cells (madeCells z.cells (m * i.size)) e)) te.size (List.replicate m (zeroOf te)) .ex ⟨g.w.heap.size,0,none⟩ m (fun x hx=>by
    rw [(List.mem_replicate.1 hx).2,c1,c2]) (fun x hx c hc=>by
    rw [(List.mem_replicate.1 hx).2,c1] at hc
    exact c3 c hc) (by simp) (by simpa using h62) (fun _=>rfl) (fun j=>(madeCells z.cells (m * i.size)).getD j undef) (fun j c hj=>by
     rw [hca] at hj
     have hlt:=lt_of_getElem? hj
     rw [hlen] at hlt
     refine⟨?_,?_⟩
     ·show(g.w.alloc _).cell? _=_
      rw [cell_of_row hnew,Nat.zero_add]
      have hsz:j<(madeCells z.cells (m * i.size)).size:=by rw [size_madeCells,h2];exact hlt
      simp [Array.getD_eq_getD_getElem?,hsz]
     ·rintro(hf | ⟨id,l,o',q1,q2,q3,q4,_⟩)
      ·have:=hg.frlt _ _ hf
       simp at this
      have:=hg.loc id l o' q1 q2 q3
      simp only at q4
      omega) (fun j c hj=>by
     rw [hca] at hj
     have hj':=hget j c hj
     have hlt:=lt_of_getElem? hj
     rw [hlen] at hlt
     have hlt':j % te.size<z.cells.size:=by rw [h5];exact lt_of_getElem? hj'
     refine h8 _ _ _ _ hj' ?_
     have hsz:j<(madeCells z.cells (m * i.size)).size:=by rw [size_madeCells,h2];exact hlt
     have:(madeCells z.cells (m * i.size))[j]?=some (z.cells[j % te.size]'hlt'):=by
      simp only [madeCells,Array.getElem?_map,h2,Array.getElem?_range,if_pos hlt,Option.map_some,Option.some.injEq]
      rw [h5,h6]
      simp [Array.getD_eq_getD_getElem?,hlt']
     rw [Array.getD_eq_getD_getElem?,this,Option.getD_some]
     exact Array.getElem?_eq_getElem hlt') (by simp [OwnOK])
   simpa using key
  refine⟨.slice (some ⟨g.w.heap.size,0,none⟩) m m,g.push (.cells (madeCells z.cells (m * i.size)) e),.inl ?_,hle,Good.push hg _,rfl,by simpa using hval.lst_shareAll⟩
  simp [execOp,ho,ex,ey,hrun,G.push]
theorem run_lookup{P:Program}{kt:KT}{t k e:TypeId}{d:TypeDesc}(hu:P.underlying t=some (.map k e))(hk:P.underlying k=some d)(hd:kt.desc d){g:G}{r clk:Nat}{arr:Array MapEntry}{es:List (Value×AVal)}{z:Value}{zx:AVal}
  (hh:g.w.heap[r]?=some (.map arr clk)) (hl:arr.size=es.length) (hkey:∀(i:Nat) (e:MapEntry) (kx:Value×AVal),arr[i]?=some e→es[i]?=some kx→e.key=kx.1) (hok:∀p∈es,kt.ok p.1)
  (hr:∀(i:Nat) (e:MapEntry) (kx:Value×AVal),arr[i]?=some e→es[i]?=some kx→RV g kx.2 e.val) {key:Value} (hkk:kt.ok key) (hz:(Go.zeroValue e).run P g.w=.ok z g.w) (hzx:RV g zx z) (ok:Bool) :
  ∃u,(Instr.lookup t (.map (some r)) key ok).run P g.w=.ok (if ok then .tuple #[u,.bool (lookV es key).isSome] else u) g.w∧RV g ((lookV es key).getD zx) u:=by
 obtain⟨fr,h1,h2⟩:=findNow_spec hd hkk arr.toList es 0 (by simpa using hl) (fun j e kx a b=>hkey j e kx (by simpa using a) b) hok
 have hchk:∀b,(Instr.checkKey b 10000 k key).run P g.w=.ok () g.w:=fun b=>run_checkKey hk hd g.w b 9999
 have hget:(getObj r).run P g.w=.ok (.map arr clk) g.w:=by
  simp [Go.getObj,Sem.run,hh]
 have hfind:(Instr.findKey k key arr.toList).run P g.w=.ok fr g.w:=by
  simp [Instr.findKey,run_underlying hk,h1]
 rcases h2 with⟨q1,q2,_⟩ | ⟨j,e',x,k0,q1,q2,q3,_,q5,_⟩
 ·subst q1
  refine⟨z,?_,by rw [q2];exact hzx⟩
  simp only [Instr.lookup,Sem.run_bind,run_underlying hu,Result.andThen_ok,hget,Sem.run_pure,hchk,hfind,hz,q2]
  cases ok<;>rfl
 subst q1
 refine⟨e'.val,?_,by rw [q5];exact hr j e' (k0,x) (by simpa using q2) q3⟩
 simp only [Instr.lookup,Sem.run_bind,run_underlying hu,Result.andThen_ok,hget,Sem.run_pure,hchk,hfind,q5]
 cases ok<;>rfl
def lookRes(ok:Bool)(x:Option AVal)(z:AVal):AVal:=if ok then .tup [x.getD z,.v (.bool x.isSome)] else x.getD z
theorem lookRes_spec{g:G}{ok:Bool}{x:Option AVal}{z:AVal}{u:Value}(h:RV g (x.getD z) u):RV g (lookRes ok x z) (if ok then .tuple #[u,.bool x.isSome] else u):=by
 cases ok
 ·exact h
 refine .tup rfl (fun i c v h1 h2=>?_)
 match i,h1,h2 with
 | 0,h1,h2 =>
  simp at h1 h2
  subst h1
  subst h2
  exact h
 | 1,h1,h2 =>
  simp at h1 h2
  subst h1
  subst h2
  exact .v trivial
theorem cert_lookup_im{P:Program}{tab:Tab}(hT:TabOK P tab){o:Oper}{σ:St}{t k e:TypeId}{x y:Operand}{ok:Bool}{ti te:TInfo}{kt:KT}{es:List (Value×AVal)}{key:Value}{d:TypeDesc}
  (ho:o.op=.lookup t x y ok) (hd:∀d,o.dst=some d→d<σ.n) (ht:tab t=some ti) (hdesc:ti.desc=.map k e) (hk:P.underlying k=some d) (hkd:kt.desc d) (he:tab e=some te) (hsz:te.desc.agg=true∨te.size=1)
  (hx:σ.ev x=some (.im kt es)) (hy:σ.ev y=some (.v key)) (hkk:kt.ok key):Cert P o σ (lookRes ok (lookV es key) (zeroOf te)) .pure :=
 Cert.ofQuiet .pure (.inl rfl) hd fun a g _ h _=>by
  obtain⟨r,clk,arr,ex,hh,hl,hkey,hok,hr⟩:=(h x (by simp [ho,Op.operands]) _ hx).im_inv
  have ey:=(h y (by simp [ho,Op.operands]) _ hy).v_inv.1
  obtain⟨z,hz,hzr⟩:=zeroOf_spec (hT e te he) hsz
  obtain⟨u,h1,h2⟩:=run_lookup (map_desc hT ht hdesc) hk hkd hh hl hkey hok hr hkk (hz g.w) (hzr g) ok
  exact⟨_,by simp only [execOp,ho,ex,ey,Sem.run_bind,h1,Result.andThen_ok,Sem.run_pure],lookRes_spec h2⟩
theorem cert_lookup_mm{P:Program}{tab:Tab}(hT:TabOK P tab){o:Oper}{σ:St}{t k e:TypeId}{x y:Operand}{ok:Bool}{ti te:TInfo}{kt:KT}{es:List (Value×AVal)}{id:Nat}{key:Value}{d:TypeDesc}
  (ho:o.op=.lookup t x y ok) (hd:∀d,o.dst=some d→d<σ.n) (ht:tab t=some ti) (hdesc:ti.desc=.map k e) (hk:P.underlying k=some d) (hkd:kt.desc d) (he:tab e=some te) (hsz:te.desc.agg=true∨te.size=1)
  (hx:σ.ev x=some (.mm id)) (hob:σ.objs[id]?=some (.map kt es)) (hy:σ.ev y=some (.v key)) (hkk:kt.ok key):Cert P o σ (lookRes ok (lookV es key) (zeroOf te)) (.rd id) :=
 Cert.ofRd hd fun a g hg h hO=>by
  obtain⟨l,o1,he1,h1,_,ex⟩:=(h x (by simp [ho,Op.operands]) _ hx).mm_inv
  have ey:=(h y (by simp [ho,Op.operands]) _ hy).v_inv.1
  obtain⟨l',arr,clk,e1,_,hh,hl,hok,hr⟩:=hg.map id kt es (by rw [hO];exact hob)
  rw [he1] at e1
  simp only [Option.some.injEq] at e1
  subst e1
  obtain⟨z,hz,hzr⟩:=zeroOf_spec (hT e te he) hsz
  obtain⟨u,h1,h2⟩:=run_lookup (map_desc hT ht hdesc) hk hkd hh hl (fun i e kx a b=>(hr i e kx a b).1) hok (fun i e kx a b=>(hr i e kx a b).2.2) hkk (hz g.w) (hzr g) ok
  exact⟨_,by simp only [execOp,ho,ex,ey,Sem.run_bind,h1,Result.andThen_ok,Sem.run_pure],lookRes_spec h2⟩
theorem cert_lookup_nil{P:Program}{tab:Tab}(hT:TabOK P tab){o:Oper}{σ:St}{t k e:TypeId}{x y:Operand}{ok:Bool}{ti te:TInfo}{kt:KT}{key:Value}{d:TypeDesc}
  (ho:o.op=.lookup t x y ok) (hd:∀d,o.dst=some d→d<σ.n) (ht:tab t=some ti) (hdesc:ti.desc=.map k e) (hk:P.underlying k=some d) (hkd:kt.desc d) (he:tab e=some te) (hsz:te.desc.agg=true∨te.size=1)
  (hx:σ.ev x=some (.v (.map none))) (hy:σ.ev y=some (.v key)):Cert P o σ (lookRes ok none (zeroOf te)) .pure :=
 Cert.ofQuiet .pure (.inl rfl) hd fun a g _ h _=>by
  have ex:=(h x (by simp [ho,Op.operands]) _ hx).v_inv.1
  have ey:=(h y (by simp [ho,Op.operands]) _ hy).v_inv.1
  obtain⟨z,hz,hzr⟩:=zeroOf_spec (hT e te he) hsz
  have hchk:∀b,(Instr.checkKey b 10000 k key).run P g.w=.ok () g.w:=fun b=>run_checkKey hk hkd g.w b 9999
  have h1:(Instr.lookup t (.map none) key ok).run P g.w=.ok (if ok then .tuple #[z,.bool (none:Option AVal).isSome] else z) g.w:=by
   simp only [Instr.lookup,Sem.run_bind,run_underlying (map_desc hT ht hdesc),Result.andThen_ok,Sem.run_pure,hchk,Instr.findKey,run_underlying hk,Instr.findNow,hz g.w]
   cases ok<;>rfl
  exact⟨_,by simp only [execOp,ho,ex,ey,Sem.run_bind,h1,Result.andThen_ok,Sem.run_pure],lookRes_spec (hzr g)⟩
theorem eqKey_eq{kt:KT}{a b:Value}(ha:kt.ok a)(hb:kt.ok b)(h:eqKey a b=true):a=b:=by
 cases kt with
 | str =>
  cases a<;>simp only [KT.ok] at ha
  cases b<;>simp only [KT.ok] at hb
  simp only [eqKey,decide_eq_true_eq] at h
  rw [h]
 | int k =>
  cases a<;>simp only [KT.ok] at ha
  cases b<;>simp only [KT.ok] at hb
  simp only [eqKey,decide_eq_true_eq] at h
  rw [h,ha,hb]
theorem sameBits_self{kt:KT}{a:Value}(ha:kt.ok a)(n:Nat):Instr.sameBits n a a=true:=by
 cases kt with
 | str =>
  cases a<;>simp only [KT.ok] at ha
  cases n<;>simp [Instr.sameBits,bytes_beq]
 | int k =>
  cases a<;>simp only [KT.ok] at ha
  cases n<;>simp [Instr.sameBits]
theorem putV_ok{kt:KT}{es:List (Value×AVal)}{key:Value}{y:AVal}(h:∀p∈es,kt.ok p.1)(hk:kt.ok key):∀p∈putV es key y,kt.ok p.1:=by
 induction es with
 | nil=>simp [putV,hk]
 | cons q r ih =>
  obtain⟨k,x⟩:=q
  simp only [putV]
  split
  ·intro p hp
   rcases List.mem_cons.1 hp with e | e
   ·subst e
    exact hk
   exact h p (by simp [e])
  intro p hp
  rcases List.mem_cons.1 hp with e | e
  ·subst e
   exact h _ (by simp)
  exact ih (fun p hp=>h p (by simp [hp])) p e
theorem cert_mapUpdate{P:Program}{tab:Tab}(hT:TabOK P tab){o:Oper}{σ:St}{t k e:TypeId}{x y v:Operand}{ti:TInfo}{kt:KT}{es:List (Value×AVal)}{id:Nat}{key:Value}{d:TypeDesc}{val:AVal}
  (ho:o.op=.mapUpdate t x y v∨o.op=.insert t x y v) (hdst:o.dst=none) (ht:tab t=some ti) (hdesc:ti.desc=.map k e) (hk:P.underlying k=some d) (hkd:kt.desc d)
  (hx:σ.ev x=some (.mm id)) (hob:σ.objs[id]?=some (.map kt es)) (hy:σ.ev y=some (.v key)) (hkk:kt.ok key) (hv:σ.ev v=some val) :
  Cert P o σ (.v (.bool false)) (.write (σ.objs.set id (.map kt (putV es key val)))) :=
 Cert.ofRun (by simp [hdst]) fun base σ' a g hrel h ho'=>by
  have hO':g.objs=σ.objs:=ho'.resolve_left (by simp)
  have hg:=hrel.good
  obtain⟨l,o1,he1,h1,_,ex⟩:=(h x (by rcases ho with ho | ho<;>simp [ho,Op.operands]) _ hx).mm_inv
  have hey:=(h y (by rcases ho with ho | ho<;>simp [ho,Op.operands]) _ hy).v_inv
  have ey:=hey.1
  have hv':=h v (by rcases ho with ho | ho<;>simp [ho,Op.operands]) _ hv
  have hob':g.objs[id]?=some (.map kt es):=by rw [hO'];exact hob
  obtain⟨l',arr,clk,e1,hlo,hh,hl,hok,hr⟩:=hg.map id kt es hob'
  rw [he1] at e1
  simp only [Option.some.injEq] at e1
  subst e1
  obtain⟨fr,f1,f2⟩:=findNow_spec hkd hkk arr.toList es 0 (by simpa using hl) (fun j e kx a b=>(hr j e kx (by simpa using a) b).1) hok
  have hchk:∀b,(Instr.checkKey b 10000 k key).run P g.w=.ok () g.w:=fun b=>run_checkKey hk hkd g.w b 9999
  have hget:(getObj l.block).run P g.w=.ok (.map arr clk) g.w:=by
   simp [Go.getObj,Sem.run,hh]
  have hfind:(Instr.findKey k key arr.toList).run P g.w=.ok fr g.w:=by
   simp [Instr.findKey,run_underlying hk,f1]
  have hset:∀o',(setObj l.block o').run P g.w=.ok () { g.w with heap:=g.w.heap.setIfInBounds l.block o' }:=fun o'=>by
   simp [Go.setObj,Sem.run,hh]
  have hlt:=lt_of_getElem?' hh
  have key1:∃arr' clk',(Instr.mapUpdate t (.map (some l.block)) key (a.eval v)).run P g.w=.ok () { g.w with heap:=g.w.heap.setIfInBounds l.block (.map arr' clk') }∧arr'.size=(putV es key val).length ∧
    ∀(i:Nat) (e:MapEntry) (kx:Value×AVal),arr'[i]?=some e→(putV es key val)[i]?=some kx→e.key=kx.1∧flatOK kx.1∧RV g kx.2 e.val:=by
   rcases f2 with⟨q1,q2,q3⟩ | ⟨j,e',x',k0,q1,q2,q3,q4,q5,q6⟩
   ·subst q1
    refine⟨arr.push { key,val:=a.eval v,born:=clk },clk+1,?_,by rw [q3];simp [hl],fun i e kx a1 a2=>?_⟩
    ·simp only [Instr.mapUpdate,Sem.run_bind,run_underlying (map_desc hT ht hdesc),Result.andThen_ok,hget,hchk,hfind,hset]
    rw [q3] at a2
    rcases getElem?_snoc a2 with b | ⟨b1,b2⟩
    ·have hi:=lt_of_getElem? b
     rw [Array.getElem?_push,if_neg (by omega)] at a1
     exact hr i e kx a1 b
    subst b2
    rw [Array.getElem?_push,if_pos (by omega)] at a1
    simp only [Option.some.injEq] at a1
    subst a1
    exact⟨rfl,hey.2,hv'⟩
   subst q1
   have hk0:k0=key:=eqKey_eq (hok (k0,x') (List.mem_of_getElem? q3)) hkk q4
   have q2':arr[j]?=some e':=by simpa using q2
   have hek:e'.key=key:=(hr j e' (k0,x') q2' q3).1.trans hk0
   refine⟨arr.modify j fun e=>{ e with key,val:=a.eval v },clk,?_,by rw [q6];simp [hl],fun i e kx a1 a2=>?_⟩
   ·have hstay:∀w,(Instr.keyThatStays key key).run P w=.ok key w:=fun w=>by simp [Instr.keyThatStays,sameBits_self hkk]
    simp only [Instr.mapUpdate,Sem.run_bind,run_underlying (map_desc hT ht hdesc),Result.andThen_ok,hget,hchk,hfind,Nat.zero_add,q2',Option.map_some,Option.getD_some,hek,hstay,hset]
   rw [q6] at a2
   rw [Array.getElem?_modify] at a1
   by_cases e:j=i
   ·subst e
    rw [if_pos rfl,q2'] at a1
    rw [List.getElem?_set_self (by rw [←hl];exact lt_of_getElem?' q2')] at a2
    simp only [Option.map_some,Option.some.injEq] at a1 a2
    subst a1
    subst a2
    exact⟨rfl,hey.2,hv'⟩
   rw [if_neg e] at a1
   rw [List.getElem?_set_ne e] at a2
   exact hr i _ kx a1 a2
  obtain⟨arr',clk',hrun,hsz',hent⟩:=key1
  have hother:∀k,k≠l.block→(g.w.heap.setIfInBounds l.block (.map arr' clk'))[k]?=g.w.heap[k]?:=fun k hk=>Array.getElem?_setIfInBounds_ne (fun e=>hk e.symm)
  have hturn:Turns g id (.map kt es) (some l) (.map kt (putV es key val)) { g.w with heap:=g.w.heap.setIfInBounds l.block (.map arr' clk') }:={
   obj:=hob'
   os:=rfl
   tape:=rfl
   output:=rfl
   size:=by simp
   block:=fun k _ hk=>hother k (fun e=>hk l he1 trivial e.symm)
   cell:=fun b off x hx _=>by
    by_cases e:b=l.block
    ·subst e
     simp only [G.cell,World.cell?,hh] at hx
     cases hx
    simp only [World.cell?,hother b e]
    exact hx
   place:=fun l1 h1 _=>by
    simp only [Option.some.injEq] at h1
    subst h1
    exact .inr ⟨l,he1,trivial,rfl,Nat.le_refl _⟩
   spare:=fun m h=>by cases h
   plain:=fun _=>⟨by simp [AObj.isSpare],he1⟩
   gone:=by simp }
  have hle:=Le.turn hg hturn
  refine⟨.bool false,g.turn id (some l) (.map kt (putV es key val)) { g.w with heap:=g.w.heap.setIfInBounds l.block (.map arr' clk') },.inr ⟨hdst,?_⟩,hle,Good.turn hg hturn ?_ ?_,by simp only [G.turn,Mode.post,hO'],.v trivial⟩
  ·rcases ho with ho | ho<;>simp only [execOp,ho,ex,ey,Sem.run_bind,hrun,Result.andThen_ok,Sem.run_pure,G.turn]
  ·refine⟨l,arr',clk',rfl,hlo,?_,hsz',putV_ok hok hkk,fun i e kx a b=>⟨(hent i e kx a b).1,(hent i e kx a b).2.1,(hent i e kx a b).2.2.mono hle⟩⟩
   simp only [G.turn]
   rw [Array.getElem?_setIfInBounds_self_of_lt hlt]
  intro l1 h1 _
  simp only [Option.some.injEq] at h1
  subst h1
  simpa using hlt
def St.evs(σ:St):List Operand→Option (List AVal)
 | []=>some []
 | x::r =>
  match σ.ev x,σ.evs r with
  | some y,some ys=>some (y::ys)
  | _,_=>none
theorem evs_rel{σ:St}{a:Act}{g:G}:∀{xs:List Operand} {ys:List AVal},(∀x∈xs,∀y,σ.ev x=some y→RV g y (a.eval x))→σ.evs xs=some ys→RVs g ys (xs.map a.eval).toArray
 | [],ys,_,h=>by
  simp only [St.evs,Option.some.injEq] at h
  subst h
  exact⟨rfl,by simp⟩
 | x::r,ys,hag,h=>by
  simp only [St.evs] at h
  cases hx:σ.ev x with
  | none=>simp [hx] at h
  | some y =>
   cases hr:σ.evs r with
   | none=>simp [hx,hr] at h
   | some zs =>
    simp only [hx,hr,Option.some.injEq] at h
    subst h
    obtain⟨h1,h2⟩:=evs_rel (g:=g) (a:=a) (fun z hz=>hag z (List.mem_cons_of_mem _ hz)) hr
    refine⟨by simpa using h1,fun j c u a1 a2=>?_⟩
    cases j with
    | zero =>
     simp at a1 a2
     subst a1
     subst a2
     exact hag x (List.mem_cons_self) y hx
    | succ j=>exact h2 j c u (by simpa using a1) (by simpa using a2)
theorem cert_makeFunc{P:Program}{o:Oper}{σ:St}{f:Fn}{first captured:Array Operand}{fs cs:List AVal}(ho:o.op=.makeFunc f first captured)(hd:∀d,o.dst=some d→d<σ.n)
  (hf:σ.evs first.toList=some fs) (hc:σ.evs captured.toList=some cs):Cert P o σ (.fn f fs cs) .pure :=
 Cert.ofQuiet .pure (.inl rfl) hd fun a g _ h _=>by
  have m1:∀x∈first.toList,x∈o.op.operands:=fun x hx=>by
   rw [ho]
   simp only [Op.operands,Array.mem_append]
   exact .inl (Array.mem_toList_iff.1 hx)
  have m2:∀x∈captured.toList,x∈o.op.operands:=fun x hx=>by
   rw [ho]
   simp only [Op.operands,Array.mem_append]
   exact .inr (Array.mem_toList_iff.1 hx)
  have h1:=evs_rel (g:=g) (a:=a) (fun x hx y hy=>h x (m1 x hx) y hy) hf
  have h2:=evs_rel (g:=g) (a:=a) (fun x hx y hy=>h x (m2 x hx) y hy) hc
  refine⟨.func f (first.map a.eval) (captured.map a.eval),by simp [execOp,ho,Instr.makeFunc],?_⟩
  have e1:first.map a.eval=(first.toList.map a.eval).toArray:=Array.ext' (by rw [Array.toList_map])
  have e2:captured.map a.eval=(captured.toList.map a.eval).toArray:=Array.ext' (by rw [Array.toList_map])
  rw [e1,e2]
  exact .fn h1.1 h2.1 h1.2 h2.2
mutual
def AVal.upto(n:Nat):AVal→Prop
 | .v _=>True
 | .agg cs=>uptoL n cs
 | .lst _ xs o=>uptoL n xs∧(match o with | .tok id=>id<n | _=>True)
 | .ip _ cs=>uptoL n cs
 | .mp id _=>id<n
 | .ms id _ _ _=>id<n
 | .os id _ _=>id<n
 | .raw _ _ id=>id<n
 | .mm id=>id<n
 | .im _ es=>uptoE n es
 | .fn _ fs cs=>uptoL n fs∧uptoL n cs
 | .tup cs=>uptoL n cs
def uptoL(n:Nat):List AVal→Prop
 | []=>True
 | x::r=>x.upto n∧uptoL n r
def uptoE(n:Nat):List (Value×AVal)→Prop
 | []=>True
 | x::r=>uptoP n x∧uptoE n r
def uptoP(n:Nat):Value×AVal→Prop
 | (_,x)=>x.upto n
end
theorem uptoL_iff{n:Nat}{l:List AVal}:uptoL n l↔∀x∈l,x.upto n:=by
 induction l with
 | nil=>simp [uptoL]
 | cons x r ih=>simp [uptoL,ih]
theorem uptoE_iff{n:Nat}{l:List (Value×AVal)}:uptoE n l↔∀x∈l,x.2.upto n:=by
 induction l with
 | nil=>simp [uptoE]
 | cons x r ih =>
  obtain⟨k,x⟩:=x
  simp [uptoE,uptoP,ih]
def G.trunc(g:G)(n:Nat):G:=⟨g.w,g.fr,g.env.take n,g.objs.take n⟩
theorem take_some{α:Type}{l:List α}{n i:Nat}{x:α}(h:(l.take n)[i]?=some x):l[i]?=some x∧i<n:=by
 rw [List.getElem?_take] at h
 split at h
 ·rename_i hh
  exact⟨h,hh⟩
 cases h
theorem OwnL.trunc{g:G}{n b off:Nat}(h:OwnL (g.trunc n) b off):OwnL g b off:=by
 obtain⟨id,l,o,h1,h2,h3,h4,h5⟩:=h
 exact⟨id,l,o,(take_some h1).1,(take_some h2).1,h3,h4,h5⟩
theorem OwnC.trunc{g:G}{n b off:Nat}(h:OwnC (g.trunc n) b off):OwnC g b off:=h.imp id OwnL.trunc
theorem OwnLB.trunc{g:G}{n b:Nat}(h:OwnLB (g.trunc n) b):OwnLB g b:=by
 obtain⟨id,l,o,h1,h2,h3,h4⟩:=h
 exact⟨id,l,o,(take_some h1).1,(take_some h2).1,h3,h4⟩
theorem RV.trunc{g:G}{n:Nat}{x:AVal}{u:Value}(h:RV g x u)(hn:n≤g.objs.length)(hb:x.upto n):RV (g.trunc n) x u:=by
 have hget:∀(id:Nat),id<n→(g.trunc n).objs[id]?=g.objs[id]?:=fun id hid=>by
  simp only [G.trunc]
  rw [List.getElem?_take,if_pos hid]
 have hgete:∀(id:Nat),id<n→(g.trunc n).env[id]?=g.env[id]?:=fun id hid=>by
  simp only [G.trunc]
  rw [List.getElem?_take,if_pos hid]
 induction h with
 | v hx=>exact .v hx
 | agg hl hsc _ ih =>
  simp only [AVal.upto,uptoL_iff] at hb
  exact .agg hl hsc fun i c u a b=>ih i c u a b (hb c (List.mem_of_getElem? a))
 | nil ho hnn =>
  simp only [AVal.upto] at hb
  refine .nil (fun id e=>?_) hnn
  subst e
  have:=hb.2
  simp only [G.trunc,List.length_take]
  omega
 | lst hsz hsc hcap hmax hs f hm hr ho ih =>
  rename_i sz xs o a cap
  simp only [AVal.upto,uptoL_iff] at hb
  refine .lst hsz hsc hcap hmax hs f (fun j c hj=>⟨(hm j c hj).1,fun q=>(hm j c hj).2 q.trunc⟩) (fun j c hj=>ih j c hj ?_) ?_
  ·have hc:=List.mem_of_getElem? hj
   simp only [cellsAll,List.mem_flatMap] at hc
   obtain⟨x,hx,hc⟩:=hc
   have:=hb.1 x hx
   cases x with
   | agg cs =>
    simp only [AVal.upto,uptoL_iff] at this
    exact this c hc
   | _=>simp only [AVal.cells,List.mem_singleton] at hc;subst hc;exact this
  cases o with
  | sh=>trivial
  | nn=>trivial
  | ex=>exact ho
  | loc a=>exact ho
  | tok id =>
   have hid:=hb.2
   simp only at hid
   obtain⟨q1,q2⟩:=ho
   refine⟨by simp only [G.trunc,List.length_take];omega,fun m hm'=>?_⟩
   rw [hget id hid] at hm'
   obtain⟨r1,r2⟩:=q2 m hm'
   refine⟨r1,fun e=>(r2 e).imp (fun h=>h) ?_⟩
   rintro⟨l,arr,t,p1,p2,p3,p4,p5⟩
   exact⟨l,arr,t,(hgete id hid).trans p1,p2,p3,p4,p5⟩
 | ip ha hsc f hm hr ih =>
  simp only [AVal.upto,uptoL_iff] at hb
  exact .ip ha hsc f (fun j c hj=>⟨(hm j c hj).1,fun q=>(hm j c hj).2 q.trunc⟩) fun j c hj=>ih j c hj (hb c (List.mem_of_getElem? hj))
 | mp he ho hn'=>exact .mp ((hgete _ hb).trans he) ((hget _ hb).trans ho) hn'
 | ms he ho hn' hc hc' hmax=>exact .ms ((hgete _ hb).trans he) ((hget _ hb).trans ho) hn' hc hc' hmax
 | os he ho hn' hc hc' hmax=>exact .os ((hgete _ hb).trans he) ((hget _ hb).trans ho) hn' hc hc' hmax
 | raw hnn ho =>
  rename_i sz n0 id a cap
  have hid:id<n:=hb
  obtain⟨q1,q2⟩:=ho
  refine .raw hnn ⟨by simp only [G.trunc,List.length_take];omega,fun m hm'=>?_⟩
  rw [hget id hid] at hm'
  obtain⟨r1,r2⟩:=q2 m hm'
  refine⟨r1,fun e=>(r2 e).imp (fun h=>h) ?_⟩
  rintro⟨l,arr,t,p1,p2,p3,p4,p5⟩
  exact⟨l,arr,t,(hgete id hid).trans p1,p2,p3,p4,p5⟩
 | mm he ho hn'=>exact .mm ((hgete _ hb).trans he) ((hget _ hb).trans ho) hn'
 | im hh hn' hl hk hkt _ ih =>
  simp only [AVal.upto,uptoE_iff] at hb
  exact .im hh (fun off q=>hn' off q.trunc) hl hk hkt fun i e kx a b=>ih i e kx a b (hb kx (List.mem_of_getElem? b))
 | fn hl hl' _ _ ih ih' =>
  simp only [AVal.upto,uptoL_iff] at hb
  exact .fn hl hl' (fun i c u a b=>ih i c u a b (hb.1 c (List.mem_of_getElem? a))) fun i c u a b=>ih' i c u a b (hb.2 c (List.mem_of_getElem? a))
 | tup hl _ ih =>
  simp only [AVal.upto,uptoL_iff] at hb
  exact .tup hl fun i c u a b=>ih i c u a b (hb c (List.mem_of_getElem? a))
def AObj.upto(n:Nat):AObj→Prop
 | .cells cs=>uptoL n cs
 | .map _ es=>uptoE n es
 | _=>True
theorem Good.trunc{g:G}(hg:Good g){n:Nat}(hn:n≤g.objs.length)(hb:∀o∈g.objs.take n,o.upto n):Good (g.trunc n) where
 frlt:=hg.frlt
 frown:=fun id l o h1 h2 h3=>hg.frown id l o (take_some h1).1 (take_some h2).1 h3
 len:=by simp only [G.trunc,List.length_take,hg.len]
 loc:=fun id l o h1 h2 h3=>hg.loc id l o (take_some h1).1 (take_some h2).1 h3
 apart:=fun id id' l l' o o' h1 h2 h3 h4 h5 h6 h7=>hg.apart id id' l l' o o' (take_some h1).1 (take_some h2).1 h3 (take_some h4).1 (take_some h5).1 h6 h7
 cells:=fun id cs h=>by
  obtain⟨l,arr,t,e1,e0,e2,e3,e4,e5⟩:=hg.cells id cs (take_some h).1
  have hbb:=hb _ (List.mem_of_getElem? h)
  simp only [AObj.upto,uptoL_iff] at hbb
  exact⟨l,arr,t,by simp only [G.trunc];rw [List.getElem?_take,if_pos (take_some h).2,e1],e0,e2,e3,fun j c u a b=>(e4 j c u a b).trunc hn (hbb c (List.mem_of_getElem? a)),e5⟩
 spare:=fun id m l h1 h2=>hg.spare id m l (take_some h1).1 (take_some h2).1
 map:=fun id kt es h=>by
  obtain⟨l,arr,clk,e1,e0,e2,e3,e6,e4⟩:=hg.map id kt es (take_some h).1
  have hbb:=hb _ (List.mem_of_getElem? h)
  simp only [AObj.upto,uptoE_iff] at hbb
  exact⟨l,arr,clk,by simp only [G.trunc];rw [List.getElem?_take,if_pos (take_some h).2,e1],e0,e2,e3,e6,fun i e kx a b=>⟨(e4 i e kx a b).1,(e4 i e kx a b).2.1,(e4 i e kx a b).2.2.trunc hn (hbb kx (List.mem_of_getElem? b))⟩⟩
theorem Le.trunc{g0 g:G}(h:Le g0 g){n:Nat}(hn:g0.objs.length≤n):Le g0 (g.trunc n) where
 os:=h.os
 tape:=h.tape
 output:=h.output
 fr:=h.fr
 size:=h.size
 block:=fun k hk hh=>⟨(h.block k hk hh).1,fun q=>(h.block k hk hh).2 q.trunc⟩
 cell:=fun b off x hx hh=>⟨(h.cell b off x hx hh).1,fun q=>(h.cell b off x hx hh).2 q.trunc⟩
 len:=by
  have:=h.len
  simp only [G.trunc,List.length_take]
  omega
 spare:=fun id m hm=>by
  have hlt:=lt_of_getElem? hm
  have e:(g.trunc n).objs[id]?=g.objs[id]?:=by
   simp only [G.trunc]
   rw [List.getElem?_take,if_pos (by omega)]
  rw [e]
  exact h.spare id m hm
 plain:=fun id o ho hs=>by
  have hlt:=lt_of_getElem? ho
  have e:(g.trunc n).objs[id]?=g.objs[id]?:=by
   simp only [G.trunc]
   rw [List.getElem?_take,if_pos (by omega)]
  have e':(g.trunc n).env[id]?=g.env[id]?:=by
   simp only [G.trunc]
   rw [List.getElem?_take,if_pos (by omega)]
  rw [e,e']
  exact h.plain id o ho hs
 gone:=fun id ho=>by
  have hlt:=lt_of_getElem? ho
  have e:(g.trunc n).objs[id]?=g.objs[id]?:=by
   simp only [G.trunc]
   rw [List.getElem?_take,if_pos (by omega)]
  rw [e]
  exact h.gone id ho
 tok:=fun id m hm hm'=>by
  have hlt:=lt_of_getElem? hm
  have e:(g.trunc n).objs[id]?=g.objs[id]?:=by
   simp only [G.trunc]
   rw [List.getElem?_take,if_pos (by omega)]
  have e':(g.trunc n).env[id]?=g.env[id]?:=by
   simp only [G.trunc]
   rw [List.getElem?_take,if_pos (by omega)]
  rw [e] at hm'
  rw [e']
  exact h.tok id m hm hm'
def Enters (P : Program) (f : FuncId) : Prop := ∃ fn, P.funcs[f]? = some fn ∧ (fn.name == "runtime.NumGoroutine") = false ∧ fn.body.isNone = false
def ECall(P:Program)(f:FuncId)(O:List AObj)(args:List AVal)(R:AVal→List AObj→Prop):Prop :=
 Enters P f∧∀(g:G) (vs:Array Value),Good g→g.objs=O→RVs g args vs→Calls P f vs g.w fun e w'=>∃g' v r,e=.returned v∧g'.w=w'∧Le g g'∧Good g'∧RV g' r v∧R r g'.objs
def PCall(P:Program)(f:FuncId)(args:List AVal)(r:AVal):Prop:=ECall P f [] args fun r' O'=>r'=r∧O'=[]
theorem ECall.mono{P:Program}{f:FuncId}{O:List AObj}{args:List AVal}{R R':AVal→List AObj→Prop}(h:ECall P f O args R)(hr:∀r O',R r O'→R' r O'):ECall P f O args R' :=
 ⟨h.1,fun g vs hg ho ha=>(h.2 g vs hg ho ha).mono fun _ _ ⟨g',v,r,h1,h2,h3,h4,h5,h6⟩=>⟨g',v,r,h1,h2,h3,h4,h5,hr _ _ h6⟩⟩
def G.bare(g:G):G:=⟨g.w,OwnC g,[],[]⟩
theorem bare_own{g:G}{b off:Nat}:OwnC g.bare b off↔OwnC g b off:=by
 constructor
 ·rintro(h | ⟨id,l,o,h1,_⟩)
  ·exact h
  simp [G.bare] at h1
 exact .inl
theorem RV.bare{g:G}{x:AVal}{u:Value}(h:RV g x u)(hb:x.upto 0):RV g.bare x u:=by
 induction h with
 | v hx=>exact .v hx
 | agg hl hsc _ ih =>
  simp only [AVal.upto,uptoL_iff] at hb
  exact .agg hl hsc fun i c u a b=>ih i c u a b (hb c (List.mem_of_getElem? a))
 | nil ho hnn =>
  simp only [AVal.upto] at hb
  refine .nil (fun id e=>?_) hnn
  subst e
  have:=hb.2
  simp only at this
  omega
 | lst hsz hsc hcap hmax hs f hm hr ho ih =>
  rename_i sz xs o a cap
  simp only [AVal.upto,uptoL_iff] at hb
  refine .lst hsz hsc hcap hmax hs f (fun j c hj=>⟨(hm j c hj).1,fun q=>(hm j c hj).2 (bare_own.1 q)⟩) (fun j c hj=>ih j c hj ?_) ?_
  ·have hc:=List.mem_of_getElem? hj
   simp only [cellsAll,List.mem_flatMap] at hc
   obtain⟨x,hx,hc⟩:=hc
   have:=hb.1 x hx
   cases x with
   | agg cs =>
    simp only [AVal.upto,uptoL_iff] at this
    exact this c hc
   | _=>simp only [AVal.cells,List.mem_singleton] at hc;subst hc;exact this
  cases o with
  | sh=>trivial
  | nn=>trivial
  | ex=>exact ho
  | loc a=>exact ho
  | tok id =>
   have hid:=hb.2
   simp only at hid
   omega
 | ip ha hsc f hm hr ih =>
  simp only [AVal.upto,uptoL_iff] at hb
  exact .ip ha hsc f (fun j c hj=>⟨(hm j c hj).1,fun q=>(hm j c hj).2 (bare_own.1 q)⟩) fun j c hj=>ih j c hj (hb c (List.mem_of_getElem? hj))
 | mp he ho hn'=>simp only [AVal.upto] at hb;omega
 | ms he ho hn' hc hc' hmax=>simp only [AVal.upto] at hb;omega
 | os he ho hn' hc hc' hmax=>simp only [AVal.upto] at hb;omega
 | raw hnn ho=>simp only [AVal.upto] at hb;omega
 | mm he ho hn'=>simp only [AVal.upto] at hb;omega
 | im hh hn' hl hk hkt _ ih =>
  simp only [AVal.upto,uptoE_iff] at hb
  exact .im hh (fun off q=>hn' off (bare_own.1 q)) hl hk hkt fun i e kx a b=>ih i e kx a b (hb kx (List.mem_of_getElem? b))
 | fn hl hl' _ _ ih ih' =>
  simp only [AVal.upto,uptoL_iff] at hb
  exact .fn hl hl' (fun i c u a b=>ih i c u a b (hb.1 c (List.mem_of_getElem? a))) fun i c u a b=>ih' i c u a b (hb.2 c (List.mem_of_getElem? a))
 | tup hl _ ih =>
  simp only [AVal.upto,uptoL_iff] at hb
  exact .tup hl fun i c u a b=>ih i c u a b (hb c (List.mem_of_getElem? a))
theorem Good.bare{g:G}(hg:Good g):Good g.bare where
 frlt:=fun b off h=>by
  rcases h with h | ⟨id,l,o,h1,h2,h3,h4,_⟩
  ·exact hg.frlt b off h
  exact h4 ▸ hg.loc id l o h1 h2 h3
 frown:=fun id l o h1=>by simp [G.bare] at h1
 len:=rfl
 loc:=fun id l o h1=>by simp [G.bare] at h1
 apart:=fun id id' l l' o o' h1=>by simp [G.bare] at h1
 cells:=fun id cs h1=>by simp [G.bare] at h1
 spare:=fun id m l h1=>by simp [G.bare] at h1
 map:=fun id kt es h1=>by simp [G.bare] at h1
def G.back(g g':G):G:=⟨g'.w,g.fr,g.env,g.objs⟩
theorem no_own{g:G}(he:g.env=[]){b:Nat}:¬OwnLB g b:=by
 rintro⟨id,l,o,h1,_⟩
 simp [he] at h1
theorem Le.back{g g':G}(hg:Good g)(h:Le g.bare g'):Le g (g.back g') where
 os:=h.os
 tape:=h.tape
 output:=h.output
 fr:=rfl
 size:=h.size
 block:=fun k hk hh=>⟨(h.block k hk (no_own rfl)).1,hh⟩
 cell:=fun b off x hx hh=>⟨(h.cell b off x hx (fun q=>no_own rfl q.block)).1,hh⟩
 len:=Nat.le_refl _
 spare:=fun id m hm=>.inl ⟨m,hm,Nat.le_refl _⟩
 plain:=fun id o ho hs=>⟨⟨o,ho,hs⟩,rfl⟩
 gone:=fun id ho=>ho
 tok:=fun id m hm hm'=>⟨rfl,fun l hl=>(h.block _ (hg.loc id l _ hl hm trivial) (no_own rfl)).1⟩
theorem Good.back{g g':G}(hg:Good g)(h:Le g.bare g'):Good (g.back g'):=by
 have hle:=Le.back hg h
 have hblk:∀k,k<g.w.heap.size→g'.w.heap[k]?=g.w.heap[k]?:=fun k hk=>(h.block k hk (no_own rfl)).1
 exact {
  frlt:=fun b off hf=>Nat.lt_of_lt_of_le (hg.frlt b off hf) h.size
  frown:=hg.frown
  len:=hg.len
  loc:=fun id l o h1 h2 h3=>Nat.lt_of_lt_of_le (hg.loc id l o h1 h2 h3) h.size
  apart:=hg.apart
  cells:=fun id cs h1=>by
   obtain⟨l,arr,t,e1,e0,e2,e3,e4,e5⟩:=hg.cells id cs h1
   exact⟨l,arr,t,e1,e0,(hblk _ (lt_of_getElem?' e2)).trans e2,e3,fun j c u a b=>(e4 j c u a b).mono hle,e5⟩
  spare:=fun id m l h1 h2=>by
   obtain⟨arr,t,e⟩:=hg.spare id m l h1 h2
   exact⟨arr,t,(hblk _ (lt_of_getElem?' e)).trans e⟩
  map:=fun id kt es h1=>by
   obtain⟨l,arr,clk,e1,e0,e2,e3,e6,e4⟩:=hg.map id kt es h1
   exact⟨l,arr,clk,e1,e0,(hblk _ (lt_of_getElem?' e2)).trans e2,e3,e6,fun i e kx a b=>⟨(e4 i e kx a b).1,(e4 i e kx a b).2.1,(e4 i e kx a b).2.2.mono hle⟩⟩ }
theorem RV.back{g g':G}{x:AVal}{u:Value}(hfr:g'.fr=OwnC g)(hen:g'.env=[])(hob:g'.objs=[])(h:RV g' x u):RV (g.back g') x u:=by
 have hown:∀b off,OwnC (g.back g') b off→OwnC g' b off:=fun b off q=>by
  refine .inl ?_
  rw [hfr]
  exact q
 induction h with
 | v hx=>exact .v hx
 | agg hl hsc _ ih=>exact .agg hl hsc ih
 | nil ho hnn =>
  refine .nil (fun id e=>?_) hnn
  have:=ho id e
  simp [hob] at this
 | lst hsz hsc hcap hmax hs f hm hr ho ih =>
  rename_i sz xs o a cap
  refine .lst hsz hsc hcap hmax hs f (fun j c hj=>⟨(hm j c hj).1,fun q=>(hm j c hj).2 (hown _ _ q)⟩) ih ?_
  cases o with
  | sh=>trivial
  | nn=>trivial
  | ex=>exact ho
  | loc a=>exact ho
  | tok id =>
   have:=ho.1
   simp [hob] at this
 | ip ha hsc f hm hr ih=>exact .ip ha hsc f (fun j c hj=>⟨(hm j c hj).1,fun q=>(hm j c hj).2 (hown _ _ q)⟩) ih
 | mp he ho hn'=>simp [hen] at he
 | ms he ho hn' hc hc' hmax=>simp [hen] at he
 | os he ho hn' hc hc' hmax=>simp [hen] at he
 | raw hnn ho =>
  have:=ho.1
  simp [hob] at this
 | mm he ho hn'=>simp [hen] at he
 | im hh hn' hl hk hkt _ ih=>exact .im hh (fun off q=>hn' off (hown _ _ q)) hl hk hkt ih
 | fn hl hl' _ _ ih ih'=>exact .fn hl hl' ih ih'
 | tup hl _ ih=>exact .tup hl ih
theorem PCall.use{P:Program}{f:FuncId}{args:List AVal}{r:AVal}(h:PCall P f args r)(hb:uptoL 0 args)(O:List AObj):ECall P f O args fun r' O'=>r'=r∧O'=O:=by
 refine⟨h.1,?_⟩
 intro g vs hg ho ha
 have ha':RVs g.bare args vs:=⟨ha.1,fun j c u a b=>(ha.2 j c u a b).bare (uptoL_iff.1 hb c (List.mem_of_getElem? a))⟩
 refine(h.2 g.bare vs hg.bare rfl ha').mono ?_
 rintro e w' ⟨g',v,r',h1,h2,h3,h4,h5,h6,h7⟩
 subst h6
 have hen:g'.env=[]:=by
  have:=h4.len
  rw [h7] at this
  exact List.length_eq_zero_iff.1 this
 exact⟨g.back g',v,r',h1,h2,Le.back hg h3,Good.back hg h3,h5.back h3.fr hen h7,rfl,ho⟩
inductive Kind where
 | pure
 | read
 | rd (id:Nat)
 | write
 | wr (n:Nat) (l:List Nat)
 | new (id:Nat)
 deriving DecidableEq
def Eff(k:Kind)(F:List AObj→List AObj):Prop :=
 match k with
 | .write=>∀O O',F O=F O'
 | .wr _ _=>∀O O',F O=F O'
 | .new id=>∃o,∀O,F O=O.set id o
 | _=>∀O,F O=O
def Mode.kind:Mode→Kind
 | .pure=>.pure
 | .read=>.read
 | .rd id=>.rd id
 | .write _=>.write
 | .wr n l _=>.wr n l
 | .new id _=>.new id
def dropO(n:Nat)(d:Option Nat)(l:List (Nat×AVal)):List (Nat×AVal) :=
 match d with
 | some d=>if d<n then putS d (.tup []) l else dropS d l
 | none=>l
structure Same(σ τ:St):Prop where
 n:σ.n=τ.n
 objs:σ.objs=τ.objs
 get:∀s,σ.get s=τ.get s
theorem Same.refl(σ:St):Same σ σ:=⟨rfl,rfl,fun _=>rfl⟩
theorem Same.symm{σ τ:St}(h:Same σ τ):Same τ σ:=⟨h.n.symm,h.objs.symm,fun s=>(h.get s).symm⟩
theorem Same.trans{σ τ ρ:St}(h:Same σ τ)(k:Same τ ρ):Same σ ρ:=⟨h.n.trans k.n,h.objs.trans k.objs,fun s=>(h.get s).trans (k.get s)⟩
theorem Same.ev{σ τ:St}(h:Same σ τ)(x:Operand):σ.ev x=τ.ev x:=by
 cases x with
 | tmp t=>exact h.get t
 | _=>rfl
theorem Same.rel{σ τ:St}(h:Same σ τ){base:G}{a:Act}{g:G}(k:Rel base σ a g):Rel base τ a g where
 le:=k.le
 good:=k.good
 objs:=k.objs.trans h.objs
 size:=k.size.trans h.n
 defers:=k.defers
 slot:=fun s x hx=>k.slot s x ((h.get s).trans hx)
def St.put(σ:St)(d:Option Nat)(r:AVal)(O:List AObj):St:=⟨σ.n,putO d r σ.slots,O⟩
def St.skip(σ:St)(d:Option Nat):St:=⟨σ.n,dropO σ.n d σ.slots,σ.objs⟩
theorem get_put(σ:St)(d:Option Nat)(r:AVal)(O:List AObj)(s:Nat):(σ.put d r O).get s=if d=some s then some r else σ.get s:=by
 cases d with
 | none=>simp [St.put,St.get,putO]
 | some d =>
  simp only [St.put,St.get,putO,look_putS]
  by_cases e:d=s
  ·simp [e]
  simp [e]
theorem get_skip(σ:St)(d:Option Nat)(s:Nat):(σ.skip d).get s=if d=some s then (if s<σ.n then some (.tup []) else none) else σ.get s:=by
 cases d with
 | none=>simp [St.skip,St.get,dropO]
 | some d =>
  simp only [St.skip,St.get,dropO]
  by_cases e:d=s
  ·subst e
   by_cases h:d<σ.n
   ·simp [h,look_putS]
   simp [h,look_dropS_eq]
  by_cases h:d<σ.n
  ·simp [e,h,look_putS]
  simp [e,h,look_dropS_ne e]
theorem Rel.skip{base:G}{σ:St}{a:Act}{g:G}(h:Rel base σ a g)(d:Nat):Rel base (σ.skip (some d)) (a.put (some d) undef) g:=by
 by_cases hd:d<σ.n
 ·have:=h.put (Le.refl g) h.good hd (r:=.tup []) (u:=undef) (.tup rfl (by simp))
  rw [show σ.skip (some d)=⟨σ.n,putS d (.tup []) σ.slots,g.objs⟩ by simp [St.skip,dropO,hd,h.objs]]
  exact this
 have:=h.forget d undef
 rw [show σ.skip (some d)=⟨σ.n,dropS d σ.slots,σ.objs⟩ by simp [St.skip,dropO,hd]]
 exact this
theorem Same.put{σ τ:St}(h:Same σ τ)(d:Option Nat)(r:AVal)(O:List AObj):Same (σ.put d r O) (τ.put d r O) :=
 ⟨h.n,rfl,fun s=>by rw [get_put,get_put,h.get]⟩
theorem Same.skip{σ τ:St}(h:Same σ τ)(d:Option Nat):Same (σ.skip d) (τ.skip d) :=
 ⟨h.n,h.objs,fun s=>by rw [get_skip,get_skip,h.get,h.n]⟩
def wantedA(ops:Array Oper)(o:Oper)(σ:St):Option Bool :=
 match o.guard with
 | none=>some true
 | some (j,want) =>
  match (ops[j]?).bind (·.dst) with
  | some t =>
   match σ.get t with
   | some (.v (.bool b))=>some (b == want)
   | some (.tup [])=>some false
   | _=>none
  | none=>none
theorem wantedA_spec{ops:Array Oper}{o:Oper}{σ:St}{base:G}{a:Act}{g:G}{b:Bool}(h:Rel base σ a g)(hw:wantedA ops o σ=some b):Region.wanted o (yielded ops a.tmps)=b:=by
 unfold wantedA at hw
 unfold Region.wanted
 cases hg:o.guard with
 | none =>
  simp only [hg,Option.some.injEq] at hw
  exact hw
 | some p =>
  obtain⟨j,want⟩:=p
  simp only [hg] at hw
  cases ht:(ops[j]?).bind (·.dst) with
  | none=>simp [ht] at hw
  | some t =>
   simp only [ht] at hw
   split at hw
   ·rename_i c hc
    simp only [Option.some.injEq] at hw
    obtain⟨u,h1,h2⟩:=h.slot t _ hc
    have:=h2.v_inv.1
    subst this
    have hy:yielded ops a.tmps j=some c:=by
     unfold yielded
     simp [ht,h1]
    simp only [hy]
    rw [←hw]
    cases c<;>cases want<;>rfl
   ·rename_i hc
    simp only [Option.some.injEq] at hw
    obtain⟨u,h1,h2⟩:=h.slot t _ hc
    cases h2 with
    | tup hl _ =>
     rename_i vs
     have hy:yielded ops a.tmps j=none:=by
      unfold yielded
      simp [ht,h1]
     simp only [hy]
     rw [←hw]
     rfl
   cases hw
theorem wantedA_congr{ops:Array Oper}{o:Oper}{σ τ:St}(h:∀j want t,o.guard=some (j,want)→(ops[j]?).bind (·.dst)=some t→σ.get t=τ.get t):wantedA ops o σ=wantedA ops o τ:=by
 unfold wantedA
 cases hg:o.guard with
 | none=>rfl
 | some p =>
  obtain⟨j,want⟩:=p
  simp only
  cases ht:(ops[j]?).bind (·.dst) with
  | none=>rfl
  | some t =>
   simp only
   rw [h j want t hg ht]
theorem Cert.congr{P:Program}{o:Oper}{σ τ:St}{r:AVal}{m:Mode}(h:Cert P o σ r m)(hn:σ.n=τ.n)(hev:∀x∈o.op.operands,σ.ev x=τ.ev x)(ho:m.agree τ.objs σ.objs):Cert P o τ r m:=by
 refine⟨?_,?_⟩
 ·have:=h.1
  cases m with
  | wr n l O' =>
   intro i hi hl
   rw [this i hi hl,show τ.objs=σ.objs from ho]
  | _=>trivial
 intro base ρ a g hrel h1 h2 h3
 refine h.2 base ρ a g hrel (h1.trans hn.symm) (fun x hx y hy=>h2 x hx y ((hev x hx).symm.trans hy)) ?_
 cases m with
 | pure=>trivial
 | rd id=>exact Eq.trans h3 ho
 | new id _=>exact Eq.trans h3 ho
 | _=>exact Eq.trans h3 ho
def StepOK(P:Program)(ops:Array Oper)(i:Nat)(k:Kind)(σ σ':St):Prop :=
 ∃o,ops[i]?=some o ∧
  ((wantedA ops o σ=some true∧∃r m,Cert P o σ r m∧m.kind=k∧σ'=σ.put o.dst r (m.post σ.objs)) ∨
   (wantedA ops o σ=some false∧k=.pure∧σ'=σ.skip o.dst))
def Chain(P:Program)(ops:Array Oper):List (Nat×Kind)→St→St→Prop
 | [],σ,τ=>Same σ τ
 | (i,k)::r,σ,τ=>∃σ',StepOK P ops i k σ σ'∧Chain P ops r σ' τ
theorem StepOK.same{P:Program}{ops:Array Oper}{i:Nat}{k:Kind}{σ σ' τ:St}(h:StepOK P ops i k σ σ')(hs:Same σ τ):∃τ',StepOK P ops i k τ τ'∧Same σ' τ':=by
 obtain⟨o,ho,h⟩:=h
 rcases h with⟨h1,r,m,h2,h3,h4⟩ | ⟨h1,h2,h3⟩
 ·refine⟨τ.put o.dst r (m.post τ.objs),⟨o,ho,.inl ⟨?_,r,m,h2.congr hs.n (fun x _=>hs.ev x) (Mode.agree_of (.inr hs.objs.symm)),h3,rfl⟩⟩,?_⟩
  ·rw [←h1]
   exact wantedA_congr fun _ _ t _ _=>(hs.get t).symm
  subst h4
  rw [hs.objs]
  exact hs.put _ _ _
 refine⟨τ.skip o.dst,⟨o,ho,.inr ⟨?_,h2,rfl⟩⟩,?_⟩
 ·rw [←h1]
  exact wantedA_congr fun _ _ t _ _=>(hs.get t).symm
 subst h3
 exact hs.skip _
theorem Chain.same{P:Program}{ops:Array Oper}:∀{l:List (Nat×Kind)} {σ τ ρ:St},Chain P ops l σ ρ→Same σ τ→Chain P ops l τ ρ
 | [],_,_,_,h,hs=>hs.symm.trans h
 | (i,k)::r,σ,τ,ρ,h,hs=>by
  obtain⟨σ',h1,h2⟩:=h
  obtain⟨τ',h3,h4⟩:=h1.same hs
  exact⟨τ',h3,h2.same h4⟩
def kindsApart(k k':Kind):Bool :=
 match k,k' with
 | .pure,_=>true
 | _,.pure=>true
 | .read,.read=>true
 | .rd _,.read=>true
 | .read,.rd _=>true
 | .rd _,.rd _=>true
 | .rd id,.wr n l=>decide (id<n)&&!l.contains id
 | .wr n l,.rd id=>decide (id<n)&&!l.contains id
 | .new i,.new j=>!decide (i=j)
 | .new i,.rd j=>!decide (i=j)
 | .rd i,.new j=>!decide (i=j)
 | _,_=>false
def Kind.agree(k:Kind)(O O0:List AObj):Prop :=
 match k with
 | .pure=>True
 | .rd id=>O[id]?=O0[id]?
 | .new id=>O[id]?=O0[id]?
 | _=>O=O0
theorem Mode.agree_kind{m:Mode}{O O0:List AObj}(h:m.kind.agree O O0):m.agree O O0:=by
 cases m<;>exact h
theorem looks_operand{ops:Array Oper}{o:Oper}{t:Nat}(h:(.tmp t:Operand)∈o.op.operands):t∈o.looksAt ops :=
 List.mem_append_left _ (List.mem_filterMap.2 ⟨.tmp t,Array.mem_toList_iff.2 h,rfl⟩)
theorem looks_guard{ops:Array Oper}{o:Oper}{j:Nat}{want:Bool}{t:Nat}(h:o.guard=some (j,want))(ht:(ops[j]?).bind (·.dst)=some t):t∈o.looksAt ops:=by
 refine List.mem_append_right _ ?_
 simp [h,ht]
structure Step1(P:Program)(ops:Array Oper)(o:Oper)(k:Kind)(F:List AObj→List AObj)(σ σ':St):Prop where
 n:σ'.n=σ.n
 get:∀s,o.dst≠some s→σ'.get s=σ.get s
 eff:Eff k F
 objs:σ'.objs=F σ.objs
 keep:∀n l,k=.wr n l→∀i,i<n→i ∉ l→(F σ.objs)[i]?=σ.objs[i]?
 move:∀τ:St,τ.n=σ.n→(∀t∈o.looksAt ops,τ.get t=σ.get t)→k.agree τ.objs σ.objs →
  ∃τ',(wantedA ops o τ=some true∧(∃r m,Cert P o τ r m∧m.kind=k∧τ'=τ.put o.dst r (m.post τ.objs))∨wantedA ops o τ=some false∧k=.pure∧τ'=τ.skip o.dst) ∧
   (∀s,o.dst=some s→τ'.get s=σ'.get s)∧(∀s,o.dst≠some s→τ'.get s=τ.get s)∧τ'.n=τ.n∧τ'.objs=F τ.objs
theorem step1{P:Program}{ops:Array Oper}{o:Oper}{k:Kind}{σ σ':St}
  (h:(wantedA ops o σ=some true∧∃r m,Cert P o σ r m∧m.kind=k∧σ'=σ.put o.dst r (m.post σ.objs))∨(wantedA ops o σ=some false∧k=.pure∧σ'=σ.skip o.dst)):∃F,Step1 P ops o k F σ σ':=by
 have hev:∀τ:St,(∀t∈o.looksAt ops,τ.get t=σ.get t)→∀x∈o.op.operands,σ.ev x=τ.ev x:=fun τ ht x hx=>by
  cases x with
  | tmp t=>exact(ht t (looks_operand hx)).symm
  | _=>rfl
 have hwant:∀τ:St,(∀t∈o.looksAt ops,τ.get t=σ.get t)→wantedA ops o τ=wantedA ops o σ:=fun τ ht=>wantedA_congr fun j w t hg hd=>ht t (looks_guard hg hd)
 rcases h with⟨h1,r,m,h2,h3,h4⟩ | ⟨h1,h2,h3⟩
 ·subst h4
  subst h3
  have heff:Eff m.kind m.post:=by
   cases m with
   | new id o=>exact⟨o,fun _=>rfl⟩
   | write O=>exact fun _ _=>rfl
   | wr n l O=>exact fun _ _=>rfl
   | _=>exact fun _=>rfl
  refine⟨m.post,rfl,fun s hs=>by rw [get_put,if_neg hs],heff,rfl,fun n l hk i hi hl=>?_,fun τ hn ht ho=>⟨τ.put o.dst r (m.post τ.objs),.inl ⟨(hwant τ ht).trans h1,r,m,?_,rfl,rfl⟩,?_,?_,rfl,rfl⟩⟩
  ·cases m with
   | wr n' l' O' =>
    simp only [Mode.kind,Kind.wr.injEq] at hk
    obtain⟨rfl,rfl⟩:=hk
    exact h2.1 i hi hl
   | _=>simp [Mode.kind] at hk
  ·exact h2.congr hn.symm (hev τ ht) (Mode.agree_kind ho)
  ·intro s hs
   rw [get_put,get_put,if_pos hs,if_pos hs]
  intro s hs
  rw [get_put,if_neg hs]
 subst h3
 subst h2
 refine⟨id,rfl,fun s hs=>by rw [get_skip,if_neg hs],fun _=>rfl,rfl,fun n l hk=>(by cases hk),fun τ hn ht ho=>⟨τ.skip o.dst,.inr ⟨(hwant τ ht).trans h1,rfl,rfl⟩,?_,?_,rfl,rfl⟩⟩
 ·intro s hs
  rw [get_skip,get_skip,if_pos hs,if_pos hs,hn]
 intro s hs
 rw [get_skip,if_neg hs]
theorem agree_symm{k:Kind}{O O':List AObj}(h:k.agree O O'):k.agree O' O:=by
 cases k<;>first | trivial | exact Eq.symm h
theorem agree_eff{kj ki:Kind}{F:List AObj→List AObj}{O:List AObj}(hk:kindsApart kj ki=true)(hF:Eff kj F)(hkeep:∀n l,kj=.wr n l→∀i,i<n→i ∉ l→(F O)[i]?=O[i]?):ki.agree O (F O):=by
 cases ki with
 | pure=>trivial
 | rd id =>
  show O[id]?=(F O)[id]?
  cases kj with
  | write=>simp [kindsApart] at hk
  | wr n l =>
   simp only [kindsApart,Bool.and_eq_true,decide_eq_true_eq,Bool.not_eq_true',List.contains_eq_mem,decide_eq_false_iff_not] at hk
   exact(hkeep n l rfl id hk.1 hk.2).symm
  | new j =>
   obtain⟨o,hF⟩:=hF
   simp only [kindsApart,Bool.not_eq_true',decide_eq_false_iff_not] at hk
   rw [hF,List.getElem?_set_ne hk]
  | _=>rw [hF O]
 | new id =>
  show O[id]?=(F O)[id]?
  cases kj with
  | new j =>
   obtain⟨o,hF⟩:=hF
   simp only [kindsApart,Bool.not_eq_true',decide_eq_false_iff_not] at hk
   rw [hF,List.getElem?_set_ne hk]
  | pure=>rw [hF O]
  | rd j=>rw [hF O]
  | _=>simp [kindsApart] at hk
 | read=>cases kj<;>first | exact(hF O).symm | simp [kindsApart] at hk
 | write=>cases kj<;>first | exact(hF O).symm | simp [kindsApart] at hk
 | wr n l=>cases kj<;>first | exact(hF O).symm | simp [kindsApart] at hk
theorem apart_symm{k k':Kind}(h:kindsApart k k'=true):kindsApart k' k=true:=by
 cases k<;>cases k'<;>first | exact h | (simp only [kindsApart,Bool.not_eq_true',decide_eq_false_iff_not] at h ⊢;exact fun e=>h e.symm)
theorem eff_comm{kj ki:Kind}{Fj Fi:List AObj→List AObj}(hk:kindsApart kj ki=true)(hj:Eff kj Fj)(hi:Eff ki Fi)(O:List AObj):Fi (Fj O)=Fj (Fi O):=by
 cases kj with
 | new j =>
  obtain⟨oj,hj⟩:=hj
  cases ki with
  | new i =>
   obtain⟨oi,hi⟩:=hi
   simp only [kindsApart,Bool.not_eq_true',decide_eq_false_iff_not] at hk
   rw [hj,hi,hj,hi,List.set_comm _ _ hk]
  | pure=>rw [hi,hi]
  | rd _=>rw [hi,hi]
  | _=>simp [kindsApart] at hk
 | pure=>rw [hj,hj]
 | read=>rw [hj,hj]
 | rd _=>rw [hj,hj]
 | write=>cases ki<;>first | (rw [hi,hi];done) | simp [kindsApart] at hk
 | wr _ _=>cases ki<;>first | (rw [hi,hi];done) | simp [kindsApart] at hk
theorem swap{P:Program}{ops:Array Oper}{i j:Nat}{oi oj:Oper}{ki kj:Kind}{σ σ1 σ2:St}(hi:ops[i]?=some oi)(hj:ops[j]?=some oj)(hap:oj.apart ops oi=true)(hk:kindsApart kj ki=true)
  (h1:StepOK P ops j kj σ σ1) (h2:StepOK P ops i ki σ1 σ2):∃τ1 τ2,StepOK P ops i ki σ τ1∧StepOK P ops j kj τ1 τ2∧Same σ2 τ2:=by
 obtain⟨a1,a2,a3⟩:=Oper.apart_spec hap
 obtain⟨oj',hj',h1⟩:=h1
 rw [hj] at hj'
 simp only [Option.some.injEq] at hj'
 subst hj'
 obtain⟨oi',hi',h2⟩:=h2
 rw [hi] at hi'
 simp only [Option.some.injEq] at hi'
 subst hi'
 obtain⟨Fj,s1⟩:=step1 h1
 obtain⟨Fi,s2⟩:=step1 h2
 have hdist:∀s,oj.dst=some s→oi.dst≠some s:=fun s hs e=>a2 s hs e
 have hag:=agree_eff hk s1.eff s1.keep
 rw [←s1.objs] at hag
 obtain⟨τ1,t1,t2,t3,t4,t5⟩:=s2.move σ s1.n.symm (fun t ht=>(s1.get t (fun e=>a1 t e ht)).symm) hag
 obtain⟨τ2,u1,u2,u3,u4,u5⟩:=s1.move τ1 t4 (fun t ht=>t3 t (fun e=>a3 t e ht)) (by
  rw [t5]
  refine agree_symm (agree_eff (apart_symm hk) s2.eff fun n l e i hi hl=>?_)
  subst e
  have h4:=s2.keep n l rfl i hi hl
  rw [s1.objs] at h4
  have hFj:∀O,Fj O=O:=by
   have he:=s1.eff
   clear s1 h1 hag
   cases kj with
   | pure=>exact he
   | rd _=>exact he
   | _=>simp [kindsApart] at hk
  rw [hFj] at h4
  exact h4)
 refine⟨τ1,τ2,⟨oi,hi,t1⟩,⟨oj,hj,u1⟩,⟨?_,?_,fun s=>?_⟩⟩
 ·rw [s2.n,s1.n,u4,t4]
 ·rw [s2.objs,s1.objs,u5,t5]
  exact eff_comm hk s1.eff s2.eff _
 by_cases ei:oi.dst=some s
 ·have ej:oj.dst≠some s:=fun e=>hdist s e ei
  rw [u3 s ej,t2 s ei]
 rw [s2.get s ei]
 by_cases ej:oj.dst=some s
 ·rw [u2 s ej]
 rw [u3 s ej,t3 s ei,s1.get s ej]
def indep(ops:Array Oper)(j i:Nat)(kj ki:Kind):Bool :=
 match ops[j]?,ops[i]? with
 | some oj,some oi=>oj.apart ops oi&&kindsApart kj ki
 | _,_=>false
theorem Chain.front{P:Program}{ops:Array Oper}{i:Nat}{ki:Kind}{l2:List (Nat×Kind)}:∀{l1:List (Nat×Kind)} {σ ρ:St},Chain P ops (l1++(i,ki)::l2) σ ρ→(∀p∈l1,indep ops p.1 i p.2 ki=true)→Chain P ops ((i,ki)::(l1++l2)) σ ρ
 | [],_,_,h,_=>h
 | (j,kj)::l1,σ,ρ,h,hind=>by
  obtain⟨σ1,h1,h2⟩:=h
  obtain⟨σ2,h3,h4⟩:=Chain.front h2 (fun p hp=>hind p (by simp [hp]))
  have hij:=hind (j,kj) (by simp)
  simp only [indep] at hij
  have hoi:∃oi,ops[i]?=some oi:=by
   obtain⟨oi,hoi,_⟩:=h3
   exact⟨oi,hoi⟩
  have hoj:∃oj,ops[j]?=some oj:=by
   obtain⟨oj,hoj,_⟩:=h1
   exact⟨oj,hoj⟩
  obtain⟨oi,hoi⟩:=hoi
  obtain⟨oj,hoj⟩:=hoj
  simp only [hoi,hoj,Bool.and_eq_true] at hij
  obtain⟨τ1,τ2,q1,q2,q3⟩:=swap hoi hoj hij.1 hij.2 h1 h3
  exact⟨τ1,q1,τ2,q2,h4.same q3⟩
def reachB(ops:Array Oper):Nat→Nat→Nat→Bool
 | 0,_,_=>false
 | n+1,j,i =>
  match ops[i]? with
  | some o=>o.after.toList.any fun e=>Region.binds .any e&&(e.on == j || reachB ops n j e.on)
  | none=>false
def backB(ops:Array Oper):Bool :=
 (List.range ops.size).all fun i =>
  match ops[i]? with
  | some o=>o.after.toList.all fun e=>!Region.binds .any e || decide (e.on<i)
  | none=>true
def orderB(ops:Array Oper)(ks:List Kind):Bool :=
 backB ops&&(ks.length == ops.size) &&
 (List.range ops.size).all fun i=>(List.range i).all fun j=>reachB ops ops.size j i || indep ops j i (ks.getD j .write) (ks.getD i .write)
def closedB(ops:Array Oper)(listed:Array Bool):Prop :=
 ∀i o,ops[i]?=some o→listed.getD i false=true→∀e∈o.after.toList,Region.binds .any e=true→listed.getD e.on false=true
theorem reach_listed{ops:Array Oper}{listed:Array Bool}(hc:closedB ops listed):∀(n j i:Nat) (o:Oper),ops[i]?=some o→(∀e∈o.after.toList,Region.binds .any e=true→listed.getD e.on false=true)→reachB ops n j i=true→listed.getD j false=true
 | 0,j,i,o,_,_,h=>by simp [reachB] at h
 | n+1,j,i,o,ho,hall,h=>by
  simp only [reachB,ho,List.any_eq_true,Bool.and_eq_true,Bool.or_eq_true,beq_iff_eq] at h
  obtain⟨e,he,hb,h⟩:=h
  have hon:=hall e he hb
  rcases h with h | h
  ·rw [←h]
   exact hon
  cases hoe:ops[e.on]? with
  | none =>
   cases n with
   | zero=>simp [reachB] at h
   | succ n=>simp [reachB,hoe] at h
  | some o'=>exact reach_listed hc n j e.on o' hoe (fun e' he' hb'=>hc e.on o' hoe hon e' he' hb') h
theorem mem_ready'{ops:Array Oper}{listed:Array Bool}{i:Nat}:i∈Region.ready .any ops listed↔i<ops.size∧listed.getD i true=false∧∃o,ops[i]?=some o∧∀e∈o.after.toList,Region.binds .any e=true→listed.getD e.on false=true:=by
 unfold Region.ready
 rw [List.mem_filter,List.mem_range]
 constructor
 ·rintro⟨h1,h2⟩
  rw [Bool.and_eq_true] at h2
  obtain⟨h2,h3⟩:=h2
  refine⟨h1,by simpa using h2,?_⟩
  cases ho:ops[i]? with
  | none=>simp [ho] at h3
  | some o =>
   refine⟨o,rfl,fun e he hb=>?_⟩
   simp only [ho,Option.map_some,Option.getD_some] at h3
   have:=Array.all_eq_true_iff_forall_mem.1 h3 e (Array.mem_toList_iff.1 he)
   simpa [hb] using this
 rintro⟨h1,h2,o,ho,h3⟩
 refine⟨h1,?_⟩
 rw [Bool.and_eq_true]
 refine⟨by simpa using h2,?_⟩
 simp only [ho,Option.map_some,Option.getD_some]
 refine Array.all_eq_true_iff_forall_mem.2 fun e he=>?_
 by_cases hb:Region.binds .any e=true
 ·simp only [hb,Bool.not_true,Bool.false_or]
  exact h3 e (Array.mem_toList_iff.2 he) hb
 simp [hb]
theorem range_split{n i:Nat}(h:i<n):List.range n=List.range i++i::(List.range n).drop (i+1):=by
 apply List.ext_getElem?
 intro j
 rw [List.getElem?_append]
 simp only [List.length_range]
 by_cases h1:j<i
 ·rw [if_pos h1,List.getElem?_range h1,List.getElem?_range (by omega)]
 rw [if_neg h1]
 by_cases h2:j=i
 ·subst h2
  simp [h]
 obtain⟨m,hm⟩:∃m,j - i=m+1:=⟨j - i - 1,by omega⟩
 rw [hm,List.getElem?_cons_succ,List.getElem?_drop]
 congr 1
 omega
theorem drop_range_mem{n i j:Nat}(h:j∈(List.range n).drop (i+1)):i<j∧j<n:=by
 obtain⟨k,hk⟩:=List.getElem?_of_mem h
 rw [List.getElem?_drop] at hk
 have:=lt_of_getElem? hk
 simp only [List.length_range] at this
 rw [List.getElem?_range this] at hk
 simp only [Option.some.injEq] at hk
 omega
def todoOf(ks:List Kind)(n:Nat)(listed:Array Bool):List (Nat×Kind) :=
 ((List.range n).filter fun i=>!listed.getD i true).map fun i=>(i,ks.getD i .write)
theorem todo_split(ks:List Kind){n:Nat}{listed:Array Bool}(hsz:listed.size=n){i:Nat}(hi:i<n)(hl:listed.getD i true=false) :
  ∃l1 l2,todoOf ks n listed=l1++(i,ks.getD i .write)::l2∧todoOf ks n (listed.setIfInBounds i true)=l1++l2∧∀p∈l1,p.1<i∧listed.getD p.1 true=false∧p.2=ks.getD p.1 .write:=by
 refine⟨((List.range i).filter fun j=>!listed.getD j true).map fun j=>(j,ks.getD j .write),(((List.range n).drop (i+1)).filter fun j=>!listed.getD j true).map fun j=>(j,ks.getD j .write),?_,?_,?_⟩
 ·unfold todoOf
  rw [range_split hi]
  rw [List.filter_append,List.map_append,List.filter_cons]
  simp only [hl,Bool.not_false,if_true,List.map_cons]
  rw [←range_split hi]
 ·unfold todoOf
  rw [range_split hi]
  rw [List.filter_append,List.map_append,List.filter_cons]
  have hii:(listed.setIfInBounds i true).getD i true=true:=by
   simp [Array.getD_eq_getD_getElem?,Array.getElem?_setIfInBounds_self_of_lt (by omega:i<listed.size)]
  simp only [hii,Bool.not_true,Bool.false_eq_true,if_false]
  rw [←range_split hi]
  have hne:∀j,j≠i→(listed.setIfInBounds i true).getD j true=listed.getD j true:=fun j hj=>by
   simp [Array.getD_eq_getD_getElem?,Array.getElem?_setIfInBounds_ne (fun e=>hj e.symm)]
  congr 2
  ·apply List.filter_congr
   intro j hj
   rw [List.mem_range] at hj
   rw [hne j (by omega)]
  apply List.filter_congr
  intro j hj
  have:=drop_range_mem hj
  rw [hne j (by omega)]
 intro p hp
 rw [List.mem_map] at hp
 obtain⟨j,hj,e⟩:=hp
 subst e
 rw [List.mem_filter,List.mem_range] at hj
 exact⟨hj.1,by simpa using hj.2,rfl⟩
theorem getD_flip{listed:Array Bool}{i:Nat}(h:i<listed.size):listed.getD i true=listed.getD i false:=by
 simp [Array.getD_eq_getD_getElem?,h]
theorem wpAny_chain{P:Program}{ops:Array Oper}{ks:List Kind}(hB:orderB ops ks=true){base:G}{ρ:St}{Q:Exit→Act→World→Prop}(hQ:∀a g,Rel base ρ a g→Q .normal a g.w) :
  ∀(fuel:Nat) (listed:Array Bool) (σ:St) (a:Act) (g:G),listed.size=ops.size→closedB ops listed→(todoOf ks ops.size listed).length≤fuel→Chain P ops (todoOf ks ops.size listed) σ ρ→Rel base σ a g →
   wpAny P .any ops Q fuel listed a g.w:=by
 simp only [orderB,Bool.and_eq_true,List.all_eq_true,Bool.or_eq_true] at hB
 obtain⟨⟨hback,_⟩,hind⟩:=hB
 have hback':∀i o,ops[i]?=some o→∀e∈o.after.toList,Region.binds .any e=true→e.on<i:=by
  intro i o ho e he hb
  simp only [backB,List.all_eq_true] at hback
  have hlt:i<ops.size:=lt_of_getElem?' ho
  have:=hback i (List.mem_range.2 hlt)
  simp only [ho,List.all_eq_true,Bool.or_eq_true,decide_eq_true_eq] at this
  have:=this e he
  simpa [hb] using this
 have hempty:∀listed:Array Bool,listed.size=ops.size→Region.ready .any ops listed=[]→todoOf ks ops.size listed=[]:=by
  intro listed hsz hr
  refine Classical.byContradiction fun hne=>?_
  have hex:∃i,i<ops.size∧listed.getD i true=false:=by
   cases ht:todoOf ks ops.size listed with
   | nil=>exact absurd ht hne
   | cons p r =>
    have hm:p∈todoOf ks ops.size listed:=by rw [ht];simp
    simp only [todoOf,List.mem_map,List.mem_filter,List.mem_range] at hm
    obtain⟨i,⟨h1,h2⟩,_⟩:=hm
    exact⟨i,h1,by simpa using h2⟩
  have hmin:∃i,i<ops.size∧listed.getD i true=false∧∀j,j<i→listed.getD j true=true:=by
   obtain⟨i,h1,h2⟩:=hex
   induction i using Nat.strongRecOn with
   | _ i ih =>
    by_cases h:∃j,j<i∧listed.getD j true=false
    ·obtain⟨j,h3,h4⟩:=h
     exact ih j h3 (by omega) h4
    refine⟨i,h1,h2,fun j hj=>?_⟩
    cases hc:listed.getD j true with
    | true=>rfl
    | false=>exact absurd ⟨j,hj,hc⟩ h
  obtain⟨i,h1,h2,h3⟩:=hmin
  have hi:i∈Region.ready .any ops listed:=by
   refine mem_ready'.2 ⟨h1,h2,ops[i],Array.getElem?_eq_getElem h1,fun e he hb=>?_⟩
   have hlt:=hback' i _ (Array.getElem?_eq_getElem h1) e he hb
   rw [←getD_flip (by omega)]
   exact h3 _ hlt
  rw [hr] at hi
  cases hi
 intro fuel
 induction fuel with
 | zero =>
  intro listed σ a g hsz hc hlen hch hrel
  have ht:todoOf ks ops.size listed=[]:=List.length_eq_zero_iff.1 (by omega)
  rw [ht] at hch
  refine⟨?_,hQ a g (Same.rel hch hrel)⟩
  cases hr:Region.ready .any ops listed with
  | nil=>rfl
  | cons i r =>
   have hi:i∈Region.ready .any ops listed:=by rw [hr];simp
   obtain⟨h1,h2,_⟩:=mem_ready'.1 hi
   have:(i,ks.getD i .write)∈todoOf ks ops.size listed:=by
    simp only [todoOf,List.mem_map,List.mem_filter,List.mem_range]
    exact⟨i,⟨h1,by rw [h2];rfl⟩,rfl⟩
   rw [ht] at this
   cases this
 | succ fuel ih =>
  intro listed σ a g hsz hc hlen hch hrel
  refine⟨fun hr=>?_,fun i hi=>?_⟩
  ·have ht:=hempty listed hsz hr
   rw [ht] at hch
   exact hQ a g (Same.rel hch hrel)
  obtain⟨h1,h2,o,ho,h3⟩:=mem_ready'.1 hi
  obtain⟨l1,l2,e1,e2,e3⟩:=todo_split ks hsz h1 h2
  rw [e1] at hch
  have hch':=Chain.front hch (fun p hp=>by
   obtain⟨q1,q2,q3⟩:=e3 p hp
   have:=hind i (List.mem_range.2 h1) p.1 (List.mem_range.2 q1)
   rcases this with this | this
   ·have:=reach_listed hc _ _ _ o ho h3 this
    rw [←getD_flip (by omega),q2] at this
    cases this
   rw [q3]
   exact this)
  obtain⟨σ',⟨o',ho',hstep⟩,hrest⟩:=hch'
  rw [ho] at ho'
  simp only [Option.some.injEq] at ho'
  subst ho'
  rw [←e2] at hrest
  have hsz':(listed.setIfInBounds i true).size=ops.size:=by simpa using hsz
  have hc':closedB ops (listed.setIfInBounds i true):=by
   intro j oj hoj hlj e he hb
   have hmono:∀k,listed.getD k false=true→(listed.setIfInBounds i true).getD k false=true:=fun k hk=>getD_set_true hk
   by_cases hji:j=i
   ·subst hji
    rw [ho] at hoj
    simp only [Option.some.injEq] at hoj
    subst hoj
    exact hmono _ (h3 e he hb)
   rw [getD_set_ne false (fun e=>hji e.symm)] at hlj
   exact hmono _ (hc j oj hoj hlj e he hb)
  have hlen':(todoOf ks ops.size (listed.setIfInBounds i true)).length≤fuel:=by
   rw [e1] at hlen
   rw [e2]
   simp only [List.length_append,List.length_cons] at hlen ⊢
   omega
  unfold wpOp
  simp only [ho]
  rcases hstep with⟨hw,r,m,hcert,hk,hσ⟩ | ⟨hw,_,hσ⟩
  ·rw [if_pos (wantedA_spec hrel hw)]
   refine .inl (hcert.2 base σ a g hrel rfl (fun x _ y hy=>hy) (Mode.agree_of (.inr rfl)) _ _ fun u g' hrel'=>?_)
   subst hσ
   exact ih _ _ _ _ hsz' hc' hlen' hrest hrel'
  rw [if_neg (by rw [wantedA_spec hrel hw];simp)]
  subst hσ
  refine ih _ _ _ g hsz' hc' hlen' hrest ?_
  cases hdst:o.dst with
  | none=>exact hrel
  | some d=>exact hrel.skip d
theorem wp_region_chain{P:Program}(hm:P.follows .mixedOrders=true){ops:Array Oper}{ks:List Kind}(hB:orderB ops ks=true){id:Nat}{base:G}{σ ρ:St}{a:Act}{g:G}{Q:Exit→Act→World→Prop}
  (hch:Chain P ops ((List.range ops.size).map fun i=>(i,ks.getD i .write)) σ ρ) (hrel:Rel base σ a g) (hQ:∀a g,Rel base ρ a g→Q .normal a g.w):(Code.region id ops true).wp P Q a g.w:=by
 refine wp_region_any hm ?_
 have htodo:todoOf ks ops.size (Array.replicate ops.size false)=(List.range ops.size).map fun i=>(i,ks.getD i .write):=by
  unfold todoOf
  congr 1
  rw [List.filter_eq_self]
  intro i hi
  rw [List.mem_range] at hi
  simp [Array.getD_eq_getD_getElem?,hi]
 have hg':=hrel.good.heap (w':={ g.w with drawn:=g.w.drawn+1 }) rfl rfl rfl rfl
 have hle':=Le.heap (g:=g) (w':={ g.w with drawn:=g.w.drawn+1 }) rfl rfl rfl rfl
 have hrel':=hrel.step hle' hg'
 have hobj:(⟨σ.n,σ.slots,g.objs⟩:St)=σ:=by rw [hrel.objs]
 rw [hobj] at hrel'
 refine wpAny_chain hB hQ ops.size (Array.replicate ops.size false) σ a _ (by simp) ?_ ?_ (by rw [htodo];exact hch) hrel'
 ·intro i o ho hl
  have hlt:i<ops.size:=lt_of_getElem?' ho
  simp [Array.getD_eq_getD_getElem?,hlt] at hl
 rw [htodo]
 simp
theorem wpOps_chain{P:Program}{ops:Array Oper}{base:G}{ρ:St}{Q:Exit→Act→World→Prop}(hQ:∀a g,Rel base ρ a g→Q .normal a g.w) :
  ∀(l:List (Nat×Kind)) (σ:St) (a:Act) (g:G),Chain P ops l σ ρ→Rel base σ a g→wpOps P ops Q (l.map (·.1)) a g.w
 | [],σ,a,g,hch,hrel=>hQ a g (Same.rel hch hrel)
 | (i,k)::r,σ,a,g,hch,hrel=>by
  obtain⟨σ',⟨o,ho,hstep⟩,hrest⟩:=hch
  simp only [List.map_cons,wpOps,ho]
  rcases hstep with⟨hw,r',m,hcert,hk,hσ⟩ | ⟨hw,_,hσ⟩
  ·rw [if_pos (wantedA_spec hrel hw)]
   refine .inl (hcert.2 base σ a g hrel rfl (fun x _ y hy=>hy) (Mode.agree_of (.inr rfl)) _ _ fun u g' hrel'=>?_)
   subst hσ
   exact wpOps_chain hQ r _ _ _ hrest hrel'
  rw [if_neg (by rw [wantedA_spec hrel hw];simp)]
  subst hσ
  refine wpOps_chain hQ r _ _ g hrest ?_
  cases hdst:o.dst with
  | none=>exact hrel
  | some d=>exact hrel.skip d
theorem wp_region_lex{P:Program}{ops:Array Oper}{ks:List Kind}{id:Nat}{base:G}{σ ρ:St}{a:Act}{g:G}{Q:Exit→Act→World→Prop}
  (hch:Chain P ops ((List.range ops.size).map fun i=>(i,ks.getD i .write)) σ ρ) (hrel:Rel base σ a g) (hQ:∀a g,Rel base ρ a g→Q .normal a g.w):(Code.region id ops false).wp P Q a g.w:=by
 refine wp_region ?_
 have:=wpOps_chain (Q:=Q) hQ _ σ a g hch hrel
 rw [List.map_map] at this
 rw [show((List.range ops.size).map ((fun x:Nat×Kind=>x.1) ∘ fun i=>(i,ks.getD i .write)))=List.range ops.size by
  conv=>rhs;rw [←List.map_id (List.range ops.size)]
  rfl] at this
 exact this
inductive AEx where
 | norm
 | ret
 | exit (id:Nat)
def Post(base:G)(Q:AEx→St→Prop):Exit→Act→World→Prop
 | .normal,a,w=>∃g σ,g.w=w∧Rel base σ a g∧Q .norm σ
 | .ret,a,w=>∃g σ,g.w=w∧Rel base σ a g∧Q .ret σ
 | .exit id,a,w=>∃g σ,g.w=w∧Rel base σ a g∧Q (.exit id) σ
 | _,_,_=>False
def AWP(P:Program)(kb:Nat)(c:Code)(Q:AEx→St→Prop)(σ:St):Prop :=
 ∀(base:G) (a:Act) (g:G),base.objs.length≤kb→Rel base σ a g→c.wp P (Post base Q) a g.w
theorem AWP.mono{P:Program}{kb:Nat}{c:Code}{Q Q':AEx→St→Prop}{σ:St}(h:AWP P kb c Q σ)(hq:∀e σ,Q e σ→Q' e σ):AWP P kb c Q' σ:=fun base a g hb hr =>
 wp_mono (h base a g hb hr) fun e a w hp=>by
  cases e with
  | normal=>obtain⟨g,σ,h1,h2,h3⟩:=hp;exact⟨g,σ,h1,h2,hq _ _ h3⟩
  | ret=>obtain⟨g,σ,h1,h2,h3⟩:=hp;exact⟨g,σ,h1,h2,hq _ _ h3⟩
  | exit id=>obtain⟨g,σ,h1,h2,h3⟩:=hp;exact⟨g,σ,h1,h2,hq _ _ h3⟩
  | goto l=>exact hp
  | panic c=>exact hp
  | outgrown=>exact hp
theorem AWP.weaken{P:Program}{kb:Nat}{c:Code}{Q:AEx→St→Prop}{σ τ:St}(h:AWP P kb c Q τ)(hw:∀base a g,base.objs.length≤kb→Rel base σ a g→∃g',g'.w=g.w∧Rel base τ a g'):AWP P kb c Q σ:=fun base a g hb hr=>by
 obtain⟨g',h1,h2⟩:=hw base a g hb hr
 rw [←h1]
 exact h base a g' hb h2
def seqPost(P:Program)(kb:Nat)(b:Code)(Q:AEx→St→Prop):AEx→St→Prop
 | .norm,σ=>AWP P kb b Q σ
 | e,σ=>Q e σ
theorem awp_seq{P:Program}{kb:Nat}{x y:Code}{Q:AEx→St→Prop}{σ:St}(h:AWP P kb x (seqPost P kb y Q) σ):AWP P kb (.seq x y) Q σ:=fun base a g hb hr =>
 wp_seq (wp_mono (h base a g hb hr) fun e a w hp=>by
  cases e with
  | normal =>
   obtain⟨g,σ,h1,h2,h3⟩:=hp
   subst h1
   exact h3 base a g hb h2
  | ret=>exact hp
  | exit id=>exact hp
  | goto l=>exact hp
  | panic c=>exact hp
  | outgrown=>exact hp)
theorem awp_skip{P:Program}{kb:Nat}{Q:AEx→St→Prop}{σ:St}(h:Q .norm σ):AWP P kb .skip Q σ:=fun base _ g _ hr=>wp_skip ⟨g,σ,rfl,hr,h⟩
theorem awp_ret{P:Program}{kb:Nat}{Q:AEx→St→Prop}{σ:St}(h:Q .ret σ):AWP P kb .ret Q σ:=fun base _ g _ hr=>wp_ret ⟨g,σ,rfl,hr,h⟩
theorem awp_exit{P:Program}{kb:Nat}{Q:AEx→St→Prop}{σ:St}{id:Nat}(h:Q (.exit id) σ):AWP P kb (.exit id) Q σ:=fun base _ g _ hr=>wp_exit ⟨g,σ,rfl,hr,h⟩
def blockPost(id:Nat)(Q:AEx→St→Prop):AEx→St→Prop
 | .exit id',σ=>if id'=id then Q .norm σ else Q (.exit id') σ
 | e,σ=>Q e σ
theorem awp_block{P:Program}{kb:Nat}{id:Nat}{c:Code}{Q:AEx→St→Prop}{σ:St}(h:AWP P kb c (blockPost id Q) σ):AWP P kb (.block id c) Q σ:=fun base a g hb hr =>
 wp_block (wp_mono (h base a g hb hr) fun e a w hp=>by
  cases e with
  | normal=>exact hp
  | ret=>exact hp
  | exit id' =>
   obtain⟨g,σ,h1,h2,h3⟩:=hp
   simp only [blockPost] at h3
   simp only [Exit.inBlock]
   split
   ·rename_i e
    rw [if_pos e] at h3
    exact⟨g,σ,h1,h2,h3⟩
   rename_i e
   rw [if_neg e] at h3
   exact⟨g,σ,h1,h2,h3⟩
  | goto l=>exact hp
  | panic c=>exact hp
  | outgrown=>exact hp)
theorem awp_cond{P:Program}{kb:Nat}{c:Operand}{x y:Code}{Q:AEx→St→Prop}{σ:St}{b:Bool}(hc:σ.ev c=some (.v (.bool b)))(ht:b=true→AWP P kb x Q σ)(hf:b=false→AWP P kb y Q σ):AWP P kb (.cond c x y) Q σ:=fun base a g hb hr=>by
 have hc':=(hr.eval hc).v_inv.1
 cases b
 ·exact wp_cond_false hc' (hf rfl base a g hb hr)
 exact wp_cond_true hc' (ht rfl base a g hb hr)
def Sub(O:List AObj)(x y:AVal):Prop:=∀(g:G) (u:Value),g.objs=O→RV g x u→RV g y u
theorem Sub.refl{O:List AObj}(x:AVal):Sub O x x:=fun _ _ _ h=>h
theorem Sub.of_eq{O:List AObj}{x y:AVal}(h:x=y):Sub O x y:=h ▸ Sub.refl x
def Says(σ:St):List (Nat×AVal)→Prop
 | []=>True
 | (s,y)::r=>(∃x,σ.get s=some x∧Sub σ.objs x y)∧Says σ r
theorem says_spec{σ:St}{base:G}{a:Act}{g:G}(hr:Rel base σ a g):∀{l:List (Nat×AVal)},Says σ l→∀s y,look l s=some y→∃u,a.tmps[s]?=some u∧RV g y u
 | [],_,s,y,h=>by cases h
 | (k,z)::l,h,s,y,hl=>by
  obtain⟨⟨x,h1,h2⟩,h3⟩:=h
  simp only [look] at hl
  split at hl
  ·rename_i e
   subst e
   simp only [Option.some.injEq] at hl
   subst hl
   obtain⟨u,h4,h5⟩:=hr.slot k x h1
   exact⟨u,h4,h2 g u hr.objs h5⟩
  exact says_spec hr h3 s y hl
structure Covers(σ τ:St):Prop where
 n:σ.n=τ.n
 objs:σ.objs=τ.objs
 says:Says σ τ.slots
theorem Covers.rel{σ τ:St}(h:Covers σ τ){base:G}{a:Act}{g:G}(hr:Rel base σ a g):Rel base τ a g where
 le:=hr.le
 good:=hr.good
 objs:=hr.objs.trans h.objs
 size:=hr.size.trans h.n
 defers:=hr.defers
 slot:=fun s y hy=>says_spec hr h.says s y hy
theorem AWP.cover{P:Program}{kb:Nat}{c:Code}{Q:AEx→St→Prop}{σ τ:St}(h:AWP P kb c Q τ)(hc:Covers σ τ):AWP P kb c Q σ:=fun base a g hb hr=>h base a g hb (hc.rel hr)
def loopPost{ι:Type}(L:ι→St)(μ:ι→Nat)(i:ι)(Q:AEx→St→Prop):AEx→St→Prop
 | .norm,σ=>∃j,μ j<μ i∧Covers σ (L j)
 | e,σ=>Q e σ
theorem awp_loop{P:Program}{kb:Nat}{c:Code}{Q:AEx→St→Prop}{σ:St}{ι:Type}(L:ι→St)(μ:ι→Nat)(i0:ι)(h0:Covers σ (L i0))(round:∀i,AWP P kb c (loopPost L μ i Q) (L i)):AWP P kb (.loop c) Q σ:=by
 intro base a g hb hr b k cs
 have key:∀n i a g,μ i=n→Rel base (L i) a g→∃e a' w',Post base Q e a' w'∧Arrives P (lone (b.at a (.code c::.inLoop c::k)) cs g.w) b k cs e a' w':=by
  intro n
  induction n using Nat.strongRecOn with
  | _ n ih =>
   intro i a g hn hr
   obtain⟨e,a₁,w₁,hq,harr⟩:=round i base a g hb hr b (.inLoop c::k) cs
   cases e with
   | normal =>
    obtain⟨g₁,σ₁,h1,h2,j,h3,h4⟩:=hq
    subst h1
    obtain⟨e₂,a₂,w₂,hq₂,harr₂⟩:=ih (μ j) (hn ▸ h3) j a₁ g₁ rfl (h4.rel h2)
    exact⟨e₂,a₂,w₂,hq₂,.of_steps (Steps.trans harr (.one step_inLoop)) harr₂⟩
   | exit id =>
    obtain⟨g₁,σ₁,h1,h2,h3⟩:=hq
    exact⟨.exit id,a₁,w₁,⟨g₁,σ₁,h1,h2,h3⟩,.pass (x:=.inLoop c) rfl (fun _ _=>.inl (by simp)) harr⟩
   | goto l=>exact hq.elim
   | ret =>
    obtain⟨g₁,σ₁,h1,h2,h3⟩:=hq
    exact⟨.ret,a₁,w₁,⟨g₁,σ₁,h1,h2,h3⟩,.pass (x:=.inLoop c) rfl (fun _ _=>.inl (by simp)) harr⟩
   | panic ch=>exact hq.elim
   | outgrown=>exact hq.elim
 obtain⟨e,a',w',hq,harr⟩:=key _ i0 a g rfl (h0.rel hr)
 exact⟨e,a',w',hq,.of_steps (.one step_loop) harr⟩
theorem awp_own{P:Program}{kb:Nat}{c:Code}{Q:AEx→St→Prop}{n:Nat}{slots:List (Nat×AVal)}{O:List AObj}(s:Nat){sz:Nat}{xs:List AVal}(hs:look slots s=some (.lst sz xs .ex))
  (h:AWP P kb c Q ⟨n,putS s (.lst sz xs (.tok O.length)) slots,O++[.spare xs.length]⟩):AWP P kb c Q ⟨n,slots,O⟩ :=
 h.weaken fun base a g hb hr=>by
  have hO:g.objs=O:=hr.objs
  refine⟨g.mark (.spare xs.length),rfl,?_⟩
  have hle:=Le.mark hr.good (.spare xs.length)
  refine { le:=hr.le.trans hle,good:=Good.mark hr.good _,objs:=by simp [G.mark,hO],size:=hr.size,defers:=hr.defers,slot:=fun k x hx=>?_ }
  simp only [St.get,look_putS] at hx
  split at hx
  ·rename_i e
   subst e
   simp only [Option.some.injEq] at hx
   subst hx
   obtain⟨u,h1,h2⟩:=hr.slot s _ hs
   refine⟨u,h1,?_⟩
   have h3:=h2.mono hle
   cases h3 with
   | nil=>exact .nil (fun id e=>by simp only [Own.tok.injEq] at e;subst e;simp [G.mark,hO]) (by simp)
   | lst hsz hsc hcap hmax hs f hm hr ho =>
    refine .lst hsz hsc hcap hmax hs f hm hr ⟨by simp [G.mark,hO],fun m hm'=>?_⟩
    have:(g.mark (.spare xs.length)).objs[O.length]?=some (.spare xs.length):=by
     rw [←hO]
     exact objs_new
    rw [this] at hm'
    simp only [Option.some.injEq,AObj.spare.injEq] at hm'
    exact⟨by omega,fun _=>.inl ho⟩
  obtain⟨u,h1,h2⟩:=hr.slot k x hx
  exact⟨u,h1,h2.mono hle⟩
theorem awp_trunc{P:Program}{kb:Nat}{c:Code}{Q:AEx→St→Prop}{n:Nat}{slots:List (Nat×AVal)}{O:List AObj}(k:Nat)(hk:k≤O.length)(hkb:kb≤k)(slots':List (Nat×AVal))(hb:∀o∈O.take k,o.upto k)(hs:Says ⟨n,slots,O⟩ slots')
  (hsl:∀s x,look slots' s=some x→x.upto k) (h:AWP P kb c Q ⟨n,slots',O.take k⟩):AWP P kb c Q ⟨n,slots,O⟩:=by
 intro base a g hbase hr
 have hO:g.objs=O:=hr.objs
 have hr':Rel base ⟨n,slots',O.take k⟩ a (g.trunc k):={
  le:=hr.le.trunc (by omega)
  good:=hr.good.trunc (by rw [hO];exact hk) (by rw [hO];exact hb)
  objs:=by simp only [G.trunc,hO]
  size:=hr.size
  defers:=hr.defers
  slot:=fun s x hx=>by
   obtain⟨u,h1,h2⟩:=says_spec hr hs s x hx
   exact⟨u,h1,h2.trunc (by rw [hO];exact hk) (hsl s x hx)⟩ }
 exact h base a (g.trunc k) hbase hr'
theorem run_callv{P:Program}{o:Oper}{x:Operand}{args:Array Operand}{ats:Array TypeId}(ho:o.op=.call ⟨.value x,args,ats⟩){a:Act}{w:World}{f:FuncId}{us vs:Array Value}(hx:a.eval x=.func (.func f) us vs)(hf:Enters P f) :
  (execOp a.eval o).run P w=.ok (.enter f (us++args.map a.eval++vs)) w:=by
 obtain⟨fn,h1,h2,h3⟩:=hf
 simp only [execOp,ho,resolve,hx,Deferred.ofValue,Sem.run_bind,Sem.run_pure,Result.andThen_ok,invoke,callFunc,run_program,h1,h2,h3]
 rfl
theorem RVs.append_arr{g:G}{cs ds:List AVal}{us vs:Array Value}(h:RVs g cs us)(k:RVs g ds vs):RVs g (cs++ds) (us++vs):=by
 have:=RVs.append (us:=us.toList) (vs:=vs.toList) (by simpa using h) (by simpa using k)
 have e:(us.toList++vs.toList).toArray=us++vs:=Array.ext' (by simp)
 rw [←e]
 exact this
theorem cert_call{P:Program}{o:Oper}{σ:St}{x:Operand}{args:Array Operand}{ats:Array TypeId}{f:FuncId}{fs cs ars:List AVal}{r:AVal}(m:Mode)
  (ho:o.op=.call ⟨.value x,args,ats⟩) (hd:∀d,o.dst=some d→d<σ.n) (hx:σ.ev x=some (.fn (.func f) fs cs)) (ha:σ.evs args.toList=some ars) {args':List AVal} (hargs:∀g u,RVs g (fs++ars++cs) u→RVs g args' u)
  (hcall:∀O,(m=.pure∨O=σ.objs)→ECall P f O args' fun r' O'=>r'=r∧O'=m.post O) (hen:Enters P f) (hp:m.plain:=by trivial):Cert P o σ r m:=by
 refine⟨by cases m<;>first | trivial | exact hp.elim,?_⟩
 intro base τ a g hrel hn hag hm K Q hK
 have hxe:σ.ev x=some (.fn (.func f) fs cs):=hx
 have h1:=hrel.eval (hag x (by simp [ho,Op.operands,Call.operands]) _ hx)
 obtain⟨us,vs,e1,l1,l2,r1,r2⟩:=h1.fn_inv
 have h2:=evs_rel (σ:=σ) (a:=a) (g:=g) (xs:=args.toList) (fun z hz y hy=>hrel.eval (hag z (by
  rw [ho]
  simp only [Op.operands,Call.operands,Array.mem_append]
  exact .inr (Array.mem_toList_iff.1 hz)) y hy)) ha
 have h2':RVs g ars (args.map a.eval):=by
  have e:args.map a.eval=(args.toList.map a.eval).toArray:=Array.ext' (by rw [Array.toList_map])
  rw [e]
  exact h2
 have hall:=hargs g _ ((RVs.append_arr (RVs.append_arr ⟨l1,r1⟩ h2') ⟨l2,r2⟩))
 have hrun:=run_callv (P:=P) (w:=g.w) ho e1 hen
 unfold Oper.wp
 rw [hrun,Oper.upon_enter]
 refine((hcall g.objs (by
  rcases m.plain_or hp hm with hm | hm
  ·exact .inl hm
  exact .inr (hrel.objs.trans hm))).2 g _ hrel.good rfl hall).mono ?_
 rintro e w' ⟨g',v,r',q1,q2,q3,q4,q5,q6,q7⟩
 subst q1
 subst q2
 subst q6
 refine hK v g' ?_
 have e:g'.objs=m.post τ.objs:=by rw [q7,hrel.objs]
 cases hdst:o.dst with
 | none =>
  have:=hrel.step q3 q4
  rw [e] at this
  exact this
 | some d =>
  have:=hrel.put q3 q4 (d:=d) (by rw [hn];exact hd d hdst) q5
  rw [e] at this
  exact this
theorem RVs.share{g:G}{cs:List AVal}{u:Array Value}(h:RVs g cs u):RVs g (cs.map AVal.share) u :=
 ⟨by simpa using h.1,fun j c v a b=>by
  rw [List.getElem?_map,Option.map_eq_some_iff] at a
  obtain⟨c',h1,h2⟩:=a
  subst h2
  exact(h.2 j c' v h1 b).share⟩
theorem cert_pcall{P:Program}{o:Oper}{σ:St}{x:Operand}{args:Array Operand}{ats:Array TypeId}{f:FuncId}{fs cs ars:List AVal}{r:AVal}
  (ho:o.op=.call ⟨.value x,args,ats⟩) (hd:∀d,o.dst=some d→d<σ.n) (hx:σ.ev x=some (.fn (.func f) fs cs)) (ha:σ.evs args.toList=some ars)
  (hcall:PCall P f ((fs++ars++cs).map AVal.share) r) (hup:uptoL 0 ((fs++ars++cs).map AVal.share)):Cert P o σ r .pure :=
 cert_call .pure ho hd hx ha (args':=(fs++ars++cs).map AVal.share) (fun _ _ h=>h.share) (fun O _=>hcall.use hup O) hcall.1
theorem cert_ecall{P:Program}{o:Oper}{σ:St}{x:Operand}{args:Array Operand}{ats:Array TypeId}{f:FuncId}{fs cs ars:List AVal}{r:AVal}{O':List AObj}
  (ho:o.op=.call ⟨.value x,args,ats⟩) (hd:∀d,o.dst=some d→d<σ.n) (hx:σ.ev x=some (.fn (.func f) fs cs)) (ha:σ.evs args.toList=some ars)
  (hcall:ECall P f σ.objs (fs++ars++cs) fun r' O1=>r'=r∧O1=O'):Cert P o σ r (.write O') :=
 cert_call (.write O') ho hd hx ha (args':=fs++ars++cs) (fun _ _ h=>h) (fun O hO=>by
  have:O=σ.objs:=hO.resolve_left (by simp)
  subst this
  exact hcall) hcall.1
theorem cert_rcall{P:Program}{o:Oper}{σ:St}{x:Operand}{args:Array Operand}{ats:Array TypeId}{f:FuncId}{fs cs ars:List AVal}{r:AVal}
  (ho:o.op=.call ⟨.value x,args,ats⟩) (hd:∀d,o.dst=some d→d<σ.n) (hx:σ.ev x=some (.fn (.func f) fs cs)) (ha:σ.evs args.toList=some ars)
  (hcall:ECall P f σ.objs (fs++ars++cs) fun r' O1=>r'=r∧O1=σ.objs):Cert P o σ r .read :=
 cert_call .read ho hd hx ha (args':=fs++ars++cs) (fun _ _ h=>h) (fun O hO=>by
  have:O=σ.objs:=hO.resolve_left (by simp)
  subst this
  exact hcall) hcall.1
theorem turns_gone{g:G}{id:Nat}{o:AObj}{l':Option Loc}(ho:g.objs[id]?=some o)(he:g.env[id]?=some l')(hp:¬o.isSpare)(hl:o.live):Turns g id o l' .gone g.w where
 obj:=ho
 os:=rfl
 tape:=rfl
 output:=rfl
 size:=Nat.le_refl _
 block:=fun _ _ _=>rfl
 cell:=fun b off x hx _=>hx
 place:=fun _ _ h=>h.elim
 spare:=fun m h=>by subst h;exact absurd trivial hp
 plain:=fun _=>⟨by simp [AObj.isSpare],he⟩
 gone:=fun h=>by subst h;exact hl
def G.freeze(g:G)(id:Nat)(l':Option Loc):G:=g.turn id l' .gone g.w
def FSub(O:List AObj)(id:Nat)(x y:AVal):Prop :=
 ∀(g:G) (u:Value) (l':Option Loc),Good g→g.objs=O→g.env[id]?=some l'→Le g (g.freeze id l')→RV g x u→RV (g.freeze id l') y u
theorem FSub.refl{O:List AObj}{id:Nat}(x:AVal):FSub O id x x:=fun _ _ _ _ _ _ hle h=>h.mono hle
theorem freeze_own{g:G}(hg:Good g){id:Nat}{l:Loc}{o:AObj}(he:g.env[id]?=some (some l))(ho:g.objs[id]?=some o)(hl:o.live)(off:Nat):¬OwnC (g.freeze id (some l)) l.block off:=by
 have hlt:=lt_of_getElem? ho
 rintro(hf | ⟨id',l',o',h1,h2,h3,h4,_⟩)
 ·exact hg.frown id l o he ho hl off hf
 simp only [G.freeze,G.turn] at h1 h2
 by_cases e:id'=id
 ·subst e
  rw [List.getElem?_set_self (by omega)] at h2
  simp only [Option.some.injEq] at h2
  subst h2
  exact h3
 rw [List.getElem?_set_ne (Ne.symm e)] at h1 h2
 exact e (hg.apart id' id l' l o' o h1 h2 h3 he ho hl h4)
theorem FSub.mp{O:List AObj}{id off:Nat}{cs ds:List AVal}(hid:O[id]?=some (.cells cs))(hd:(cs.drop off).map AVal.shareCell=ds):FSub O id (.mp id off) (.ip none ds):=fun g u l' hg hO he hle h=>by
 obtain⟨l,o1,h1,h2,_,eu⟩:=h.mp_inv
 subst eu
 rw [he] at h1
 simp only [Option.some.injEq] at h1
 subst h1
 have hid':g.objs[id]?=some (.cells cs):=by rw [hO];exact hid
 obtain⟨arr,t',hlo,hrow,hlen,hcs,hcsc,_⟩:=hg.row hid' he
 subst hd
 refine .ip (.inl rfl) (fun c hc=>by
  obtain⟨c',h1,h2⟩:=List.mem_map.1 hc
  subst h2
  exact AVal.scalar_shareCell (hcsc c' (List.mem_of_mem_drop h1))) (fun j=>arr.getD (off+j) undef) (fun j c hj=>?_) (fun j c hj=>?_)
 ·rw [List.getElem?_map,Option.map_eq_some_iff] at hj
  obtain⟨c',hj,_⟩:=hj
  rw [List.getElem?_drop] at hj
  have hlt:=lt_of_getElem? hj
  refine⟨?_,freeze_own hg he hid' trivial _⟩
  show g.w.cell? _=_
  rw [cell_of_row hrow]
  simp [Array.getD_eq_getD_getElem?,show off+j<arr.size by omega]
 rw [List.getElem?_map,Option.map_eq_some_iff] at hj
 obtain⟨c',hj,e⟩:=hj
 subst e
 rw [List.getElem?_drop] at hj
 have hlt:=lt_of_getElem? hj
 exact((hcs _ c' _ hj (by simp [Array.getD_eq_getD_getElem?,show off+j<arr.size by omega])).mono hle).shareCell
theorem FSub.ms{O:List AObj}{id off len cap sz:Nat}{cs xs:List AVal}(hid:O[id]?=some (.cells cs))(hsz:∀x∈xs,x.cells.length=sz)(hlen:xs.length=len)(hd:((cs.drop off).take (len * sz)).map AVal.shareCell=cellsAll xs):FSub O id (.ms id off len cap) (.lst sz xs .sh):=fun g u l' hg hO he hle h=>by
 obtain⟨l,o1,h1,h2,_,hlc,hmax,cap',hcap,eu⟩:=h.ms_inv
 subst eu
 rw [he] at h1
 simp only [Option.some.injEq] at h1
 subst h1
 have hid':g.objs[id]?=some (.cells cs):=by rw [hO];exact hid
 obtain⟨arr,t',hlo,hrow,hal,hcs,hcsc,_⟩:=hg.row hid' he
 subst hlen
 have key:∀(j:Nat) (c:AVal),(cellsAll xs)[j]?=some c→∃c',cs[off+j]?=some c'∧c'.shareCell=c:=fun j c hj=>by
  rw [←hd,List.getElem?_map,Option.map_eq_some_iff] at hj
  obtain⟨c',hj,e⟩:=hj
  have:=take_get hj
  rw [List.getElem?_drop] at this
  exact⟨c',this,e⟩
 refine .lst hsz (fun x hx c hc=>?_) (Nat.le_trans hlc hcap) hmax (fun _=>rfl) (fun j=>arr.getD (off+j) undef) (fun j c hj=>?_) (fun j c hj=>?_) trivial
 ·have hmem:c∈cellsAll xs:=by
   simp only [cellsAll,List.mem_flatMap]
   exact⟨x,hx,hc⟩
  obtain⟨j,hj⟩:=List.getElem?_of_mem hmem
  obtain⟨c',hj',e⟩:=key j c hj
  subst e
  exact AVal.scalar_shareCell (hcsc c' (List.mem_of_getElem? hj'))
 ·obtain⟨c',hj',e⟩:=key j c hj
  have hlt:=lt_of_getElem? hj'
  refine⟨?_,freeze_own hg he hid' trivial _⟩
  show g.w.cell? _=_
  simp only
  rw [cell_of_row hrow]
  simp [Array.getD_eq_getD_getElem?,show off+j<arr.size by omega]
 obtain⟨c',hj',e⟩:=key j c hj
 have hlt:=lt_of_getElem? hj'
 subst e
 exact((hcs _ c' _ hj' (by simp [Array.getD_eq_getD_getElem?,show off+j<arr.size by omega])).mono hle).shareCell
theorem FSub.mm{O:List AObj}{id:Nat}{kt:KT}{es:List (Value×AVal)}(hid:O[id]?=some (.map kt es)):FSub O id (.mm id) (.im kt es):=fun g u l' hg hO he hle h=>by
 obtain⟨l,o1,h1,h2,_,eu⟩:=h.mm_inv
 subst eu
 rw [he] at h1
 simp only [Option.some.injEq] at h1
 subst h1
 have hid':g.objs[id]?=some (.map kt es):=by rw [hO];exact hid
 obtain⟨l2,arr,clk,e1,e2,e3,e4,e5,e6⟩:=hg.map id kt es hid'
 rw [he] at e1
 simp only [Option.some.injEq] at e1
 subst e1
 exact .im (r:=l.block) (clk:=clk) (arr:=arr) e3 (fun off=>freeze_own hg he hid' trivial off) e4 (fun i e kx a b=>(e6 i e kx a b).1) e5 (fun i e kx a b=>(e6 i e kx a b).2.2.mono hle)
theorem awp_freeze{P:Program}{kb:Nat}{c:Code}{Q:AEx→St→Prop}{n:Nat}{slots:List (Nat×AVal)}{O:List AObj}(id:Nat){o:AObj}(hid:O[id]?=some o)(hp:¬o.isSpare)(hlive:o.live)(slots':List (Nat×AVal))
  (hs:∀s y,look slots' s=some y→∃x,look slots s=some x∧FSub O id x y) (h:AWP P kb c Q ⟨n,slots',O.set id .gone⟩):AWP P kb c Q ⟨n,slots,O⟩ :=
 h.weaken fun base a g hb hr=>by
  have hO:g.objs=O:=hr.objs
  have hid':g.objs[id]?=some o:=by rw [hO];exact hid
  have hlt:=env_lt hr.good hid'
  have he:g.env[id]?=some g.env[id]:=List.getElem?_eq_getElem hlt
  have ht:=turns_gone hid' he hp hlive
  have hle:=Le.turn hr.good ht
  refine⟨g.freeze id g.env[id],rfl,{ le:=hr.le.trans hle,good:=Good.turn hr.good ht trivial (fun _ _ h=>h.elim),objs:=by simp [G.freeze,G.turn,hO],size:=hr.size,defers:=hr.defers,slot:=fun s y hy=>?_ }⟩
  obtain⟨x,h1,h2⟩:=hs s y hy
  obtain⟨u,h3,h4⟩:=hr.slot s x h1
  exact⟨u,h3,h2 g u _ hr.good hO he hle h4⟩
theorem awp_freeze1{P:Program}{kb:Nat}{c:Code}{Q:AEx→St→Prop}{n:Nat}{slots:List (Nat×AVal)}{O:List AObj}(s id:Nat){o:AObj}{x:AVal}(y:AVal)(hid:O[id]?=some o)(hp:¬o.isSpare)(hlive:o.live)(hx:look slots s=some x)(hf:FSub O id x y)
  (h:AWP P kb c Q ⟨n,putS s y slots,O.set id .gone⟩):AWP P kb c Q ⟨n,slots,O⟩ :=
 awp_freeze id hid hp hlive (putS s y slots) (fun k z hz=>by
  rw [look_putS] at hz
  split at hz
  ·rename_i e
   subst e
   simp only [Option.some.injEq] at hz
   subst hz
   exact⟨x,hx,hf⟩
  exact⟨z,hz,.refl z⟩) h
theorem awp_freeze_in{P:Program}{kb:Nat}{c:Code}{Q:AEx→St→Prop}{n:Nat}{slots:List (Nat×AVal)}{O:List AObj}(id:Nat){o:AObj}(hid:O[id]?=some o)(hp:¬o.isSpare)(hlive:o.live)(slots':List (Nat×AVal))
  (hs:∀s y,look slots' s=some y→∃x,look slots s=some x∧FSub O id x y) (k:Nat) (hk:k≠id) (cs ds:List AVal) (hok:O[k]?=some (.cells cs)) (hl:cs.length=ds.length) (hsc:∀d∈ds,d.scalar)
  (hcs:∀(j:Nat) (c d:AVal),cs[j]?=some c→ds[j]?=some d→FSub O id c d) (h:AWP P kb c Q ⟨n,slots',(O.set id .gone).set k (.cells ds)⟩):AWP P kb c Q ⟨n,slots,O⟩ :=
 h.weaken fun base a g hb hr=>by
  have hO:g.objs=O:=hr.objs
  have hid':g.objs[id]?=some o:=by rw [hO];exact hid
  have hlt:=env_lt hr.good hid'
  have he:g.env[id]?=some g.env[id]:=List.getElem?_eq_getElem hlt
  have ht:=turns_gone hid' he hp hlive
  have hle:=Le.turn hr.good ht
  have hgood:=Good.turn hr.good ht trivial (fun _ _ h=>h.elim)
  obtain⟨l,arr,t,e1,e2,e3,e4,e5,e6⟩:=hr.good.cells k cs (by rw [hO];exact hok)
  have hok1:(g.freeze id g.env[id]).objs[k]?=some (.cells cs):=by
   simp only [G.freeze,G.turn]
   rw [List.getElem?_set_ne (Ne.symm hk),hO]
   exact hok
  have hek1:(g.freeze id g.env[id]).env[k]?=some (some l):=by
   simp only [G.freeze,G.turn]
   rw [List.getElem?_set_ne (Ne.symm hk)]
   exact e1
  have ht2:Turns (g.freeze id g.env[id]) k (.cells cs) (some l) (.cells ds) g.w:={
   obj:=hok1
   os:=rfl
   tape:=rfl
   output:=rfl
   size:=Nat.le_refl _
   block:=fun _ _ _=>rfl
   cell:=fun b off x hx _=>hx
   place:=fun l1 h1 _=>by
    simp only [Option.some.injEq] at h1
    subst h1
    exact .inr ⟨l,hek1,trivial,rfl,Nat.le_refl _⟩
   spare:=fun m h=>by cases h
   plain:=fun _=>⟨by simp [AObj.isSpare],hek1⟩
   gone:=by simp }
  have hle2:=Le.turn hgood ht2
  have hgood2:=Good.turn hgood ht2 ⟨l,arr,t,rfl,e2,e3,by omega,fun j d u hd hu=>by
   have hlt:=lt_of_getElem? hd
   have hc:cs[j]?=some cs[j]:=List.getElem?_eq_getElem (by omega)
   exact(hcs j _ d hc hd g u _ hr.good hO he hle (e5 j _ u hc hu)).mono hle2,hsc,e6.2⟩ (fun l1 h1 _=>by
    simp only [Option.some.injEq] at h1
    subst h1
    exact lt_of_getElem?' e3)
  refine⟨(g.freeze id g.env[id]).turn k (some l) (.cells ds) g.w,rfl,{ le:=(hr.le.trans hle).trans hle2,good:=hgood2,objs:=by simp [G.freeze,G.turn,hO],size:=hr.size,defers:=hr.defers,slot:=fun s y hy=>?_ }⟩
  obtain⟨x,h1,h2⟩:=hs s y hy
  obtain⟨u,h3,h4⟩:=hr.slot s x h1
  exact⟨u,h3,(h2 g u _ hr.good hO he hle h4).mono hle2⟩
theorem awp_nilsplit{P:Program}{kb:Nat}{c:Code}{Q:AEx→St→Prop}{n:Nat}{slots:List (Nat×AVal)}{O:List AObj}(s:Nat){sz:Nat}{xs:List AVal}{o:Own}(hs:look slots s=some (.lst sz xs o))
  (h1:xs=[]→AWP P kb c Q ⟨n,putS s (.v (.slice none 0 0)) slots,O⟩) (h2:AWP P kb c Q ⟨n,putS s (.lst sz xs .nn) slots,O⟩):AWP P kb c Q ⟨n,slots,O⟩:=by
 intro base a g hb hr
 obtain⟨u,e1,e2⟩:=hr.slot s _ hs
 have key:∀y,RV g y u→Rel base ⟨n,putS s y slots,O⟩ a g:=fun y hy =>
  {le:=hr.le,good:=hr.good,objs:=hr.objs,size:=hr.size,defers:=hr.defers,slot:=fun k x hx=>by
    simp only [St.get,look_putS] at hx
    split at hx
    ·rename_i e
     subst e
     simp only [Option.some.injEq] at hx
     subst hx
     exact⟨u,e1,hy⟩
    exact hr.slot k x hx }
 cases e2 with
 | nil ho hn=>exact h1 rfl base a g hb (key _ (.v trivial))
 | lst hsz hsc hcap hmax hs f hm hr ho=>exact h2 base a g hb (key _ (.lst hsz hsc hcap hmax hs f hm hr trivial))
theorem run_neq_slice_some_nil{P:Program}(w:World){t e:TypeId}(a:Addr)(n c:Nat)(ht:P.underlying t=some (.slice e)) :
  (binOp .neq t (.slice (some a) n c) (.slice none 0 0)).run P w=.ok (.bool true) w:=by
 have h:∀d:Nat,(Op.equalIn (d+1) t (.slice (some a) n c) (.slice none 0 0)).run P w=.ok false w:=fun d=>by
  simp [Op.equalIn,run_underlying ht]
 simp only [binOp]
 simp [Op.equal,Op.maxDepth,h 9999]
theorem run_neq_slice_nil_nil{P:Program}(w:World){t e:TypeId}(n c:Nat)(ht:P.underlying t=some (.slice e)) :
  (binOp .neq t (.slice none n c) (.slice none 0 0)).run P w=.ok (.bool false) w:=by
 have h:∀d:Nat,(Op.equalIn (d+1) t (.slice none n c) (.slice none 0 0)).run P w=.ok true w:=fun d=>by
  simp [Op.equalIn,run_underlying ht]
 simp only [binOp]
 simp [Op.equal,Op.maxDepth,h 9999]
theorem run_nil_test{P:Program}(w:World){op:BinOp}{t e:TypeId}{u:Value}{b r:Bool}(ht:P.underlying t=some (.slice e))(hu:(∃n c,u=.slice none n c∧b=true)∨(∃a n c,u=.slice (some a) n c∧b=false))
  (hr:(op=.eql∧r=b)∨(op=.neq∧r=!b)):(binOp op t u (.slice none 0 0)).run P w=.ok (.bool r) w:=by
 rcases hu with⟨n,c,e1,e2⟩ | ⟨a,n,c,e1,e2⟩<;>rcases hr with⟨e3,e4⟩ | ⟨e3,e4⟩<;>subst e1<;>subst e2<;>subst e3<;>subst e4
 ·exact Go.Lib.run_eql_slice_nil_nil w n c ht
 ·exact run_neq_slice_nil_nil w n c ht
 ·exact Go.Lib.run_eql_slice_some_nil w a n c ht
 exact run_neq_slice_some_nil w a n c ht
theorem cert_eqlNil{P:Program}{tab:Tab}(hT:TabOK P tab){o:Oper}{σ:St}{t t' e:TypeId}{x:Operand}{ti:TInfo}{y:AVal}{b r:Bool}{op:BinOp}
  (ho:o.op=.binOp op t x (.const (.slice none 0 0)) t') (hd:∀d,o.dst=some d→d<σ.n) (ht:tab t=some ti) (hdesc:ti.desc=.slice e) (hx:σ.ev x=some y)
  (hy:(y=.v (.slice none 0 0)∧b=true)∨(∃sz xs,y=.lst sz xs .nn∧b=false)∨(∃id off len cap,y=.ms id off len cap∧b=false)) (hr:(op=.eql∧r=b)∨(op=.neq∧r=!b)):Cert P o σ (.v (.bool r)) .pure :=
 Cert.ofQuiet .pure (.inl rfl) hd fun a g _ h _=>by
  have hu:=slice_desc hT ht hdesc
  have hx':=h x (by simp [ho,Op.operands]) _ hx
  refine⟨.bool r,?_,.v trivial⟩
  have hsl:(∃n c,a.eval x=.slice none n c∧b=true)∨(∃ad n c,a.eval x=.slice (some ad) n c∧b=false):=by
   rcases hy with⟨e1,e2⟩ | ⟨sz,xs,e1,e2⟩ | ⟨id,off,len,cap,e1,e2⟩
   ·subst e1
    exact .inl ⟨_,_,hx'.v_inv.1,e2⟩
   ·subst e1
    cases hv:a.eval x with
    | slice ad len cap =>
     rw [hv] at hx'
     cases hx' with
     | nil ho hn=>exact absurd rfl hn
     | lst hsz hsc hcap hmax hs f hm hr ho=>exact .inr ⟨_,_,_,rfl,e2⟩
    | _=>rw [hv] at hx';cases hx'
   subst e1
   obtain⟨l,o1,_,_,_,_,_,cap',_,eu⟩:=hx'.ms_inv
   exact .inr ⟨_,_,_,eu,e2⟩
  have hrun:=run_nil_test (P:=P) g.w hu hsl hr
  have hsl':∃ad n c,a.eval x=.slice ad n c:=by
   rcases hsl with⟨_,_,e,_⟩ | ⟨_,_,_,e,_⟩
   ·exact⟨_,_,_,e⟩
   exact⟨_,_,_,e⟩
  obtain⟨ad,n,c,hsl'⟩:=hsl'
  have hg:=run_eqGuard_flat (P:=P) op t x (.const (.slice none 0 0)) (.slice ad n c) (.slice none 0 0) g.w (by simp) (by simp)
  rw [hsl'] at hrun
  have hc:a.eval (.const (.slice none 0 0))=.slice none 0 0:=rfl
  simp [execOp,ho,hsl',hc,hg,hrun]
theorem cert_capEx{P:Program}{tab:Tab}(hT:TabOK P tab){o:Oper}{σ:St}{t e:TypeId}{x:Operand}{ti:TInfo}{sz:Nat}{xs:List AVal}
  (ho:o.op=.call ⟨.builtin .cap,#[x],#[t]⟩) (hd:∀d,o.dst=some d→d<σ.n) (ht:tab t=some ti) (hdesc:ti.desc=.slice e) (hx:σ.ev x=some (.lst sz xs .ex)):Cert P o σ (.v (.int .i64 xs.length)) .pure :=
 Cert.ofQuiet .pure (.inl rfl) hd fun a g _ h _=>by
  have hu:=slice_desc hT ht hdesc
  have hx':=h x (by simp [ho,Op.operands,Call.operands]) _ hx
  have hmax:=hx'.lst_len
  have key:∃ad,a.eval x=.slice ad xs.length xs.length:=by
   rcases hx'.lst_inv with⟨q1,q2⟩ | ⟨ad,cap,_,q1,_,_,_,_,_,_,_,q2⟩
   ·subst q2
    exact⟨_,q1⟩
   have q3:cap=xs.length:=q2
   subst q3
   exact⟨_,q1⟩
  obtain⟨ad,q1⟩:=key
  refine⟨.int .i64 xs.length,?_,.v ?_⟩
  ·rw [run_builtin1 ho]
   simp [builtin,Builtin.cap_,q1,run_underlying hu,goInt]
  simp [flatOK,IntKind.min,IntKind.max,IntKind.bits,IntKind.signed]
  omega
theorem cert_nilCheck{P:Program}{o:Oper}{σ:St}{x:Operand}{y:AVal}(ho:o.op=.nilCheck x)(hd:∀d,o.dst=some d→d<σ.n)(hx:σ.ev x=some y)
  (hy:(∃id off,y=.mp id off)∨∃oa cs,y=.ip oa cs):Cert P o σ y .pure :=
 Cert.ofQuiet .pure (.inl rfl) hd fun a g _ h _=>by
  have hx':=h x (by simp [ho,Op.operands]) _ hx
  have key:∃ad,a.eval x=.pointer (some ad):=by
   rcases hy with⟨id,off,e⟩ | ⟨oa,cs,e⟩
   ·subst e
    obtain⟨l,o1,_,_,_,eu⟩:=hx'.mp_inv
    exact⟨_,eu⟩
   subst e
   obtain⟨b,off,f,eu,_⟩:=hx'.ip_inv
   exact⟨_,eu⟩
  obtain⟨ad,e⟩:=key
  exact⟨a.eval x,by simp [execOp,ho,e],hx'⟩
theorem cert_slice_full{P:Program}{tab:Tab}(hT:TabOK P tab){o:Oper}{σ:St}{t e:TypeId}{x:Operand}{ti te:TInfo}{sz:Nat}{xs:List AVal}{ow:Own}{lo hi:Option Operand}
  (ho:o.op=.slice t x lo hi none) (hd:∀d,o.dst=some d→d<σ.n) (ht:tab t=some ti) (hdesc:ti.desc=.slice e) (he:tab e=some te) (hx:σ.ev x=some (.lst sz xs ow))
  (hlo:bndOK σ lo 0 0) (hhi:bndOK σ hi xs.length xs.length):Cert P o σ (.lst sz xs ow) .pure :=
 Cert.ofQuiet .pure (.inl rfl) hd fun a g _ hh _=>by
  have hu:=slice_desc hT ht hdesc
  have hx':=hh x (by cases lo<;>cases hi<;>simp [ho,Op.operands]) _ hx
  have hl:(lo=none)∨∃q k,lo=some q∧a.eval q=.int k (0:Int):=by
   rcases hlo with q | ⟨q,k,e1,e2⟩
   ·exact .inl q.1
   exact .inr ⟨q,k,e1,(hh q (by subst e1;cases hi<;>simp [ho,Op.operands]) _ e2).v_inv.1⟩
  have hi':(hi=none)∨∃q k,hi=some q∧a.eval q=.int k (xs.length:Int):=by
   rcases hhi with q | ⟨q,k,e1,e2⟩
   ·exact .inl q.1
   exact .inr ⟨q,k,e1,(hh q (by subst e1;cases lo<;>simp [ho,Op.operands]) _ e2).v_inv.1⟩
  have hexec:execOp a.eval o=(do pure (.value (←Instr.sliceAt t (a.eval x) (lo.map a.eval) (hi.map a.eval) none))):=by
   simp [execOp,ho]
  clear hlo hhi ho
  have bounds:∀cap:Nat,xs.length≤cap→(Instr.sliceBounds true xs.length cap (lo.map a.eval) (hi.map a.eval) none).run P g.w=.ok (0,xs.length,cap) g.w:=by
   intro cap hcap
   rcases hl with e1 | ⟨p,k,e1,hk⟩
   ·rcases hi' with e3 | ⟨q,k',e3,hk'⟩
    ·subst e1 e3
     simp [Instr.sliceBounds]
    subst e1 e3
    have:=run_sliceBound (P:=P) k' xs.length cap .sliceAcap g.w (by omega) (by omega)
    simp [Instr.sliceBounds,hk',this]
   rcases hi' with e3 | ⟨q,k',e3,hk'⟩
   ·subst e1 e3
    have:=run_sliceBound (P:=P) k 0 xs.length .sliceB g.w (by omega) (by omega)
    simp [Instr.sliceBounds,hk,this]
   subst e1 e3
   have e1:=run_sliceBound (P:=P) k' xs.length cap .sliceAcap g.w (by omega) (by omega)
   have e2:=run_sliceBound (P:=P) k 0 xs.length .sliceB g.w (by omega) (by omega)
   simp [Instr.sliceBounds,hk,hk',e1,e2]
  have hsize:=(hT e te he).sizeOf g.w
  refine⟨a.eval x,?_,hx'⟩
  rw [hexec]
  rcases hx'.lst_inv with⟨q1,q2⟩ | ⟨ad,cap,f,q1,hsz',hsc,hcap,hmax,hs,hm,hr,_⟩
  ·subst q2
   have b:=bounds 0 (by simp)
   simp only [List.length_nil] at b
   simp [Instr.sliceAt,run_underlying hu,Instr.slice,q1,hsize,b]
  have b:=bounds cap hcap
  by_cases hc0:cap=0
  ·subst hc0
   simp [Instr.sliceAt,run_underlying hu,Instr.slice,q1,hsize,b,Addr.add]
  simp [Instr.sliceAt,run_underlying hu,Instr.slice,q1,hsize,b,hc0,Addr.add]
theorem cert_slice_ms{P:Program}{tab:Tab}(hT:TabOK P tab){o:Oper}{σ:St}{t e:TypeId}{x:Operand}{ti te:TInfo}{id off len cap:Nat}{lo hi:Option Operand}{l h:Nat}
  (ho:o.op=.slice t x lo hi none) (hd:∀d,o.dst=some d→d<σ.n) (ht:tab t=some ti) (hdesc:ti.desc=.slice e) (he:tab e=some te) (hx:σ.ev x=some (.ms id off len cap))
  (hlo:bndOK σ lo 0 l) (hhi:bndOK σ hi len h) (h1:l≤h) (h2:h≤cap) (h3:l<cap) (h62:h≤2 ^ 62):Cert P o σ (.ms id (off+l * te.size) (h - l) (cap - l)) .pure :=
 Cert.ofQuiet .pure (.inl rfl) hd fun a g _ hh _=>by
  have hu:=slice_desc hT ht hdesc
  have hx':=hh x (by cases lo<;>cases hi<;>simp [ho,Op.operands]) _ hx
  have hl:(lo=none∧l=0)∨∃q k,lo=some q∧a.eval q=.int k (l:Int):=by
   rcases hlo with q | ⟨q,k,e1,e2⟩
   ·exact .inl q
   exact .inr ⟨q,k,e1,(hh q (by subst e1;cases hi<;>simp [ho,Op.operands]) _ e2).v_inv.1⟩
  have hi':(hi=none∧h=len)∨∃q k,hi=some q∧a.eval q=.int k (h:Int):=by
   rcases hhi with q | ⟨q,k,e1,e2⟩
   ·exact .inl q
   exact .inr ⟨q,k,e1,(hh q (by subst e1;cases lo<;>simp [ho,Op.operands]) _ e2).v_inv.1⟩
  have hexec:execOp a.eval o=(do pure (.value (←Instr.sliceAt t (a.eval x) (lo.map a.eval) (hi.map a.eval) none))):=by
   simp [execOp,ho]
  clear hlo hhi ho
  obtain⟨lc,o1,q1,q2,q3,hlc,hmax,cap',hcap,eu⟩:=hx'.ms_inv
  have bounds:(Instr.sliceBounds true len cap' (lo.map a.eval) (hi.map a.eval) none).run P g.w=.ok (l,h,cap') g.w:=by
   rcases hl with⟨e1,e2⟩ | ⟨p,k,e1,hk⟩
   ·rcases hi' with⟨e3,e4⟩ | ⟨q,k',e3,hk'⟩
    ·subst e1 e2 e3 e4
     simp [Instr.sliceBounds]
    subst e1 e2 e3
    have:=run_sliceBound (P:=P) k' h cap' .sliceAcap g.w (by omega) (by omega)
    simp [Instr.sliceBounds,hk',this]
   rcases hi' with⟨e3,e4⟩ | ⟨q,k',e3,hk'⟩
   ·subst e1 e3 e4
    have:=run_sliceBound (P:=P) k l h .sliceB g.w (by omega) (by omega)
    simp [Instr.sliceBounds,hk,this]
   subst e1 e3
   have e1:=run_sliceBound (P:=P) k' h cap' .sliceAcap g.w (by omega) (by omega)
   have e2:=run_sliceBound (P:=P) k l h .sliceB g.w (by omega) (by omega)
   simp [Instr.sliceBounds,hk,hk',e1,e2]
  have hsize:=(hT e te he).sizeOf g.w
  refine⟨.slice (some ((⟨lc.block,off,none⟩:Addr).add (l * te.size))) (h - l) (cap' - l),?_,?_⟩
  ·rw [hexec]
   simp [Instr.sliceAt,run_underlying hu,Instr.slice,eu,bounds,hsize,show cap'≠l by omega]
  rw [addr_add]
  exact .ms q1 q2 q3 (by omega) (by omega) (by omega)
theorem cert_slice_raw{P:Program}{tab:Tab}(hT:TabOK P tab){o:Oper}{σ:St}{t e:TypeId}{x:Operand}{ti te:TInfo}{id sz len:Nat}{lo hi:Option Operand} 
  (ho:o.op=.slice t x lo hi none) (hd:∀d,o.dst=some d→d<σ.n) (ht:tab t=some ti) (hdesc:ti.desc=.slice e) (he:tab e=some te) (hx:σ.ev x=some (.raw sz len id))
  (hlo:bndOK σ lo 0 0) (hhi:bndOK σ hi len 0) (h3:0<len):Cert P o σ (.lst sz [] (.tok id)) .pure :=
 Cert.ofQuiet .pure (.inl rfl) hd fun a g _ hh _=>by
  have hu:=slice_desc hT ht hdesc
  have hx':=hh x (by cases lo<;>cases hi<;>simp [ho,Op.operands]) _ hx
  have hl:(lo=none∧(0:Nat)=0)∨∃q k,lo=some q∧a.eval q=.int k ((0:Nat):Int):=by
   rcases hlo with q | ⟨q,k,e1,e2⟩
   ·exact .inl q
   exact .inr ⟨q,k,e1,(hh q (by subst e1;cases hi<;>simp [ho,Op.operands]) _ e2).v_inv.1⟩
  have hi':(hi=none∧(0:Nat)=len)∨∃q k,hi=some q∧a.eval q=.int k ((0:Nat):Int):=by
   rcases hhi with q | ⟨q,k,e1,e2⟩
   ·exact .inl q
   exact .inr ⟨q,k,e1,(hh q (by subst e1;cases lo<;>simp [ho,Op.operands]) _ e2).v_inv.1⟩
  have hexec:execOp a.eval o=(do pure (.value (←Instr.sliceAt t (a.eval x) (lo.map a.eval) (hi.map a.eval) none))):=by
   simp [execOp,ho]
  clear hlo hhi ho
  obtain⟨ad,cap',eu,hcap,how⟩:=hx'.raw_inv
  have bounds:(Instr.sliceBounds true len cap' (lo.map a.eval) (hi.map a.eval) none).run P g.w=.ok (0,0,cap') g.w:=by
   rcases hl with⟨e1,e2⟩ | ⟨p,k,e1,hk⟩
   ·rcases hi' with⟨e3,e4⟩ | ⟨q,k',e3,hk'⟩
    ·omega
    subst e1 e3
    have:=run_sliceBound (P:=P) k' 0 cap' .sliceAcap g.w (by omega) (by omega)
    simp [Instr.sliceBounds,hk',this]
   rcases hi' with⟨e3,e4⟩ | ⟨q,k',e3,hk'⟩
   ·omega
   subst e1 e3
   have e1:=run_sliceBound (P:=P) k' 0 cap' .sliceAcap g.w (by omega) (by omega)
   have e2:=run_sliceBound (P:=P) k 0 0 .sliceB g.w (by omega) (by omega)
   simp [Instr.sliceBounds,hk,hk',e1,e2]
  have hsize:=(hT e te he).sizeOf g.w
  refine⟨.slice (some (ad.add (0 * te.size))) (0 - 0) (cap' - 0),?_,?_⟩
  ·rw [hexec]
   simp [Instr.sliceAt,run_underlying hu,Instr.slice,eu,bounds,hsize,show cap'≠0 by omega]
  rw [Nat.zero_mul,show ad.add 0=ad by cases ad;rfl]
  exact .lst (xs:=[]) (by simp) (by simp) (Nat.zero_le _) (Nat.zero_le _) (by simp) (fun _=>undef) (by simp [cellsAll]) (by simp [cellsAll]) how
theorem cert_append_obj{P:Program}{tab:Tab}(hT:TabOK P tab){o:Oper}{σ:St}{t e:TypeId}{x y:Operand}{ti te:TInfo}{sz:Nat}{xs ys:List AVal}{ow:Own}
  (ho:o.op=.call ⟨.builtin .append,#[x,y],#[t,t]⟩) (hd:∀d,o.dst=some d→d<σ.n) (ht:tab t=some ti) (hdesc:ti.desc=.slice e) (he:tab e=some te) (hsz:te.size=sz) (hx:σ.ev x=some (.lst sz xs .ex)) (hy:σ.ev y=some (.lst sz ys ow))
  (hn:ys.length≠0) (hlen:xs.length+ys.length≤2 ^ 62) (hb:(xs.length+ys.length) * te.bytes≤2 ^ 47) :
  Cert P o σ (.ms σ.objs.length 0 (xs.length+ys.length) (xs.length+ys.length)) (.write (σ.objs++[.cells (cellsAll (xs++ys.map AVal.share))])) :=
 Cert.ofRun hd fun base σ' a g hrel h ho'=>by
  have hO:g.objs=σ.objs:=ho'.resolve_left (by simp)
  have hg:=hrel.good
  have hu:=slice_desc hT ht hdesc
  subst hsz
  have hx':=h x (by simp [ho,Op.operands,Call.operands]) _ hx
  have hy':=h y (by simp [ho,Op.operands,Call.operands]) _ hy
  obtain⟨adx,capx,olds,ex,hx1,hx2,hx3,hx4,hx5,hx6⟩:=hx'.lst_read (P:=P)
  obtain⟨ady,capy,news,ey,hy1,hy2,hy3,hy4,hy5,hy6⟩:=hy'.lst_read (P:=P)
  obtain⟨⟨i,z,h1,h2,h3,h4,h5,h6,h7,h8,h9⟩,_⟩:=hT e te he
  have hcapx:capx=xs.length:=by
   rcases hx'.lst_inv with⟨q1,q2⟩ | ⟨ad,cap,f,q1,_,_,_,_,_,_,_,q2⟩
   ·rw [ex] at q1
    cases q2
    simp at q1
    simp [q1]
   rw [ex] at q1
   simp only [Value.slice.injEq] at q1
   rw [q1.2.2]
   exact q2
  subst hcapx
  have hexec:=run_builtin1 (P:=P) ho a g.w
  simp only [builtin,List.map_toArray,List.map_cons,List.map_nil] at hexec
  have hrun:=run_append_new (P:=P) g.w t o.type e i z hu h1 h4 adx xs.length xs.length ys.length (a.eval y) olds news hy1 (by rw [h2];exact hy2 g.w.drew rfl) (by rw [h2,←ex];exact hx2 g.w.drew rfl) (by omega) hlen (by rw [h3];exact hb)
  rw [←ex] at hrun
  obtain⟨cap,hcap⟩:∃cap,cap=grownCap g.w (xs.length+ys.length) xs.length e:=⟨_,rfl⟩
  obtain⟨rest,hrest⟩:∃rest,rest=Builtin.zeroCells z.cells (cap - (xs.length+ys.length)):=⟨_,rfl⟩
  have hge:=grownCap_ge g.w (xs.length+ys.length) xs.length e
  rw [←hcap] at hrun hge
  rw [←hrest] at hrun
  obtain⟨arr,harr⟩:∃arr,arr=olds.toArray++news.toArray++rest:=⟨_,rfl⟩
  rw [←harr] at hrun
  have hgd:=hg.heap (w':=g.w.drew) rfl rfl rfl rfl
  have hled:=Le.heap (g:=g) (w':=g.w.drew) rfl rfl rfl rfl
  obtain⟨g1,hg1⟩:∃g1:G,g1=⟨g.w.drew,g.fr,g.env,g.objs⟩:=⟨_,rfl⟩
  rw [←hg1] at hgd hled
  have hw1:g1.w=g.w.drew:=by rw [hg1]
  have ho1:g1.objs=σ.objs:=by rw [hg1];exact hO
  have hcells:=hx3.append hy3.share_list
  rw [←cellsAll_append] at hcells
  have hcl:(cellsAll (xs++ys.map AVal.share)).length=(xs.length+ys.length) * te.size:=by
   rw [cellsAll_length (sz:=te.size) (fun x hx=>by
    rcases List.mem_append.1 hx with q | q
    ·exact hx4 x q
    exact map_share_size hy4 x q)]
   simp
  have hasz:(cellsAll (xs++ys.map AVal.share)).length≤arr.size:=by
   rw [hcl,harr]
   simp only [Array.size_append,List.size_toArray,hx6,hy6,←Nat.add_mul]
   omega
  have hle:=hled.trans (Le.alloc hgd (.cells arr e) 0 (.cells (cellsAll (xs++ys.map AVal.share))))
  have hobj:Fits (g1.alloc (.cells arr e) 0 (.cells (cellsAll (xs++ys.map AVal.share)))) (.cells arr e) (.cells (cellsAll (xs++ys.map AVal.share))):=by
   refine⟨arr,e,rfl,hasz,fun j c u hj hu=>?_,fun c hc=>?_⟩
   ·have hlt:=lt_of_getElem? hj
    rw [hcl] at hlt
    rw [harr] at hu
    have hu2:=append_cells_get hu (by simp only [List.size_toArray,hx6,hy6,←Nat.add_mul];exact hlt)
    exact(hcells.2 j c u hj (by simpa using hu2)).mono hle
   rw [cellsAll_append] at hc
   rcases List.mem_append.1 hc with q | q
   ·exact hx5 c q
   exact map_share_scalar hy5 c q
  have hgood:=Good.alloc hgd (.cells arr e) 0 (.cells (cellsAll (xs++ys.map AVal.share))) (.inr rfl) hobj
  refine⟨.slice (some ⟨g.w.heap.size,0,none⟩) (xs.length+ys.length) cap,_,.inl ?_,hle,hgood,?_,?_⟩
  ·rw [hexec]
   simp [hrun,G.alloc,hw1]
  ·simp [G.alloc,ho1,Mode.post]
  rw [←ho1]
  have e1:(g.w.heap.size)=g1.w.heap.size:=by rw [hw1];rfl
  rw [e1]
  exact .ms (l:=⟨g1.w.heap.size,0,_⟩) (env_new hgd) objs_new (by simp [AObj.isSpare]) (Nat.le_refl _) hge hlen
theorem run_append_made{P:Program}(w:World)(t t' ty e:TypeId)(i:TypeInfo)(z:Value)(ht:P.underlying t=some (.slice e))(ht':P.underlying t'=some (.int .i64))(hi:P.info? e=some i)(hz:i.zero=some z)(s:Option Addr)(n:Nat)
  (hs:(Builtin.firstCells i.size 0 (.slice s 0 0)).run P w.drew=.ok #[] w.drew) (hn:0<n) (h63:n≤2 ^ 62) (hfit:n * i.bytes≤2 ^ 47) (hsz:0<i.size) :
  (Builtin.append_ #[t,t'] ty #[.slice s 0 0,.int .i64 n]).run P w =
   .ok (.slice (some ⟨w.heap.size,0,none⟩) n (grownCap w n 0 e)) (w.drew.alloc (.cells (Builtin.zeroCells z.cells n++Builtin.zeroCells z.cells (grownCap w n 0 e - n)) e)):=by
 have hw:IntKind.i64.wrap (n:Int)=n:=wrap_in .i64 n (by simp [IntKind.min,IntKind.bits,IntKind.signed]<;>omega) (by simp [IntKind.max,IntKind.bits,IntKind.signed]<;>omega)
 have h0:¬((n:Int)<0):=by omega
 have h48:¬((2:Int) ^ 48<(n:Int) * (i.bytes:Int)):=by
  rw [←Int.natCast_mul]
  omega
 have hns:¬(n≤0):=by omega
 have hne:¬(n * i.size=0):=by
  have:=Nat.mul_pos hn hsz
  omega
 have h1:¬(9223372036854775807<(n:Int)):=by omega
 have hcap:Builtin.nextslicecap n 0=n:=by
  unfold Builtin.nextslicecap
  rw [if_pos (by omega)]
 have ha:∀w:World,(asInt (.int .i64 (n:Int))).run P w=.ok (n:Int) w:=fun _=>rfl
 have h48':¬(281474976710656<(n:Int) * (i.bytes:Int)):=by
  rw [←Int.natCast_mul]
  omega
 have h48'':¬(281474976710656<n * i.bytes):=by omega
 have hn0:¬(n=0):=by omega
 simp [Builtin.append_,run_underlying ht,run_underlying ht',Go.sizeOf,typeInfo,hi,ha,hw,hn0,h48',h48'',hcap,Question.forced,hs,Go.zeroValue,hz,Go.newRow,grownCap,h1]
 rw [if_neg h0,if_neg hne]
theorem cert_append_make{P:Program}{tab:Tab}(hT:TabOK P tab){o:Oper}{σ:St}{t t' e:TypeId}{x y:Operand}{ti te:TInfo}{sz:Nat}{n:Int}
  (ho:o.op=.call ⟨.builtin .append,#[x,y],#[t,t']⟩) (hd:∀d,o.dst=some d→d<σ.n) (ht:tab t=some ti) (hdesc:ti.desc=.slice e) (he:tab e=some te) (ht':P.underlying t'=some (.int .i64)) (hx:σ.ev x=some (.lst sz [] .ex)) (hy:σ.ev y=some (.v (.int .i64 n)))
  (hn:0<n) (hlen:n.toNat≤2 ^ 62) (hb:n.toNat * te.bytes≤2 ^ 47) (hsz:0<te.size) :
  Cert P o σ (.ms σ.objs.length 0 n.toNat n.toNat) (.write (σ.objs++[.cells (List.replicate n.toNat te.zero).flatten])) :=
 Cert.ofRun hd fun base σ' a g hrel h ho'=>by
  have hO:g.objs=σ.objs:=ho'.resolve_left (by simp)
  have hg:=hrel.good
  have hu:=slice_desc hT ht hdesc
  have hx':=h x (by simp [ho,Op.operands,Call.operands]) _ hx
  have ey:=(h y (by simp [ho,Op.operands,Call.operands]) _ hy).v_inv.1
  obtain⟨adx,capx,olds,ex,hx1,hx2,hx3,hx4,hx5,hx6⟩:=hx'.lst_read (P:=P)
  obtain⟨⟨i,z,h1,h2,h3,h4,h5,h6,h7,h8,h9⟩,_⟩:=hT e te he
  obtain⟨m,rfl⟩:=Int.eq_ofNat_of_zero_le (show 0≤n by omega)
  simp only [Int.toNat_natCast] at *
  have hcapx:capx=0:=by
   rcases hx'.lst_inv with⟨q1,q2⟩ | ⟨ad,cap,f,q1,_,_,_,_,_,_,_,q2⟩
   ·rw [ex] at q1
    simp at q1
    exact q1.2
   rw [ex] at q1
   simp only [Value.slice.injEq] at q1
   rw [q1.2.2]
   exact q2
  subst hcapx
  simp only [List.length_nil] at ex
  have hexec:=run_builtin1 (P:=P) ho a g.w
  simp only [builtin,List.map_toArray,List.map_cons,List.map_nil] at hexec
  have hrun:=run_append_made (P:=P) g.w t t' o.type e i z hu ht' h1 h4 adx m (by cases adx<;>simp [Builtin.firstCells,loadCells,loadCellsFrom]) (by omega) hlen (by rw [h3];exact hb) (by omega)
  rw [←ex] at hrun
  obtain⟨cap,hcap⟩:∃cap,cap=grownCap g.w m 0 e:=⟨_,rfl⟩
  have hge:=grownCap_ge g.w m 0 e
  rw [←hcap] at hrun hge
  obtain⟨rest,hrest⟩:∃rest,rest=Builtin.zeroCells z.cells (cap - m):=⟨_,rfl⟩
  rw [←hrest] at hrun
  obtain⟨arr,harr⟩:∃arr,arr=Builtin.zeroCells z.cells m++rest:=⟨_,rfl⟩
  rw [←harr] at hrun
  have hgd:=hg.heap (w':=g.w.drew) rfl rfl rfl rfl
  have hled:=Le.heap (g:=g) (w':=g.w.drew) rfl rfl rfl rfl
  obtain⟨g1,hg1⟩:∃g1:G,g1=⟨g.w.drew,g.fr,g.env,g.objs⟩:=⟨_,rfl⟩
  rw [←hg1] at hgd hled
  have hw1:g1.w=g.w.drew:=by rw [hg1]
  have ho1:g1.objs=σ.objs:=by rw [hg1];exact hO
  have hflen:(List.replicate m te.zero).flatten.length=m * te.size:=by simp [h6]
  have hget:∀(j:Nat) (c:AVal),(List.replicate m te.zero).flatten[j]?=some c→te.zero[j % te.size]?=some c:=fun j c=>h6 ▸ rep_get te.zero (by omega) m j c
  have hle:=hled.trans (Le.alloc hgd (.cells arr e) 0 (.cells (List.replicate m te.zero).flatten))
  have hzs:(Builtin.zeroCells z.cells m).size=m * te.size:=by rw [size_zeroCells,h5,h6]
  have hobj:Fits (g1.alloc (.cells arr e) 0 (.cells (List.replicate m te.zero).flatten)) (.cells arr e) (.cells (List.replicate m te.zero).flatten):=by
   refine⟨arr,e,rfl,by rw [hflen,harr,Array.size_append,hzs];omega,fun j c u hj hu=>?_,fun c hc=>?_⟩
   ·have hj':=hget j c hj
    have hlt:=lt_of_getElem? hj
    rw [hflen] at hlt
    rw [harr,Array.getElem?_append,if_pos (by rw [hzs];exact hlt)] at hu
    have hlt':j % te.size<z.cells.size:=by rw [h5];exact lt_of_getElem? hj'
    refine h8 _ _ _ _ hj' ?_
    simp only [Builtin.zeroCells,Array.getElem?_map,h5,h6,Array.getElem?_range,if_pos hlt,Option.map_some,Option.some.injEq] at hu
    subst hu
    simp [hlt']
   rw [List.mem_flatten] at hc
   obtain⟨l,hl,hc⟩:=hc
   rw [List.mem_replicate] at hl
   exact h9 c (hl.2 ▸ hc)
  have hgood:=Good.alloc hgd (.cells arr e) 0 (.cells (List.replicate m te.zero).flatten) (.inr rfl) hobj
  refine⟨.slice (some ⟨g.w.heap.size,0,none⟩) m cap,_,.inl ?_,hle,hgood,?_,?_⟩
  ·rw [hexec,ey]
   simp [hrun,G.alloc,hw1]
  ·simp [G.alloc,ho1,Mode.post]
  rw [←ho1]
  have e1:(g.w.heap.size)=g1.w.heap.size:=by rw [hw1];rfl
  rw [e1]
  exact .ms (l:=⟨g1.w.heap.size,0,_⟩) (env_new hgd) objs_new (by simp [AObj.isSpare]) (Nat.le_refl _) (by omega) hlen
theorem cert_append_raw{P:Program}{tab:Tab}(hT:TabOK P tab){o:Oper}{σ:St}{t t' e:TypeId}{x y:Operand}{ti te:TInfo}{sz:Nat}{n:Int}
  (ho:o.op=.call ⟨.builtin .append,#[x,y],#[t,t']⟩) (hd:∀d,o.dst=some d→d<σ.n) (ht:tab t=some ti) (hdesc:ti.desc=.slice e) (he:tab e=some te) (ht':P.underlying t'=some (.int .i64)) (hx:σ.ev x=some (.lst sz [] .ex)) (hy:σ.ev y=some (.v (.int .i64 n)))
  (hn:0<n) (hlen:n.toNat≤2 ^ 62) (hb:n.toNat * te.bytes≤2 ^ 47) (hsz:0<te.size) :
  Cert P o σ (.raw te.size n.toNat σ.objs.length) (.write (σ.objs++[.spare 0])) :=
 Cert.ofRun hd fun base σ' a g hrel h ho'=>by
  have hO:g.objs=σ.objs:=ho'.resolve_left (by simp)
  have hg:=hrel.good
  have hu:=slice_desc hT ht hdesc
  have hx':=h x (by simp [ho,Op.operands,Call.operands]) _ hx
  have ey:=(h y (by simp [ho,Op.operands,Call.operands]) _ hy).v_inv.1
  obtain⟨adx,capx,olds,ex,hx1,hx2,hx3,hx4,hx5,hx6⟩:=hx'.lst_read (P:=P)
  obtain⟨⟨i,z,h1,h2,h3,h4,h5,h6,h7,h8,h9⟩,_⟩:=hT e te he
  obtain⟨m,rfl⟩:=Int.eq_ofNat_of_zero_le (show 0≤n by omega)
  simp only [Int.toNat_natCast] at *
  have hcapx:capx=0:=by
   rcases hx'.lst_inv with⟨q1,q2⟩ | ⟨ad,cap,f,q1,_,_,_,_,_,_,_,q2⟩
   ·rw [ex] at q1
    simp at q1
    exact q1.2
   rw [ex] at q1
   simp only [Value.slice.injEq] at q1
   rw [q1.2.2]
   exact q2
  subst hcapx
  simp only [List.length_nil] at ex
  have hexec:=run_builtin1 (P:=P) ho a g.w
  simp only [builtin,List.map_toArray,List.map_cons,List.map_nil] at hexec
  have hrun:=run_append_made (P:=P) g.w t t' o.type e i z hu ht' h1 h4 adx m (by cases adx<;>simp [Builtin.firstCells,loadCells,loadCellsFrom]) (by omega) hlen (by rw [h3];exact hb) (by omega)
  rw [←ex] at hrun
  obtain⟨cap,hcap⟩:∃cap,cap=grownCap g.w m 0 e:=⟨_,rfl⟩
  have hge:=grownCap_ge g.w m 0 e
  rw [←hcap] at hrun hge
  obtain⟨rest,hrest⟩:∃rest,rest=Builtin.zeroCells z.cells (cap - m):=⟨_,rfl⟩
  rw [←hrest] at hrun
  obtain⟨arr,harr⟩:∃arr,arr=Builtin.zeroCells z.cells m++rest:=⟨_,rfl⟩
  rw [←harr] at hrun
  have hgd:=hg.heap (w':=g.w.drew) rfl rfl rfl rfl
  have hled:=Le.heap (g:=g) (w':=g.w.drew) rfl rfl rfl rfl
  obtain⟨g1,hg1⟩:∃g1:G,g1=⟨g.w.drew,g.fr,g.env,g.objs⟩:=⟨_,rfl⟩
  rw [←hg1] at hgd hled
  have hw1:g1.w=g.w.drew:=by rw [hg1]
  have ho1:g1.objs=σ.objs:=by rw [hg1];exact hO
  have hle:=hled.trans (Le.alloc hgd (.cells arr e) 0 (.spare 0))
  have hzs:(Builtin.zeroCells z.cells m).size=m * te.size:=by rw [size_zeroCells,h5,h6]
  have hgood:=Good.alloc hgd (.cells arr e) 0 (.spare 0) (.inr rfl) ⟨arr,e,rfl⟩
  have hrs:rest.size=(cap - m) * te.size:=by rw [hrest,size_zeroCells,h5,h6]
  refine⟨.slice (some ⟨g.w.heap.size,0,none⟩) m cap,_,.inl ?_,hle,hgood,?_,?_⟩
  ·rw [hexec,ey]
   simp [hrun,G.alloc,hw1]
  ·simp [G.alloc,ho1,Mode.post]
  rw [←ho1]
  have e1:(g.w.heap.size)=g1.w.heap.size:=by rw [hw1];rfl
  rw [e1]
  refine .raw (by omega) ⟨by simp [G.alloc],fun m' hm'=>?_⟩
  have hnew:(g1.alloc (.cells arr e) 0 (.spare 0)).objs[g1.objs.length]?=some (.spare 0):=objs_new
  rw [hnew] at hm'
  simp only [Option.some.injEq,AObj.spare.injEq] at hm'
  subst hm'
  refine⟨Nat.le_refl _,fun _=>.inr ⟨⟨g1.w.heap.size,0,_⟩,arr,e,env_new hgd,rfl,by simp,heap_push_new _ _,?_⟩⟩
  rw [harr,Array.size_append,hzs,hrs,←Nat.add_mul]
  exact Nat.mul_le_mul_right _ (by omega)
theorem cert_append_ms{P:Program}{tab:Tab}(hT:TabOK P tab){o:Oper}{σ:St}{t e:TypeId}{x y:Operand}{ti te:TInfo}{id off len cap sz:Nat}{cs ys:List AVal}{ow:Own}
  (ho:o.op=.call ⟨.builtin .append,#[x,y],#[t,t]⟩) (hd:∀d,o.dst=some d→d<σ.n) (ht:tab t=some ti) (hdesc:ti.desc=.slice e) (he:tab e=some te) (hsz:te.size=sz) (hx:σ.ev x=some (.ms id off len cap)) (hob:σ.objs[id]?=some (.cells cs)) (hy:σ.ev y=some (.lst sz ys ow))
  (hroom:len+ys.length≤cap) (h62:len+ys.length≤2 ^ 62) (hin:off+(len+ys.length) * sz≤cs.length) :
  Cert P o σ (.ms id off (len+ys.length) cap) (.write (σ.objs.set id (.cells (splice cs (off+len * sz) (cellsAll (ys.map AVal.share)))))) :=
 Cert.ofRun hd fun base σ' a g hrel h ho'=>by
  have hO:g.objs=σ.objs:=ho'.resolve_left (by simp)
  have hg:=hrel.good
  have hu:=slice_desc hT ht hdesc
  subst hsz
  have hx':=h x (by simp [ho,Op.operands,Call.operands]) _ hx
  have hy':=h y (by simp [ho,Op.operands,Call.operands]) _ hy
  obtain⟨l,o1,q1,q2,q3,hlc,hmax,cap',hcap,eu⟩:=hx'.ms_inv
  obtain⟨ady,capy,news,ey,hy1,hy2,hy3,hy4,hy5,hy6⟩:=hy'.lst_read (P:=P)
  obtain⟨⟨i,z,h1,h2,h3,h4,h5,h6,h7,h8,h9⟩,_⟩:=hT e te he
  have hob':g.objs[id]?=some (.cells cs):=by rw [hO];exact hob
  obtain⟨arr,t',hlo,hrow,hlen,hcs,hcsc,hlsz⟩:=hg.row hob' q1
  have hexec:=run_builtin1 (P:=P) ho a g.w
  simp only [builtin,List.map_toArray,List.map_cons,List.map_nil] at hexec
  obtain⟨arr',harr'⟩:∃arr',arr'=(arr.toList.take (off+len * te.size)++news++arr.toList.drop (off+len * te.size+news.length)).toArray:=⟨_,rfl⟩
  have hmul:off+(len+ys.length) * te.size=off+len * te.size+ys.length * te.size:=by rw [Nat.add_mul];omega
  have hst:=run_storeCells_at P l.block (off+len * te.size) t' news 0 arr g.w hrow (by rw [hy6];omega) (fun u hu=>by
   obtain⟨j,hj⟩:=List.getElem?_of_mem hu
   have hlt:=lt_of_getElem? hj
   have hsz:=hy3.1
   simp only [List.size_toArray] at hsz
   rw [hsz] at hlt
   have hc:=List.getElem?_eq_getElem hlt
   exact((hy3.2 j _ u hc (by simpa using hj)).scalar_cell (hy5 _ (List.mem_of_getElem? hc))).1)
  simp only [Nat.add_zero] at hst
  rw [←harr'] at hst
  have hrun:=run_append_in (P:=P) g.w (g.w.setRow l.block arr') t o.type e i hu h1 ⟨l.block,off,none⟩ len cap' ys.length (a.eval y) news hy1 (by rw [h2];exact hy2 g.w rfl) (by omega) (by rw [addr_add,h2];exact hst)
  rw [←eu] at hrun
  have hturn:=turns_cells (cs':=splice cs (off+len * te.size) (cellsAll (ys.map AVal.share))) hob' q1 hlo arr'
  have hle:=Le.turn hg hturn
  have hsh:=hy3.share_list
  have hcl:(cellsAll (ys.map AVal.share)).length=ys.length * te.size:=by
   rw [cellsAll_length (map_share_size hy4)]
   simp
  have hsp:=RVs.splice ⟨hlen,hcs⟩ hsh (off:=off+len * te.size) (by rw [hcl];omega)
  simp only at hsp
  rw [←harr'] at hsp
  refine⟨.slice (some ⟨l.block,off,none⟩) (len+ys.length) cap',g.turn id (some l) (.cells (splice cs (off+len * te.size) (cellsAll (ys.map AVal.share)))) (g.w.setRow l.block arr'),.inl ?_,hle,Good.turn hg hturn ?_ ?_,?_,?_⟩
  ·rw [hexec]
   simp [hrun,G.turn]
  ·refine⟨l,arr',t',rfl,hlo,?_,hsp.1,fun j c u a b=>(hsp.2 j c u a b).mono hle,fun c hc=>?_,?_⟩
   ·exact setRow_heap g.w l.block arr arr' t' (0,0) hrow
   ·simp only [splice,List.mem_append] at hc
    rcases hc with hc | hc | hc
    ·exact hcsc c (List.mem_of_mem_take hc)
    ·exact map_share_scalar hy5 c hc
    exact hcsc c (List.mem_of_mem_drop hc)
   have q:=hy6
   have q2:=hmul
   rw [harr']
   simp only [List.size_toArray,List.length_append,List.length_take,List.length_drop,Array.length_toList]
   omega
  ·intro l1 h1 _
   simp only [Option.some.injEq] at h1
   subst h1
   rw [setRow_size]
   exact lt_of_getElem?' hrow
  ·simp only [G.turn,Mode.post,hO]
  have hlt:id<g.objs.length:=lt_of_getElem? hob'
  have hlt2:=env_lt hg hob'
  refine .ms (l:=l) (o:=.cells (splice cs (off+len * te.size) (cellsAll (ys.map AVal.share)))) ?_ ?_ (by simp [AObj.isSpare]) hroom hcap h62
  ·simp only [G.turn]
   rw [List.getElem?_set_self hlt2]
  simp only [G.turn]
  rw [List.getElem?_set_self hlt]
theorem cert_clear_ms{P:Program}{tab:Tab}(hT:TabOK P tab){o:Oper}{σ:St}{t e:TypeId}{x:Operand}{ti te:TInfo}{id off len cap:Nat}{cs:List AVal}
  (ho:o.op=.call ⟨.builtin .clear,#[x],#[t]⟩) (hd:o.dst=none) (ht:tab t=some ti) (hdesc:ti.desc=.slice e) (he:tab e=some te) (hx:σ.ev x=some (.ms id off len cap)) (hob:σ.objs[id]?=some (.cells cs))
  (hpos:0<len) (hz:0<te.size) (hin:off+len * te.size≤cs.length) :
  Cert P o σ (.tup []) (.write (σ.objs.set id (.cells (splice cs off (List.replicate len te.zero).flatten)))) :=
 Cert.ofRun (by simp [hd]) fun base σ' a g hrel h ho'=>by
  have hO:g.objs=σ.objs:=ho'.resolve_left (by simp)
  have hg:=hrel.good
  have hu:=slice_desc hT ht hdesc
  have hx':=h x (by simp [ho,Op.operands,Call.operands]) _ hx
  obtain⟨l,o1,q1,q2,q3,hlc,hmax,cap',hcap,eu⟩:=hx'.ms_inv
  obtain⟨⟨i,z,h1,h2,h3,h4,h5,h6,h7,h8,h9⟩,_⟩:=hT e te he
  have hob':g.objs[id]?=some (.cells cs):=by rw [hO];exact hob
  obtain⟨arr,t',hlo,hrow,hlen,hcs,hcsc,hlsz⟩:=hg.row hob' q1
  have hexec:=run_builtin1 (P:=P) ho a g.w
  simp only [builtin,List.map_toArray,List.map_cons,List.map_nil] at hexec
  have hzs:(Builtin.zeroCells z.cells len).size=len * te.size:=by rw [size_zeroCells,h5,h6]
  have hflen:(List.replicate len te.zero).flatten.length=len * te.size:=by simp [h6]
  have hget:∀(j:Nat) (c:AVal),(List.replicate len te.zero).flatten[j]?=some c→te.zero[j % te.size]?=some c:=fun j c=>h6 ▸ rep_get te.zero (by omega) len j c
  have hzr:RVs g (List.replicate len te.zero).flatten (Builtin.zeroCells z.cells len):=⟨by rw [hzs,hflen],fun j c u hj hu=>by
   have hj':=hget j c hj
   have hlt:=lt_of_getElem? hj
   rw [hflen] at hlt
   have hlt':j % te.size<z.cells.size:=by rw [h5];exact lt_of_getElem? hj'
   refine h8 _ _ _ _ hj' ?_
   simp only [Builtin.zeroCells,Array.getElem?_map,h5,h6,Array.getElem?_range,if_pos hlt,Option.map_some,Option.some.injEq] at hu
   subst hu
   simp [hlt']⟩
  have hzsc:∀c∈(List.replicate len te.zero).flatten,c.scalar:=fun c hc=>by
   rw [List.mem_flatten] at hc
   obtain⟨l,hl,hc⟩:=hc
   rw [List.mem_replicate] at hl
   exact h9 c (hl.2 ▸ hc)
  obtain⟨news,hnews⟩:∃news,news=(Builtin.zeroCells z.cells len).toList:=⟨_,rfl⟩
  have hnl:news.length=len * te.size:=by rw [hnews,Array.length_toList,hzs]
  obtain⟨arr',harr'⟩:∃arr',arr'=(arr.toList.take off++news++arr.toList.drop (off+news.length)).toArray:=⟨_,rfl⟩
  have hst:=run_storeCells_at P l.block off t' news 0 arr g.w hrow (by rw [hnl];omega) (fun u hu=>by
   obtain⟨j,hj⟩:=List.getElem?_of_mem hu
   have hlt:=lt_of_getElem? hj
   rw [hnl,←hflen] at hlt
   have hc:=List.getElem?_eq_getElem hlt
   exact((hzr.2 j _ u hc (by rw [hnews] at hj;simpa using hj)).scalar_cell (hzsc _ (List.mem_of_getElem? hc))).1)
  simp only [Nat.add_zero] at hst
  rw [←harr'] at hst
  have hrun:(Builtin.clear_ #[t] o.type #[a.eval x]).run P g.w=.ok (.tuple #[]) (g.w.setRow l.block arr'):=by
   obtain⟨k,rfl⟩:∃k,len=k+1:=⟨len - 1,by omega⟩
   rw [eu]
   simp [Builtin.clear_,run_underlying hu,Go.zeroValue,typeInfo,h1,h4,←hnews,hst]
  have hturn:=turns_cells (cs':=splice cs off (List.replicate len te.zero).flatten) hob' q1 hlo arr'
  have hle:=Le.turn hg hturn
  have hsp:=RVs.splice ⟨hlen,hcs⟩ hzr (off:=off) (by rw [hflen];omega)
  rw [←hnews,←harr'] at hsp
  refine⟨.tuple #[],g.turn id (some l) (.cells (splice cs off (List.replicate len te.zero).flatten)) (g.w.setRow l.block arr'),?_,hle,Good.turn hg hturn ?_ ?_,?_,.tup rfl (by simp)⟩
  ·refine .inl ?_
   rw [hexec]
   simp [hrun,G.turn]
  ·refine⟨l,arr',t',rfl,hlo,?_,hsp.1,fun j c u a b=>(hsp.2 j c u a b).mono hle,fun c hc=>?_,?_⟩
   ·exact setRow_heap g.w l.block arr arr' t' (0,0) hrow
   ·simp only [splice,List.mem_append] at hc
    rcases hc with hc | hc | hc
    ·exact hcsc c (List.mem_of_mem_take hc)
    ·exact hzsc c hc
    exact hcsc c (List.mem_of_mem_drop hc)
   have q:=hnl
   rw [harr']
   simp only [List.size_toArray,List.length_append,List.length_take,List.length_drop,Array.length_toList]
   omega
  ·intro l1 h1 _
   simp only [Option.some.injEq] at h1
   subst h1
   rw [setRow_size]
   exact lt_of_getElem?' hrow
  simp only [G.turn,Mode.post,hO]
def G.ren(g:G)(id:Nat)(l:Loc)(o:AObj):G:=⟨g.w,g.fr,g.env++[some l],g.objs.set id .gone++[o]⟩
theorem ren_old{g:G}{id:Nat}{l:Loc}{o:AObj}(hg:Good g)(hid:id<g.objs.length){i:Nat}{l':Loc}{o':AObj}(h1:(g.ren id l o).env[i]?=some (some l'))(h2:(g.ren id l o).objs[i]?=some o')(h3:o'.live) :
  (i≠id∧g.env[i]?=some (some l')∧g.objs[i]?=some o')∨(i=g.objs.length∧l'=l∧o'=o):=by
 have hlen:=hg.len
 rcases getElem?_snoc h1 with q1 | ⟨q1,q1'⟩
 ·rcases getElem?_snoc h2 with q2 | ⟨q2,_⟩
  ·by_cases e:id=i
   ·subst e
    rw [List.getElem?_set_self hid] at q2
    simp only [Option.some.injEq] at q2
    subst q2
    exact h3.elim
   rw [List.getElem?_set_ne e] at q2
   exact .inl ⟨Ne.symm e,q1,q2⟩
  have:=lt_of_getElem? q1
  simp only [List.length_set] at q2
  omega
 rcases getElem?_snoc h2 with q2 | ⟨q2,q2'⟩
 ·have:=lt_of_getElem? q2
  simp only [List.length_set] at this
  omega
 simp only [Option.some.injEq] at q1'
 exact .inr ⟨by omega,q1',q2'⟩
theorem OwnL.ren{g:G}{id:Nat}{l:Loc}{o o1:AObj}(hg:Good g)(he:g.env[id]?=some (some l))(ho:g.objs[id]?=some o1)(hl:o1.live){b off:Nat}(h:OwnL (g.ren id l o) b off):OwnL g b off:=by
 obtain⟨i,l',o',h1,h2,h3,h4,h5⟩:=h
 rcases ren_old hg (lt_of_getElem? ho) h1 h2 h3 with⟨_,q1,q2⟩ | ⟨_,q1,_⟩
 ·exact⟨i,l',o',q1,q2,h3,h4,h5⟩
 subst q1
 exact⟨id,l',o1,he,ho,hl,h4,h5⟩
theorem OwnLB.ren{g:G}{id:Nat}{l:Loc}{o o1:AObj}(hg:Good g)(he:g.env[id]?=some (some l))(ho:g.objs[id]?=some o1)(hl:o1.live){b:Nat}(h:OwnLB (g.ren id l o) b):OwnLB g b:=by
 obtain⟨i,l',o',h1,h2,h3,h4⟩:=h
 exact(OwnL.ren hg he ho hl ⟨i,l',o',h1,h2,h3,h4,Nat.le_refl _⟩).block
theorem ren_get{g:G}{id i:Nat}{l:Loc}{o o':AObj}(hne:id≠i)(h:g.objs[i]?=some o'):(g.ren id l o).objs[i]?=some o':=by
 have:=lt_of_getElem? h
 simp only [G.ren]
 rw [List.getElem?_append,if_pos (by simpa using this),List.getElem?_set_ne hne]
 exact h
theorem ren_gone{g:G}{id:Nat}{l:Loc}{o:AObj}(h:id<g.objs.length):(g.ren id l o).objs[id]?=some .gone:=by
 simp only [G.ren]
 rw [List.getElem?_append,if_pos (by simpa using h),List.getElem?_set_self h]
theorem ren_env{g:G}{id i:Nat}{l:Loc}{o:AObj}(h:i<g.env.length):(g.ren id l o).env[i]?=g.env[i]?:=by
 simp only [G.ren]
 rw [List.getElem?_append,if_pos h]
theorem Le.ren{g:G}{id:Nat}{l:Loc}{o o1:AObj}(hg:Good g)(he:g.env[id]?=some (some l))(ho:g.objs[id]?=some o1)(hl:o1.live)(hs:¬o1.isSpare):Le g (g.ren id l o) where
 os:=rfl
 tape:=rfl
 output:=rfl
 fr:=rfl
 size:=Nat.le_refl _
 block:=fun k _ h=>⟨rfl,fun q=>h (OwnLB.ren hg he ho hl q)⟩
 cell:=fun b off x hx hn=>⟨hx,fun q=>hn (OwnL.ren hg he ho hl q)⟩
 len:=by simp [G.ren]
 spare:=fun i m hm=>by
  have hne:id≠i:=by
   intro e
   subst e
   rw [ho] at hm
   simp only [Option.some.injEq] at hm
   subst hm
   exact hs trivial
  exact .inl ⟨m,ren_get hne hm,Nat.le_refl _⟩
 plain:=fun i o' ho' hn=>by
  refine⟨?_,ren_env (by have:=lt_of_getElem? ho';have:=hg.len;omega)⟩
  by_cases e:id=i
  ·subst e
   exact⟨.gone,ren_gone (lt_of_getElem? ho),by simp [AObj.isSpare]⟩
  exact⟨o',ren_get e ho',hn⟩
 gone:=fun i hi=>by
  by_cases e:id=i
  ·subst e
   exact ren_gone (lt_of_getElem? ho)
  exact ren_get e hi
 tok:=fun i m hm _=>⟨ren_env (by have:=lt_of_getElem? hm;have:=hg.len;omega),fun _ _=>rfl⟩
theorem Good.ren{g:G}{id:Nat}{l:Loc}{cs:List AVal}(hg:Good g)(he:g.env[id]?=some (some l))(ho:g.objs[id]?=some (.cells cs)):Good (g.ren id l (.cells cs)):=by
 have hlt:=lt_of_getElem? ho
 have hle:=Le.ren (o:=.cells cs) hg he ho trivial (by simp [AObj.isSpare])
 have hnew:(g.ren id l (.cells cs)).env[g.objs.length]?=some (some l):=by
  simp only [G.ren]
  rw [←hg.len]
  simp
 refine⟨hg.frlt,?_,by simp [G.ren,hg.len],?_,?_,?_,?_,?_⟩
 ·intro i l' o' h1 h2 h3
  rcases ren_old hg hlt h1 h2 h3 with⟨_,q1,q2⟩ | ⟨_,q1,_⟩
  ·exact hg.frown i l' o' q1 q2 h3
  subst q1
  exact hg.frown id l' _ he ho trivial
 ·intro i l' o' h1 h2 h3
  rcases ren_old hg hlt h1 h2 h3 with⟨_,q1,q2⟩ | ⟨_,q1,_⟩
  ·exact hg.loc i l' o' q1 q2 h3
  subst q1
  exact hg.loc id l' _ he ho trivial
 ·intro i j l1 l2 o1 o2 h1 h2 h3 k1 k2 k3 hb
  rcases ren_old hg hlt h1 h2 h3 with⟨n1,q1,q2⟩ | ⟨n1,q1,_⟩
  ·rcases ren_old hg hlt k1 k2 k3 with⟨_,r1,r2⟩ | ⟨m1,r1,_⟩
   ·exact hg.apart i j l1 l2 o1 o2 q1 q2 h3 r1 r2 k3 hb
   subst r1
   exact absurd (hg.apart i id l1 l2 o1 _ q1 q2 h3 he ho trivial hb) n1
  rcases ren_old hg hlt k1 k2 k3 with⟨m1,r1,r2⟩ | ⟨m1,r1,_⟩
  ·subst q1
   exact absurd (hg.apart j id l2 l1 o2 _ r1 r2 k3 he ho trivial hb.symm) m1
  omega
 ·intro i ds h
  have hlive:(AObj.cells ds).live:=trivial
  rcases getElem?_snoc h with q | ⟨q,q'⟩
  ·have hne:id≠i:=by
    intro e
    subst e
    rw [List.getElem?_set_self hlt] at q
    cases q
   rw [List.getElem?_set_ne hne] at q
   obtain⟨l',arr,t,e1,e0,e2,e3,e4,e5⟩:=hg.cells i ds q
   exact⟨l',arr,t,(ren_env (by have:=lt_of_getElem? q;have:=hg.len;omega)).trans e1,e0,e2,e3,fun j c u a b=>(e4 j c u a b).mono hle,e5⟩
  simp only [AObj.cells.injEq] at q'
  subst q'
  obtain⟨l',arr,t,e1,e0,e2,e3,e4,e5⟩:=hg.cells id _ ho
  rw [he] at e1
  simp only [Option.some.injEq] at e1
  subst e1
  refine⟨l,arr,t,?_,e0,e2,e3,fun j c u a b=>(e4 j c u a b).mono hle,e5⟩
  rw [q,List.length_set]
  exact hnew
 ·intro i m l' h h1
  rcases getElem?_snoc h with q | ⟨q,q'⟩
  ·have hne:id≠i:=by
    intro e
    subst e
    rw [List.getElem?_set_self hlt] at q
    cases q
   rw [List.getElem?_set_ne hne] at q
   rw [ren_env (by have:=lt_of_getElem? q;have:=hg.len;omega)] at h1
   exact hg.spare i m l' q h1
  cases q'
 intro i kt es h
 rcases getElem?_snoc h with q | ⟨q,q'⟩
 ·have hne:id≠i:=by
   intro e
   subst e
   rw [List.getElem?_set_self hlt] at q
   cases q
  rw [List.getElem?_set_ne hne] at q
  obtain⟨l',arr,clk,e1,e0,e2,e3,e6,e4⟩:=hg.map i kt es q
  exact⟨l',arr,clk,(ren_env (by have:=lt_of_getElem? q;have:=hg.len;omega)).trans e1,e0,e2,e3,e6,fun j e kx a b=>⟨(e4 j e kx a b).1,(e4 j e kx a b).2.1,(e4 j e kx a b).2.2.mono hle⟩⟩
 cases q'
theorem cert_indexAddr_os{P:Program}{tab:Tab}(hT:TabOK P tab){o:Oper}{σ:St}{t e:TypeId}{x i:Operand}{ti te:TInfo}{id len sz:Nat}{k:IntKind}{n:Int}
  (ho:o.op=.indexAddr t x i) (hd:∀d,o.dst=some d→d<σ.n) (ht:tab t=some ti) (hdesc:ti.desc=.slice e) (he:tab e=some te)
  (hx:σ.ev x=some (.os id len sz)) (hi:σ.ev i=some (.v (.int k n))) (h0:0≤n) (hn:n<len):Cert P o σ (.mp id (n.toNat * te.size)) .pure :=
 Cert.ofQuiet .pure (.inl rfl) hd fun a g _ h _=>by
  have ei:=(h i (by simp [ho,Op.operands]) _ hi).v_inv.1
  have hu:=slice_desc hT ht hdesc
  obtain⟨l,o1,cap,h1,h2,h3,_,_,_,eu⟩:=(h x (by simp [ho,Op.operands]) _ hx).os_inv
  exact⟨.pointer (some ⟨l.block,n.toNat * te.size,none⟩),by simp [execOp,ho,ei,eu,Instr.indexAt,asIntOf,run_underlying hu,h0,hn,(hT e te he).sizeOf,addr_add],.mp h1 h2 h3⟩
theorem cert_slice_os{P:Program}{tab:Tab}(hT:TabOK P tab){o:Oper}{σ:St}{t e:TypeId}{x:Operand}{ti te:TInfo}{id len sz:Nat}{lo hi:Option Operand}{h:Nat}
  (ho:o.op=.slice t x lo hi none) (hd:∀d,o.dst=some d→d<σ.n) (ht:tab t=some ti) (hdesc:ti.desc=.slice e) (he:tab e=some te) (hx:σ.ev x=some (.os id len sz))
  (hlo:bndOK σ lo 0 0) (hhi:bndOK σ hi len h) (h2:h≤len) (h3:0<len):Cert P o σ (.os id h sz) .pure :=
 Cert.ofQuiet .pure (.inl rfl) hd fun a g _ hh _=>by
  have hu:=slice_desc hT ht hdesc
  have hx':=hh x (by cases lo<;>cases hi<;>simp [ho,Op.operands]) _ hx
  have hl:(lo=none∧(0:Nat)=0)∨∃q k,lo=some q∧a.eval q=.int k ((0:Nat):Int):=by
   rcases hlo with q | ⟨q,k,e1,e2⟩
   ·exact .inl q
   exact .inr ⟨q,k,e1,(hh q (by subst e1;cases hi<;>simp [ho,Op.operands]) _ e2).v_inv.1⟩
  have hi':(hi=none∧h=len)∨∃q k,hi=some q∧a.eval q=.int k (h:Int):=by
   rcases hhi with q | ⟨q,k,e1,e2⟩
   ·exact .inl q
   exact .inr ⟨q,k,e1,(hh q (by subst e1;cases lo<;>simp [ho,Op.operands]) _ e2).v_inv.1⟩
  have hexec:execOp a.eval o=(do pure (.value (←Instr.sliceAt t (a.eval x) (lo.map a.eval) (hi.map a.eval) none))):=by
   simp [execOp,ho]
  clear hlo hhi ho
  obtain⟨lc,o1,cap',q1,q2,q3,hlc,hcb,hmax,eu⟩:=hx'.os_inv
  have bounds:(Instr.sliceBounds true len cap' (lo.map a.eval) (hi.map a.eval) none).run P g.w=.ok (0,h,cap') g.w:=by
   rcases hl with⟨e1,e2⟩ | ⟨p,k,e1,hk⟩
   ·rcases hi' with⟨e3,e4⟩ | ⟨q,k',e3,hk'⟩
    ·subst e1 e3 e4
     simp [Instr.sliceBounds]
    subst e1 e3
    have:=run_sliceBound (P:=P) k' h cap' .sliceAcap g.w (by omega) (by omega)
    simp [Instr.sliceBounds,hk',this]
   rcases hi' with⟨e3,e4⟩ | ⟨q,k',e3,hk'⟩
   ·subst e1 e3 e4
    have:=run_sliceBound (P:=P) k 0 h .sliceB g.w (by omega) (by omega)
    simp [Instr.sliceBounds,hk,this]
   subst e1 e3
   have e1:=run_sliceBound (P:=P) k' h cap' .sliceAcap g.w (by omega) (by omega)
   have e2:=run_sliceBound (P:=P) k 0 h .sliceB g.w (by omega) (by omega)
   simp [Instr.sliceBounds,hk,hk',e1,e2]
  have hsize:=(hT e te he).sizeOf g.w
  refine⟨.slice (some ((⟨lc.block,0,none⟩:Addr).add (0 * te.size))) (h - 0) (cap' - 0),?_,?_⟩
  ·rw [hexec]
   simp [Instr.sliceAt,run_underlying hu,Instr.slice,eu,bounds,hsize,show cap'≠0 by omega]
  rw [addr_add]
  simp only [Nat.zero_mul,Nat.add_zero,Nat.sub_zero]
  exact .os q1 q2 q3 (by omega) hcb (by omega)
theorem cert_append_osNew{P:Program}{tab:Tab}(hT:TabOK P tab){o:Oper}{σ:St}{t e:TypeId}{x y:Operand}{ti te:TInfo}{sz:Nat}{xs ys:List AVal}{ow:Own}
  (ho:o.op=.call ⟨.builtin .append,#[x,y],#[t,t]⟩) (hd:∀d,o.dst=some d→d<σ.n) (ht:tab t=some ti) (hdesc:ti.desc=.slice e) (he:tab e=some te) (hsz:te.size=sz) (hx:σ.ev x=some (.lst sz xs .ex)) (hy:σ.ev y=some (.lst sz ys ow))
  (hn:ys.length≠0) (hlen:xs.length+ys.length≤2 ^ 62) (hb:(xs.length+ys.length) * te.bytes≤2 ^ 47) :
  Cert P o σ (.os σ.objs.length (xs.length+ys.length) sz) (.write (σ.objs++[.cells (cellsAll (xs++ys.map AVal.share))])) :=
 Cert.ofRun hd fun base σ' a g hrel h ho'=>by
  have hO:g.objs=σ.objs:=ho'.resolve_left (by simp)
  have hg:=hrel.good
  have hu:=slice_desc hT ht hdesc
  subst hsz
  have hx':=h x (by simp [ho,Op.operands,Call.operands]) _ hx
  have hy':=h y (by simp [ho,Op.operands,Call.operands]) _ hy
  obtain⟨adx,capx,olds,ex,hx1,hx2,hx3,hx4,hx5,hx6⟩:=hx'.lst_read (P:=P)
  obtain⟨ady,capy,news,ey,hy1,hy2,hy3,hy4,hy5,hy6⟩:=hy'.lst_read (P:=P)
  obtain⟨⟨i,z,h1,h2,h3,h4,h5,h6,h7,h8,h9⟩,_⟩:=hT e te he
  have hcapx:capx=xs.length:=by
   rcases hx'.lst_inv with⟨q1,q2⟩ | ⟨ad,cap,f,q1,_,_,_,_,_,_,_,q2⟩
   ·rw [ex] at q1
    cases q2
    simp at q1
    simp [q1]
   rw [ex] at q1
   simp only [Value.slice.injEq] at q1
   rw [q1.2.2]
   exact q2
  subst hcapx
  have hexec:=run_builtin1 (P:=P) ho a g.w
  simp only [builtin,List.map_toArray,List.map_cons,List.map_nil] at hexec
  have hrun:=run_append_new (P:=P) g.w t o.type e i z hu h1 h4 adx xs.length xs.length ys.length (a.eval y) olds news hy1 (by rw [h2];exact hy2 g.w.drew rfl) (by rw [h2,←ex];exact hx2 g.w.drew rfl) (by omega) hlen (by rw [h3];exact hb)
  rw [←ex] at hrun
  obtain⟨cap,hcap⟩:∃cap,cap=grownCap g.w (xs.length+ys.length) xs.length e:=⟨_,rfl⟩
  obtain⟨rest,hrest⟩:∃rest,rest=Builtin.zeroCells z.cells (cap - (xs.length+ys.length)):=⟨_,rfl⟩
  have hge:=grownCap_ge g.w (xs.length+ys.length) xs.length e
  rw [←hcap] at hrun hge
  rw [←hrest] at hrun
  have hrs:rest.size=(cap - (xs.length+ys.length)) * te.size:=by rw [hrest,size_zeroCells,h5,h6]
  obtain⟨arr,harr⟩:∃arr,arr=olds.toArray++news.toArray++rest:=⟨_,rfl⟩
  rw [←harr] at hrun
  have hgd:=hg.heap (w':=g.w.drew) rfl rfl rfl rfl
  have hled:=Le.heap (g:=g) (w':=g.w.drew) rfl rfl rfl rfl
  obtain⟨g1,hg1⟩:∃g1:G,g1=⟨g.w.drew,g.fr,g.env,g.objs⟩:=⟨_,rfl⟩
  rw [←hg1] at hgd hled
  have hw1:g1.w=g.w.drew:=by rw [hg1]
  have ho1:g1.objs=σ.objs:=by rw [hg1];exact hO
  have hcells:=hx3.append hy3.share_list
  rw [←cellsAll_append] at hcells
  have hcl:(cellsAll (xs++ys.map AVal.share)).length=(xs.length+ys.length) * te.size:=by
   rw [cellsAll_length (sz:=te.size) (fun x hx=>by
    rcases List.mem_append.1 hx with q | q
    ·exact hx4 x q
    exact map_share_size hy4 x q)]
   simp
  have hasz:arr.size=cap * te.size:=by
   rw [harr]
   simp only [Array.size_append,List.size_toArray,hx6,hy6,hrs,←Nat.add_mul]
   rw [show xs.length+ys.length+(cap - (xs.length+ys.length))=cap by omega]
  have hle:=hled.trans (Le.alloc hgd (.cells arr e) 0 (.cells (cellsAll (xs++ys.map AVal.share))))
  have hobj:Fits (g1.alloc (.cells arr e) 0 (.cells (cellsAll (xs++ys.map AVal.share)))) (.cells arr e) (.cells (cellsAll (xs++ys.map AVal.share))):=by
   refine⟨arr,e,rfl,by rw [hcl,hasz];exact Nat.mul_le_mul_right _ hge,fun j c u hj hu=>?_,fun c hc=>?_⟩
   ·have hlt:=lt_of_getElem? hj
    rw [hcl] at hlt
    rw [harr] at hu
    have hu2:=append_cells_get hu (by simp only [List.size_toArray,hx6,hy6,←Nat.add_mul];exact hlt)
    exact(hcells.2 j c u hj (by simpa using hu2)).mono hle
   rw [cellsAll_append] at hc
   rcases List.mem_append.1 hc with q | q
   ·exact hx5 c q
   exact map_share_scalar hy5 c q
  have hgood:=Good.alloc hgd (.cells arr e) 0 (.cells (cellsAll (xs++ys.map AVal.share))) (.inr rfl) hobj
  refine⟨.slice (some ⟨g.w.heap.size,0,none⟩) (xs.length+ys.length) cap,_,.inl ?_,hle,hgood,?_,?_⟩
  ·rw [hexec]
   simp [hrun,G.alloc,hw1]
  ·simp [G.alloc,ho1,Mode.post]
  rw [←ho1]
  have e1:(g.w.heap.size)=g1.w.heap.size:=by rw [hw1];rfl
  rw [e1]
  exact .os (l:=⟨g1.w.heap.size,0,arr.size⟩) (env_new hgd) objs_new (by simp [AObj.isSpare]) hge (by rw [hasz];exact Nat.le_refl _) hlen
theorem cert_append_os{P:Program}{tab:Tab}(hT:TabOK P tab){o:Oper}{σ:St}{t e:TypeId}{x y:Operand}{ti te:TInfo}{id len sz:Nat}{cs ys:List AVal}{ow:Own}
  (ho:o.op=.call ⟨.builtin .append,#[x,y],#[t,t]⟩) (hd:∀d,o.dst=some d→d<σ.n) (ht:tab t=some ti) (hdesc:ti.desc=.slice e) (he:tab e=some te) (hsz:te.size=sz) (hx:σ.ev x=some (.os id len sz)) (hob:σ.objs[id]?=some (.cells cs)) (hy:σ.ev y=some (.lst sz ys ow))
  (hin:len * sz≤cs.length) (hn:ys.length≠0) (hlen:len+ys.length≤2 ^ 62) (hb:(len+ys.length) * te.bytes≤2 ^ 47) :
  Cert P o σ (.os σ.objs.length (len+ys.length) sz) (.write (σ.objs.set id .gone++[.cells (cs.take (len * sz)++cellsAll (ys.map AVal.share))])) :=
 Cert.ofRun hd fun base σ' a g hrel h ho'=>by
  have hO:g.objs=σ.objs:=ho'.resolve_left (by simp)
  have hg:=hrel.good
  have hu:=slice_desc hT ht hdesc
  subst hsz
  have hx':=h x (by simp [ho,Op.operands,Call.operands]) _ hx
  have hy':=h y (by simp [ho,Op.operands,Call.operands]) _ hy
  obtain⟨l,o1,cap,q1,q2,q3,hlc,hcb,hmax,eu⟩:=hx'.os_inv
  obtain⟨ady,capy,news,ey,hy1,hy2,hy3,hy4,hy5,hy6⟩:=hy'.lst_read (P:=P)
  obtain⟨⟨i,z,h1,h2,h3,h4,h5,h6,h7,h8,h9⟩,_⟩:=hT e te he
  have hob':g.objs[id]?=some (.cells cs):=by rw [hO];exact hob
  have hidlt:=lt_of_getElem? hob'
  obtain⟨arr,t',hlo,hrow,hclen,hcs,hcsc,hlsz⟩:=hg.row hob' q1
  have hexec:=run_builtin1 (P:=P) ho a g.w
  simp only [builtin,List.map_toArray,List.map_cons,List.map_nil] at hexec
  have hsh:=hy3.share_list
  have hcl:(cellsAll (ys.map AVal.share)).length=ys.length * te.size:=by
   rw [cellsAll_length (map_share_size hy4)]
   simp
  obtain⟨m,hm⟩:∃m,m=len * te.size:=⟨_,rfl⟩
  obtain⟨olds,hol⟩:∃olds,olds=arr.toList.take m:=⟨_,rfl⟩
  obtain⟨ds,hds⟩:∃ds,ds=cs.take (len * te.size)++cellsAll (ys.map AVal.share):=⟨_,rfl⟩
  rw [←hm] at hds hin
  have hosz:olds.length=m:=by rw [hol];simp;omega
  have holds:RVs g (cs.take m) olds.toArray:=by
   refine⟨by simp [hosz];omega,fun j c u hj hu=>?_⟩
   have hlt:=lt_of_getElem? hj
   simp only [List.length_take] at hlt
   rw [List.getElem?_take,if_pos (by omega)] at hj
   refine hcs j c u hj ?_
   simp only [List.getElem?_toArray,hol] at hu
   rw [List.getElem?_take,if_pos (by omega)] at hu
   simpa using hu
  have hall:RVs g ds (olds++news).toArray:=by
   rw [hds]
   exact holds.append hsh
  have hdl:ds.length=m+ys.length * te.size:=by
   rw [hds,List.length_append,List.length_take,hcl]
   omega
  have hdsc:∀c∈ds,c.scalar:=fun c hc=>by
   rw [hds] at hc
   rcases List.mem_append.1 hc with hc | hc
   ·exact hcsc c (List.mem_of_mem_take hc)
   exact map_share_scalar hy5 c hc
  have hml:(len+ys.length) * te.size=m+ys.length * te.size:=by rw [Nat.add_mul,hm]
  rw [←hm,←hds]
  by_cases hroom:len+ys.length≤cap
  ·have hfit:m+ys.length * te.size≤arr.size:=by
    have:=Nat.mul_le_mul_right te.size hroom
    omega
   obtain⟨arr',harr'⟩:∃arr',arr'=(arr.toList.take m++news++arr.toList.drop (m+news.length)).toArray:=⟨_,rfl⟩
   have hst:=run_storeCells_at P l.block m t' news 0 arr g.w hrow (by rw [hy6];omega) (fun u hu=>by
    obtain⟨j,hj⟩:=List.getElem?_of_mem hu
    have hlt:=lt_of_getElem? hj
    have hsz:=hy3.1
    simp only [List.size_toArray] at hsz
    rw [hsz] at hlt
    have hc:=List.getElem?_eq_getElem hlt
    exact((hy3.2 j _ u hc (by simpa using hj)).scalar_cell (hy5 _ (List.mem_of_getElem? hc))).1)
   simp only [Nat.add_zero] at hst
   rw [←harr'] at hst
   have hrun:=run_append_in (P:=P) g.w (g.w.setRow l.block arr') t o.type e i hu h1 ⟨l.block,0,none⟩ len cap ys.length (a.eval y) news hy1 (by rw [h2];exact hy2 g.w rfl) (by omega) (by rw [addr_add,h2,Nat.zero_add,←hm];exact hst)
   rw [←eu] at hrun
   have hturn:=turns_cells (cs':=ds) hob' q1 hlo arr'
   have hle:=Le.turn hg hturn
   have hasz:arr'.size=arr.size:=by
    rw [harr']
    simp only [List.size_toArray,List.length_append,List.length_take,List.length_drop,Array.length_toList,hy6]
    omega
   have hgood:=Good.turn hg hturn (by
    refine⟨l,arr',t',rfl,hlo,setRow_heap g.w l.block arr arr' t' (0,0) hrow,by rw [hdl,hasz];exact hfit,fun j c u hj hu'=>?_,hdsc,by rw [hasz];exact hlsz⟩
    have hlt:=lt_of_getElem? hj
    rw [hdl] at hlt
    have e1:arr'=olds.toArray++news.toArray++(arr.toList.drop (m+news.length)).toArray:=by
     rw [harr',hol]
     simp
    rw [e1] at hu'
    have hu2:=append_cells_get hu' (by simp only [List.size_toArray,hosz,hy6];exact hlt)
    exact(hall.2 j c u hj (by simpa using hu2)).mono hle) (fun l1 h1 _=>by
    simp only [Option.some.injEq] at h1
    subst h1
    rw [setRow_size]
    exact lt_of_getElem?' hrow)
   obtain⟨g1,hg1⟩:∃g1:G,g1=g.turn id (some l) (.cells ds) (g.w.setRow l.block arr'):=⟨_,rfl⟩
   rw [←hg1] at hle hgood
   have he1:g1.env[id]?=some (some l):=by
    rw [hg1]
    simp only [G.turn]
    rw [List.getElem?_set_self (env_lt hg hob')]
   have ho1:g1.objs[id]?=some (.cells ds):=by
    rw [hg1]
    simp only [G.turn]
    rw [List.getElem?_set_self hidlt]
   have hlen1:g1.objs.length=σ.objs.length:=by
    rw [hg1,←hO]
    simp [G.turn]
   refine⟨.slice (some ⟨l.block,0,none⟩) (len+ys.length) cap,g1.ren id l (.cells ds),.inl ?_,hle.trans (Le.ren hgood he1 ho1 trivial (by simp [AObj.isSpare])),Good.ren hgood he1 ho1,?_,?_⟩
   ·rw [hexec,hg1]
    simp [hrun,G.turn,G.ren]
   ·simp only [G.ren,hg1,G.turn,Mode.post,List.set_set,hO]
   refine .os (l:=l) (o:=.cells ds) ?_ ?_ (by simp [AObj.isSpare]) hroom hcb hlen
   ·simp only [G.ren]
    rw [←hlen1,←hgood.len]
    simp
   simp only [G.ren]
   rw [←hlen1]
   simp
  have hrun:=run_append_new (P:=P) g.w t o.type e i z hu h1 h4 (some ⟨l.block,0,none⟩) len cap ys.length (a.eval y) olds news hy1 (by rw [h2];exact hy2 g.w.drew rfl) (by
   rw [h2]
   simp only [Builtin.firstCells]
   rw [←hm]
   have:=run_loadCells (P:=P) g.w.drew ⟨l.block,0,none⟩ m (fun j=>arr.getD j undef) (fun j hj=>by
    rw [addr_add,Nat.zero_add]
    have:g.w.drew.cell? ⟨l.block,j,none⟩=arr[j]?:=cell_of_row (w:=g.w.drew) hrow j
    rw [this]
    simp [Array.getD_eq_getD_getElem?,show j<arr.size by omega])
   rw [list_eq_range olds m _ hosz (fun j hj=>by
    rw [hol,List.getElem?_take,if_pos hj]
    simp [Array.getD_eq_getD_getElem?,show j<arr.size by omega])] at this
   exact this) (by omega) hlen (by rw [h3];exact hb)
  rw [←eu] at hrun
  obtain⟨cap2,hcap⟩:∃cap2,cap2=grownCap g.w (len+ys.length) cap e:=⟨_,rfl⟩
  obtain⟨rest,hrest⟩:∃rest,rest=Builtin.zeroCells z.cells (cap2 - (len+ys.length)):=⟨_,rfl⟩
  have hge:=grownCap_ge g.w (len+ys.length) cap e
  rw [←hcap] at hrun hge
  rw [←hrest] at hrun
  have hrs:rest.size=(cap2 - (len+ys.length)) * te.size:=by rw [hrest,size_zeroCells,h5,h6]
  obtain⟨arr2,harr⟩:∃arr2,arr2=olds.toArray++news.toArray++rest:=⟨_,rfl⟩
  rw [←harr] at hrun
  have hgd:=hg.heap (w':=g.w.drew) rfl rfl rfl rfl
  have hled:=Le.heap (g:=g) (w':=g.w.drew) rfl rfl rfl rfl
  obtain⟨g1,hg1⟩:∃g1:G,g1=⟨g.w.drew,g.fr,g.env,g.objs⟩:=⟨_,rfl⟩
  rw [←hg1] at hgd hled
  have hw1:g1.w=g.w.drew:=by rw [hg1]
  have ho1:g1.objs=σ.objs:=by rw [hg1];exact hO
  have hasz:arr2.size=cap2 * te.size:=by
   rw [harr]
   simp only [Array.size_append,List.size_toArray,hosz,hy6,hrs]
   have:(len+ys.length) * te.size+(cap2 - (len+ys.length)) * te.size=cap2 * te.size:=by
    rw [←Nat.add_mul,show len+ys.length+(cap2 - (len+ys.length))=cap2 by omega]
   omega
  have hle:=hled.trans (Le.alloc hgd (.cells arr2 e) 0 (.cells ds))
  have hobj:Fits (g1.alloc (.cells arr2 e) 0 (.cells ds)) (.cells arr2 e) (.cells ds):=by
   refine⟨arr2,e,rfl,by rw [hdl,hasz,←hml];exact Nat.mul_le_mul_right _ hge,fun j c u hj hu=>?_,hdsc⟩
   have hlt:=lt_of_getElem? hj
   rw [hdl] at hlt
   rw [harr] at hu
   have hu2:=append_cells_get hu (by simp only [List.size_toArray,hosz,hy6];exact hlt)
   exact(hall.2 j c u hj (by simpa using hu2)).mono hle
  have hgood:=Good.alloc hgd (.cells arr2 e) 0 (.cells ds) (.inr rfl) hobj
  obtain⟨g2,hg2⟩:∃g2:G,g2=g1.alloc (.cells arr2 e) 0 (.cells ds):=⟨_,rfl⟩
  rw [←hg2] at hle hgood
  have henv2:g2.env[id]?=some (some l):=by
   rw [hg2]
   simp only [G.alloc]
   rw [List.getElem?_append,if_pos (by rw [hg1];exact env_lt hg hob'),hg1]
   exact q1
  have hobj2:g2.objs[id]?=some (.cells cs):=by
   rw [hg2]
   simp only [G.alloc]
   rw [List.getElem?_append,if_pos (by rw [hg1];exact hidlt),hg1]
   exact hob'
  have hturn:=turns_gone hobj2 henv2 (by simp [AObj.isSpare]) trivial
  have hw2:g2.w=g.w.drew.alloc (.cells arr2 e):=by rw [hg2,←hw1];rfl
  refine⟨.slice (some ⟨g.w.heap.size,0,none⟩) (len+ys.length) cap2,g2.turn id (some l) .gone g2.w,.inl ?_,hle.trans (Le.turn hgood hturn),Good.turn hgood hturn trivial (fun _ _ hh=>hh.elim),?_,?_⟩
  ·rw [hexec]
   simp [hrun,G.turn,hw2]
  ·simp only [G.turn,hg2,G.alloc,ho1,Mode.post]
   rw [List.set_append,if_pos (by rw [←hO];exact hidlt)]
  have e1:(g.w.heap.size)=g1.w.heap.size:=by rw [hw1];rfl
  have hidlt1:id<g1.objs.length:=by rw [hg1];exact hidlt
  rw [e1,←ho1]
  refine .os (l:=⟨g1.w.heap.size,0,arr2.size⟩) (o:=.cells ds) ?_ ?_ (by simp [AObj.isSpare]) hge (by rw [hasz];exact Nat.le_refl _) hlen
  ·simp only [G.turn,hg2,G.alloc]
   rw [List.getElem?_set_ne (by omega)]
   exact env_new hgd
  simp only [G.turn,hg2,G.alloc]
  rw [List.getElem?_set_ne (by omega)]
  exact objs_new
end Go.Av
