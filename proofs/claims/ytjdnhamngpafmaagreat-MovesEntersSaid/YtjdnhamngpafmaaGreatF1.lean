/-
  Texts bound together by a program of mine: YtakdmelemfnmdaaAva, YtakdmelemfnmdaaAvb, YtakdmelemfnmdaaAvc, YtakdmelemfnmdaaAvd, YtakdmelemfnmdaaAve, YtakdmelemfnmdaaAvf, YtakdmelemfnmdaaAvg, YtakdmelemfnmdaaAvh, YtakdmelemfnmdaaAvi, YtakdmelemfnmdaaAvj, YtakdmelemfnmdaaAvk, YtakdmelemfnmdaaAvx, YtakdmelemfnmdaaAvy.
-/
import Derived.Calls
import Derived.Orders
import Derived.Laws.AppendOwn
import Derived.Laws.OwnMore
import Derived.Laws.CopyRow
import Derived.Laws.Strings
import Derived.Lib.BufferMore
set_option linter.all false

namespace Go.Av
inductive nR where
 | sh
 | ex
 | nn
 | tok (id:Nat)
 | loc (a:Addr)
inductive KT where
 | str
 | int (k:IntKind)
 | iter (cur:Option (Value×Value))
def KT.plain:KT->Prop
 | .iter _=>False
 | _=>True
def KT.ok:KT->Value->Prop
 | .str,.string _=>True
 | .int k,.int k' _=>k'=k
 | _,_=>False
inductive ae where
 | v (x:Value)
 | agg (cs:List ae)
 | aC (sz:Nat) (xs:List ae) (o:nR)
 | ip (oa:Option Addr) (cs:List ae)
 | mp (id off:Nat)
 | ms (id off len cap:Nat)
 | os (id len sz:Nat)
 | raw (sz n id:Nat)
 | mm (id:Nat)
 | im (kt:KT) (es:List (Value×ae))
 | fn (f:Fn) (first captured:List ae)
 | cD (vs:List ae)
instance:Inhabited ae:=⟨.v (.bool false)⟩
def ae.cells:ae->List ae
 | .agg cs=>cs
 | x=>[x]
def iv:Value->Prop
 | .int k n=>k.min<=n∧n<=k.max
 | .agg _=>False
 | .tuple _=>False
 | _=>True
def ae.scalar:ae->Prop
 | .agg _=>False
 | .cD _=>False
 | _=>True
inductive aj where
 | cells (cs:List ae)
 | spare (n:Nat)
 | map (kt:KT) (es:List (Value×ae))
 | gone
def aj.live:aj->Prop
 | .gone=>False
 | _=>True
def aj.aF:aj->Prop
 | .spare _=>True
 | _=>False
structure Loc where
 block:Nat
 lo:Nat
 sz:Nat
structure G where
 w:World
 fr:Nat->Nat->Prop
 env:List (Option Loc)
 objs:List aj
def G.cell(g:G)(b off:Nat):Option Value:=g.w.cell? ⟨b,off,none⟩
def ke(g:G)(b off:Nat):Prop :=
 ∃(id:Nat) (l:Loc) (o:aj),g.env[id]?=some (some l)∧g.objs[id]?=some o∧o.live∧l.block=b∧l.lo<=off
def gm(g:G)(b:Nat):Prop :=
 ∃(id:Nat) (l:Loc) (o:aj),g.env[id]?=some (some l)∧g.objs[id]?=some o∧o.live∧l.block=b
def jy(g:G)(b off:Nat):Prop:=g.fr b off∨ke g b off
theorem ke.block{g:G}{b off:Nat}(h:ke g b off):gm g b:=by
 obtain⟨id,l,o,h1,h2,h3,h4,_⟩:=h;exact⟨id,l,o,h1,h2,h3,h4⟩
def au(xs:List ae):List ae:=xs.flatMap ae.cells
def tq(g:G)(o:nR)(a:Addr)(sz len cap:Nat):Prop :=
 match o with
 | .sh=>True
 | .nn=>True
 | .ex=>cap=len
 | .loc a'=>a=a'
 | .tok id=>id<g.objs.length∧∀m:Nat,g.objs[id]?=some (.spare m)->len<=m∧(len=m->cap=len ∨
   ∃(l:Loc) (arr:Array Value) (t:TypeId),g.env[id]?=some (some l)∧a=⟨l.block,0,none⟩∧l.lo=len*sz∧g.w.heap[l.block]?=some (.cells arr t (0,0))∧cap*sz<=arr.size)
def jH(arr:Array MapEntry)(clk:Nat):Prop :=
 (∀(i j:Nat) (e e':MapEntry),i<j->arr[i]?=some e->arr[j]?=some e'->e.born<e'.born)∧∀(i:Nat) (e:MapEntry),arr[i]?=some e->e.born<clk
inductive RV(g:G):ae->Value->Prop
 | v {x:Value} (h:iv x):RV g (.v x) x
 | agg {cs:List ae} {vs:Array Value} (hl:vs.size=cs.length) (dv:∀c∈cs,c.scalar)
   (h:∀(i:Nat) c u,cs[i]?=some c->vs[i]?=some u->RV g c u):RV g (.agg cs) (.agg vs)
 | nil {sz:Nat} {o:nR} (ho:∀id,o=.tok id->id<g.objs.length) (hn:o≠.nn):RV g (.aC sz [] o) (.slice none 0 0)
 | aC {sz:Nat} {xs:List ae} {o:nR} {a:Addr} {cap:Nat} (cP:∀x∈xs,x.cells.length=sz) (dv:∀x∈xs,∀c∈x.cells,c.scalar)
   (cY:xs.length<=cap) (cE:xs.length<=2 ^ 62) (hs:xs≠[]->a.spot=none) (f:Nat->Value)
   (hm:∀(j:Nat) (c:ae),(au xs)[j]?=some c->g.cell a.block (a.off+j)=some (f j)∧¬jy g a.block (a.off+j))
   (hr:∀(j:Nat) (c:ae),(au xs)[j]?=some c->RV g c (f j)) (ho:tq g o a sz xs.length cap):RV g (.aC sz xs o) (.slice (some a) xs.length cap)
 | ip {oa:Option Addr} {cs:List ae} {b off:Nat} (ha:oa=none∨oa=some ⟨b,off,none⟩) (dv:∀c∈cs,c.scalar) (f:Nat->Value)
   (hm:∀(j:Nat) (c:ae),cs[j]?=some c->g.cell b (off+j)=some (f j)∧¬jy g b (off+j))
   (hr:∀(j:Nat) (c:ae),cs[j]?=some c->RV g c (f j)):RV g (.ip oa cs) (.pointer (some ⟨b,off,none⟩))
 | mp {id off:Nat} {l:Loc} {o:aj} (he:g.env[id]?=some (some l)) (ho:g.objs[id]?=some o) (hn:¬o.aF) :
   RV g (.mp id off) (.pointer (some ⟨l.block,off,none⟩))
 | ms {id off len cap:Nat} {l:Loc} {o:aj} (he:g.env[id]?=some (some l)) (ho:g.objs[id]?=some o) (hn:¬o.aF) {ij:Nat} (hc:len<=cap) (qZ:cap<=ij) (cE:len<=2 ^ 62) :
   RV g (.ms id off len cap) (.slice (some ⟨l.block,off,none⟩) len ij)
 | os {id len sz:Nat} {l:Loc} {o:aj} (he:g.env[id]?=some (some l)) (ho:g.objs[id]?=some o) (hn:¬o.aF) {cap:Nat} (hc:len<=cap) (hb:cap*sz<=l.sz) (cE:len<=2 ^ 62) :
   RV g (.os id len sz) (.slice (some ⟨l.block,0,none⟩) len cap)
 | raw {sz n id:Nat} {a:Addr} {cap:Nat} (hn:n<=cap) (ho:tq g (.tok id) a sz 0 cap):RV g (.raw sz n id) (.slice (some a) n cap)
 | mm {id:Nat} {l:Loc} {o:aj} (he:g.env[id]?=some (some l)) (ho:g.objs[id]?=some o) (hn:¬o.aF):RV g (.mm id) (.map (some l.block))
 | im {kt:KT} {es:List (Value×ae)} {r clk:Nat} {arr:Array MapEntry} (hh:g.w.heap[r]?=some (.map arr clk)) (hn:∀off,¬jy g r off) (hl:arr.size=es.length)
   (hk:∀(i:Nat) e (kx:Value×ae),arr[i]?=some e->es[i]?=some kx->e.key=kx.1) (vW:∀p∈es,kt.ok p.1) (hb:jH arr clk)
   (hr:∀(i:Nat) e (kx:Value×ae),arr[i]?=some e->es[i]?=some kx->RV g kx.2 e.val):RV g (.im kt es) (.map (some r))
 | fn {f:Fn} {fs cs:List ae} {us vs:Array Value} (hl:us.size=fs.length) (Bh:vs.size=cs.length)
   (h:∀(i:Nat) c u,fs[i]?=some c->us[i]?=some u->RV g c u) (h':∀(i:Nat) c u,cs[i]?=some c->vs[i]?=some u->RV g c u):RV g (.fn f fs cs) (.func f us vs)
 | cD {cs:List ae} {vs:Array Value} (hl:vs.size=cs.length)
   (h:∀(i:Nat) c u,cs[i]?=some c->vs[i]?=some u->RV g c u):RV g (.cD cs) (.tuple vs)
structure Le(g g':G):Prop where
 os:g'.w.os=g.w.os
 tape:g'.w.tape=g.w.tape
 output:g'.w.output=g.w.output
 fr:g'.fr=g.fr
 size:g.w.heap.size<=g'.w.heap.size
 block:∀k,k<g.w.heap.size->¬gm g k->g'.w.heap[k]?=g.w.heap[k]?∧¬gm g' k
 cell:∀b off x,g.cell b off=some x->¬ke g b off->g'.cell b off=some x∧¬ke g' b off
 len:g.objs.length<=g'.objs.length
 spare:∀(id:Nat) (m:Nat),g.objs[id]?=some (.spare m)->(∃m':Nat,g'.objs[id]?=some (.spare m')∧m<=m')∨∃o':aj,g'.objs[id]?=some o'∧¬o'.aF
 plain:∀(id:Nat) (o:aj),g.objs[id]?=some o->¬o.aF->(∃o':aj,g'.objs[id]?=some o'∧¬o'.aF)∧g'.env[id]?=g.env[id]?
 gone:∀id:Nat,g.objs[id]?=some .gone->g'.objs[id]?=some .gone
 tok:∀(id m:Nat),g.objs[id]?=some (.spare m)->g'.objs[id]?=some (.spare m)->g'.env[id]?=g.env[id]?∧∀l:Loc,g.env[id]?=some (some l)->g'.w.heap[l.block]?=g.w.heap[l.block]?
theorem Le.refl(g:G):Le g g where
 os:=rfl
 tape:=rfl
 output:=rfl
 fr:=rfl
 size:=Nat.le_refl _
 block:=fun _ _ h=>⟨rfl,h⟩
 cell:=fun _ _ _ h k=>⟨h,k⟩
 len:=Nat.le_refl _
 spare:=fun _ m h=>.inl ⟨m,h,Nat.le_refl _⟩
 plain:=fun _ o h k=>⟨⟨o,h,k⟩,rfl⟩
 gone:=fun _ h=>h
 tok:=fun _ _ _ _=>⟨rfl,fun _ _=>rfl⟩
theorem Le.trans{a b c:G}(h:Le a b)(k:Le b c):Le a c where
 os:=k.os.trans h.os
 tape:=k.tape.trans h.tape
 output:=k.output.trans h.output
 fr:=k.fr.trans h.fr
 size:=Nat.le_trans h.size k.size
 block:=fun i hi hn=>by
  obtain⟨h1,h2⟩:=h.block i hi hn;obtain⟨k1,k2⟩:=k.block i (Nat.lt_of_lt_of_le hi h.size) h2;exact⟨k1.trans h1,k2⟩
 cell:=fun b off x hx hn=>by
  obtain⟨h1,h2⟩:=h.cell b off x hx hn;exact k.cell b off x h1 h2
 len:=Nat.le_trans h.len k.len
 spare:=fun id m hm=>by
  rcases h.spare id m hm with⟨m',h1,h2⟩|⟨o',h1,h2⟩
  ·rcases k.spare id m' h1 with⟨p8,k1,k2⟩|k1
   ·exact .inl ⟨p8,k1,Nat.le_trans h2 k2⟩
   exact .inr k1
  exact .inr (k.plain id o' h1 h2).1
 plain:=fun id o ho hn=>by
  obtain⟨⟨o',h1,h2⟩,h3⟩:=h.plain id o ho hn;obtain⟨k1,k3⟩:=k.plain id o' h1 h2;exact⟨k1,k3.trans h3⟩
 gone:=fun id hg=>k.gone id (h.gone id hg)
 tok:=fun id m ha hc=>by
  rcases h.spare id m ha with⟨m',h1,h2⟩|⟨o',h1,h2⟩
  ·rcases k.spare id m' h1 with⟨p8,k1,k2⟩|⟨o',k1,k2⟩
   ·rw[k1]at hc;simp only[Option.some.injEq,aj.spare.injEq]at hc;have:m'=m:=by omega
    subst this;subst hc;obtain⟨e1,e2⟩:=h.tok id _ ha h1;obtain⟨e3,e4⟩:=k.tok id _ h1 k1;refine⟨e3.trans e1,fun l hl=>?_⟩;exact(e4 l (e1.trans hl)).trans (e2 l hl)
   rw[k1]at hc;simp only[Option.some.injEq]at hc;exact absurd (hc ▸ trivial) k2
  obtain⟨⟨Wl,k1,k2⟩,_⟩:=k.plain id o' h1 h2;rw[k1]at hc;simp only[Option.some.injEq]at hc;exact absurd (hc ▸ trivial) k2
theorem Le.Wo{g g':G}(h:Le g g'){b off:Nat}{x:Value}(hx:g.cell b off=some x)(hn:¬jy g b off):g'.cell b off=some x∧¬jy g' b off:=by
 obtain⟨h1,h2⟩:=h.cell b off x hx fun hh=>hn (.inr hh);refine⟨h1,?_⟩;rintro(hf|hl)
 ·exact hn (.inl (h.fr ▸ hf))
 exact h2 hl
theorem I{α:Type}{l:List α}{i:Nat}{x:α}(h:l[i]?=some x):i<l.length:=by
 rcases Nat.lt_or_ge i l.length with h1|h1
 ·exact h1
 rw[List.getElem?_eq_none h1]at h;cases h
theorem aW{α:Type}{l:Array α}{i:Nat}{x:α}(h:l[i]?=some x):i<l.size:=by
 rcases Nat.lt_or_ge i l.size with h1|h1
 ·exact h1
 rw[Array.getElem?_eq_none h1]at h;cases h
theorem tq.mono{g g':G}(h:Le g g'){o:nR}{a:Addr}{sz len cap:Nat}(k:tq g o a sz len cap):tq g' o a sz len cap:=by
 cases o with
 | sh=>trivial
 | nn=>trivial
 | ex=>exact k
 | loc a=>exact k
 | tok id =>
  obtain⟨bg,hk⟩:=k;refine⟨Nat.lt_of_lt_of_le bg h.len,fun m' eF=>?_⟩;have ho:g.objs[id]?=some g.objs[id]:=List.getElem?_eq_getElem bg;cases jd:g.objs[id]with
  | spare m =>
   rw[jd]at ho;obtain⟨h1,h2⟩:=hk m ho;rcases h.spare id m ho with⟨p8,k1,k2⟩|⟨o',k1,k2⟩
   ·rw[k1]at eF;simp only[Option.some.injEq,aj.spare.injEq]at eF;subst eF;refine⟨Nat.le_trans h1 k2,fun e=>?_⟩;have Yw:m=p8:=by omega
    subst Yw;obtain⟨e1,e2⟩:=h.tok id m ho k1;rcases h2 (by omega)with e3|⟨l,arr,t,q1,q2,q3,q4,q5⟩
    ·exact .inl e3
    exact .inr ⟨l,arr,t,e1.trans q1,q2,q3,(e2 l q1).trans q4,q5⟩
   rw[k1]at eF;simp only[Option.some.injEq]at eF;exact absurd (eF ▸ trivial) k2
  | gone =>
   rw[jd]at ho;rw[h.gone id ho]at eF;simp at eF
  | cells cs =>
   rw[jd]at ho;obtain⟨⟨o',q1,q2⟩,_⟩:=h.plain id _ ho (by simp[aj.aF]);rw[q1]at eF;simp only[Option.some.injEq]at eF;subst eF;simp[aj.aF]at q2
  | map kt es =>
   rw[jd]at ho;obtain⟨⟨o',q1,q2⟩,_⟩:=h.plain id _ ho (by simp[aj.aF]);rw[q1]at eF;simp only[Option.some.injEq]at eF;subst eF;simp[aj.aF]at q2
theorem Le.stay{g g':G}(h:Le g g'){r clk:Nat}{arr:Array MapEntry}(hh:g.w.heap[r]?=some (.map arr clk))(hn:∀off,¬jy g r off):g'.w.heap[r]?=some (.map arr clk)∧∀off,¬jy g' r off:=by
 have bg:=aW hh;have hb:¬gm g r:=by
  rintro⟨id,l,o,h1,h2,h3,h4⟩;exact hn l.lo (.inr ⟨id,l,o,h1,h2,h3,h4,Nat.le_refl _⟩)
 obtain⟨q1,q2⟩:=h.block _ bg hb;refine⟨q1.trans hh,?_⟩;rintro off (hf|hf)
 ·exact hn off (.inl (h.fr ▸ hf))
 exact q2 hf.block
theorem RV.mono{g g':G}(h:Le g g'){x:ae}{u:Value}(k:RV g x u):RV g' x u:=by
 induction k with
 | v hx=>exact .v hx
 | agg hl dv _ ih=>exact .agg hl dv ih
 | nil ho hn=>exact .nil (fun id e=>Nat.lt_of_lt_of_le (ho id e) h.len) hn
 | aC cP dv cY cE hs f hm _ ho ih=>exact .aC cP dv cY cE hs f (fun j c hj=>h.Wo (hm j c hj).1 (hm j c hj).2) ih (ho.mono h)
 | ip ha dv f hm _ ih=>exact .ip ha dv f (fun j c hj=>h.Wo (hm j c hj).1 (hm j c hj).2) ih
 | mp he ho hn =>
  obtain⟨⟨o',q1,q2⟩,q3⟩:=h.plain _ _ ho hn;exact .mp (q3.trans he) q1 q2
 | ms he ho hn hc qZ cE =>
  obtain⟨⟨o',q1,q2⟩,q3⟩:=h.plain _ _ ho hn;exact .ms (q3.trans he) q1 q2 hc qZ cE
 | os he ho hn hc hb cE =>
  obtain⟨⟨o',q1,q2⟩,q3⟩:=h.plain _ _ ho hn;exact .os (q3.trans he) q1 q2 hc hb cE
 | raw hn ho=>exact .raw hn (ho.mono h)
 | mm he ho hn =>
  obtain⟨⟨o',q1,q2⟩,q3⟩:=h.plain _ _ ho hn;exact .mm (q3.trans he) q1 q2
 | im hh hn hl hk vW hb _ ih =>
  obtain⟨q1,q2⟩:=h.stay hh hn;exact .im q1 q2 hl hk vW hb ih
 | fn hl Bh _ _ ih GL=>exact .fn hl Bh ih GL
 | cD hl _ ih=>exact .cD hl ih
def tp(g:G)(kt:KT)(es:List (Value×ae))(ob:Obj):Prop :=
 ∃(arr:Array MapEntry) (clk:Nat),ob=.map arr clk∧arr.size=es.length∧(∀p∈es,kt.ok p.1) ∧
  (∀(i:Nat) (e:MapEntry) (kx:Value×ae),arr[i]?=some e->es[i]?=some kx->e.key=kx.1∧iv kx.1∧RV g kx.2 e.val)∧jH arr clk
def DH(g:G)(cur:Option (Value×Value))(es:List (Value×ae))(ob:Obj):Prop :=
 ∃(m clk last:Nat) (seen:Array Nat) (arr:Array MapEntry),ob=.mapIter (some m) clk seen last∧g.w.heap[m]?=some (.map arr clk)∧(∀off,¬jy g m off)∧jH arr clk∧(seen≠#[]->last=clk) ∧
  (∀(i:Nat) (e:MapEntry),arr[i]?=some e->iv e.key∧iv e.val)∧es=(arr.toList.filter fun e=>!seen.contains e.born).map (fun e=>(e.key,ae.v e.val)) ∧
  ∀k x,cur=some (k,x)->∃(i:Nat) (e:MapEntry),arr[i]?=some e∧seen.back?=some e.born∧e.key=k∧e.val=x
def I5(g:G)(kt:KT)(es:List (Value×ae))(ob:Obj):Prop :=
 match kt with
 | .iter cur=>DH g cur es ob
 | kt=>tp g kt es ob
theorem I5.imp{g g':G}{kt:KT}{es:List (Value×ae)}{ob:Obj}(h:I5 g kt es ob)(rM:∀p∈es,∀u,RV g p.2 u->RV g' p.2 u)
  (Jc:∀(m clk:Nat) (arr:Array MapEntry),g.w.heap[m]?=some (.map arr clk)->(∀off,¬jy g m off)->g'.w.heap[m]?=some (.map arr clk)∧∀off,¬jy g' m off):I5 g' kt es ob:=by
 have key:∀kt,tp g kt es ob->tp g' kt es ob:=fun kt h=>by
  obtain⟨arr,clk,e1,e2,e3,e4,e5⟩:=h;exact⟨arr,clk,e1,e2,e3,fun i e kx a b=>⟨(e4 i e kx a b).1,(e4 i e kx a b).2.1,rM kx (List.mem_of_getElem? b) _ (e4 i e kx a b).2.2⟩,e5⟩
 cases kt with
 | str=>exact key _ h
 | int k=>exact key _ h
 | iter cur =>
  obtain⟨m,clk,last,seen,arr,e1,e2,e3,e4⟩:=h;obtain⟨q1,q2⟩:=Jc m clk arr e2 e3;exact⟨m,clk,last,seen,arr,e1,q1,q2,e4⟩
theorem I5.mono{g g':G}{kt:KT}{es:List (Value×ae)}{ob:Obj}(h:I5 g kt es ob)(hle:Le g g'):I5 g' kt es ob :=
 h.imp (fun _ _ _ q=>q.mono hle) fun _ _ _ q1 q2=>hle.stay q1 q2
theorem I5.map{g:G}{kt:KT}{es:List (Value×ae)}{ob:Obj}(h:I5 g kt es ob)(hp:kt.plain):tp g kt es ob:=by
 cases kt with
 | str=>exact h
 | int k=>exact h
 | iter cur=>exact hp.elim
theorem tp.mok{g:G}{kt:KT}{es:List (Value×ae)}{ob:Obj}(h:tp g kt es ob)(hp:kt.plain):I5 g kt es ob:=by
 cases kt with
 | str=>exact h
 | int k=>exact h
 | iter cur=>exact hp.elim
structure Good(g:G):Prop where
 frlt:∀b off,g.fr b off->b<g.w.heap.size
 fQ:∀(id:Nat) (l:Loc) (o:aj),g.env[id]?=some (some l)->g.objs[id]?=some o->o.live->∀off,¬g.fr l.block off
 len:g.env.length=g.objs.length
 loc:∀(id:Nat) (l:Loc) (o:aj),g.env[id]?=some (some l)->g.objs[id]?=some o->o.live->l.block<g.w.heap.size
 apart:∀(id mh:Nat) (l l':Loc) (o o':aj),g.env[id]?=some (some l)->g.objs[id]?=some o->o.live->g.env[mh]?=some (some l')->g.objs[mh]?=some o'->o'.live->l.block=l'.block->id=mh
 cells:∀(id:Nat) (cs:List ae),g.objs[id]?=some (.cells cs)->∃(l:Loc) (arr:Array Value) (t:TypeId),g.env[id]?=some (some l)∧l.lo=0∧g.w.heap[l.block]?=some (.cells arr t (0,0))∧cs.length<=arr.size ∧
  (∀(j:Nat) (c:ae) (u:Value),cs[j]?=some c->arr[j]?=some u->RV g c u)∧(∀c∈cs,c.scalar)∧l.sz<=arr.size
 spare:∀(id m:Nat) (l:Loc),g.objs[id]?=some (.spare m)->g.env[id]?=some (some l)->∃(arr:Array Value) (t:TypeId),g.w.heap[l.block]?=some (.cells arr t (0,0))
 map:∀(id:Nat) (kt:KT) (es:List (Value×ae)),g.objs[id]?=some (.map kt es)->∃(l:Loc) (ob:Obj),g.env[id]?=some (some l)∧l.lo=0∧g.w.heap[l.block]?=some ob∧I5 g kt es ob
structure St where
 n:Nat
 br:List (Nat×ae)
 objs:List aj
def look:List (Nat×ae)->Nat->Option ae
 | [],_=>none
 | (k,x)::r,s=>if k=s then some x else look r s
def bh(d:Nat):List (Nat×ae)->List (Nat×ae)
 | []=>[]
 | (k,x)::r=>if k=d then bh d r else(k,x)::bh d r
def bF(d:Nat)(x:ae)(l:List (Nat×ae)):List (Nat×ae):=(d,x)::bh d l
theorem ka{d s:Nat}(h:d≠s):∀l:List (Nat×ae),look (bh d l) s=look l s
 | []=>rfl
 | (k,x)::r=>by
  have ih:=ka h r;unfold bh;split
  ·rename_i hk;subst hk;simp[look,h,ih]
  simp only[look,ih]
theorem mj{d:Nat}:∀l:List (Nat×ae),look (bh d l) d=none
 | []=>rfl
 | (k,x)::r=>by
  have ih:=mj (d:=d) r;unfold bh;split
  ·exact ih
  rename_i hk;simp[look,hk,ih]
theorem gy(d s:Nat)(x:ae)(l:List (Nat×ae)):look (bF d x l) s=if d=s then some x else look l s:=by
 unfold bF;simp only[look];split
 ·rfl
 rename_i h;exact ka h l
def St.get(σ:St)(s:Nat):Option ae:=look σ.br s
structure Rel(base:G)(σ:St)(a:Act)(g:G):Prop where
 le:Le base g
 good:Good g
 objs:g.objs=σ.objs
 size:a.tmps.size=σ.n
 defers:a.defers=[]
 slot:∀(s:Nat) (x:ae),σ.get s=some x->∃u,a.tmps[s]?=some u∧RV g x u
theorem Rel.put{base:G}{σ:St}{a:Act}{g g':G}(h:Rel base σ a g)(hl:Le g g')(hg:Good g'){d:Nat}(hd:d<σ.n){r:ae}{u:Value}(hr:RV g' r u) :
  Rel base ⟨σ.n,bF d r σ.br,g'.objs⟩ (a.put (some d) u) g' where
 le:=h.le.trans hl
 good:=hg
 objs:=rfl
 size:=by simp[Act.put,h.size]
 defers:=by simp[Act.put,h.defers]
 slot:=fun s x hx=>by
  simp only[St.get,gy]at hx;split at hx
  ·rename_i uK;subst uK;simp only[Option.some.injEq]at hx;subst hx;exact⟨u,by simp[Act.put,h.size,hd],hr⟩
  rename_i uK;obtain⟨y,hy,VW⟩:=h.slot s x hx;exact⟨y,by simp[Act.put,Array.getElem?_setIfInBounds_ne uK,hy],VW.mono hl⟩
theorem Rel.step{base:G}{σ:St}{a:Act}{g g':G}(h:Rel base σ a g)(hl:Le g g')(hg:Good g'):Rel base ⟨σ.n,σ.br,g'.objs⟩ a g' where
 le:=h.le.trans hl
 good:=hg
 objs:=rfl
 size:=h.size
 defers:=h.defers
 slot:=fun s x hx=>by
  obtain⟨y,hy,VW⟩:=h.slot s x hx;exact⟨y,hy,VW.mono hl⟩
theorem Rel.forget{base:G}{σ:St}{a:Act}{g:G}(h:Rel base σ a g)(d:Nat)(u:Value):Rel base ⟨σ.n,bh d σ.br,σ.objs⟩ (a.put (some d) u) g where
 le:=h.le
 good:=h.good
 objs:=h.objs
 size:=by simp[Act.put,h.size]
 defers:=by simp[Act.put,h.defers]
 slot:=fun s x hx=>by
  by_cases uK:d=s
  ·subst uK;simp[St.get,mj]at hx
  simp only[St.get,ka uK]at hx;obtain⟨y,hy,VW⟩:=h.slot s x hx;exact⟨y,by simp[Act.put,Array.getElem?_setIfInBounds_ne uK,hy],VW⟩
theorem Le.heap{g:G}{w':World}(h1:w'.heap=g.w.heap)(h2:w'.os=g.w.os)(h3:w'.tape=g.w.tape)(h4:w'.output=g.w.output):Le g ⟨w',g.fr,g.env,g.objs⟩ where
 os:=h2
 tape:=h3
 output:=h4
 fr:=rfl
 size:=by simp[h1]
 block:=fun k _ h=>⟨by simp[h1],h⟩
 cell:=fun b off x hx hn=>⟨by simpa[G.cell,World.cell?,h1]using hx,hn⟩
 len:=Nat.le_refl _
 spare:=fun _ m h=>.inl ⟨m,h,Nat.le_refl _⟩
 plain:=fun _ o h k=>⟨⟨o,h,k⟩,rfl⟩
 gone:=fun _ h=>h
 tok:=fun _ _ _ _=>⟨rfl,fun _ _=>by simp[h1]⟩
theorem Good.heap{g:G}{w':World}(hg:Good g)(h1:w'.heap=g.w.heap)(h2:w'.os=g.w.os)(h3:w'.tape=g.w.tape)(h4:w'.output=g.w.output):Good ⟨w',g.fr,g.env,g.objs⟩ where
 frlt:=fun b off h=>by simpa[h1]using hg.frlt b off h
 fQ:=hg.fQ
 len:=hg.len
 loc:=fun id l o a b c=>by simpa[h1]using hg.loc id l o a b c
 apart:=hg.apart
 cells:=fun id cs h=>by
  obtain⟨l,arr,t,e1,e0,e2,e3,e4,e5⟩:=hg.cells id cs h;exact⟨l,arr,t,e1,e0,by simpa[h1]using e2,e3,fun j c u a b=>(e4 j c u a b).mono (Le.heap h1 h2 h3 h4),e5⟩
 spare:=fun id m l a b=>by simpa[h1]using hg.spare id m l a b
 map:=fun id kt es h=>by
  obtain⟨l,ob,e1,e0,e2,e3⟩:=hg.map id kt es h;exact⟨l,ob,e1,e0,by simpa[h1]using e2,e3.mono (Le.heap h1 h2 h3 h4)⟩
theorem cQ(w:World)(o:Obj){k:Nat}(h:k<w.heap.size):(w.alloc o).heap[k]?=w.heap[k]?:=by
 simp only[World.alloc];rw[Array.getElem?_push,if_neg (by omega)]
theorem cM(w:World)(o:Obj):(w.alloc o).heap[w.heap.size]?=some o:=by
 simp only[World.alloc];rw[Array.getElem?_push,if_pos rfl]
theorem pw{g:G}{b off:Nat}{x:Value}(h:g.cell b off=some x):b<g.w.heap.size:=by
 simp only[G.cell,World.cell?]at h;split at h
 ·rename_i hh;exact aW hh
 cases h
theorem jL{w w':World}{b:Nat}(h:w'.heap[b]?=w.heap[b]?)(off:Nat):w'.cell? ⟨b,off,none⟩=w.cell? ⟨b,off,none⟩:=by
 simp only[World.cell?,h]
def G.push(g:G)(o:Obj):G:=⟨g.w.alloc o,g.fr,g.env,g.objs⟩
theorem Le.push(g:G)(hg:Good g)(o:Obj):Le g (g.push o) where
 os:=rfl
 tape:=rfl
 output:=rfl
 fr:=rfl
 size:=by show g.w.heap.size<=(g.w.heap.push o).size;rw[Array.size_push];omega
 block:=fun k hk h=>⟨cQ _ _ hk,h⟩
 cell:=fun b off x hx hn=>⟨by
  have:=pw hx;simpa[G.cell,G.push,jL (cQ g.w o this)]using hx,hn⟩
 len:=Nat.le_refl _
 spare:=fun _ m h=>.inl ⟨m,h,Nat.le_refl _⟩
 plain:=fun _ o h k=>⟨⟨o,h,k⟩,rfl⟩
 gone:=fun _ h=>h
 tok:=fun id m h _=>⟨rfl,fun l hl=>cQ _ _ (hg.loc id l _ hl h trivial)⟩
theorem Good.push{g:G}(hg:Good g)(o:Obj):Good (g.push o) where
 frlt:=fun b off h=>by
  have:=hg.frlt b off h;show b<(g.w.heap.push o).size;rw[Array.size_push];omega
 fQ:=hg.fQ
 len:=hg.len
 loc:=fun id l o' a b c=>by
  have:=hg.loc id l o' a b c;show l.block<(g.w.heap.push o).size;rw[Array.size_push];omega
 apart:=hg.apart
 cells:=fun id cs h=>by
  obtain⟨l,arr,t,e1,e0,e2,e3,e4,e5⟩:=hg.cells id cs h;exact⟨l,arr,t,e1,e0,(cQ _ _ (aW e2)).trans e2,e3,fun j c u a b=>(e4 j c u a b).mono (Le.push g hg o),e5⟩
 spare:=fun id m l a b=>by
  obtain⟨arr,t,e⟩:=hg.spare id m l a b;exact⟨arr,t,(cQ _ _ (aW e)).trans e⟩
 map:=fun id kt es h=>by
  obtain⟨l,ob,e1,e0,e2,e3⟩:=hg.map id kt es h;exact⟨l,ob,e1,e0,(cQ _ _ (aW e2)).trans e2,e3.mono (Le.push g hg o)⟩
def G.add(g:G)(l:Option Loc)(o:aj):G:=⟨g.w,g.fr,g.env++[l],g.objs++[o]⟩
theorem aR{α:Type}{l:List α}{x:α}{i:Nat}{y:α}(h:(l++[x])[i]?=some y):l[i]?=some y∨(i=l.length∧y=x):=by
 rw[List.getElem?_append]at h;split at h
 ·exact .inl h
 rename_i hh;have:i-l.length<1:=by
  rcases Nat.lt_or_ge (i-l.length) 1 with q|q
  ·exact q
  rw[List.getElem?_eq_none (by simpa using q)]at h;cases h
 have e:i=l.length:=by omega
 subst e;simp at h;exact .inr ⟨rfl,h.symm⟩
theorem dd{α:Type}{l:List α}{x:α}{i:Nat}{y:α}(h:l[i]?=some y):(l++[x])[i]?=some y:=by
 rw[List.getElem?_append,if_pos (I h)];exact h
theorem ke.add{g:G}(hg:Good g){l:Option Loc}{o:aj}{b off:Nat}(h:ke (g.add l o) b off):ke g b off∨∃l',l=some l'∧o.live∧l'.block=b∧l'.lo<=off:=by
 obtain⟨id,l',o',h1,h2,h3,h4,h5⟩:=h;rcases aR h1 with q1|⟨q1,Rl⟩
 ·rcases aR h2 with q2|⟨q2,Pf⟩
  ·exact .inl ⟨id,l',o',q1,q2,h3,h4,h5⟩
  have:=I q1;have:=hg.len;omega
 rcases aR h2 with q2|⟨q2,Pf⟩
 ·have:=I q2;have:=hg.len;omega
 subst Pf;exact .inr ⟨l',Rl.symm,h3,h4,h5⟩
theorem gm.add{g:G}(hg:Good g){l:Option Loc}{o:aj}{b:Nat}(h:gm (g.add l o) b):gm g b∨∃l',l=some l'∧o.live∧l'.block=b:=by
 obtain⟨id,l',o',h1,h2,h3,h4⟩:=h;rcases ke.add hg ⟨id,l',o',h1,h2,h3,h4,Nat.le_refl _⟩with q|⟨q,q1,q2,q3,_⟩
 ·exact .inl q.block
 exact .inr ⟨q,q1,q2,q3⟩
def mA:Obj->Nat
 | .cells arr _=>arr.size
 | _=>0
def G.alloc(g:G)(ob:Obj)(lo:Nat)(o:aj):G:=⟨g.w.alloc ob,g.fr,g.env++[some ⟨g.w.heap.size,lo,mA ob⟩],g.objs++[o]⟩
def G.mark(g:G)(o:aj):G:=⟨g.w,g.fr,g.env++[none],g.objs++[o]⟩
theorem Le.Jt{g g':G}(hg:Good g)(l:Option Loc)(o:aj)(h:Le g g')(he:g'.env=g.env)(ho:g'.objs=g.objs)
  (hn:∀l',l=some l'->g.w.heap.size<=l'.block):Le g (g'.add l o) where
 os:=h.os
 tape:=h.tape
 output:=h.output
 fr:=h.fr
 size:=h.size
 block:=fun k hk hh=>⟨(h.block k hk hh).1,fun q=>by
  obtain⟨id,l',o',h1,h2,h3,h4⟩:=q;rw[show(g'.add l o).env=g.env++[l] by simp[G.add,he]]at h1;rw[show(g'.add l o).objs=g.objs++[o] by simp[G.add,ho]]at h2;rcases gm.add (l:=l) (o:=o) (b:=k) hg ⟨id,l',o',h1,h2,h3,h4⟩with q|⟨l',q1,_,q3⟩
  ·exact hh q
  have:=hn l' q1;omega⟩
 cell:=fun b off x hx hh=>⟨(h.cell b off x hx hh).1,fun q=>by
  obtain⟨id,l',o',h1,h2,h3,h4⟩:=q;rw[show(g'.add l o).env=g.env++[l] by simp[G.add,he]]at h1;rw[show(g'.add l o).objs=g.objs++[o] by simp[G.add,ho]]at h2;have hk:=pw hx;rcases ke.add (l:=l) (o:=o) (b:=b) (off:=off) hg ⟨id,l',o',h1,h2,h3,h4⟩with q|⟨l',q1,_,q3,_⟩
  ·exact hh q
  have:=hn l' q1;omega⟩
 len:=by simp[G.add,ho]
 spare:=fun id m hm=>.inl ⟨m,by simp only[G.add,ho];exact dd hm,Nat.le_refl _⟩
 plain:=fun id o' je k=>⟨⟨o',by simp only[G.add,ho];exact dd je,k⟩,by
  have bg:=I je;simp only[G.add,he];rw[List.getElem?_append,if_pos (by have:=hg.len;omega)]⟩
 gone:=fun id hm=>by simp only[G.add,ho];exact dd hm
 tok:=fun id m hm _=>⟨by
  have bg:=I hm;simp only[G.add,he];rw[List.getElem?_append,if_pos (by have:=hg.len;omega)],fun l hl=>(h.tok id m hm (by rw[ho];exact hm)).2 l hl⟩
theorem Le.alloc{g:G}(hg:Good g)(ob:Obj)(lo:Nat)(o:aj):Le g (g.alloc ob lo o) :=
 Le.Jt (g':=g.push ob) hg (some ⟨g.w.heap.size,lo,mA ob⟩) o (Le.push g hg ob) rfl rfl (fun l' h=>by simp at h;subst h;exact Nat.le_refl _)
theorem Le.mark{g:G}(hg:Good g)(o:aj):Le g (g.mark o) :=
 Le.Jt (g':=g) hg none o (Le.refl g) rfl rfl (fun l' h=>by simp at h)
def Fits(g':G)(ob:Obj)(o:aj):Prop :=
 match o with
 | .cells cs=>∃(arr:Array Value) (t:TypeId),ob=.cells arr t (0,0)∧cs.length<=arr.size∧(∀(j:Nat) (c:ae) (u:Value),cs[j]?=some c->arr[j]?=some u->RV g' c u)∧∀c∈cs,c.scalar
 | .spare _=>∃(arr:Array Value) (t:TypeId),ob=.cells arr t (0,0)
 | .map kt es=>I5 g' kt es ob
 | .gone=>True
theorem Good.alloc{g:G}(hg:Good g)(ob:Obj)(lo:Nat)(o:aj)(iK:o.aF∨lo=0)(hf:Fits (g.alloc ob lo o) ob o):Good (g.alloc ob lo o) where
 frlt:=fun b off h=>by
  have:=hg.frlt b off h;show b<(g.w.heap.push ob).size;rw[Array.size_push];omega
 fQ:=fun id l o' a b c off hf=>by
  rcases aR a with a|⟨a,a'⟩
  ·rcases aR b with b|⟨b,b'⟩
   ·exact hg.fQ id l o' a b c off hf
   have:=I a;have:=hg.len;omega
  simp only[Option.some.injEq]at a';subst a';have fC:g.fr g.w.heap.size off:=hf;have:=hg.frlt _ _ fC;omega
 len:=by simp[G.alloc,hg.len]
 loc:=fun id l o' a b c=>by
  show l.block<(g.w.heap.push ob).size;rw[Array.size_push];rcases aR a with a|⟨a,a'⟩
  ·rcases aR b with b|⟨b,b'⟩
   ·have:=hg.loc id l o' a b c;omega
   have:=I a;have:=hg.len;omega
  simp only[Option.some.injEq]at a';subst a';show g.w.heap.size<_;omega
 apart:=fun id mh l l' o' Wl a b c a' b' c' hb=>by
  rcases aR a with a|⟨a1,a2⟩
  ·rcases aR a' with a'|⟨Zm,Uf⟩
   ·rcases aR b with b|⟨b1,b2⟩
    ·rcases aR b' with b'|⟨Zn,Zo⟩
     ·exact hg.apart id mh l l' o' Wl a b c a' b' c' hb
     have:=I a';have:=hg.len;omega
    have:=I a;have:=hg.len;omega
   simp only[Option.some.injEq]at Uf;subst Uf;rcases aR b with b|⟨b1,b2⟩
   ·have:=hg.loc id l o' a b c;simp at hb;omega
   have:=I a;have:=hg.len;omega
  rcases aR a' with a'|⟨Zm,Uf⟩
  ·simp only[Option.some.injEq]at a2;subst a2;rcases aR b' with b'|⟨Zn,Zo⟩
   ·have:=hg.loc mh l' Wl a' b' c';simp at hb;omega
   have:=I a';have:=hg.len;omega
  omega
 cells:=fun id cs h=>by
  rcases aR h with h|⟨hq,h'⟩
  ·obtain⟨l,arr,t,e1,e0,e2,e3,e4,e5⟩:=hg.cells id cs h;exact⟨l,arr,t,dd e1,e0,(cQ _ _ (aW e2)).trans e2,e3,fun j c u a b=>(e4 j c u a b).mono (Le.alloc hg ob lo o),e5⟩
  subst h';obtain⟨arr,t,e1,e2,e3,e4⟩:=hf;refine⟨⟨g.w.heap.size,lo,mA ob⟩,arr,t,?_,?_,?_,e2,e3,e4,by rw[e1];exact Nat.le_refl _⟩
  ·subst hq;simp only[G.alloc];rw[<-hg.len];simp
  ·rcases iK with q|q
   ·exact q.elim
   exact q
  rw[<-e1];exact cM _ _
 spare:=fun id m l a b=>by
  rcases aR a with a|⟨a,a'⟩
  ·rcases aR b with b|⟨b1,b2⟩
   ·obtain⟨arr,t,e⟩:=hg.spare id m l a b;exact⟨arr,t,(cQ _ _ (aW e)).trans e⟩
   have:=I a;have:=hg.len;omega
  rcases aR b with b|⟨b1,b2⟩
  ·have:=I b;have:=hg.len;omega
  subst a';simp only[Option.some.injEq]at b2;subst b2;obtain⟨arr,t,e⟩:=hf;exact⟨arr,t,by rw[<-e];exact cM _ _⟩
 map:=fun id kt es h=>by
  rcases aR h with h|⟨hq,h'⟩
  ·obtain⟨l,ob',e1,e0,e2,e3⟩:=hg.map id kt es h;exact⟨l,ob',dd e1,e0,(cQ _ _ (aW e2)).trans e2,e3.mono (Le.alloc hg ob lo o)⟩
  subst h';refine⟨⟨g.w.heap.size,lo,mA ob⟩,ob,?_,?_,?_,hf⟩
  ·subst hq;simp only[G.alloc];rw[<-hg.len];simp
  ·rcases iK with q|q
   ·exact q.elim
   exact q
  exact cM _ _
theorem Good.mark{g:G}(hg:Good g)(m:Nat):Good (g.mark (.spare m)) where
 frlt:=hg.frlt
 fQ:=fun id l o' a b c off hf=>by
  rcases aR a with a|⟨a,a'⟩
  ·rcases aR b with b|⟨b,b'⟩
   ·exact hg.fQ id l o' a b c off hf
   have:=I a;have:=hg.len;omega
  cases a'
 len:=by simp[G.mark,hg.len]
 loc:=fun id l o' a b c=>by
  rcases aR a with a|⟨a,a'⟩
  ·rcases aR b with b|⟨b,b'⟩
   ·exact hg.loc id l o' a b c
   have:=I a;have:=hg.len;omega
  cases a'
 apart:=fun id mh l l' o' Wl a b c a' b' c' hb=>by
  rcases aR a with a|⟨a1,a2⟩
  ·rcases aR a' with a'|⟨Zm,Uf⟩
   ·rcases aR b with b|⟨b1,b2⟩
    ·rcases aR b' with b'|⟨Zn,Zo⟩
     ·exact hg.apart id mh l l' o' Wl a b c a' b' c' hb
     have:=I a';have:=hg.len;omega
    have:=I a;have:=hg.len;omega
   cases Uf
  cases a2
 cells:=fun id cs h=>by
  rcases aR h with h|⟨h,h'⟩
  ·obtain⟨l,arr,t,e1,e0,e2,e3,e4,e5⟩:=hg.cells id cs h;exact⟨l,arr,t,dd e1,e0,e2,e3,fun j c u a b=>(e4 j c u a b).mono (Le.mark hg _),e5⟩
  cases h'
 spare:=fun id m' l a b=>by
  rcases aR b with b|⟨b1,b2⟩
  ·rcases aR a with a|⟨a,a'⟩
   ·exact hg.spare id m' l a b
   have:=I b;have:=hg.len;omega
  cases b2
 map:=fun id kt es h=>by
  rcases aR h with h|⟨h,h'⟩
  ·obtain⟨l,ob,e1,e0,e2,e3⟩:=hg.map id kt es h;exact⟨l,ob,dd e1,e0,e2,e3.mono (Le.mark hg _)⟩
  cases h'
def G.bB(g:G)(id:Nat)(l':Option Loc)(o':aj)(w':World):G:=⟨w',g.fr,g.env.set id l',g.objs.set id o'⟩
structure ld(g:G)(id:Nat)(o:aj)(l':Option Loc)(o':aj)(w':World):Prop where
 obj:g.objs[id]?=some o
 os:w'.os=g.w.os
 tape:w'.tape=g.w.tape
 output:w'.output=g.w.output
 size:g.w.heap.size<=w'.heap.size
 block:∀k,k<g.w.heap.size->(∀l:Loc,g.env[id]?=some (some l)->o.live->l.block≠k)->w'.heap[k]?=g.w.heap[k]?
 cell:∀b off x,g.cell b off=some x->(∀l:Loc,g.env[id]?=some (some l)->o.live->l.block=b->off<l.lo)->w'.cell? ⟨b,off,none⟩=some x
 place:∀l1:Loc,l'=some l1->o'.live->g.w.heap.size<=l1.block∨∃l:Loc,g.env[id]?=some (some l)∧o.live∧l.block=l1.block∧l.lo<=l1.lo
 spare:∀m,o=.spare m->(∃m',o'=.spare m'∧m<m')∨¬o'.aF
 plain:¬o.aF->¬o'.aF∧g.env[id]?=some l'
 gone:o≠.gone
theorem jn{g:G}(hg:Good g){id:Nat}{o:aj}(h:g.objs[id]?=some o):id<g.env.length:=by
 have:=I h;have:=hg.len;omega
theorem ke.bB{g:G}{id:Nat}{o:aj}{l':Option Loc}{o':aj}{w':World}(hg:Good g)(ht:ld g id o l' o' w'){b off:Nat}(h:ke (g.bB id l' o' w') b off) :
  ke g b off∨g.w.heap.size<=b:=by
 obtain⟨i,l1,o1,h1,h2,h3,h4,h5⟩:=h;simp only[G.bB]at h1 h2;by_cases e:id=i
 ·subst e;rw[List.getElem?_set_self (jn hg ht.obj)]at h1;rw[List.getElem?_set_self (I ht.obj)]at h2;simp only[Option.some.injEq]at h1 h2;subst h2;rcases ht.place l1 h1 h3 with q|⟨l,q1,q2,q3,q4⟩
  ·exact .inr (h4 ▸ q)
  exact .inl ⟨id,l,o,q1,ht.obj,q2,q3.trans h4,Nat.le_trans q4 h5⟩
 rw[List.getElem?_set_ne e]at h1 h2;exact .inl ⟨i,l1,o1,h1,h2,h3,h4,h5⟩
theorem gm.bB{g:G}{id:Nat}{o:aj}{l':Option Loc}{o':aj}{w':World}(hg:Good g)(ht:ld g id o l' o' w'){b:Nat}(h:gm (g.bB id l' o' w') b) :
  gm g b∨g.w.heap.size<=b:=by
 obtain⟨i,l1,o1,h1,h2,h3,h4⟩:=h;rcases ke.bB hg ht ⟨i,l1,o1,h1,h2,h3,h4,Nat.le_refl _⟩with q|q
 ·exact .inl q.block
 exact .inr q
theorem Le.bB{g:G}{id:Nat}{o:aj}{l':Option Loc}{o':aj}{w':World}(hg:Good g)(ht:ld g id o l' o' w'):Le g (g.bB id l' o' w') where
 os:=ht.os
 tape:=ht.tape
 output:=ht.output
 fr:=rfl
 size:=ht.size
 block:=fun k hk hn=>⟨ht.block k hk fun l hl lV e=>hn ⟨id,l,o,hl,ht.obj,lV,e⟩,fun hh=>by
  rcases gm.bB hg ht hh with q|q
  ·exact hn q
  omega⟩
 cell:=fun b off x hx hn=>⟨ht.cell b off x hx fun l hl lV e=>by
   rcases Nat.lt_or_ge off l.lo with q|q
   ·exact q
   exact absurd ⟨id,l,o,hl,ht.obj,lV,e,q⟩ hn,fun hh=>by
  rcases ke.bB hg ht hh with q|q
  ·exact hn q
  have:=pw hx;omega⟩
 len:=by simp[G.bB]
 spare:=fun i m hm=>by
  by_cases e:id=i
  ·subst e;have eF:=hm.symm.trans ht.obj;simp only[Option.some.injEq]at eF;rcases ht.spare m eF.symm with⟨m',q1,q2⟩|q1
   ·exact .inl ⟨m',by simp only[G.bB];rw[List.getElem?_set_self (I ht.obj),q1],by omega⟩
   exact .inr ⟨o',by simp only[G.bB];rw[List.getElem?_set_self (I ht.obj)],q1⟩
  exact .inl ⟨m,by simp only[G.bB];rw[List.getElem?_set_ne e];exact hm,Nat.le_refl _⟩
 plain:=fun i o1 ho hn=>by
  by_cases e:id=i
  ·subst e;have je:=ho.symm.trans ht.obj;simp only[Option.some.injEq]at je;subst je;obtain⟨q1,q2⟩:=ht.plain hn;exact⟨⟨o',by simp only[G.bB];rw[List.getElem?_set_self (I ht.obj)],q1⟩,by simp only[G.bB];rw[List.getElem?_set_self (jn hg ht.obj),q2]⟩
  exact⟨⟨o1,by simp only[G.bB];rw[List.getElem?_set_ne e];exact ho,hn⟩,by simp only[G.bB];rw[List.getElem?_set_ne e]⟩
 gone:=fun i hi=>by
  by_cases e:id=i
  ·subst e;have:=hi.symm.trans ht.obj;simp only[Option.some.injEq]at this;exact absurd this.symm ht.gone
  simp only[G.bB];rw[List.getElem?_set_ne e];exact hi
 tok:=fun i m hm eF=>by
  by_cases e:id=i
  ·subst e;have h1:=hm.symm.trans ht.obj;simp only[Option.some.injEq]at h1;simp only[G.bB]at eF;rw[List.getElem?_set_self (I ht.obj)]at eF;simp only[Option.some.injEq]at eF;rcases ht.spare m h1.symm with⟨m',q1,q2⟩|q1
   ·rw[q1]at eF;simp only[aj.spare.injEq]at eF;omega
   exact absurd (eF ▸ trivial) q1
  refine⟨by simp only[G.bB];rw[List.getElem?_set_ne e],fun l hl=>ht.block _ (hg.loc i l _ hl hm trivial) fun l1 Cf lV eb=>?_⟩;exact e (hg.apart id i l1 l o _ Cf ht.obj lV hl hm trivial eb)
def Rw(g':G)(l':Option Loc)(o:aj):Prop :=
 match o with
 | .cells cs=>∃(l:Loc) (arr:Array Value) (t:TypeId),l'=some l∧l.lo=0∧g'.w.heap[l.block]?=some (.cells arr t (0,0))∧cs.length<=arr.size ∧
   (∀(j:Nat) (c:ae) (u:Value),cs[j]?=some c->arr[j]?=some u->RV g' c u)∧(∀c∈cs,c.scalar)∧l.sz<=arr.size
 | .spare _=>∀l,l'=some l->∃(arr:Array Value) (t:TypeId),g'.w.heap[l.block]?=some (.cells arr t (0,0))
 | .map kt es=>∃(l:Loc) (ob:Obj),l'=some l∧l.lo=0∧g'.w.heap[l.block]?=some ob∧I5 g' kt es ob
 | .gone=>True
theorem Good.bB{g:G}{id:Nat}{o:aj}{l':Option Loc}{o':aj}{w':World}(hg:Good g)(ht:ld g id o l' o' w')(hf:Rw (g.bB id l' o' w') l' o')
  (cP:∀l1,l'=some l1->o'.live->l1.block<w'.heap.size):Good (g.bB id l' o' w'):=by
 have hle:=Le.bB hg ht;have Cb:∀i l1,i≠id->(g.bB id l' o' w').env[i]?=some (some l1)->g.env[i]?=some (some l1):=fun i l1 ct h=>by
  simp only[G.bB]at h
  rwa [List.getElem?_set_ne (Ne.symm ct)]at h
 have jd:∀i o1,i≠id->(g.bB id l' o' w').objs[i]?=some o1->g.objs[i]?=some o1:=fun i l1 ct h=>by
  simp only[G.bB]at h
  rwa [List.getElem?_set_ne (Ne.symm ct)]at h
 have Cc:∀l1,(g.bB id l' o' w').env[id]?=some l1->l'=l1:=fun l1 h=>by
  simp only[G.bB]at h;rw[List.getElem?_set_self (jn hg ht.obj)]at h;simpa using h
 have v7:∀o1,(g.bB id l' o' w').objs[id]?=some o1->o'=o1:=fun l1 h=>by
  simp only[G.bB]at h;rw[List.getElem?_set_self (I ht.obj)]at h;simpa using h
 have vT:∀i l1 o1,i≠id->g.env[i]?=some (some l1)->g.objs[i]?=some o1->o1.live->w'.heap[l1.block]?=g.w.heap[l1.block]?:=fun i l1 o1 ct h1 h2 h3 =>
  ht.block _ (hg.loc i l1 o1 h1 h2 h3) fun l2 Bi lV eb=>ct (hg.apart id i l2 l1 o o1 Bi ht.obj lV h1 h2 h3 eb).symm
 refine⟨fun b off h=>Nat.lt_of_lt_of_le (hg.frlt b off h) ht.size,?_,?_,?_,?_,?_,?_,?_⟩
 ·intro i l1 o1 h1 h2 h3 off Vb;have nq:g.fr l1.block off:=Vb;by_cases e:i=id
  ·subst e;have q1:=Cc _ h1;have q2:=v7 _ h2;subst q2;rcases ht.place l1 q1 h3 with q|⟨l,p1,p2,p3,_⟩
   ·have:=hg.frlt _ _ nq;omega
   exact hg.fQ i l o p1 ht.obj p2 off (p3 ▸ nq)
  exact hg.fQ i l1 o1 (Cb i l1 e h1) (jd i o1 e h2) h3 off nq
 ·simp[G.bB,hg.len]
 ·intro i l1 o1 h1 h2 h3;by_cases e:i=id
  ·subst e;have:=Cc _ h1;have:=v7 _ h2;subst this;exact cP l1 (by assumption) h3
  have:=hg.loc i l1 o1 (Cb i l1 e h1) (jd i o1 e h2) h3;exact Nat.lt_of_lt_of_le this ht.size
 ·intro i j l1 l2 o1 o2 h1 h2 h3 k1 k2 k3 hb;by_cases e:i=id
  ·by_cases e':j=id
   ·omega
   subst e;have q1:=Cc _ h1;have q2:=v7 _ h2;subst q2;have r1:=Cb j l2 e' k1;have r2:=jd j o2 e' k2;rcases ht.place l1 q1 h3 with q|⟨l,p1,p2,p3,_⟩
   ·have:=hg.loc j l2 o2 r1 r2 k3;omega
   exact hg.apart i j l l2 o o2 p1 ht.obj p2 r1 r2 k3 (p3.trans hb)
  by_cases e':j=id
  ·subst e';have q1:=Cc _ k1;have q2:=v7 _ k2;subst q2;have r1:=Cb i l1 e h1;have r2:=jd i o1 e h2;rcases ht.place l2 q1 k3 with q|⟨l,p1,p2,p3,_⟩
   ·have:=hg.loc i l1 o1 r1 r2 h3;omega
   exact hg.apart i j l1 l o1 o r1 r2 h3 p1 ht.obj p2 (hb.trans p3.symm)
  exact hg.apart i j l1 l2 o1 o2 (Cb i l1 e h1) (jd i o1 e h2) h3 (Cb j l2 e' k1) (jd j o2 e' k2) k3 hb
 ·intro i cs h;by_cases e:i=id
  ·subst e;have q:=v7 _ h;subst q;obtain⟨l,arr,t,p1,p2,p3,p4,p5,p6⟩:=hf;exact⟨l,arr,t,by simp only[G.bB];rw[List.getElem?_set_self (jn hg ht.obj),p1],p2,p3,p4,p5,p6⟩
  obtain⟨l,arr,t,p1,p2,p3,p4,p5,p6⟩:=hg.cells i cs (jd i _ e h);exact⟨l,arr,t,by simp only[G.bB];rw[List.getElem?_set_ne (Ne.symm e)];exact p1,p2,(vT i l _ e p1 (jd i _ e h) trivial).trans p3,p4,fun j c u a b=>(p5 j c u a b).mono hle,p6⟩
 ·intro i m l1 h h1;by_cases e:i=id
  ·subst e;have q:=v7 _ h;subst q;exact hf l1 (Cc _ h1)
  obtain⟨arr,t,p⟩:=hg.spare i m l1 (jd i _ e h) (Cb i l1 e h1);exact⟨arr,t,(vT i l1 _ e (Cb i l1 e h1) (jd i _ e h) trivial).trans p⟩
 intro i kt es h;by_cases e:i=id
 ·subst e;have q:=v7 _ h;subst q;obtain⟨l,ob,p1,p2,p3,p4⟩:=hf;exact⟨l,ob,by simp only[G.bB];rw[List.getElem?_set_self (jn hg ht.obj),p1],p2,p3,p4⟩
 obtain⟨l,ob,p1,p2,p3,p4⟩:=hg.map i kt es (jd i _ e h);exact⟨l,ob,by simp only[G.bB];rw[List.getElem?_set_ne (Ne.symm e)];exact p1,p2,(vT i l _ e p1 (jd i _ e h) trivial).trans p3,p4.mono hle⟩
end Go.Av
namespace Go.Av
inductive TD where
 | other
 | struct (fs:List (Nat×TypeId))
 | slice (e:TypeId)
 | array (n:Nat) (e:TypeId)
 | map (k e:TypeId)
structure cf where
 size:Nat
 bytes:Nat
 zero:List ae
 desc:TD
def TD.agg:TD->Bool
 | .struct _ | .array _ _=>true
 | _=>false
def sJ(d:TypeDesc):TD->Prop
 | .struct fs=>∃fields:Array Field,d=.struct fields∧fields.toList.map (fun f=>(f.offset,f.type))=fs
 | .slice e=>d=.slice e
 | .array n e=>d=.array n e
 | .map k e=>d=.map k e
 | .other=>(match d with | .struct _=>False | .array _ _=>False | _=>True)
structure F9(P:Program)(t:TypeId)(ti:cf):Prop where
 info:∃(i:TypeInfo) (z:Value),P.info? t=some i∧i.size=ti.size∧i.bytes=ti.bytes∧i.zero=some z∧z.cells.size=ti.zero.length∧ti.zero.length=ti.size ∧
  ((ti.desc.agg=true->∃cs,z=.agg cs)∧(ti.desc.agg=false->z.cells = #[z]))∧(∀g:G,∀(j:Nat) (c:ae) (u:Value),ti.zero[j]?=some c->z.cells[j]?=some u->RV g c u)∧∀c∈ti.zero,c.scalar
 desc:∃d,P.underlying t=some d∧sJ d ti.desc
abbrev eZ:=TypeId->Option cf
def b6(P:Program)(aT:eZ):Prop:=∀t ti,aT t=some ti->F9 P t ti
def No:IntKind->Int
 | .i8=>-128
 | .i16=>-32768
 | .i32=>-2147483648
 | .i64=>-9223372036854775808
 | _=>0
def HP:IntKind->Int
 | .i8=>127
 | .i16=>32767
 | .i32=>2147483647
 | .i64=>9223372036854775807
 | .u8=>255
 | .u16=>65535
 | .u32=>4294967295
 | .u64=>18446744073709551615
theorem Ap(k:IntKind):No k=k.min:=by cases k<;>rfl
theorem Af(k:IntKind):HP k=k.max:=by cases k<;>rfl
def sw:Value->Option ae
 | .int k n=>if No k<=n∧n<=HP k then some (.v (.int k n))else none
 | .agg _=>none
 | .tuple _=>none
 | x=>some (.v x)
def St.ev(σ:St):Operand->Option ae
 | .tmp t=>σ.get t
 | .const x=>sw x
 | .func f=>some (.fn (.func f) [] [])
 | .global _=>none
theorem Rel.eval{base:G}{σ:St}{a:Act}{g:G}(h:Rel base σ a g){x:Operand}{y:ae}(hx:σ.ev x=some y):RV g y (a.eval x):=by
 cases x with
 | tmp t =>
  obtain⟨u,h1,h2⟩:=h.slot t y hx;have:a.eval (.tmp t)=u:=by simp[Act.eval,Array.getD_eq_getD_getElem?,h1]
  rw[this];exact h2
 | const v =>
  simp only[St.ev]at hx;unfold sw at hx;split at hx
  ·split at hx
   ·rename_i hh;simp only[Option.some.injEq]at hx;subst hx;rw[Ap,Af]at hh;exact .v hh
   cases hx
  ·cases hx
  ·cases hx
  rename_i h1 h2 h3;simp only[Option.some.injEq]at hx;subst hx;refine .v ?_;unfold iv;split
  ·rename_i k n;exact absurd rfl (h1 k n)
  ·rename_i cs;exact absurd rfl (h2 cs)
  ·rename_i vs;exact absurd rfl (h3 vs)
  trivial
 | func f =>
  simp only[St.ev,Option.some.injEq]at hx;subst hx;exact .fn rfl rfl (by simp) (by simp)
 | global _=>cases hx
inductive Mode where
 | pure
 | read
 | rd (id:Nat)
 | write (O:List aj)
 | wr (n:Nat) (l:List Nat) (O:List aj)
 | new (id:Nat) (o:aj)
def Mode.post(m:Mode)(O:List aj):List aj :=
 match m with
 | .write O'=>O'
 | .wr _ _ O'=>O'
 | .new id o=>O.set id o
 | _=>O
def Mode.agree(m:Mode)(O O0:List aj):Prop :=
 match m with
 | .pure=>True
 | .rd id=>O[id]?=O0[id]?
 | .new id _=>O[id]?=O0[id]?
 | _=>O=O0
def Mode.ok(m:Mode)(O:List aj):Prop :=
 match m with
 | .wr n l O'=>∀i,i<n->i ∉ l->O'[i]?=O[i]?
 | _=>True
theorem Mode.ra{m:Mode}{O O0:List aj}(h:m=.pure∨O=O0):m.agree O O0:=by
 rcases h with h|h
 ·subst h;trivial
 subst h;cases m<;>first|trivial|rfl
def p9(d:Option Nat)(r:ae)(l:List (Nat×ae)):List (Nat×ae) :=
 match d with
 | some d=>bF d r l
 | none=>l
def Cert(P:Program)(o:Oper)(qb:St)(r:ae)(m:Mode):Prop :=
 m.ok qb.objs∧∀(base:G) (σ:St) (a:Act) (g:G),Rel base σ a g->σ.n=qb.n->(∀x∈o.op.operands,∀y,qb.ev x=some y->σ.ev x=some y)->m.agree σ.objs qb.objs ->
  ∀(K:Act->World->Prop) (Q:Exit->Act->World->Prop),(∀u g',Rel base ⟨σ.n,p9 o.dst r σ.br,m.post σ.objs⟩ (a.put o.dst u) g'->K (a.put o.dst u) g'.w)->o.wp P a g.w K Q
theorem Cert.uU{P:Program}{o:Oper}{qb:St}{r:ae}{m:Mode}(lM:m.ok qb.objs)(hd:∀d,o.dst=some d->d<qb.n)
  (h:∀(base:G) (σ:St) (a:Act) (g:G),Rel base σ a g->(∀x∈o.op.operands,∀y,qb.ev x=some y->RV g y (a.eval x))->m.agree g.objs qb.objs ->
   ∃u g',((execOp a.eval o).run P g.w=.ok (.value u) g'.w∨(o.dst=none∧(execOp a.eval o).run P g.w=.ok .skip g'.w))∧Le g g'∧Good g'∧g'.objs=m.post g.objs∧RV g' r u):Cert P o qb r m:=by
 refine⟨lM,?_⟩;intro base σ a g bN hn mU hm K Q hK;obtain⟨u,g',bJ,hle,dp,VF,rM⟩:=h base σ a g bN (fun x hx y hy=>bN.eval (mU x hx y hy)) (by rw[bN.objs];exact hm);have key:Rel base ⟨σ.n,p9 o.dst r σ.br,m.post σ.objs⟩ (a.put o.dst u) g':=by
  have e:g'.objs=m.post σ.objs:=by rw[VF,bN.objs]
  cases jA:o.dst with
  | none =>
   have:=bN.step hle dp;rw[e]at this;exact this
  | some d =>
   have:=bN.put hle dp (d:=d) (by rw[hn];exact hd d jA) rM;rw[e]at this;exact this
 unfold Oper.wp;rcases bJ with bJ|⟨qi,bJ⟩
 ·rw[bJ,Oper.upon_value];exact hK u g' key
 rw[bJ,Oper.upon_skip];have:=hK u g' key;rw[qi]at this ⊢;exact this
def Mode.plain:Mode->Prop
 | .rd _=>False
 | .wr _ _ _=>False
 | .new _ _=>False
 | _=>True
theorem Mode.CS{m:Mode}(hp:m.plain){O O0:List aj}(h:m.agree O O0):m=.pure∨O=O0:=by
 cases m<;>first|exact .inl rfl|exact .inr h|exact hp.elim
theorem Cert.iZ{P:Program}{o:Oper}{qb:St}{r:ae}{m:Mode}(hd:∀d,o.dst=some d->d<qb.n)
  (h:∀(base:G) (σ:St) (a:Act) (g:G),Rel base σ a g->(∀x∈o.op.operands,∀y,qb.ev x=some y->RV g y (a.eval x))->(m=.pure∨g.objs=qb.objs) ->
   ∃u g',((execOp a.eval o).run P g.w=.ok (.value u) g'.w∨(o.dst=none∧(execOp a.eval o).run P g.w=.ok .skip g'.w))∧Le g g'∧Good g'∧g'.objs=m.post g.objs∧RV g' r u) (hp:m.plain:=by trivial):Cert P o qb r m :=
 Cert.uU (by cases m<;>first|trivial|exact hp.elim) hd fun base σ a g bN mU hm=>h base σ a g bN mU (m.CS hp hm)
theorem Cert.close{P:Program}{o:Oper}{qb:St}{r:ae}{O':List aj}(h:Cert P o qb r (.write O')){n:Nat}{l:List Nat}(hk:∀i,i<n->i ∉ l->O'[i]?=qb.objs[i]?):Cert P o qb r (.wr n l O'):=⟨hk,h.2⟩
theorem Cert.bT{P:Program}{o:Oper}{qb:St}{r:ae}(m:Mode)(hm:m=.pure∨m=.read)(hd:∀d,o.dst=some d->d<qb.n)
  (h:∀(a:Act) (g:G),Good g->(∀x∈o.op.operands,∀y,qb.ev x=some y->RV g y (a.eval x))->(m=.pure∨g.objs=qb.objs) ->
   ∃u,(execOp a.eval o).run P g.w=.ok (.value u) g.w∧RV g r u):Cert P o qb r m :=
 Cert.iZ (hp:=by rcases hm with hm|hm<;>subst hm<;>trivial) hd fun base σ a g bN mU ho=>by
  obtain⟨u,h1,h2⟩:=h a g bN.good mU ho;refine⟨u,g,.inl h1,Le.refl g,bN.good,?_,h2⟩;rcases hm with hm|hm<;>subst hm<;>rfl
theorem Cert.Pc{P:Program}{o:Oper}{qb:St}{r:ae}{id:Nat}(hd:∀d,o.dst=some d->d<qb.n)
  (h:∀(a:Act) (g:G),Good g->(∀x∈o.op.operands,∀y,qb.ev x=some y->RV g y (a.eval x))->g.objs[id]?=qb.objs[id]? ->
   ∃u,(execOp a.eval o).run P g.w=.ok (.value u) g.w∧RV g r u):Cert P o qb r (.rd id) :=
 Cert.uU trivial hd fun base σ a g bN mU ho=>by
  obtain⟨u,h1,h2⟩:=h a g bN.good mU ho;exact⟨u,g,.inl h1,Le.refl g,bN.good,rfl,h2⟩
theorem addr_add(b off j:Nat):(⟨b,off,none⟩:Addr).add j=⟨b,off+j,none⟩:=by
 unfold Addr.add;split
 ·rename_i h;subst h;rfl
 rfl
section
variable {P:Program} {t:TypeId} {ti:cf}
theorem F9.sizeOf(h:F9 P t ti)(w:World):(Go.sizeOf t).run P w=.ok ti.size w:=by
 obtain⟨⟨i,z,h1,h2,_⟩,_⟩:=h;simp[Go.sizeOf,typeInfo,h1,h2]
theorem F9.isAgg(h:F9 P t ti)(w:World):(Go.isAgg t).run P w=.ok ti.desc.agg w:=by
 obtain⟨_,d,h1,h2⟩:=h;simp only[Go.isAgg,Go.underlying,Sem.run_bind,run_program,Result.andThen_ok,h1];cases hd:ti.desc<;>rw[hd]at h2<;>simp only[sJ]at h2
 ·cases d<;>simp_all [TD.agg]
 ·obtain⟨fs,h3,_⟩:=h2;subst h3;simp[TD.agg]
 ·subst h2;simp[TD.agg]
 ·subst h2;simp[TD.agg]
 subst h2;simp[TD.agg]
theorem F9.zeroValue(h:F9 P t ti):∃z,(∀w,(Go.zeroValue t).run P w=.ok z w)∧z.cells.size=ti.zero.length∧ti.zero.length=ti.size∧(ti.desc.agg=true->∃cs,z=.agg cs) ∧
  (∀g:G,∀(j:Nat) (c:ae) (u:Value),ti.zero[j]?=some c->z.cells[j]?=some u->RV g c u)∧∀c∈ti.zero,c.scalar:=by
 obtain⟨⟨i,z,h1,h2,h3,h4,h5,h6,h7,h8,h9⟩,_⟩:=h;exact⟨z,fun w=>by simp[Go.zeroValue,typeInfo,h1,h4],h5,h6,h7.1,h8,h9⟩
theorem F9.oS(h:F9 P t ti)(fu:ti.desc.agg=true)(w:World)(b off:Nat)(f:Nat->Value)(hc:∀j,j<ti.size->w.cell? ⟨b,off+j,none⟩=some (f j)) :
  (loadVar t ⟨b,off,none⟩).run P w=.ok (.agg ((List.range ti.size).map f).toArray) w:=by
 have hl:=run_loadCells (P:=P) w ⟨b,off,none⟩ ti.size f (fun j hj=>by rw[addr_add];exact hc j hj);simp[loadVar,h.isAgg,h.sizeOf,fu,hl]
theorem F9.nu(h:F9 P t ti)(fu:ti.desc.agg=false)(w:World)(a:Addr)(u:Value)(hc:w.cell? a=some u):(loadVar t a).run P w=.ok u w:=by
 simp[loadVar,h.isAgg,fu,hc]
end
theorem nQ(k:IntKind)(n:Int)(h1:k.min<=n)(h2:n<=k.max):k.wrap n=n:=by
 cases k<;>simp[IntKind.min,IntKind.max,IntKind.wrap,IntKind.bits,IntKind.signed]at *<;>omega
theorem RV.jb{g:G}{x:ae}{u:Value}(h:RV g x u)(hs:x.scalar):u.oneCell'=true∧u.cells = #[u]:=by
 cases h with
 | v hx =>
  cases u<;>simp[iv]at hx<;>simp[Value.oneCell',Value.cells]
 | agg=>exact hs.elim
 | cD=>exact hs.elim
 | nil=>simp[Value.oneCell',Value.cells]
 | aC=>simp[Value.oneCell',Value.cells]
 | ip=>simp[Value.oneCell',Value.cells]
 | mp=>simp[Value.oneCell',Value.cells]
 | ms=>simp[Value.oneCell',Value.cells]
 | os=>simp[Value.oneCell',Value.cells]
 | raw=>simp[Value.oneCell',Value.cells]
 | mm=>simp[Value.oneCell',Value.cells]
 | im=>simp[Value.oneCell',Value.cells]
 | fn=>simp[Value.oneCell',Value.cells]
theorem RV.cells{g:G}{x:ae}{u:Value}(h:RV g x u)(hs:∀c∈x.cells,c.scalar):u.cells.size=x.cells.length∧∀(j:Nat) (c:ae) (e:Value),x.cells[j]?=some c->u.cells[j]?=some e->RV g c e:=by
 by_cases hx:x.scalar
 ·have:=(h.jb hx).2;have hc:x.cells=[x]:=by
   cases x<;>simp[ae.scalar]at hx<;>rfl
  rw[this,hc];refine⟨rfl,fun j c e h1 h2=>?_⟩
  match j,h1,h2 with
  | 0,h1,h2 =>
   simp at h1 h2;subst h1;subst h2;exact h
 cases h with
 | agg hl dv hh=>exact⟨hl,hh⟩
 | cD=>exact absurd (hs _ (List.mem_singleton.2 rfl)) (by simp[ae.scalar])
 | _=>exact absurd trivial hx
theorem xS{α:Type}(l:List α)(n:Nat)(f:Nat->α)(hn:l.length=n)(h:∀j,j<n->l[j]?=some (f j)):(List.range n).map f=l:=by
 apply List.ext_getElem?;intro i;rcases Nat.lt_or_ge i n with hi|hi
 ·rw[h i hi];simp[hi]
 rw[List.getElem?_eq_none (by simpa using hi),List.getElem?_eq_none (by omega)]
theorem RV.ofRow{g:G}(cs:List ae)(f:Nat->Value)(dv:∀c∈cs,c.scalar)(hr:∀(j:Nat)(c:ae),cs[j]?=some c->RV g c (f j)):RV g (.agg cs) (.agg ((List.range cs.length).map f).toArray) :=
 .agg (by simp) dv fun i c u h1 h2=>by
  have hi:=I h1;simp[hi]at h2;subst h2;exact hr i c h1
theorem RV.cb{g:G}{x u:Value}(h:RV g (.v x) u):u=x∧iv x:=by
 cases h with
 | v h=>exact⟨rfl,h⟩
theorem RV.oR{g:G}{oa:Option Addr}{cs:List ae}{u:Value}(h:RV g (.ip oa cs) u):∃(b off:Nat) (f:Nat->Value),u=.pointer (some ⟨b,off,none⟩)∧(oa=none∨oa=some ⟨b,off,none⟩)∧(∀c∈cs,c.scalar) ∧
  (∀(j:Nat) (c:ae),cs[j]?=some c->g.cell b (off+j)=some (f j)∧¬jy g b (off+j))∧∀(j:Nat) (c:ae),cs[j]?=some c->RV g c (f j):=by
 cases h with
 | ip ha dv f hm hr=>exact⟨_,_,f,rfl,ha,dv,hm,hr⟩
theorem RV.lu{g:G}{id off:Nat}{u:Value}(h:RV g (.mp id off) u):∃(l:Loc) (o:aj),g.env[id]?=some (some l)∧g.objs[id]?=some o∧¬o.aF∧u=.pointer (some ⟨l.block,off,none⟩):=by
 cases h with
 | mp he ho hn=>exact⟨_,_,he,ho,hn,rfl⟩
theorem RV.oX{g:G}{id off len cap:Nat}{u:Value}(h:RV g (.ms id off len cap) u):∃(l:Loc) (o:aj),g.env[id]?=some (some l)∧g.objs[id]?=some o∧¬o.aF∧len<=cap∧len<=2 ^ 62∧∃ij,cap<=ij∧u=.slice (some ⟨l.block,off,none⟩) len ij:=by
 cases h with
 | ms he ho hn hc qZ cE=>exact⟨_,_,he,ho,hn,hc,cE,_,qZ,rfl⟩
theorem RV.s8{g:G}{id len sz:Nat}{u:Value}(h:RV g (.os id len sz) u):∃(l:Loc) (o:aj) (cap:Nat),g.env[id]?=some (some l)∧g.objs[id]?=some o∧¬o.aF∧len<=cap∧cap*sz<=l.sz∧len<=2 ^ 62∧u=.slice (some ⟨l.block,0,none⟩) len cap:=by
 cases h with
 | os he ho hn hc hb cE=>exact⟨_,_,_,he,ho,hn,hc,hb,cE,rfl⟩
theorem RV.Pg{g:G}{sz n id:Nat}{u:Value}(h:RV g (.raw sz n id) u):∃(a:Addr) (cap:Nat),u=.slice (some a) n cap∧n<=cap∧tq g (.tok id) a sz 0 cap:=by
 cases h with
 | raw hn ho=>exact⟨_,_,rfl,hn,ho⟩
theorem RV.Ff{g:G}{id:Nat}{u:Value}(h:RV g (.mm id) u):∃(l:Loc) (o:aj),g.env[id]?=some (some l)∧g.objs[id]?=some o∧¬o.aF∧u=.map (some l.block):=by
 cases h with
 | mm he ho hn=>exact⟨_,_,he,ho,hn,rfl⟩
theorem RV.zC{g:G}{cs:List ae}{u:Value}(h:RV g (.agg cs) u):∃vs:Array Value,u=.agg vs∧vs.size=cs.length∧(∀c∈cs,c.scalar)∧∀(i:Nat) (c:ae) (e:Value),cs[i]?=some c->vs[i]?=some e->RV g c e:=by
 cases h with
 | agg hl dv h=>exact⟨_,rfl,hl,dv,h⟩
theorem RV.Qt{g:G}{cs:List ae}{u:Value}(h:RV g (.cD cs) u):∃vs:Array Value,u=.tuple vs∧vs.size=cs.length∧∀(i:Nat) (c:ae) (e:Value),cs[i]?=some c->vs[i]?=some e->RV g c e:=by
 cases h with
 | cD hl h=>exact⟨_,rfl,hl,h⟩
theorem RV.Kn{g:G}{f:Fn}{fs cs:List ae}{u:Value}(h:RV g (.fn f fs cs) u):∃us vs:Array Value,u=.func f us vs∧us.size=fs.length∧vs.size=cs.length ∧
  (∀(i:Nat) (c:ae) (e:Value),fs[i]?=some c->us[i]?=some e->RV g c e)∧∀(i:Nat) (c:ae) (e:Value),cs[i]?=some c->vs[i]?=some e->RV g c e:=by
 cases h with
 | fn hl Bh h h'=>exact⟨_,_,rfl,hl,Bh,h,h'⟩
theorem RV.SU{g:G}{kt:KT}{es:List (Value×ae)}{u:Value}(h:RV g (.im kt es) u):∃(r clk:Nat) (arr:Array MapEntry),u=.map (some r)∧g.w.heap[r]?=some (.map arr clk)∧arr.size=es.length ∧
  (∀(i:Nat) (e:MapEntry) (kx:Value×ae),arr[i]?=some e->es[i]?=some kx->e.key=kx.1)∧(∀p∈es,kt.ok p.1)∧∀(i:Nat) (e:MapEntry) (kx:Value×ae),arr[i]?=some e->es[i]?=some kx->RV g kx.2 e.val:=by
 cases h with
 | im hh hn hl hk vW hb hr=>exact⟨_,_,_,rfl,hh,hl,hk,vW,hr⟩
theorem RV.fL{g:G}{sz:Nat}{xs:List ae}{o:nR}{u:Value}(h:RV g (.aC sz xs o) u) :
  (u=.slice none 0 0∧xs=[])∨∃(a:Addr) (cap:Nat) (f:Nat->Value),u=.slice (some a) xs.length cap∧(∀x∈xs,x.cells.length=sz)∧(∀x∈xs,∀c∈x.cells,c.scalar)∧xs.length<=cap∧xs.length<=2 ^ 62∧(xs≠[]->a.spot=none) ∧
   (∀(j:Nat) (c:ae),(au xs)[j]?=some c->g.cell a.block (a.off+j)=some (f j)∧¬jy g a.block (a.off+j))∧(∀(j:Nat) (c:ae),(au xs)[j]?=some c->RV g c (f j))∧tq g o a sz xs.length cap:=by
 cases h with
 | nil=>exact .inl ⟨rfl,rfl⟩
 | aC cP dv cY cE hs f hm hr ho=>exact .inr ⟨_,_,f,rfl,cP,dv,cY,cE,hs,hm,hr,ho⟩
theorem RV.GP{g:G}{sz:Nat}{xs:List ae}{o:nR}{u:Value}(h:RV g (.aC sz xs o) u):xs.length<=2 ^ 62:=by
 rcases h.fL with⟨_,h⟩|⟨_,_,_,_,_,_,_,h,_⟩
 ·subst h;simp
 exact h
theorem RV.sX{g:G}{sz:Nat}{xs:List ae}{o:nR}{u:Value}(h:RV g (.aC sz xs o) u):RV g (.aC sz xs .sh) u:=by
 cases h with
 | nil=>exact .nil (fun id e=>by cases e) (by simp)
 | aC cP dv cY cE hs f hm hr ho=>exact .aC cP dv cY cE hs f hm hr trivial
theorem jh{sz:Nat}{xs:List ae}(cP:∀x∈xs,x.cells.length=sz){i j:Nat}{x c:ae}(hx:xs[i]?=some x)(hc:x.cells[j]?=some c):(au xs)[i*sz+j]?=some c:=by
 induction xs generalizing i with
 | nil=>simp at hx
 | cons y ys ih =>
  have hy:=cP y (by simp);cases i with
  | zero =>
   simp at hx;subst hx;simp only[au,List.flatMap_cons,Nat.zero_mul,Nat.zero_add];rw[List.getElem?_append,if_pos (I hc)];exact hc
  | succ i =>
   simp at hx;have:=ih (fun x hx=>cP x (by simp[hx])) hx;simp only[au,List.flatMap_cons]at this ⊢;rw[List.getElem?_append,if_neg (by rw[hy,Nat.succ_mul];omega),hy];rw[show(i+1)*sz+j-sz=i*sz+j by rw[Nat.succ_mul];omega];exact this
theorem bE{sz:Nat}{xs:List ae}(cP:∀x∈xs,x.cells.length=sz):(au xs).length=xs.length*sz:=by
 induction xs with
 | nil=>simp[au]
 | cons y ys ih =>
  have hy:=cP y (by simp);have:=ih (fun x hx=>cP x (by simp[hx]));simp only[au,List.flatMap_cons,List.length_append,List.length_cons]at this ⊢;rw[this,hy,Nat.succ_mul];omega
theorem Ho{P:Program}{o:Oper}{σ:St}{x:Operand}{y:ae}(ho:o.op=.move x∨o.op=.assign x)(hd:∀d,o.dst=some d->d<σ.n)(hx:σ.ev x=some y):Cert P o σ y .pure :=
 Cert.bT .pure (.inl rfl) hd fun a g _ h _=>⟨a.eval x,by rcases ho with ho|ho<;>simp[execOp,ho],h x (by rcases ho with ho|ho<;>simp[ho,Op.operands]) y hx⟩
theorem JR{P:Program}{o:Oper}{σ:St}(sz:Nat)(ho:o.op=.move (.const (.slice none 0 0))∨o.op=.assign (.const (.slice none 0 0)))(hd:∀d,o.dst=some d->d<σ.n):Cert P o σ (.aC sz [] .ex) .pure :=
 Cert.bT .pure (.inl rfl) hd fun a g _ _ _=>⟨.slice none 0 0,by rcases ho with ho|ho<;>simp[execOp,ho,Act.eval],.nil (fun id e=>by cases e) (by simp)⟩
theorem yj{P:Program}{o:Oper}{σ:St}{c x z:Operand}{b:Bool}{y:ae}(ho:o.op=.pick c x z)(hd:∀d,o.dst=some d->d<σ.n)(hc:σ.ev c=some (.v (.bool b)))
  (hx:b=true->σ.ev x=some y) (hz:b=false->σ.ev z=some y):Cert P o σ y .pure :=
 Cert.bT .pure (.inl rfl) hd fun a g _ h _=>by
  have e2:=(h c (by simp[ho,Op.operands]) _ hc).cb.1;cases b
  ·exact⟨a.eval z,by simp[execOp,ho,e2,asBool],h z (by simp[ho,Op.operands]) y (hz rfl)⟩
  exact⟨a.eval x,by simp[execOp,ho,e2,asBool],h x (by simp[ho,Op.operands]) y (hx rfl)⟩
theorem mQ{α:Type}{l:List α}{n j:Nat}{c:α}(h:(l.take n)[j]?=some c):l[j]?=some c:=by
 rw[List.getElem?_take]at h;split at h
 ·exact h
 cases h
theorem zM{P:Program}{aT:eZ}(hT:b6 P aT){o:Oper}{σ:St}{t:TypeId}{x:Operand}{ti:cf}{oa:Option Addr}{cs:List ae}(ho:o.op=.load t x)(hd:∀d,o.dst=some d->d<σ.n)
  (ht:aT t=some ti) (hx:σ.ev x=some (.ip oa cs)) (fu:ti.desc.agg=true) (hs:ti.size<=cs.length):Cert P o σ (.agg (cs.take ti.size)) .pure :=
 Cert.bT .pure (.inl rfl) hd fun a g _ h _=>by
  obtain⟨b,off,f,e,_,dv,hm,hr⟩:=(h x (by simp[ho,Op.operands]) _ hx).oR;have bJ:=(hT t ti ht).oS fu g.w b off f (fun j hj=>(hm j _ (List.getElem?_eq_getElem (by omega))).1);have hlen:(cs.take ti.size).length=ti.size:=by simp;omega
  refine⟨.agg ((List.range ti.size).map f).toArray,by simp[execOp,ho,e,Instr.loadAt,Instr.sureAddr,bJ],?_⟩;have:=RV.ofRow (g:=g) (cs.take ti.size) f (fun c hc=>dv c (List.mem_of_mem_take hc)) (fun j c hj=>hr j c (mQ hj));rw[hlen]at this;exact this
theorem xy{P:Program}{aT:eZ}(hT:b6 P aT){o:Oper}{σ:St}{t:TypeId}{x:Operand}{ti:cf}{oa:Option Addr}{cs:List ae}{c:ae}(ho:o.op=.load t x)(hd:∀d,o.dst=some d->d<σ.n)
  (ht:aT t=some ti) (hx:σ.ev x=some (.ip oa cs)) (fu:ti.desc.agg=false) (hs:cs[0]?=some c):Cert P o σ c .pure :=
 Cert.bT .pure (.inl rfl) hd fun a g _ h _=>by
  obtain⟨b,off,f,e,_,dv,hm,hr⟩:=(h x (by simp[ho,Op.operands]) _ hx).oR;have bJ:=(hT t ti ht).nu fu g.w ⟨b,off,none⟩ (f 0) (hm 0 c hs).1;exact⟨f 0,by simp[execOp,ho,e,Instr.loadAt,Instr.sureAddr,bJ],hr 0 c hs⟩
theorem Good.row{g:G}(hg:Good g){id:Nat}{cs:List ae}{l:Loc}(ho:g.objs[id]?=some (.cells cs))(he:g.env[id]?=some (some l)) :
  ∃(arr:Array Value) (t:TypeId),l.lo=0∧g.w.heap[l.block]?=some (.cells arr t (0,0))∧cs.length<=arr.size∧(∀(j:Nat) (c:ae) (u:Value),cs[j]?=some c->arr[j]?=some u->RV g c u)∧(∀c∈cs,c.scalar)∧l.sz<=arr.size:=by
 obtain⟨l',arr,t,h1,h2,h3,h4,h5,h6⟩:=hg.cells id cs ho;rw[he]at h1;simp only[Option.some.injEq]at h1;subst h1;exact⟨arr,t,h2,h3,h4,h5,h6⟩
theorem cell_of_row{w:World}{b:Nat}{arr:Array Value}{t:TypeId}{fz:Nat×Nat}(h:w.heap[b]?=some (.cells arr t fz))(off:Nat):w.cell? ⟨b,off,none⟩=arr[off]?:=by
 simp[World.cell?,h]
theorem zN{P:Program}{aT:eZ}(hT:b6 P aT){o:Oper}{σ:St}{t:TypeId}{x:Operand}{ti:cf}{id off:Nat}{cs:List ae}(ho:o.op=.load t x)(hd:∀d,o.dst=some d->d<σ.n)
  (ht:aT t=some ti) (hx:σ.ev x=some (.mp id off)) (ns:σ.objs[id]?=some (.cells cs)) (fu:ti.desc.agg=true) (hs:off+ti.size<=cs.length):Cert P o σ (.agg ((cs.drop off).take ti.size)) (.rd id) :=
 Cert.Pc hd fun a g hg h hO=>by
  obtain⟨l,o1,he,h1,_,e⟩:=(h x (by simp[ho,Op.operands]) _ hx).lu;obtain⟨arr,t',_,dk,hlen,rM,dv,_⟩:=hg.row (by rw[hO];exact ns) he;obtain⟨f,hf⟩:∃f:Nat->Value,∀j,off+j<arr.size->arr[off+j]?=some (f j):=⟨fun j=>arr.getD (off+j) undef,fun j hj=>by simp[Array.getD_eq_getD_getElem?,hj]⟩
  have bJ:=(hT t ti ht).oS fu g.w l.block off f (fun j hj=>by
   rw[cell_of_row dk];exact hf j (by omega))
  have hl:((cs.drop off).take ti.size).length=ti.size:=by simp;omega
  refine⟨.agg ((List.range ti.size).map f).toArray,by simp[execOp,ho,e,Instr.loadAt,Instr.sureAddr,bJ],?_⟩;have:=RV.ofRow (g:=g) ((cs.drop off).take ti.size) f (fun c hc=>dv c (List.mem_of_mem_drop (List.mem_of_mem_take hc))) (fun j c hj=>by
   have jc:=mQ hj;rw[List.getElem?_drop]at jc;have bg:=I jc;exact rM (off+j) c _ jc (hf j (by omega)))
  rw[hl]at this;exact this
theorem xz{P:Program}{aT:eZ}(hT:b6 P aT){o:Oper}{σ:St}{t:TypeId}{x:Operand}{ti:cf}{id off:Nat}{cs:List ae}{c:ae}(ho:o.op=.load t x)(hd:∀d,o.dst=some d->d<σ.n)
  (ht:aT t=some ti) (hx:σ.ev x=some (.mp id off)) (ns:σ.objs[id]?=some (.cells cs)) (fu:ti.desc.agg=false) (hs:cs[off]?=some c):Cert P o σ c (.rd id) :=
 Cert.Pc hd fun a g hg h hO=>by
  obtain⟨l,o1,he,h1,_,e⟩:=(h x (by simp[ho,Op.operands]) _ hx).lu;obtain⟨arr,t',_,dk,hlen,rM,dv,_⟩:=hg.row (by rw[hO];exact ns) he;have bg:=I hs;have fB:g.w.cell? ⟨l.block,off,none⟩=some arr[off]:=by
   rw[cell_of_row dk];simp[show off<arr.size by omega]
  have bJ:=(hT t ti ht).nu fu g.w ⟨l.block,off,none⟩ _ fB;exact⟨arr[off],by simp[execOp,ho,e,Instr.loadAt,Instr.sureAddr,bJ],rM off c _ hs (by simp[show off<arr.size by omega])⟩
theorem pc{P:Program}{aT:eZ}(hT:b6 P aT){f:Field}{tf:cf}(hf:aT f.type=some tf)(hs:tf.size≠0)(w:World)(b off:Nat) :
  (fieldPlace ⟨b,off,none⟩ f).run P w=.ok ⟨b,off+f.offset,none⟩ w:=by
 have:=(hT _ _ hf).sizeOf w;simp[fieldPlace,this,hs,addr_add]
theorem nN{P:Program}{aT:eZ}(hT:b6 P aT){s:TypeId}{ti:cf}{fs:List (Nat×TypeId)}{k s6:Nat}{ft:TypeId}(ht:aT s=some ti)(aU:ti.desc=.struct fs)(hk:fs[k]?=some (s6,ft)) :
  ∃(fields:Array Field) (f:Field),P.underlying s=some (.struct fields)∧fields[k]?=some f∧f.offset=s6∧f.type=ft:=by
 obtain⟨_,d,h1,h2⟩:=hT s ti ht;rw[aU]at h2;obtain⟨fields,h3,h4⟩:=h2;subst h3;rw[<-h4]at hk;simp only[List.getElem?_map,Option.map_eq_some_iff,Prod.mk.injEq,Array.getElem?_toList]at hk;obtain⟨f,e1,e2,e3⟩:=hk;exact⟨fields,f,h1,e1,e2,e3⟩
theorem rn{P:Program}{aT:eZ}(hT:b6 P aT){o:Oper}{σ:St}{s:TypeId}{x:Operand}{k s6:Nat}{ft:TypeId}{ti tf:cf}{fs:List (Nat×TypeId)}{oa:Option Addr}{cs:List ae}
  (ho:o.op=.fieldAddr s x k) (hd:∀d,o.dst=some d->d<σ.n) (ht:aT s=some ti) (aU:ti.desc=.struct fs) (hk:fs[k]?=some (s6,ft)) (hf:aT ft=some tf) (hz:tf.size≠0)
  (hx:σ.ev x=some (.ip oa cs)):Cert P o σ (.ip (oa.map (·.add s6)) (cs.drop s6)) .pure :=
 Cert.bT .pure (.inl rfl) hd fun a g _ h _=>by
  obtain⟨b,off,f,e,ha,dv,hm,hr⟩:=(h x (by simp[ho,Op.operands]) _ hx).oR;obtain⟨fields,fl,h1,h2,h3,h4⟩:=nN hT ht aU hk;subst h3;subst h4;refine⟨.pointer (some ⟨b,off+fl.offset,none⟩),by simp[execOp,ho,e,Instr.fieldAt,run_underlying h1,h2,Instr.sureAddr,pc hT hf hz],?_⟩;refine .ip ?_ (fun c hc=>dv c (List.mem_of_mem_drop hc)) (fun j=>f (fl.offset+j)) (fun j c hj=>?_) (fun j c hj=>?_)
  ·rcases ha with ha|ha<;>subst ha<;>simp[addr_add]
  ·rw[List.getElem?_drop]at hj;rw[Nat.add_assoc];exact hm _ c hj
  rw[List.getElem?_drop]at hj;exact hr _ c hj
theorem rp{P:Program}{aT:eZ}(hT:b6 P aT){o:Oper}{σ:St}{s:TypeId}{x:Operand}{k s6:Nat}{ft:TypeId}{ti tf:cf}{fs:List (Nat×TypeId)}{id off:Nat}
  (ho:o.op=.fieldAddr s x k) (hd:∀d,o.dst=some d->d<σ.n) (ht:aT s=some ti) (aU:ti.desc=.struct fs) (hk:fs[k]?=some (s6,ft)) (hf:aT ft=some tf) (hz:tf.size≠0)
  (hx:σ.ev x=some (.mp id off)):Cert P o σ (.mp id (off+s6)) .pure :=
 Cert.bT .pure (.inl rfl) hd fun a g _ h _=>by
  obtain⟨l,o1,he,h1,hn,e⟩:=(h x (by simp[ho,Op.operands]) _ hx).lu;obtain⟨fields,fl,h2,h3,h4,h5⟩:=nN hT ht aU hk;subst h4;subst h5;exact⟨.pointer (some ⟨l.block,off+fl.offset,none⟩),by simp[execOp,ho,e,Instr.fieldAt,run_underlying h2,h3,Instr.sureAddr,pc hT hf hz],.mp he h1 hn⟩
theorem bV{P:Program}{aT:eZ}(hT:b6 P aT){t e:TypeId}{ti:cf}(ht:aT t=some ti)(aU:ti.desc=.slice e):P.underlying t=some (.slice e):=by
 obtain⟨_,d,h1,h2⟩:=hT t ti ht;rw[aU]at h2;simp only[sJ]at h2;rw[h1,h2]
def rV:nR->Nat->Option Addr
 | .sh,_=>none
 | .ex,_=>none
 | .nn,_=>none
 | .tok _,_=>none
 | .loc a,k=>some ⟨a.block,a.off+k,none⟩
theorem qB{P:Program}{aT:eZ}(hT:b6 P aT){o:Oper}{σ:St}{t e:TypeId}{x i:Operand}{ti te:cf}{sz:Nat}{xs:List ae}{ow:nR}{k:IntKind}{n:Int}{y:ae}
  (ho:o.op=.indexAddr t x i) (hd:∀d,o.dst=some d->d<σ.n) (ht:aT t=some ti) (aU:ti.desc=.slice e) (he:aT e=some te) (cP:te.size=sz)
  (hx:σ.ev x=some (.aC sz xs ow)) (hi:σ.ev i=some (.v (.int k n))) (h0:0<=n) (hy:xs[n.toNat]?=some y):Cert P o σ (.ip (rV ow (n.toNat*te.size)) y.cells) .pure :=
 Cert.bT .pure (.inl rfl) hd fun a g _ h _=>by
  have ei:=(h i (by simp[ho,Op.operands]) _ hi).cb.1;have hu:=bV hT ht aU;have bg:=I hy;rcases(h x (by simp[ho,Op.operands]) _ hx).fL with⟨_,e0⟩|⟨ad,cap,f,eu,oO,dv,_,cE,hs,hm,hr,oM⟩
  ·subst e0;simp at bg
  have Cl:=hs (by intro e;subst e;simp at bg);obtain⟨b,off,sp⟩:=ad;simp only at Cl;subst Cl;subst cP;have fX:y∈xs:=List.mem_of_getElem? hy;refine⟨.pointer (some ⟨b,off+n.toNat*te.size,none⟩),?_,?_⟩
  ·have kF:n<(xs.length:Int):=by omega
   simp[execOp,ho,ei,eu,Instr.indexAt,asIntOf,run_underlying hu,h0,kF,(hT e te he).sizeOf,addr_add]
  have UL:rV ow (n.toNat*te.size)=none∨rV ow (n.toNat*te.size)=some ⟨b,off+n.toNat*te.size,none⟩:=by
   cases ow with
   | loc a' =>
    have e:(⟨b,off,none⟩:Addr)=a':=oM;subst e;exact .inr rfl
   | _=>exact .inl rfl
  refine .ip UL (dv y fX) (fun j=>f (n.toNat*te.size+j)) (fun j c hj=>?_) (fun j c hj=>?_)
  ·rw[Nat.add_assoc];exact hm _ c (jh oO hy hj)
  exact hr _ c (jh oO hy hj)
theorem rq{P:Program}{aT:eZ}(hT:b6 P aT){o:Oper}{σ:St}{t e:TypeId}{x i:Operand}{ti te:cf}{id off len cap:Nat}{k:IntKind}{n:Int}
  (ho:o.op=.indexAddr t x i) (hd:∀d,o.dst=some d->d<σ.n) (ht:aT t=some ti) (aU:ti.desc=.slice e) (he:aT e=some te)
  (hx:σ.ev x=some (.ms id off len cap)) (hi:σ.ev i=some (.v (.int k n))) (h0:0<=n) (hn:n<len):Cert P o σ (.mp id (off+n.toNat*te.size)) .pure :=
 Cert.bT .pure (.inl rfl) hd fun a g _ h _=>by
  have ei:=(h i (by simp[ho,Op.operands]) _ hi).cb.1;have hu:=bV hT ht aU;obtain⟨l,o1,h1,h2,h3,_,_,_,_,eu⟩:=(h x (by simp[ho,Op.operands]) _ hx).oX;exact⟨.pointer (some ⟨l.block,off+n.toNat*te.size,none⟩),by simp[execOp,ho,ei,eu,Instr.indexAt,asIntOf,run_underlying hu,h0,hn,(hT e te he).sizeOf,addr_add],.mp h1 h2 h3⟩
end Go.Av
namespace Go.Av
theorem vy{P:Program}{aT:eZ}(hT:b6 P aT){o:Oper}{σ:St}{s:TypeId}{x:Operand}{k s6:Nat}{ft:TypeId}{ti tf:cf}{fs:List (Nat×TypeId)}{cs:List ae}{r:ae}
  (ho:o.op=.field s x k) (hd:∀d,o.dst=some d->d<σ.n) (ht:aT s=some ti) (aU:ti.desc=.struct fs) (hk:fs[k]?=some (s6,ft)) (hf:aT ft=some tf)
  (hx:σ.ev x=some (.agg cs)) (hr:if tf.desc.agg then r=.agg ((cs.drop s6).take tf.size)else cs[s6]?=some r):Cert P o σ r .pure :=
 Cert.bT .pure (.inl rfl) hd fun a g _ h _=>by
  obtain⟨vs,e,hl,dv,hh⟩:=(h x (by simp[ho,Op.operands]) _ hx).zC;obtain⟨fields,fl,h1,h2,h3,h4⟩:=nN hT ht aU hk;subst h3;subst h4;have mU:=(hT _ _ hf).isAgg g.w;have cP:=(hT _ _ hf).sizeOf g.w;split at hr
  ·rename_i fu;subst hr;refine⟨.agg (vs.extract fl.offset (fl.offset+tf.size)),by simp[execOp,ho,e,Instr.field,run_underlying h1,h2,asAgg,part,mU,fu,cP],?_⟩;refine .agg ?_ (fun c hc=>dv c (List.mem_of_mem_drop (List.mem_of_mem_take hc))) (fun i c u hi hu=>?_)
   ·simp[hl];omega
   have ga:=mQ hi;rw[List.getElem?_drop]at ga;refine hh (fl.offset+i) c u ga ?_;have:i<tf.size:=by
    have:=I hi;simp at this;omega
   rw[Array.getElem?_extract]at hu;split at hu
   ·exact hu
   cases hu
  rename_i fu;have bg:fl.offset<vs.size:=by
   rw[hl];exact I hr
  exact⟨vs[fl.offset],by simp[execOp,ho,e,Instr.field,run_underlying h1,h2,asAgg,part,mU,fu,bg],hh _ _ _ hr (by simp[bg])⟩
theorem zL{P:Program}{o:Oper}{σ:St}{x:Operand}{k:Nat}{cs:List ae}{r:ae}
  (ho:o.op=.extract x k) (hd:∀d,o.dst=some d->d<σ.n) (hx:σ.ev x=some (.cD cs)) (hr:cs[k]?=some r):Cert P o σ r .pure :=
 Cert.bT .pure (.inl rfl) hd fun a g _ h _=>by
  obtain⟨vs,e,hl,hh⟩:=(h x (by simp[ho,Op.operands]) _ hx).Qt;have bg:k<vs.size:=by
   rw[hl];exact I hr
  exact⟨vs[k],by simp[execOp,ho,e,Instr.extract,bg],hh _ _ _ hr (by simp[bg])⟩
theorem cS{P:Program}(op:BinOp)(t:TypeId)(x y:Operand)(a b:Value)(w:World)(h1:a≠.nilIface)(h2:∀cs,a≠.agg cs):(eqGuard op t x y a b).run P w=.ok () w:=by
 cases op<;>first|rfl|(cases a<;>first|rfl|exact absurd rfl h1|exact absurd rfl (h2 _))
def lj:BinOp->Int->Int->Option Bool
 | .eql,a,b=>some (decide (a=b))
 | .neq,a,b=>some (!decide (a=b))
 | .lss,a,b=>some (decide (a<b))
 | .leq,a,b=>some (decide (a<=b))
 | .gtr,a,b=>some (decide (b<a))
 | .geq,a,b=>some (decide (b<=a))
 | _,_,_=>none
theorem BE{P:Program}{o:Oper}{σ:St}{op:BinOp}{t t':TypeId}{x y:Operand}{k:IntKind}{m n:Int}{r:Bool}
  (ho:o.op=.binOp op t x y t') (hd:∀d,o.dst=some d->d<σ.n) (hx:σ.ev x=some (.v (.int k m))) (hy:σ.ev y=some (.v (.int k n))) (hr:lj op m n=some r):Cert P o σ (.v (.bool r)) .pure :=
 Cert.bT .pure (.inl rfl) hd fun a g _ h _=>by
  have ex:=(h x (by simp[ho,Op.operands]) _ hx).cb.1;have ey:=(h y (by simp[ho,Op.operands]) _ hy).cb.1;have hg:=cS (P:=P) op t x y (.int k m) (.int k n) g.w (by simp) (by simp);refine⟨.bool r,?_,.v trivial⟩;have hb:(binOp op t (.int k m) (.int k n)).run P g.w=.ok (.bool r) g.w:=by
   cases op<;>first|(cases hr;done)|(obtain rfl:=Option.some.inj hr;simp[binOp,Op.intCmp];try (rw[Bool.eq_iff_iff];simp))
  simp[execOp,ho,ex,ey,hg,hb]
def bitsOf(k:IntKind)(f:BitVec k.bits->BitVec k.bits->BitVec k.bits)(a b:Int):Int:=k.wrap (f (BitVec.ofInt k.bits a) (BitVec.ofInt k.bits b)).toNat
def fa(k:IntKind):BinOp->Int->Int->Option Int
 | .add,a,b=>some (a+b)
 | .sub,a,b=>some (a-b)
 | .mul,a,b=>some (a*b)
 | .quo,a,b=>if b=0 then none else some (a.tdiv b)
 | .rem,a,b=>if b=0 then none else some (a.tmod b)
 | .and,a,b=>some (bitsOf k (fun x y=>x&&& y) a b)
 | .or,a,b=>some (bitsOf k (fun x y=>x ||| y) a b)
 | .xor,a,b=>some (bitsOf k (fun x y=>x ^^^ y) a b)
 | .andNot,a,b=>some (bitsOf k (fun x y=>x&&& ~~~y) a b)
 | _,_,_=>none
theorem xu{P:Program}{o:Oper}{σ:St}{op:BinOp}{t t':TypeId}{x y:Operand}{k:IntKind}{m n r:Int}
  (ho:o.op=.binOp op t x y t') (hd:∀d,o.dst=some d->d<σ.n) (hx:σ.ev x=some (.v (.int k m))) (hy:σ.ev y=some (.v (.int k n))) (hr:fa k op m n=some r) (h1:k.min<=r) (h2:r<=k.max) :
  Cert P o σ (.v (.int k r)) .pure :=
 Cert.bT .pure (.inl rfl) hd fun a g _ h _=>by
  have ex:=(h x (by simp[ho,Op.operands]) _ hx).cb.1;have ey:=(h y (by simp[ho,Op.operands]) _ hy).cb.1;have hg:=cS (P:=P) op t x y (.int k m) (.int k n) g.w (by simp) (by simp);have hw:=nQ k r h1 h2;refine⟨.int k r,?_,.v ⟨h1,h2⟩⟩;have hb:(binOp op t (.int k m) (.int k n)).run P g.w=.ok (.int k r) g.w:=by
   cases op with
   | add | sub | mul=>simp[fa]at hr;subst hr;simp[binOp,Op.intArith,hw]
   | quo | rem =>
    simp only[fa]at hr;split at hr
    ·cases hr
    rename_i vX;simp only[Option.some.injEq]at hr;subst hr;simp[binOp,Op.intDiv,vX,hw]
   | and | or | xor | andNot=>simp[fa]at hr;subst hr;simp[binOp,Op.intBits,bitsOf]
   | _=>simp[fa]at hr
  simp[execOp,ho,ex,ey,hg,hb]
def dI:BinOp->Bool
 | .add=>false
 | .sub=>false
 | .mul=>false
 | .quo=>false
 | .rem=>false
 | .and=>false
 | .or=>false
 | .xor=>false
 | .shl=>true
 | .shr=>true
 | .andNot=>false
 | .eql=>false
 | .neq=>false
 | .lss=>false
 | .leq=>false
 | .gtr=>false
 | .geq=>false
def fD(k:IntKind):BinOp->Int->Int->Int
 | .shl,a,n=>k.wrap (a*2 ^ (min n.toNat k.bits))
 | _,a,n=>a.fdiv (2 ^ (min n.toNat k.bits))
theorem xC{P:Program}{o:Oper}{σ:St}{op:BinOp}{t t':TypeId}{x y:Operand}{k k':IntKind}{m n:Int}
  (ho:o.op=.binOp op t x y t') (hd:∀d,o.dst=some d->d<σ.n) (hx:σ.ev x=some (.v (.int k m))) (hy:σ.ev y=some (.v (.int k' n))) (hs:dI op=true) (hn:0<=n) (h1:k.min<=fD k op m n) (h2:fD k op m n<=k.max) :
  Cert P o σ (.v (.int k (fD k op m n))) .pure :=
 Cert.bT .pure (.inl rfl) hd fun a g _ h _=>by
  have ex:=(h x (by simp[ho,Op.operands]) _ hx).cb.1;have ey:=(h y (by simp[ho,Op.operands]) _ hy).cb.1;have hg:=cS (P:=P) op t x y (.int k m) (.int k' n) g.w (by simp) (by simp);have jQ:¬n<0:=by omega
  refine⟨.int k (fD k op m n),?_,.v ⟨h1,h2⟩⟩;have hb:(binOp op t (.int k m) (.int k' n)).run P g.w=.ok (.int k (fD k op m n)) g.w:=by
   cases op with
   | shl | shr=>simp[binOp,Op.shift,jQ,fD]
   | _=>simp[dI]at hs
  simp[execOp,ho,ex,ey,hg,hb]
theorem JD(a b:ByteArray):(a.toList == b.toList)=decide (a=b):=by
 rw[Bool.eq_iff_iff];simp only[beq_iff_eq,decide_eq_true_eq];refine⟨fun h=>?_,fun h=>by rw[h]⟩;rw[ByteArray.toList_eq,ByteArray.toList_eq]at h;exact ByteArray.ext (Array.toList_inj.1 h)
theorem xx{P:Program}{o:Oper}{σ:St}{op:BinOp}{t t':TypeId}{x y:Operand}{m n:ByteArray}{r:Bool}
  (ho:o.op=.binOp op t x y t') (hd:∀d,o.dst=some d->d<σ.n) (hx:σ.ev x=some (.v (.string m))) (hy:σ.ev y=some (.v (.string n)))
  (hr:(op=.eql∧r=decide (m=n))∨(op=.neq∧r=!decide (m=n))):Cert P o σ (.v (.bool r)) .pure :=
 Cert.bT .pure (.inl rfl) hd fun a g _ h _=>by
  have ex:=(h x (by simp[ho,Op.operands]) _ hx).cb.1;have ey:=(h y (by simp[ho,Op.operands]) _ hy).cb.1;have hg:=cS (P:=P) op t x y (.string m) (.string n) g.w (by simp) (by simp);refine⟨.bool r,?_,.v trivial⟩;have hb:(binOp op t (.string m) (.string n)).run P g.w=.ok (.bool r) g.w:=by
   have Kz:=JD m n;rcases hr with⟨e1,e2⟩|⟨e1,e2⟩<;>subst e1<;>subst e2
   ·simp only[binOp,Op.stringOp,Sem.run_pure,Kz]
   simp only[binOp,Op.stringOp,Sem.run_pure,Kz]
  simp[execOp,ho,ex,ey,hg,hb]
theorem BG{P:Program}{o:Oper}{σ:St}{op:BinOp}{t t':TypeId}{x y:Operand}{m n r:Bool}
  (ho:o.op=.binOp op t x y t') (hd:∀d,o.dst=some d->d<σ.n) (ht:P.underlying t=some .bool) (hx:σ.ev x=some (.v (.bool m))) (hy:σ.ev y=some (.v (.bool n)))
  (hr:(op=.eql∧r=(m == n))∨(op=.neq∧r=!(m == n))):Cert P o σ (.v (.bool r)) .pure :=
 Cert.bT .pure (.inl rfl) hd fun a g _ h _=>by
  have ex:=(h x (by simp[ho,Op.operands]) _ hx).cb.1;have ey:=(h y (by simp[ho,Op.operands]) _ hy).cb.1;have hg:=cS (P:=P) op t x y (.bool m) (.bool n) g.w (by simp) (by simp);refine⟨.bool r,?_,.v trivial⟩;have he:(Op.equal t (.bool m) (.bool n)).run P g.w=.ok (m == n) g.w:=by
   have e:∃d,Op.equal t (.bool m) (.bool n)=Op.equalIn (d+1) t (.bool m) (.bool n):=⟨9999,rfl⟩
   obtain⟨d,e⟩:=e;rw[e];simp only[Op.equalIn,Sem.run_bind,run_underlying ht,Result.andThen_ok,Sem.run_pure]
  rcases hr with⟨e1,e2⟩|⟨e1,e2⟩<;>subst e1<;>subst e2<;>simp[execOp,ho,ex,ey,hg,binOp,he]
theorem JS{P:Program}{o:Oper}{σ:St}{t:TypeId}{x:Operand}{m:Bool}
  (ho:o.op=.unOp .not t x) (hd:∀d,o.dst=some d->d<σ.n) (hx:σ.ev x=some (.v (.bool m))):Cert P o σ (.v (.bool !m)) .pure :=
 Cert.bT .pure (.inl rfl) hd fun a g _ h _=>by
  have ex:=(h x (by simp[ho,Op.operands]) _ hx).cb.1;exact⟨.bool !m,by simp[execOp,ho,ex,Op.unary],.v trivial⟩
theorem JQ{P:Program}{o:Oper}{σ:St}{t:TypeId}{x:Operand}{k:IntKind}{m:Int}
  (ho:o.op=.unOp .neg t x) (hd:∀d,o.dst=some d->d<σ.n) (hx:σ.ev x=some (.v (.int k m))) (h1:k.min<=-m) (h2:-m<=k.max):Cert P o σ (.v (.int k (-m))) .pure :=
 Cert.bT .pure (.inl rfl) hd fun a g _ h _=>by
  have ex:=(h x (by simp[ho,Op.operands]) _ hx).cb.1;have hw:=nQ k (-m) h1 h2;exact⟨.int k (-m),by simp[execOp,ho,ex,Op.unary,Op.intArith,hw],.v ⟨h1,h2⟩⟩
theorem cR{P:Program}{o:Oper}{b:Builtin}{args:Array Operand}{su:Array TypeId}(ho:o.op=.call ⟨.builtin b,args,su⟩)(a:Act)(w:World) :
  (execOp a.eval o).run P w=(builtin b su o.type (args.map fun | .const _=>true|_=>false) (args.map a.eval)).run P w:=by
 simp[execOp,ho,resolve,invoke];rfl
theorem JO{P:Program}{aT:eZ}(hT:b6 P aT){o:Oper}{σ:St}{t e:TypeId}{x:Operand}{ti:cf}{n:Nat}{y:ae}
  (ho:o.op=.call ⟨.builtin .len,#[x],#[t]⟩) (hd:∀d,o.dst=some d->d<σ.n) (ht:aT t=some ti) (aU:ti.desc=.slice e) (hx:σ.ev x=some y)
  (hy:(∃sz xs ow,y=.aC sz xs ow∧n=xs.length)∨(∃id off cap,y=.ms id off n cap)∨∃id sz,y=.os id n sz):Cert P o σ (.v (.int .i64 n)) .pure :=
 Cert.bT .pure (.inl rfl) hd fun a g _ h _=>by
  have hu:=bV hT ht aU;have iL:=h x (by simp[ho,Op.operands,Call.operands]) _ hx;have key:∃ad cap,a.eval x=.slice ad n cap∧n<=2 ^ 62:=by
   rcases hy with⟨sz,xs,ow,e1,e2⟩|⟨id,off,cap,e1⟩|⟨id,sz,e1⟩
   ·subst e1;subst e2;rcases iL.fL with⟨q1,q2⟩|⟨ad,cap,_,q1,_,_,_,q2,_⟩
    ·subst q2;exact⟨_,_,q1,by simp⟩
    exact⟨_,_,q1,q2⟩
   ·subst e1;obtain⟨l,_,_,_,_,_,q2,_,_,q1⟩:=iL.oX;exact⟨_,_,q1,q2⟩
   subst e1;obtain⟨l,_,_,_,_,_,_,_,q2,q1⟩:=iL.s8;exact⟨_,_,q1,q2⟩
  obtain⟨ad,cap,q1,q2⟩:=key;refine⟨.int .i64 n,?_,.v ?_⟩
  ·rw[cR ho];simp[builtin,Builtin.len_,q1,run_underlying hu,goInt]
  simp[iv,IntKind.min,IntKind.max,IntKind.bits,IntKind.signed];omega
theorem run_sliceBound{P:Program}(k:IntKind)(n:Int)(y:Nat)(c:BoundsCode)(w:World)(h0:0<=n)(h1:n<=y):(Instr.sliceBound (.int k n) y c).run P w=.ok n.toNat w:=by
 simp[Instr.sliceBound,asIntOf,h0,h1]
theorem Gg{sz:Nat}{xs:List ae}(cP:∀x∈xs,x.cells.length=sz)(lo hi j:Nat)(c:ae)(h:(au ((xs.take hi).drop lo))[j]?=some c):(au xs)[lo*sz+j]?=some c:=by
 induction xs generalizing lo hi j with
 | nil=>simp[au]at h
 | cons y ys ih =>
  have hy:=cP y (by simp);have GL:=ih (fun x hx=>cP x (by simp[hx]));cases hi with
  | zero=>simp[au]at h
  | succ hi =>
   cases lo with
   | zero =>
    simp only[List.take_succ_cons,List.drop_zero,au,List.flatMap_cons,Nat.zero_mul,Nat.zero_add]at h ⊢;rw[List.getElem?_append]at h ⊢;split at h
    ·rename_i hj;rw[if_pos hj];exact h
    rename_i hj;rw[if_neg hj];have:=GL 0 hi (j-y.cells.length) (by simpa[au]using h);simpa[au]using this
   | succ lo =>
    simp only[List.take_succ_cons,List.drop_succ_cons]at h;have:=GL lo hi j h;simp only[au,List.flatMap_cons]at this ⊢;rw[List.getElem?_append,if_neg (by rw[hy,Nat.succ_mul];omega),hy,show(lo+1)*sz+j-sz=lo*sz+j by rw[Nat.succ_mul];omega];exact this
def oz(σ:St)(p:Option Operand)(Ee n:Nat):Prop:=(p=none∧n=Ee)∨∃q k,p=some q∧σ.ev q=some (.v (.int k (n:Int)))
theorem D9{P:Program}{aT:eZ}(hT:b6 P aT){o:Oper}{σ:St}{t e:TypeId}{x:Operand}{ti te:cf}{sz:Nat}{xs:List ae}{ow:nR}{lo hi:Option Operand}{l h:Nat}
  (ho:o.op=.slice t x lo hi none) (hd:∀d,o.dst=some d->d<σ.n) (ht:aT t=some ti) (aU:ti.desc=.slice e) (he:aT e=some te) (cP:te.size=sz) (hx:σ.ev x=some (.aC sz xs ow))
  (iK:oz σ lo 0 l) (pY:oz σ hi xs.length h) (h1:l<=h) (h2:h<=xs.length):Cert P o σ (.aC sz ((xs.take h).drop l) .sh) .pure :=
 Cert.bT .pure (.inl rfl) hd fun a g _ hh _=>by
  have hu:=bV hT ht aU;have iL:=hh x (by cases lo<;>cases hi<;>simp[ho,Op.operands]) _ hx;have hl:(lo=none∧l=0)∨∃q k,lo=some q∧a.eval q=.int k (l:Int):=by
   rcases iK with q|⟨q,k,e1,e2⟩
   ·exact .inl q
   exact .inr ⟨q,k,e1,(hh q (by subst e1;cases hi<;>simp[ho,Op.operands]) _ e2).cb.1⟩
  have ga:(hi=none∧h=xs.length)∨∃q k,hi=some q∧a.eval q=.int k (h:Int):=by
   rcases pY with q|⟨q,k,e1,e2⟩
   ·exact .inl q
   exact .inr ⟨q,k,e1,(hh q (by subst e1;cases lo<;>simp[ho,Op.operands]) _ e2).cb.1⟩
  have c8:execOp a.eval o=(do pure (.value (<-Instr.sliceAt t (a.eval x) (lo.map a.eval) (hi.map a.eval) none))):=by
   simp[execOp,ho]
  clear iK pY ho;have bounds:∀cap:Nat,xs.length<=cap->(Instr.sliceBounds true xs.length cap (lo.map a.eval) (hi.map a.eval) none).run P g.w=.ok (l,h,cap) g.w:=by
   intro cap cY;rcases hl with⟨e1,e2⟩|⟨p,k,e1,hk⟩
   ·rcases ga with⟨e3,e4⟩|⟨q,k',e3,pF⟩
    ·subst e1 e2 e3 e4;simp[Instr.sliceBounds]
    subst e1 e2 e3;have:=run_sliceBound (P:=P) k' h cap .sliceAcap g.w (by omega) (by omega);simp[Instr.sliceBounds,pF,this]
   rcases ga with⟨e3,e4⟩|⟨q,k',e3,pF⟩
   ·subst e1 e3 e4;have:=run_sliceBound (P:=P) k l xs.length .sliceB g.w (by omega) (by omega);simp[Instr.sliceBounds,hk,this]
   subst e1 e3;have e1:=run_sliceBound (P:=P) k' h cap .sliceAcap g.w (by omega) (by omega);have e2:=run_sliceBound (P:=P) k l h .sliceB g.w (by omega) (by omega);simp[Instr.sliceBounds,hk,pF,e1,e2]
  have lp:=(hT e te he).sizeOf g.w;rcases iL.fL with⟨q1,q2⟩|⟨ad,cap,f,q1,oO,dv,cY,cE,hs,hm,hr,_⟩
  ·subst q2;have b:=bounds 0 (by simp);simp at h2;subst h2;have:l=0:=by omega
   subst this;refine⟨.slice none 0 0,?_,.nil (fun id e=>by cases e) (by simp)⟩;rw[c8];simp only[List.length_nil]at b;simp[Instr.sliceAt,run_underlying hu,Instr.slice,q1,lp,b]
  obtain⟨b0,Wm,sp⟩:=ad;have hlen:((xs.take h).drop l).length=h-l:=by simp;omega
  subst cP;by_cases gK:cap=l
  ·-- the cut is empty and keeps the address
   have e1:l=xs.length:=by omega
   have e2:h=xs.length:=by omega
   subst gK;subst e2;have b:=bounds cap cY;refine⟨.slice (some ⟨b0,Wm,sp⟩) (xs.length-cap) (cap-cap),?_,?_⟩
   ·rw[c8];simp[Instr.sliceAt,run_underlying hu,Instr.slice,q1,b,lp]
   have ON:(xs.take xs.length).drop cap=[]:=by simp;omega
   rw[ON];have h0:xs.length-cap=0:=by omega
   rw[h0];exact .aC (by simp) (by simp) (by simp) (by simp) (by simp) f (by simp[au]) (by simp[au]) trivial
  have b:=bounds cap cY;refine⟨.slice (some ((⟨b0,Wm,sp⟩:Addr).add (l*te.size))) (h-l) (cap-l),?_,?_⟩
  ·rw[c8];simp[Instr.sliceAt,run_underlying hu,Instr.slice,q1,b,lp,gK]
  rw[<-hlen];have fX:∀y,y∈(xs.take h).drop l->y∈xs:=fun y hy=>List.mem_of_mem_take (List.mem_of_mem_drop hy);by_cases ct:xs=[]
  ·subst ct;simp only[List.take_nil,List.drop_nil];exact .aC (by simp) (by simp) (by simp) (by simp) (by simp) f (by simp[au]) (by simp[au]) trivial
  have nW:=hs ct;simp only at nW;subst nW;rw[addr_add];refine .aC (fun y hy=>oO y (fX y hy)) (fun y hy=>dv y (fX y hy)) (by rw[hlen];omega) (by rw[hlen];omega) (fun _=>rfl) (fun j=>f (l*te.size+j)) (fun j c hj=>?_) (fun j c hj=>?_) trivial
  ·have:=hm _ c (Gg oO l h j c hj);simpa[Nat.add_assoc]using this
  exact hr _ c (Gg oO l h j c hj)
def ae.bk:ae->ae
 | .aC sz xs _=>.aC sz xs .sh
 | x=>x
def ae.share:ae->ae
 | .aC sz xs _=>.aC sz xs .sh
 | .agg cs=>.agg (cs.map ae.bk)
 | x=>x
theorem RV.bk{g:G}{x:ae}{u:Value}(h:RV g x u):RV g x.bk u:=by
 unfold ae.bk;split
 ·exact h.sX
 exact h
theorem ae.eY{x:ae}(h:x.scalar):x.bk.scalar:=by
 cases x<;>first|exact h|trivial
theorem RV.share{g:G}{x:ae}{u:Value}(h:RV g x u):RV g x.share u:=by
 unfold ae.share;split
 ·exact h.sX
 ·obtain⟨vs,e,hl,dv,hh⟩:=h.zC;subst e;refine .agg (by simpa using hl) (fun c hc=>?_) (fun i c w h1 h2=>?_)
  ·rw[List.mem_map]at hc;obtain⟨c',h1,h2⟩:=hc;subst h2;exact ae.eY (dv c' h1)
  rw[List.getElem?_map,Option.map_eq_some_iff]at h1;obtain⟨c',h3,h4⟩:=h1;subst h4;exact(hh i c' w h3 h2).bk
 exact h
def jI(g:G)(cs:List ae)(arr:Array Value):Prop:=arr.size=cs.length∧∀(j:Nat) (c:ae) (u:Value),cs[j]?=some c->arr[j]?=some u->RV g c u
theorem jI.mono{g g':G}(h:Le g g'){cs:List ae}{arr:Array Value}(k:jI g cs arr):jI g' cs arr:=⟨k.1,fun j c u a b=>(k.2 j c u a b).mono h⟩
theorem jI.agg{g:G}{cs:List ae}{arr:Array Value}(k:jI g cs arr)(dv:∀c∈cs,c.scalar):RV g (.agg cs) (.agg arr):=.agg k.1 dv k.2
theorem RV.D1{g:G}{x:ae}{u:Value}(h:RV g x u)(hs:∀c∈x.cells,c.scalar):jI g x.cells u.cells:=h.cells hs
def ae.flat:ae->Prop
 | .cD _=>False
 | _=>True
theorem RV.ji{g:G}{x:ae}{u:Value}(h:RV g x u)(hx:x.flat):∀c∈x.cells,c.scalar:=by
 cases h with
 | agg hl dv hh=>exact dv
 | cD=>exact hx.elim
 | _=>intro c hc;simp only[ae.cells,List.mem_singleton]at hc;subst hc;trivial
def bo(cs:List ae)(off:Nat)(xs:List ae):List ae:=cs.take off++(xs++cs.drop (off+xs.length))
theorem gz{cs:List ae}{off:Nat}{xs:List ae}(h:off+xs.length<=cs.length):(bo cs off xs).length=cs.length:=by
 simp[bo];omega
theorem nL{cs:List ae}{off:Nat}{xs:List ae}(h:off+xs.length<=cs.length)(k:Nat) :
  (bo cs off xs)[k]?=if off<=k∧k<off+xs.length then xs[k-off]? else cs[k]?:=by
 simp only[bo];rw[List.getElem?_append,List.getElem?_append,List.getElem?_take,List.getElem?_drop];have hl:(cs.take off).length=off:=by simp;omega
 rw[hl];by_cases h1:k<off
 ·rw[if_pos h1,if_pos h1,if_neg (by omega)]
 rw[if_neg h1];by_cases h2:k-off<xs.length
 ·rw[if_pos h2,if_pos (by omega)]
 rw[if_neg h2,if_neg (by omega)];congr 1;omega
theorem yw(off:Nat):∀(vs:List Value) (n:Nat) (arr:Array Value),off+n+vs.length<=arr.size->∀k,((vs.zipIdx n).foldl (fun cs p=>cs.setIfInBounds (off+p.2) p.1) arr).size=arr.size ∧
  ((vs.zipIdx n).foldl (fun cs p=>cs.setIfInBounds (off+p.2) p.1) arr)[k]?=if off+n<=k∧k<off+n+vs.length then vs[k-(off+n)]? else arr[k]?
 | [],n,arr,_,k=>by
  refine⟨rfl,?_⟩;rw[if_neg (by simp only[List.length_nil];omega)];rfl
 | v::vs,n,arr,h,k=>by
  simp only[List.length_cons]at h;obtain⟨h1,h2⟩:=yw off vs (n+1) (arr.setIfInBounds (off+n) v) (by rw[Array.size_setIfInBounds];omega) k;simp only[List.zipIdx_cons,List.foldl_cons];refine⟨h1.trans (by simp),?_⟩;rw[h2];simp only[List.length_cons];by_cases e1:off+(n+1)<=k∧k<off+(n+1)+vs.length
  ·rw[if_pos e1,if_pos (by omega),show k-(off+n)=(k-(off+(n+1)))+1 by omega];simp
  rw[if_neg e1];by_cases e2:k=off+n
  ·subst e2;rw[if_pos (by omega),Nat.sub_self];rw[Array.getElem?_setIfInBounds_self_of_lt (by omega)];rfl
  rw[if_neg (by omega),Array.getElem?_setIfInBounds_ne (by omega)]
def jo(place:Nat->Option (Nat×Nat)):List ae->List (Nat×ae)->Option (List ae)
 | cs,[]=>some cs
 | cs,(i,x)::r =>
  match place i with
  | none=>none
  | some (off,size)=>if x.cells.length=size∧off+size<=cs.length then jo place (bo cs off x.cells) r else none
inductive DI(g:G):List (Nat×ae)->List (Nat×Value)->Prop
 | nil:DI g [] []
 | cons {i:Nat} {x:ae} {u:Value} {ps:List (Nat×ae)} {vs:List (Nat×Value)} (h:RV g x u) (hf:x.flat) (r:DI g ps vs):DI g ((i,x)::ps) ((i,u)::vs)
theorem pz{g:G}(place:Nat->Option (Nat×Nat)){ps:List (Nat×ae)}{vs:List (Nat×Value)}(hp:DI g ps vs):∀{cs cs':List ae} {arr:Array Value},jI g cs arr->jo place cs ps=some cs' ->
  ∃ck,Instr.fill place arr vs=some ck∧jI g cs' ck∧((∀c∈cs,c.scalar)->∀c∈cs',c.scalar):=by
 induction hp with
 | nil =>
  intro cs cs' arr h e;simp only[jo,Option.some.injEq]at e;subst e;exact⟨arr,rfl,h,fun h=>h⟩
 | cons hx hf r ih =>
  rename_i i x u ps vs;intro cs cs' arr h e;simp only[jo]at e;cases tH:place i with
  | none=>simp[tH]at e
  | some p =>
   obtain⟨off,size⟩:=p;simp only[tH]at e;split at e
   ·rename_i hc;obtain⟨lL,M5⟩:=hc;have fS:=hx.ji hf;obtain⟨q1,q2⟩:=hx.D1 fS;have cP:off+0+u.cells.toList.length<=arr.size:=by
     simp only[Array.length_toList,q1,lL,h.1];omega
    have iw:=yw off u.cells.toList 0 arr cP;have vZ:jI g (bo cs off x.cells) (u.cells.zipIdx.foldl (fun cs p=>cs.setIfInBounds (off+p.2) p.1) arr):=by
     have yD:u.cells.zipIdx.foldl (fun cs p=>cs.setIfInBounds (off+p.2) p.1) arr=(u.cells.toList.zipIdx 0).foldl (fun cs p=>cs.setIfInBounds (off+p.2) p.1) arr:=by
      rw[<-Array.foldl_toList];congr 1;simp[Array.toList_zipIdx]
     rw[yD];refine⟨?_,fun j c w hj hw=>?_⟩
     ·rw[(iw 0).1,gz (by omega),h.1]
     rw[(iw j).2]at hw;rw[nL (by omega)]at hj;simp only[Nat.add_zero,Array.length_toList,q1]at hw;by_cases tD:off<=j∧j<off+x.cells.length
     ·rw[if_pos tD]at hj hw;exact q2 _ c w hj (by simpa using hw)
     rw[if_neg tD]at hj hw;exact h.2 j c w hj hw
    obtain⟨ck,e1,e2,e3⟩:=ih vZ e;refine⟨ck,?_,e2,fun cz=>e3 fun c hc=>?_⟩
    ·simp only[Instr.fill,tH];rw[if_neg (by simp[q1,lL,h.1];omega)];exact e1
    simp only[bo,List.mem_append]at hc;rcases hc with hc|hc|hc
    ·exact cz c (List.mem_of_mem_take hc)
    ·exact fS c hc
    exact cz c (List.mem_of_mem_drop hc)
   cases e
def St.fA(σ:St):List (Nat×Operand)->Option (List (Nat×ae))
 | []=>some []
 | (i,x)::r =>
  match σ.ev x,σ.fA r with
  | some y,some ys=>some ((i,y)::ys)
  | _,_=>none
theorem km{σ:St}{a:Act}{g:G}:∀{parts:List (Nat×Operand)} {ps:List (Nat×ae)},(∀x∈parts.map (·.2),∀y,σ.ev x=some y->RV g y (a.eval x))->σ.fA parts=some ps->(∀p∈ps,p.2.flat) ->
  DI g ps (parts.map fun p=>(p.1,a.eval p.2))
 | [],ps,_,h,_=>by
  simp only[St.fA,Option.some.injEq]at h;subst h;exact .nil
 | (i,x)::r,ps,mU,h,hf=>by
  simp only[St.fA]at h;cases hx:σ.ev x with
  | none=>simp[hx]at h
  | some y =>
   cases hr:σ.fA r with
   | none=>simp[hx,hr]at h
   | some ys =>
    simp only[hx,hr,Option.some.injEq]at h;subst h;exact .cons (mU x (by simp) y hx) (hf (i,y) (List.mem_cons_self)) (km (fun z hz=>mU z (by simp only[List.map_cons,List.mem_cons];exact .inr hz)) hr fun p hp=>hf p (List.mem_cons_of_mem _ hp))
def ju(aT:eZ):List (Nat×TypeId)->Option (List (Nat×Nat))
 | []=>some []
 | (off,t)::r =>
  match aT t,ju aT r with
  | some ti,some ps=>some ((off,ti.size)::ps)
  | _,_=>none
theorem tR{P:Program}{aT:eZ}(hT:b6 P aT):∀{fields:List Field} {ps:List (Nat×Nat)},ju aT (fields.map fun f=>(f.offset,f.type))=some ps ->
  fields.mapM (fun f=>(P.info? f.type).map fun i=>(f.offset,i.size))=some ps
 | [],ps,h=>by
  simp only[List.map_nil,ju,Option.some.injEq]at h;subst h;rfl
 | f::r,ps,h=>by
  simp only[List.map_cons,ju]at h;cases ht:aT f.type with
  | none=>simp[ht]at h
  | some ti =>
   cases hr:ju aT (r.map fun f=>(f.offset,f.type))with
   | none=>simp[ht,hr]at h
   | some qs =>
    simp only[ht,hr,Option.some.injEq]at h;subst h;obtain⟨⟨i,z,h1,h2,_⟩,_⟩:=hT _ _ ht;have ih:=tR hT hr;simp only[List.mapM_cons,h1,Option.map_some,ih];simp[h2]
theorem D4{P:Program}{aT:eZ}(hT:b6 P aT){o:Oper}{σ:St}{t:TypeId}{parts:Array (Nat×Operand)}{ti:cf}{fs:List (Nat×TypeId)}{AF:List (Nat×Nat)}{ps:List (Nat×ae)}{cs:List ae}
  (ho:o.op=.build t parts) (hd:∀d,o.dst=some d->d<σ.n) (ht:aT t=some ti) (aU:ti.desc=.struct fs) (tH:ju aT fs=some AF) (yF:σ.fA parts.toList=some ps) (gL:∀p∈ps,p.2.flat)
  (fS:jo (fun i=>AF[i]?) ti.zero ps=some cs):Cert P o σ (.agg cs) .pure :=
 Cert.bT .pure (.inl rfl) hd fun a g _ h _=>by
  have bN:=km (a:=a) (g:=g) (fun x hx y hy=>h x (by simpa[ho,Op.operands]using hx) y hy) yF gL;obtain⟨⟨i,z,h1,h2,h3,h4,h5,h6,h7,h8,h9⟩,d,yA,Xs⟩:=hT t ti ht;rw[aU]at Xs;obtain⟨fields,e1,e2⟩:=Xs;subst e1;obtain⟨ck,q1,q2,q3⟩:=pz (fun i=>AF[i]?) bN (cs:=ti.zero) (arr:=z.cells) ⟨h5,h8 g⟩ fS;have hp:=tR hT (fields:=fields.toList) (ps:=AF) (by rw[e2];exact tH);have hb:P.built t (parts.map fun(i,x)=>(i,a.eval x)).toList=some ck:=by
   unfold Program.built;simp only[h1,yA,h4,hp];rw[Array.toList_map];simpa using q1
  have bJ:=run_build g.w t _ ck hb;exact⟨.agg ck,by simp[execOp,ho,bJ],q2.agg (q3 h9)⟩
theorem RV.newRow{g:G}(hg:Good g){xs:List ae}{sz:Nat}{arr:Array Value}{t:TypeId}(cP:∀x∈xs,x.cells.length=sz)(dv:∀x∈xs,∀c∈x.cells,c.scalar)(cE:xs.length<=2 ^ 62)
  (hr:jI g (au xs) arr):RV (g.push (.cells arr t)) (.aC sz xs .ex) (.slice (some ⟨g.w.heap.size,0,none⟩) xs.length xs.length):=by
 have hle:=Le.push g hg (.cells arr t);have Z2:=hg.push (.cells arr t);refine .aC cP dv (Nat.le_refl _) cE (fun _=>rfl) (fun j=>arr.getD j undef) (fun j c hj=>?_) (fun j c hj=>?_) rfl
 ·have bg:=I hj;rw[<-hr.1]at bg;refine⟨?_,?_⟩
  ·simp only[G.cell,G.push,Nat.zero_add];rw[cell_of_row (cM _ _)];simp[Array.getD_eq_getD_getElem?,bg]
  rintro(hf|⟨id,l,o,h1,h2,h3,h4,_⟩)
  ·have fC:g.fr g.w.heap.size (0+j):=hf;have:=hg.frlt _ _ fC;omega
  have:=hg.loc id l o h1 h2 h3;have Zr:l.block=g.w.heap.size:=h4;omega
 have bg:=I hj;rw[<-hr.1]at bg;exact(hr.2 j c _ hj (by simp[Array.getD_eq_getD_getElem?,bg])).mono hle
theorem sN{sz:Nat}:∀(ys:List ae) (k:Nat) (cs cs':List ae),jo (fun i=>some (i*sz,sz)) cs ((ys.zipIdx k).map fun p=>(p.2,p.1))=some cs'->(k+ys.length)*sz<=cs.length ->
  cs'=cs.take (k*sz)++(au ys++cs.drop ((k+ys.length)*sz))∧∀y∈ys,y.cells.length=sz
 | [],k,cs,cs',h,hl=>by
  simp only[List.zipIdx_nil,List.map_nil,jo,Option.some.injEq]at h;subst h;simp[au]
 | y::ys,k,cs,cs',h,hl=>by
  simp only[List.zipIdx_cons,List.map_cons,jo]at h;split at h
  ·rename_i hc;obtain⟨lL,M5⟩:=hc;have Bh:(k+1+ys.length)*sz<=(bo cs (k*sz) y.cells).length:=by
    rw[gz (by omega)];simp only[List.length_cons]at hl;rw[show k+1+ys.length=k+(ys.length+1) by omega];exact hl
   obtain⟨e1,e2⟩:=sN ys (k+1) _ cs' h Bh;refine⟨?_,fun z hz=>?_⟩
   ·rw[e1];apply List.ext_getElem?;intro j;simp only[List.length_cons]at hl ⊢;have Gx:(k+1)*sz=k*sz+sz:=Nat.succ_mul k sz;have nW:(bo cs (k*sz) y.cells).take ((k+1)*sz)=cs.take (k*sz)++y.cells:=by
     simp only[bo];rw[Gx,List.take_append];have hlen:(cs.take (k*sz)).length=k*sz:=by simp;omega
     have V4:(cs.take (k*sz)).take (k*sz+sz)=cs.take (k*sz):=List.take_of_length_le (by omega);rw[hlen,V4,show k*sz+sz-k*sz=sz by omega,List.take_append,List.take_of_length_le (Nat.le_of_eq lL),lL,Nat.sub_self];simp
    have hdr:(bo cs (k*sz) y.cells).drop ((k+1+ys.length)*sz)=cs.drop ((k+(ys.length+1))*sz):=by
     simp only[bo];have hlen:(cs.take (k*sz)).length=k*sz:=by simp;omega
     have hmul:(k+1+ys.length)*sz=k*sz+sz+ys.length*sz:=by rw[Nat.add_mul,Gx]
     have VB:(k+(ys.length+1))*sz=k*sz+sz+ys.length*sz:=by rw[Nat.add_mul,Nat.succ_mul];omega
     have sQ:(cs.take (k*sz)).drop (k*sz+sz+ys.length*sz)=[]:=List.drop_of_length_le (by rw[hlen];omega);have pE:y.cells.drop (k*sz+sz+ys.length*sz-k*sz)=[]:=List.drop_of_length_le (by omega);rw[hmul,VB,List.drop_append,sQ,hlen,List.nil_append,List.drop_append,pE,List.nil_append,List.drop_drop,lL];congr 1;omega
    rw[nW,hdr];simp[au,List.append_assoc]
   rcases List.mem_cons.1 hz with hz|hz
   ·subst hz;exact lL
   exact e2 z hz
  cases h
def hU:Nat->List (Nat×ae)->Option (List ae)
 | _,[]=>some []
 | k,(i,x)::r =>
  if i=k then
   match hU (k+1) r with
   | some xs=>some (x::xs)
   | none=>none
  else none
theorem pd:∀{ps:List (Nat×ae)} {k:Nat} {xs:List ae},hU k ps=some xs->ps=(xs.zipIdx k).map fun p=>(p.2,p.1)
 | [],k,xs,h=>by
  simp only[hU,Option.some.injEq]at h;subst h;rfl
 | (i,x)::r,k,xs,h=>by
  simp only[hU]at h;split at h
  ·rename_i hi;subst hi;cases hr:hU (i+1) r with
   | none=>simp[hr]at h
   | some ys =>
    simp only[hr,Option.some.injEq]at h;subst h;simp[pd hr]
  cases h
theorem ae.lS(x:ae):x.share.cells=x.cells.map ae.bk:=by
 cases x<;>rfl
theorem jI.du{g:G}{cs:List ae}{arr:Array Value}(h:jI g cs arr):jI g (cs.map ae.bk) arr :=
 ⟨by simpa using h.1,fun j c u h1 h2=>by
  rw[List.getElem?_map,Option.map_eq_some_iff]at h1;obtain⟨c',h3,h4⟩:=h1;subst h4;exact(h.2 j c' u h3 h2).bk⟩
theorem fO(xs:List ae):au (xs.map ae.share)=(au xs).map ae.bk:=by
 induction xs with
 | nil=>rfl
 | cons y ys ih =>
  simp only[au,List.map_cons,List.flatMap_cons,List.map_append,ae.lS]at ih ⊢;rw[ih]
theorem ug{P:Program}{aT:eZ}(hT:b6 P aT){o:Oper}{σ:St}{t e:TypeId}{len:Nat}{parts:Array (Nat×Operand)}{ti te:cf}{ps:List (Nat×ae)}{xs:List ae}
  (ho:o.op=.buildSlice t len parts) (hd:∀d,o.dst=some d->d<σ.n) (ht:aT t=some ti) (aU:ti.desc=.slice e) (he:aT e=some te) (oN:0<te.size) (yF:σ.fA parts.toList=some ps) (gL:∀p∈ps,p.2.flat)
  (K3:hU 0 ps=some xs) (hlen:xs.length=len) (cP:∀x∈xs,x.cells.length=te.size) (VY:len*te.size<=2 ^ 24):Cert P o σ (.aC te.size (xs.map ae.share) .ex) .pure :=
 Cert.iZ hd fun base fY a g bN h _=>by
  have hg:=bN.good;have xm:=km (a:=a) (g:=g) (fun x hx y hy=>h x (by simpa[ho,Op.operands]using hx) y hy) yF gL;have hu:=bV hT ht aU;obtain⟨⟨i,z,h1,h2,h3,h4,h5,h6,h7,h8,h9⟩,_⟩:=hT e te he;have rL:=pd K3;have dv:∀x∈xs,∀c∈x.cells,c.scalar:=by
   have aux:∀{ps:List (Nat×ae)} {vs:List (Nat×Value)},DI g ps vs->∀p∈ps,∀c∈p.2.cells,c.scalar:=by
    intro ps vs hr;induction hr with
    | nil=>intro p hp;cases hp
    | cons hx hf r ih =>
     intro p hp;rcases List.mem_cons.1 hp with hp|hp
     ·subst hp;exact hx.ji hf
     exact ih p hp
   intro x hx c hc;have fX:∃k,(k,x)∈ps:=by
    obtain⟨k,hk⟩:=List.getElem?_of_mem hx;refine⟨0+k,?_⟩;rw[rL,List.mem_map];refine⟨(x,0+k),?_,rfl⟩;rw[List.mem_iff_getElem?];exact⟨k,by simp[hk]⟩
   obtain⟨k,hk⟩:=fX;exact aux xm _ hk c hc
  by_cases hz:len=0
  ·subst hz;have wq:xs=[]:=List.length_eq_zero_iff.1 hlen;subst wq;have YE:ps=[]:=by rw[rL];rfl
   subst YE;have VL:parts.toList=[]:=by
    cases hp:parts.toList with
    | nil=>rfl
    | cons p r =>
     obtain⟨i,x⟩:=p;rw[hp]at yF;simp only[St.fA]at yF;cases hx:σ.ev x with
     | none=>simp[hx]at yF
     | some y =>
      cases hr:σ.fA r with
      | none=>simp[hx,hr]at yF
      | some ys=>simp[hx,hr]at yF
   have SD:parts = #[]:=Array.toList_eq_nil_iff.1 VL;subst SD;refine⟨.slice (some ⟨g.w.heap.size,0,none⟩) 0 0,g.push (.cells #[] e),.inl ?_,Le.push g hg _,hg.push _,rfl,?_⟩
   ·have er:Array.range 0 = #[]:=rfl;simp[execOp,ho,Instr.buildSlice,run_underlying hu,Go.sizeOf,typeInfo,h1,Instr.fill,Go.newRow,G.push,er]
   exact RV.newRow (xs:=[]) hg (by simp) (by simp) (by simp) ⟨by simp[au],by simp[au]⟩
  have ct:¬len*i.size=0:=by
   rw[h2];intro e0;rcases Nat.mul_eq_zero.1 e0 with q|q<;>omega
  obtain⟨zs,Am⟩:∃zs:Array Value,zs=(Array.range (len*i.size)).map (z.cells[· % z.cells.size]!):=⟨_,rfl⟩
  have E3:zs.size=len*te.size:=by rw[Am];simp[h2]
  obtain⟨zc,Wg,Jj,Al⟩:∃zc:List ae,(∀c∈zc,c.scalar)∧jI g zc zs∧zc.length=len*te.size:=by
   refine⟨(List.range (len*te.size)).map fun j=>te.zero.getD (j % te.size) (.v (.bool false)),fun c hc=>?_,⟨by simp[E3],fun j c u hj OI=>?_⟩,by simp⟩
   ·rw[List.mem_map]at hc;obtain⟨j,_,e⟩:=hc;subst e;have bg:j % te.size<te.zero.length:=by rw[h6];exact Nat.mod_lt _ oN
    rw[List.getD_eq_getElem?_getD,List.getElem?_eq_getElem bg];exact h9 _ (List.getElem_mem bg)
   have jc:=I hj;simp only[List.length_map,List.length_range]at jc;rw[List.getElem?_map,List.getElem?_range jc]at hj;simp only[Option.map_some,Option.some.injEq]at hj;subst hj;have bg:j % te.size<te.zero.length:=by rw[h6];exact Nat.mod_lt _ oN
   have kF:j % te.size<z.cells.size:=by rw[h5];exact bg
   rw[Am]at OI;simp only[Array.getElem?_map,h2,Array.getElem?_range,if_pos jc,Option.map_some,Option.some.injEq]at OI;subst OI;rw[List.getD_eq_getElem?_getD,List.getElem?_eq_getElem bg];refine h8 g (j % te.size) _ _ (List.getElem?_eq_getElem bg) ?_;rw[h5,h6];simp[kF]
  have KH:∃cs',jo (fun i=>some (i*te.size,te.size)) zc ps=some cs':=by
   have aux:∀(ys:List ae) (k:Nat) (cs:List ae),(∀y∈ys,y.cells.length=te.size)->(k+ys.length)*te.size<=cs.length->∃cs',jo (fun i=>some (i*te.size,te.size)) cs ((ys.zipIdx k).map fun p=>(p.2,p.1))=some cs':=by
    intro ys;induction ys with
    | nil=>intro k cs _ _;exact⟨cs,rfl⟩
    | cons y ys ih =>
     intro k cs hy hl;simp only[List.zipIdx_cons,List.map_cons,jo];simp only[List.length_cons]at hl;have Gx:(k+1)*te.size=k*te.size+te.size:=Nat.succ_mul k te.size;have GA:(k+1)*te.size<=(k+(ys.length+1))*te.size:=Nat.mul_le_mul_right _ (by omega);have hc:y.cells.length=te.size∧k*te.size+te.size<=cs.length:=⟨hy y (by simp),by omega⟩
     rw[if_pos hc];refine ih (k+1) _ (fun z hz=>hy z (List.mem_cons_of_mem _ hz)) ?_;rw[gz (by omega),show k+1+ys.length=k+(ys.length+1) by omega];exact hl
   rw[rL];exact aux xs 0 zc cP (by rw[Al,hlen,Nat.zero_add];exact Nat.le_refl _)
  obtain⟨cs',EK⟩:=KH;obtain⟨ck,q1,q2,_⟩:=pz (fun i=>some (i*te.size,te.size)) xm Jj EK;obtain⟨e1,_⟩:=sN xs 0 zc cs' (by rw[<-rL];exact EK) (by rw[Al,hlen,Nat.zero_add];exact Nat.le_refl _);have e2:cs'=au xs:=by
   rw[e1];simp only[Nat.zero_mul,List.take_zero,List.nil_append,Nat.zero_add];rw[List.drop_of_length_le (by rw[Al,hlen];omega),List.append_nil]
  subst e2;have bJ:(Instr.buildSlice t len (parts.map fun(i,x)=>(i,a.eval x))).run P g.w=.ok (.slice (some ⟨g.w.heap.size,0,none⟩) len len) (g.w.alloc (.cells ck e)):=by
   have xI:¬len*i.size > 2 ^ 24:=by rw[h2];omega
   rw[Am,<-h2]at q1;have Rl:Instr.fill (fun Y1=>some (Y1*i.size,i.size)) ((Array.range (len*i.size)).map (z.cells[· % z.cells.size]!)) (parts.map fun(i,x)=>(i,a.eval x)).toList=some ck:=by
    rw[Array.toList_map];exact q1
   simp only[Instr.buildSlice,run_underlying hu,Go.sizeOf,typeInfo,Go.zeroValue,Sem.run_bind,run_program,Result.andThen_ok,h1,Sem.run_pure,Go.newRow];rw[if_neg xI,if_neg ct];simp only[Sem.run_bind,Sem.run_pure,Result.andThen_ok,run_program,h1,h4,Rl,run_newObj];rfl
  refine⟨.slice (some ⟨g.w.heap.size,0,none⟩) len len,g.push (.cells ck e),.inl (by simp[execOp,ho,bJ,G.push]),Le.push g hg _,hg.push _,rfl,?_⟩;have:=RV.newRow (xs:=xs.map ae.share) (sz:=te.size) (arr:=ck) (t:=e) hg (fun x hx=>by
   rw[List.mem_map]at hx;obtain⟨y,h1,h2⟩:=hx;subst h2;rw[ae.lS,List.length_map];exact cP y h1) (fun x hx c hc=>by
   rw[List.mem_map]at hx;obtain⟨y,h1,h2⟩:=hx;subst h2;rw[ae.lS,List.mem_map]at hc;obtain⟨c',h3,h4⟩:=hc;subst h4;exact ae.eY (dv y h1 c' h3)) (by
    simp only[List.length_map,hlen];have:len<=len*te.size:=Nat.le_mul_of_pos_right _ oN;omega) (by rw[fO];exact q2.du)
  rw[List.length_map,hlen]at this;exact this
end Go.Av
namespace Go.Av
theorem ff{g:G}{o:aj}:(g.objs++[o])[g.objs.length]?=some o:=by simp
theorem iJ{g:G}(hg:Good g){l:Option Loc}:(g.env++[l])[g.objs.length]?=some l:=by
 rw[<-hg.len];simp
theorem JN{P:Program}{o:Oper}{σ:St}{t:TypeId}{x:Operand}{y:ae}(ho:o.op=.box t x)(hd:∀d,o.dst=some d->d<σ.n)(hx:σ.ev x=some y)(hf:y.flat) :
  Cert P o σ (.mp σ.objs.length 0) (.write (σ.objs++[.cells y.cells])) :=
 Cert.iZ hd fun base fY a g bN h je=>by
  have hO:g.objs=σ.objs:=je.resolve_left (by simp);have hg:=bN.good;have iL:=h x (by simp[ho,Op.operands]) _ hx;have dv:=iL.ji hf;have rM:=iL.D1 dv;have hle:=Le.alloc hg (.cells (a.eval x).cells t) 0 (.cells y.cells);refine⟨.pointer (some ⟨g.w.heap.size,0,none⟩),g.alloc (.cells (a.eval x).cells t) 0 (.cells y.cells),.inl ?_,hle,Good.alloc hg _ 0 _ (.inr rfl) ⟨_,t,rfl,by rw[rM.1];exact Nat.le_refl _,(rM.mono hle).2,dv⟩,?_,?_⟩
  ·simp[execOp,ho,Instr.box,Go.newVar,Go.newRow,G.alloc]
  ·simp[G.alloc,hO,Mode.post]
  rw[<-hO];exact .mp (l:=⟨g.w.heap.size,0,_⟩) (iJ hg) ff (by simp[aj.aF])
theorem D3{P:Program}{aT:eZ}(hT:b6 P aT){o:Oper}{σ:St}{t:TypeId}{ti:cf}(ho:o.op=.alloc t)(hd:∀d,o.dst=some d->d<σ.n)(ht:aT t=some ti) :
  Cert P o σ (.mp σ.objs.length 0) (.write (σ.objs++[.cells ti.zero])) :=
 Cert.iZ hd fun base fY a g bN h je=>by
  have hO:g.objs=σ.objs:=je.resolve_left (by simp);have hg:=bN.good;obtain⟨z,hz,h5,_,_,h8,h9⟩:=(hT t ti ht).zeroValue;have hle:=Le.alloc hg (.cells z.cells t) 0 (.cells ti.zero);refine⟨.pointer (some ⟨g.w.heap.size,0,none⟩),g.alloc (.cells z.cells t) 0 (.cells ti.zero),.inl ?_,hle,Good.alloc hg _ 0 _ (.inr rfl) ⟨_,t,rfl,by rw[h5];exact Nat.le_refl _,fun j c u a b=>h8 _ j c u a b,h9⟩,?_,?_⟩
  ·simp[execOp,ho,Instr.alloc,hz,Go.newVar,Go.newRow,G.alloc]
  ·simp[G.alloc,hO,Mode.post]
  rw[<-hO];exact .mp (l:=⟨g.w.heap.size,0,_⟩) (iJ hg) ff (by simp[aj.aF])
theorem zO{P:Program}{o:Oper}{σ:St}{t:TypeId}(kt:KT)(hp:kt.plain)(ho:o.op=.makeMap t none)(hd:∀d,o.dst=some d->d<σ.n) :
  Cert P o σ (.mm σ.objs.length) (.write (σ.objs++[.map kt []])) :=
 Cert.iZ hd fun base fY a g bN h je=>by
  have hO:g.objs=σ.objs:=je.resolve_left (by simp);have hg:=bN.good;have hle:=Le.alloc hg (.map #[] 0) 0 (.map kt []);refine⟨.map (some g.w.heap.size),g.alloc (.map #[] 0) 0 (.map kt []),.inl ?_,hle,Good.alloc hg _ 0 _ (.inr rfl) (tp.mok ⟨#[],0,rfl,rfl,by simp,by simp,⟨by simp,by simp⟩⟩ hp),?_,?_⟩
  ·simp[execOp,ho,Instr.makeMap,G.alloc]
  ·simp[G.alloc,hO,Mode.post]
  rw[<-hO];exact .mm (l:=⟨g.w.heap.size,0,_⟩) (iJ hg) ff (by simp[aj.aF])
theorem pQ(z:List ae)(hz:0<z.length):∀(m j:Nat) (c:ae),(List.replicate m z).flatten[j]?=some c->z[j % z.length]?=some c
 | 0,j,c=>by simp
 | m+1,j,c=>by
  intro hj;rw[List.replicate_succ,List.flatten_cons,List.getElem?_append]at hj;split at hj
  ·rename_i bg;rw[Nat.mod_eq_of_lt bg];exact hj
  rename_i qj;have:=pQ z hz m _ c hj;rw[Nat.mod_eq_sub_mod (by omega)];exact this
theorem vB{P:Program}{aT:eZ}(hT:b6 P aT){o:Oper}{σ:St}{t e:TypeId}{x y:Operand}{ti te:cf}{k k':IntKind}{n:Int}
  (ho:o.op=.makeSlice t x y) (hd:∀d,o.dst=some d->d<σ.n) (ht:aT t=some ti) (aU:ti.desc=.slice e) (he:aT e=some te) (hx:σ.ev x=some (.v (.int k n))) (hy:σ.ev y=some (.v (.int k' n)))
  (h0:0<=n) (hb:te.bytes*n.toNat<=2 ^ 48) (QQ:n.toNat<=2 ^ 62) (hs:0<te.size) :
  Cert P o σ (.ms σ.objs.length 0 n.toNat n.toNat) (.write (σ.objs++[.cells (List.replicate n.toNat te.zero).flatten])) :=
 Cert.iZ hd fun base fY a g bN h je=>by
  have hO:g.objs=σ.objs:=je.resolve_left (by simp);have hg:=bN.good;have ex:=(h x (by simp[ho,Op.operands]) _ hx).cb.1;have ey:=(h y (by simp[ho,Op.operands]) _ hy).cb.1;have hu:=bV hT ht aU;obtain⟨⟨i,z,h1,h2,h3,h4,h5,h6,h7,h8,h9⟩,_⟩:=hT e te he;obtain⟨m,rfl⟩:=Int.eq_ofNat_of_zero_le h0;simp only[Int.toNat_natCast]at *;have EC:(i.bytes:Int)*(m:Int)<=281474976710656:=by
   rw[h3,<-Int.natCast_mul];omega
  have bJ:=run_make (P:=P) g.w t e i z hu h1 h4 k k' m m (by omega) (Int.le_refl _) EC (by omega);simp only[Int.toNat_natCast]at bJ;have hlen:(List.replicate m te.zero).flatten.length=m*te.size:=by simp[h6]
  have fm:∀(j:Nat) (c:ae),(List.replicate m te.zero).flatten[j]?=some c->te.zero[j % te.size]?=some c:=fun j c=>h6 ▸ pQ te.zero (by omega) m j c;have hle:=Le.alloc hg (.cells (madeCells z.cells (m*i.size)) e) 0 (.cells (List.replicate m te.zero).flatten);refine⟨.slice (some ⟨g.w.heap.size,0,none⟩) m m,g.alloc (.cells (madeCells z.cells (m*i.size)) e) 0 (.cells (List.replicate m te.zero).flatten),.inl ?_,hle,Good.alloc hg _ 0 _ (.inr rfl) ⟨_,e,rfl,?_,?_,?_⟩,?_,?_⟩
  ·simp[execOp,ho,ex,ey,bJ,G.alloc]
  ·rw[hlen,size_madeCells,h2];exact Nat.le_refl _
  ·intro j c u hj pG;have jc:=fm j c hj;have bg:=I hj;rw[hlen]at bg;have kF:j % te.size<z.cells.size:=by rw[h5];exact I jc
   refine h8 _ _ _ _ jc ?_;simp only[madeCells,Array.getElem?_map,h2,Array.getElem?_range,if_pos bg,Option.map_some,Option.some.injEq]at pG;subst pG;rw[h5,h6];simp[kF]
  ·intro c hc;rw[List.mem_flatten]at hc;obtain⟨l,hl,hc⟩:=hc;rw[List.mem_replicate]at hl;exact h9 c (hl.2 ▸ hc)
  ·simp[G.alloc,hO,Mode.post]
  rw[<-hO];exact .ms (l:=⟨g.w.heap.size,0,_⟩) (iJ hg) ff (by simp[aj.aF]) (Nat.le_refl _) (Nat.le_refl _) QQ
theorem jI.bo{g:G}{cs xs:List ae}{arr vs:Array Value}(h:cs.length<=arr.size∧∀(j:Nat)(c:ae)(u:Value),cs[j]?=some c->arr[j]?=some u->RV g c u)(k:jI g xs vs){off:Nat}(ho:off+xs.length<=cs.length) :
  (bo cs off xs).length<=(arr.toList.take off++vs.toList++arr.toList.drop (off+vs.toList.length)).toArray.size ∧
  ∀(j:Nat) (c:ae) (u:Value),(bo cs off xs)[j]?=some c->(arr.toList.take off++vs.toList++arr.toList.drop (off+vs.toList.length)).toArray[j]?=some u->RV g c u:=by
 obtain⟨h1,h2⟩:=h;obtain⟨k1,k2⟩:=k;have hl:(arr.toList.take off).length=off:=by simp;omega
 refine⟨?_,fun j c u hj hu=>?_⟩
 ·rw[gz ho];simp[k1];omega
 rw[nL ho]at hj;have pG:(arr.toList.take off++vs.toList++arr.toList.drop (off+vs.toList.length))[j]?=some u:=by simpa using hu
 rw[List.append_assoc,List.getElem?_append,hl,List.getElem?_append,Array.length_toList,k1]at pG;by_cases e1:j<off
 ·rw[if_pos e1]at pG;rw[if_neg (by omega)]at hj;rw[List.getElem?_take,if_pos e1]at pG;exact h2 j c u hj (by simpa using pG)
 rw[if_neg e1]at pG;by_cases e2:j-off<xs.length
 ·rw[if_pos e2]at pG;rw[if_pos (by omega)]at hj;exact k2 _ c u hj (by simpa using pG)
 rw[if_neg e2]at pG;rw[if_neg (by omega)]at hj;rw[List.getElem?_drop]at pG;refine h2 j c u hj ?_;rw[show off+xs.length+(j-off-xs.length)=j by omega]at pG;simpa using pG
theorem setRow_other(w:World)(b k:Nat)(cs:Array Value)(h:k≠b):(w.setRow b cs).heap[k]?=w.heap[k]?:=by
 simp only[World.setRow,Array.getElem?_modify];rw[if_neg (by omega)]
theorem setRow_size(w:World)(b:Nat)(cs:Array Value):(w.setRow b cs).heap.size=w.heap.size:=by
 simp[World.setRow]
theorem l7{g:G}{id:Nat}{cs cs':List ae}{l:Loc}(ho:g.objs[id]?=some (.cells cs))(he:g.env[id]?=some (some l))(iK:l.lo=0)(ck:Array Value):ld g id (.cells cs) (some l) (.cells cs') (g.w.setRow l.block ck) where
 obj:=ho
 os:=rfl
 tape:=rfl
 output:=rfl
 size:=by rw[setRow_size];exact Nat.le_refl _
 block:=fun k _ hk=>setRow_other _ _ _ _ (fun e=>hk l he trivial e.symm)
 cell:=fun b off x hx hb=>by
  by_cases e:b=l.block
  ·have:=hb l he trivial e.symm;omega
  rw[jL (setRow_other g.w l.block b ck e)];exact hx
 place:=fun l1 h1 _=>by
  simp only[Option.some.injEq]at h1;subst h1;exact .inr ⟨l,he,trivial,rfl,Nat.le_refl _⟩
 spare:=fun m h=>by cases h
 plain:=fun _=>⟨by simp[aj.aF],he⟩
 gone:=by simp
theorem D'{P:Program}{aT:eZ}(hT:b6 P aT){o:Oper}{σ:St}{t:TypeId}{x y:Operand}{ti:cf}{id off:Nat}{cs:List ae}{v:ae}(ho:o.op=.store t x y)(jA:o.dst=none)
  (ht:aT t=some ti) (hx:σ.ev x=some (.mp id off)) (ns:σ.objs[id]?=some (.cells cs)) (hy:σ.ev y=some v) (hf:v.flat) (cP:v.cells.length=ti.size) (hs:off+ti.size<=cs.length) :
  Cert P o σ (.v (.bool false)) (.write (σ.objs.set id (.cells (bo cs off v.cells)))) :=
 Cert.iZ (by simp[jA]) fun base fY a g bN h je=>by
  have hO:g.objs=σ.objs:=je.resolve_left (by simp);have hg:=bN.good;obtain⟨l,o1,he,h1,_,ex⟩:=(h x (by simp[ho,Op.operands]) _ hx).lu;have DD:=h y (by simp[ho,Op.operands]) _ hy;have dv:=DD.ji hf;have rM:=DD.D1 dv;have ln:g.objs[id]?=some (.cells cs):=by rw[hO];exact ns
  obtain⟨arr,t',iK,dk,hlen,fS,oJ,HS⟩:=hg.row ln he;obtain⟨ck,iY⟩:∃ck,ck=(arr.toList.take off++(a.eval y).cells.toList++arr.toList.drop (off+(a.eval y).cells.toList.length)).toArray:=⟨_,rfl⟩
  have fq:=run_storeCells_at P l.block off t' (a.eval y).cells.toList 0 arr g.w dk (by simp[rM.1];omega) (fun u hu=>by
   obtain⟨j,hj⟩:=List.getElem?_of_mem hu;have jc:(a.eval y).cells[j]?=some u:=by simpa using hj
   have bg:=aW jc;rw[rM.1]at bg;have hc:=List.getElem?_eq_getElem bg;exact((rM.2 j _ u hc jc).jb (dv _ (List.mem_of_getElem? hc))).1)
  simp only[Nat.add_zero]at fq;rw[<-iY]at fq;have eR:=l7 (cs':=bo cs off v.cells) ln he iK ck;have hle:=Le.bB hg eR;have nW:=jI.bo ⟨hlen,fS⟩ rM (off:=off) (by omega);rw[<-iY]at nW;refine⟨.bool false,g.bB id (some l) (.cells (bo cs off v.cells)) (g.w.setRow l.block ck),.inr ⟨jA,?_⟩,hle,Good.bB hg eR ?_ ?_,?_,.v trivial⟩
  ·have TR:((a.eval y).cells.size≠ti.size)=False:=by simp[rM.1,cP]
   simp[execOp,ho,ex,Instr.storeAt,Instr.sureAddr,Go.storeVar,(hT t ti ht).sizeOf,rM.1,cP,fq,G.bB]
  ·refine⟨l,ck,t',rfl,iK,?_,nW.1,fun j c u a b=>(nW.2 j c u a b).mono hle,fun c hc=>?_,?_⟩
   ·exact setRow_heap g.w l.block arr ck t' (0,0) dk
   ·simp only[bo,List.mem_append]at hc;rcases hc with hc|hc|hc
    ·exact oJ c (List.mem_of_mem_take hc)
    ·exact dv c hc
    exact oJ c (List.mem_of_mem_drop hc)
   have q:=rM.1;rw[iY];simp only[List.size_toArray,List.length_append,List.length_take,List.length_drop,Array.length_toList];omega
  ·intro l1 h1 _;simp only[Option.some.injEq]at h1;subst h1;rw[setRow_size];exact aW dk
  simp only[G.bB,Mode.post,hO]
section
variable {P:Program}
theorem iG(w w':World)(t ty e:TypeId)(i:TypeInfo)(ht:P.underlying t=some (.slice e))(hi:P.info? e=some i)(a:Addr)(oo wV n:Nat)(x:Value)(news:List Value)
  (OW:∀w,(Builtin.lenOf x).run P w=.ok n w) (Ak:(Builtin.firstCells i.size n x).run P w=.ok news.toArray w) (nV:oo+n<=wV) (fq:(storeCells (a.add (oo*i.size)) news).run P w=.ok () w') :
  (Builtin.append_ #[t,t] ty #[.slice (some a) oo wV,x]).run P w=.ok (.slice (some a) (oo+n) wV) w':=by
 simp[Builtin.append_,run_underlying ht,Go.sizeOf,typeInfo,hi,OW,nV,Ak,fq]
theorem gZ(w:World)(t ty e:TypeId)(i:TypeInfo)(z:Value)(ht:P.underlying t=some (.slice e))(hi:P.info? e=some i)(hz:i.zero=some z)(s:Option Addr)(oo wV n:Nat)(x:Value)(ix news:List Value)
  (OW:∀w,(Builtin.lenOf x).run P w=.ok n w) (Ak:(Builtin.firstCells i.size n x).run P w.drew=.ok news.toArray w.drew) (hs:(Builtin.firstCells i.size oo (.slice s oo wV)).run P w.drew=.ok ix.toArray w.drew)
  (nV:wV<oo+n) (h63:oo+n<=2 ^ 62) (a8:(oo+n)*i.bytes<=2 ^ 47) :
  (Builtin.append_ #[t,t] ty #[.slice s oo wV,x]).run P w =
   .ok (.slice (some ⟨w.heap.size,0,none⟩) (oo+n) (grownCap w (oo+n) wV e)) (w.drew.alloc (.cells (ix.toArray++news.toArray++Builtin.zeroCells z.cells (grownCap w (oo+n) wV e-(oo+n))) e)):=by
 have hn:¬(oo+n<=wV):=by omega
 have Xw:¬(9223372036854775807<((oo:Int)+(n:Int))):=by omega
 have Zs:¬(281474976710656<Builtin.nextslicecap (oo+n) wV*i.bytes):=by
  have h1:=nextslicecap_le nV;have h2:=Nat.mul_le_mul_right i.bytes h1;rw[Nat.mul_assoc]at h2;omega
 simp[Builtin.append_,run_underlying ht,Go.sizeOf,typeInfo,Go.zeroValue,hi,hz,OW,hn,Xw,Zs,Question.forced,Ak,hs,Go.newRow,grownCap];congr 2;apply Array.ext';simp[List.append_assoc]
end
theorem RV.gu{P:Program}{g:G}{sz:Nat}{xs:List ae}{o:nR}{u:Value}(h:RV g (.aC sz xs o) u):∃(ad:Option Addr) (cap:Nat) (vs:List Value),u=.slice ad xs.length cap∧(∀w,(Builtin.lenOf u).run P w=.ok xs.length w) ∧
  (∀w:World,w.heap=g.w.heap->(Builtin.firstCells sz xs.length u).run P w=.ok vs.toArray w)∧jI g (au xs) vs.toArray∧(∀x∈xs,x.cells.length=sz)∧(∀c∈au xs,c.scalar)∧vs.length=xs.length*sz:=by
 rcases h.fL with⟨e1,e2⟩|⟨a,cap,f,e1,cP,dv,_,_,hs,hm,hr,_⟩
 ·subst e1 e2;exact⟨none,0,[],rfl,fun w=>rfl,fun w _=>by simp[Builtin.firstCells],⟨by simp[au],by simp[au]⟩,by simp,by simp[au],by simp⟩
 subst e1;have hl:=bE cP;refine⟨some a,cap,(List.range (xs.length*sz)).map f,rfl,fun w=>rfl,fun w hw=>?_,⟨by simp[hl],fun j c u hj hu=>?_⟩,cP,fun c hc=>?_,by simp⟩
 ·simp only[Builtin.firstCells];refine run_loadCells w a (xs.length*sz) f fun j hj=>?_;have jc:j<(au xs).length:=by omega
  have ct:xs≠[]:=by
   intro e;subst e;simp[au]at jc
  have:=(hm j _ (List.getElem?_eq_getElem jc)).1;obtain⟨b,off,sp⟩:=a;have nW:=hs ct;simp only at nW;subst nW;rw[addr_add];simp only[World.cell?,hw];exact this
 ·have bg:=I hj;rw[hl]at bg;have pG:((List.range (xs.length*sz)).map f)[j]?=some u:=by simpa using hu
  rw[List.getElem?_map,List.getElem?_range bg]at pG;simp only[Option.map_some,Option.some.injEq]at pG;subst pG;exact hr j c hj
 simp only[au,List.mem_flatMap]at hc;obtain⟨x,hx,hc⟩:=hc;exact dv x hx c hc
theorem cL(xs ys:List ae):au (xs++ys)=au xs++au ys:=by simp[au]
theorem jI.append{g:G}{cs ds:List ae}{us vs:List Value}(h:jI g cs us.toArray)(k:jI g ds vs.toArray):jI g (cs++ds) (us++vs).toArray:=by
 obtain⟨h1,h2⟩:=h;obtain⟨k1,k2⟩:=k;simp only[List.size_toArray]at h1 k1;refine⟨by simp[h1,k1],fun j c u hj hu=>?_⟩;have pG:(us++vs)[j]?=some u:=by simpa using hu
 rw[List.getElem?_append]at hj pG;by_cases e:j<cs.length
 ·rw[if_pos e]at hj;rw[if_pos (by omega)]at pG;exact h2 j c u hj (by simpa using pG)
 rw[if_neg e]at hj;rw[if_neg (by omega),h1]at pG;exact k2 _ c u hj (by simpa using pG)
theorem RV.AM{g:G}{zs:List ae}{sz cap:Nat}{l:Loc}{arr:Array Value}{t:TypeId}{id:Nat}(hg:Good g)(cP:∀x∈zs,x.cells.length=sz)(dv:∀c∈au zs,c.scalar)(cE:zs.length<=2 ^ 62)(cY:zs.length<=cap)
  (he:g.env[id]?=some (some l)) (gp:g.objs[id]?=some (.spare zs.length)) (iK:l.lo=zs.length*sz) (dk:g.w.heap[l.block]?=some (.cells arr t (0,0))) (hc:cap*sz<=arr.size) (dQ:∀off,¬g.fr l.block off)
  (hr:∀(j:Nat) (c:ae) (u:Value),(au zs)[j]?=some c->arr[j]?=some u->RV g c u):RV g (.aC sz zs (.tok id)) (.slice (some ⟨l.block,0,none⟩) zs.length cap):=by
 have hl:=bE cP;have hle:zs.length*sz<=cap*sz:=Nat.mul_le_mul_right _ cY;refine .aC cP (fun x hx c hc=>dv c (by simp only[au,List.mem_flatMap];exact⟨x,hx,hc⟩)) cY cE (fun _=>rfl) (fun j=>arr.getD j undef) (fun j c hj=>?_) (fun j c hj=>?_) ⟨I gp,fun m hm=>?_⟩
 ·have bg:=I hj;rw[hl]at bg;refine⟨?_,?_⟩
  ·simp only[G.cell,Nat.zero_add];rw[cell_of_row dk];simp[Array.getD_eq_getD_getElem?,show j<arr.size by omega]
  rintro(hf|⟨mh,l',o',h1,h2,h3,h4,h5⟩)
  ·exact dQ _ hf
  have hb:l'.block=l.block:=h4;have:=hg.apart mh id l' l o' _ h1 h2 h3 he gp trivial hb;subst this;rw[he]at h1;simp only[Option.some.injEq]at h1;subst h1;simp only[Nat.zero_add]at h5;omega
 ·have bg:=I hj;rw[hl]at bg;exact hr j c _ hj (by simp[Array.getD_eq_getD_getElem?,show j<arr.size by omega])
 rw[gp]at hm;simp only[Option.some.injEq,aj.spare.injEq]at hm;subst hm;exact⟨Nat.le_refl _,fun _=>.inr ⟨l,arr,t,he,rfl,iK,dk,hc⟩⟩
theorem jI.jY{g:G}{ys:List ae}{vs:List Value}(h:jI g (au ys) vs.toArray):jI g (au (ys.map ae.share)) vs.toArray:=by
 rw[fO];exact h.du
theorem dS{ys:List ae}{sz:Nat}(h:∀x∈ys,x.cells.length=sz):∀x∈ys.map ae.share,x.cells.length=sz:=fun x hx=>by
 rw[List.mem_map]at hx;obtain⟨y,h1,h2⟩:=hx;subst h2;rw[ae.lS,List.length_map];exact h y h1
theorem dA{ys:List ae}(h:∀c∈au ys,c.scalar):∀c∈au (ys.map ae.share),c.scalar:=fun c hc=>by
 rw[fO,List.mem_map]at hc;obtain⟨c',h1,h2⟩:=hc;subst h2;exact ae.eY (h c' h1)
theorem eW{ix news rest:Array Value}{j:Nat}{u:Value}(h:(ix++news++rest)[j]?=some u)(hj:j<ix.size+news.size):(ix++news)[j]?=some u:=by
 rw[Array.getElem?_append]at h;rw[if_pos (by simpa using hj)]at h;exact h
theorem vt{P:Program}{aT:eZ}(hT:b6 P aT){o:Oper}{σ:St}{t e:TypeId}{x y:Operand}{ti te:cf}{sz:Nat}{xs ys:List ae}{ow:nR}
  (ho:o.op=.call ⟨.builtin .append,#[x,y],#[t,t]⟩) (hd:∀d,o.dst=some d->d<σ.n) (ht:aT t=some ti) (aU:ti.desc=.slice e) (he:aT e=some te) (cP:te.size=sz) (hx:σ.ev x=some (.aC sz xs .ex)) (hy:σ.ev y=some (.aC sz ys ow))
  (hlen:xs.length+ys.length<=2 ^ 62) (hb:(xs.length+ys.length)*te.bytes<=2 ^ 47) :
  Cert P o σ (.aC sz (xs++ys.map ae.share) (.tok σ.objs.length)) (.write (σ.objs++[.spare (xs.length+ys.length)])) :=
 Cert.iZ hd fun base fY a g bN h je=>by
  have hO:g.objs=σ.objs:=je.resolve_left (by simp);have hg:=bN.good;have hu:=bV hT ht aU;subst cP;have iL:=h x (by simp[ho,Op.operands,Call.operands]) _ hx;have DD:=h y (by simp[ho,Op.operands,Call.operands]) _ hy;obtain⟨Dw,mb,ix,ex,OW,Ak,OX,K7,Nj,GH⟩:=iL.gu (P:=P);obtain⟨Ug,JG,news,ey,Cq,Cr,Cs,Ji,GJ,uP⟩:=DD.gu (P:=P);obtain⟨⟨i,z,h1,h2,h3,h4,h5,h6,h7,h8,h9⟩,_⟩:=hT e te he;have rI:mb=xs.length:=by
   rcases iL.fL with⟨q1,q2⟩|⟨ad,cap,f,q1,_,_,_,_,_,_,_,q2⟩
   ·rw[ex]at q1;cases q2;simp at q1;simp[q1]
   rw[ex]at q1;simp only[Value.slice.injEq]at q1;rw[q1.2.2];exact q2
  subst rI;have c8:=cR (P:=P) ho a g.w;simp only[builtin,List.map_toArray,List.map_cons,List.map_nil]at c8;by_cases hn:ys.length=0
  ·have Ct:ys=[]:=List.length_eq_zero_iff.1 hn;subst Ct;have tG:news=[]:=by
    have:news.length=0:=by simpa using uP
    exact List.length_eq_zero_iff.1 this
   subst tG;have bJ:(Builtin.append_ #[t,t] o.type #[a.eval x,a.eval y]).run P g.w=.ok (a.eval x) g.w:=by
    rw[ex];cases Dw with
    | none =>
     have TX:xs=[]:=by
      rcases iL.fL with⟨_,q2⟩|⟨ad,cap,f,q1,_⟩
      ·exact q2
      rw[ex]at q1;simp at q1
     subst TX;have q:=Cr g.w rfl;simp only[List.length_nil]at q;simp[Builtin.append_,run_underlying hu,Go.sizeOf,typeInfo,h1,Cq,h2,q]
    | some ad =>
     have:=iG (P:=P) g.w g.w t o.type e i hu h1 ad xs.length xs.length 0 (a.eval y) [] (fun w=>by simpa using Cq w) (by rw[h2];simpa using Cr g.w rfl) (by omega) (by simp[storeCells]);simpa using this
   refine⟨a.eval x,g.mark (.spare (xs.length+0)),.inl (by rw[c8];simp[bJ,G.mark]),Le.mark hg _,Good.mark hg _,by simp[G.mark,hO,Mode.post],?_⟩;simp only[List.map_nil,List.append_nil];have Nk:=iL.mono (Le.mark hg (.spare (xs.length+0)));cases pG:a.eval x with
   | slice ad len cap =>
    rw[pG]at Nk;cases Nk with
    | nil=>exact .nil (fun id e=>by simp only[nR.tok.injEq]at e;subst e;simp[G.mark,hO]) (by simp)
    | aC cP dv cY cE hs f hm hr Q6 =>
     refine .aC cP dv cY cE hs f hm hr ⟨by simp[G.mark,hO],fun m eF=>?_⟩;have:(g.mark (.spare (xs.length+0))).objs[σ.objs.length]?=some (.spare (xs.length+0)):=by
      rw[<-hO];exact ff
     rw[this]at eF;simp only[Option.some.injEq,aj.spare.injEq]at eF;exact⟨by omega,fun _=>.inl Q6⟩
   | _=>rw[ex]at pG;cases pG
  have bJ:=gZ (P:=P) g.w t o.type e i z hu h1 h4 Dw xs.length xs.length ys.length (a.eval y) ix news Cq (by rw[h2];exact Cr g.w.drew rfl) (by rw[h2,<-ex];exact Ak g.w.drew rfl) (by omega) hlen (by rw[h3];exact hb);rw[<-ex]at bJ;obtain⟨cap,cY⟩:∃cap,cap=grownCap g.w (xs.length+ys.length) xs.length e:=⟨_,rfl⟩
  obtain⟨rest,cO⟩:∃rest,rest=Builtin.zeroCells z.cells (cap-(xs.length+ys.length)):=⟨_,rfl⟩
  have qj:=grownCap_ge g.w (xs.length+ys.length) xs.length e;rw[<-cY]at bJ qj;rw[<-cO]at bJ;have yK:rest.size=(cap-(xs.length+ys.length))*te.size:=by rw[cO,size_zeroCells,h5,h6]
  obtain⟨arr,gT⟩:∃arr,arr=ix.toArray++news.toArray++rest:=⟨_,rfl⟩
  rw[<-gT]at bJ;have oc:=hg.heap (w':=g.w.drew) rfl rfl rfl rfl;have oK:=Le.heap (g:=g) (w':=g.w.drew) rfl rfl rfl rfl;obtain⟨g1,lH⟩:∃g1:G,g1=⟨g.w.drew,g.fr,g.env,g.objs⟩:=⟨_,rfl⟩
  rw[<-lH]at oc oK;have sV:g1.w=g.w.drew:=by rw[lH]
  have nr:g1.objs=σ.objs:=by rw[lH];exact hO
  have jd:Fits (g1.alloc (.cells arr e) ((xs.length+ys.length)*te.size) (.spare (xs.length+ys.length))) (.cells arr e) (.spare (xs.length+ys.length)):=⟨arr,e,rfl⟩
  have dp:=Good.alloc oc (.cells arr e) ((xs.length+ys.length)*te.size) (.spare (xs.length+ys.length)) (.inl trivial) jd;have hle:=oK.trans (Le.alloc oc (.cells arr e) ((xs.length+ys.length)*te.size) (.spare (xs.length+ys.length)));refine⟨.slice (some ⟨g.w.heap.size,0,none⟩) (xs.length+ys.length) cap,_,.inl ?_,hle,dp,?_,?_⟩
  ·rw[c8];simp[bJ,G.alloc,sV]
  ·simp[G.alloc,nr,Mode.post]
  have iE:(xs++ys.map ae.share).length=xs.length+ys.length:=by simp
  have iT:=OX.append Cs.jY;rw[<-cL]at iT;have gK:(au (xs++ys.map ae.share)).length=(xs.length+ys.length)*te.size:=by
   rw[bE (sz:=te.size) (fun x hx=>by
    rcases List.mem_append.1 hx with q|q
    ·exact K7 x q
    exact dS Ji x q),iE]
  have:=RV.AM (g:=g1.alloc (.cells arr e) ((xs.length+ys.length)*te.size) (.spare (xs.length+ys.length))) (zs:=xs++ys.map ae.share) (sz:=te.size) (cap:=cap) (l:=⟨g.w.heap.size,(xs.length+ys.length)*te.size,arr.size⟩) (arr:=arr) (t:=e) (id:=σ.objs.length) dp
   (fun x hx=>by
    rcases List.mem_append.1 hx with q|q
    ·exact K7 x q
    exact dS Ji x q)
   (fun c hc=>by
    rw[cL]at hc;rcases List.mem_append.1 hc with q|q
    ·exact Nj c q
    exact dA GJ c q)
   (by rw[iE];exact hlen) (by rw[iE];exact qj) (by
    have:=iJ oc (l:=some ⟨g1.w.heap.size,(xs.length+ys.length)*te.size,mA (.cells arr e)⟩);rw[nr]at this;simp only[G.alloc];rw[this,sV];rfl) (by rw[iE,<-nr];exact ff) (by rw[iE]) (by
    have:=cM g1.w (.cells arr e);rw[sV]at this;simp only[G.alloc,sV];exact this) (by
    rw[gT];simp only[Array.size_append,List.size_toArray,GH,uP,yK,<-Nat.add_mul];rw[show xs.length+ys.length+(cap-(xs.length+ys.length))=cap by omega];exact Nat.le_refl _) (fun off hf=>by
    have fC:g.fr g.w.heap.size off:=by rw[lH]at hf;exact hf
    have:=hg.frlt _ _ fC;omega) (fun j c u hj hu=>by
    have bg:=I hj;rw[gK]at bg;rw[gT]at hu;have uO:=eW hu (by simp only[List.size_toArray,GH,uP,<-Nat.add_mul];exact bg);exact(iT.2 j c u hj (by simpa using uO)).mono hle)
  rw[iE]at this;exact this
theorem uf{P:Program}{aT:eZ}(hT:b6 P aT){o:Oper}{σ:St}{t e:TypeId}{x y:Operand}{ti te:cf}{sz:Nat}{xs ys:List ae}{ow:nR}{id:Nat}
  (ho:o.op=.call ⟨.builtin .append,#[x,y],#[t,t]⟩) (hd:∀d,o.dst=some d->d<σ.n) (ht:aT t=some ti) (aU:ti.desc=.slice e) (he:aT e=some te) (cP:te.size=sz) (hx:σ.ev x=some (.aC sz xs (.tok id))) (hy:σ.ev y=some (.aC sz ys ow))
  (gp:σ.objs[id]?=some (.spare xs.length)) (hlen:xs.length+ys.length<=2 ^ 62) (hb:(xs.length+ys.length)*te.bytes<=2 ^ 47) :
  Cert P o σ (.aC sz (xs++ys.map ae.share) (.tok id)) (.write (σ.objs.set id (.spare (xs.length+ys.length)))) :=
 Cert.iZ hd fun base fY a g bN h je=>by
  have hO:g.objs=σ.objs:=je.resolve_left (by simp);have hg:=bN.good;have hu:=bV hT ht aU;subst cP;have iL:=h x (by simp[ho,Op.operands,Call.operands]) _ hx;have DD:=h y (by simp[ho,Op.operands,Call.operands]) _ hy;obtain⟨Dw,mb,ix,ex,OW,Ak,OX,K7,Nj,GH⟩:=iL.gu (P:=P);obtain⟨Ug,JG,news,ey,Cq,Cr,Cs,Ji,GJ,uP⟩:=DD.gu (P:=P);obtain⟨⟨i,z,h1,h2,h3,h4,h5,h6,h7,h8,h9⟩,_⟩:=hT e te he;have gN:g.objs[id]?=some (.spare xs.length):=by rw[hO];exact gp
  have c8:=cR (P:=P) ho a g.w;simp only[builtin,List.map_toArray,List.map_cons,List.map_nil]at c8;have iw:∀m,m=xs.length->g.objs.set id (.spare m)=g.objs:=fun m hm=>by
   subst hm;apply List.ext_getElem?;intro k;by_cases e:id=k
   ·subst e;rw[List.getElem?_set_self (I gN),gN]
   rw[List.getElem?_set_ne e]
  have iE:(xs++ys.map ae.share).length=xs.length+ys.length:=by simp
  have E3:∀x∈xs++ys.map ae.share,x.cells.length=te.size:=fun x hx=>by
   rcases List.mem_append.1 hx with q|q
   ·exact K7 x q
   exact dS Ji x q
  have K8:∀c∈au (xs++ys.map ae.share),c.scalar:=fun c hc=>by
   rw[cL]at hc;rcases List.mem_append.1 hc with q|q
   ·exact Nj c q
   exact dA GJ c q
  have gK:(au (xs++ys.map ae.share)).length=(xs.length+ys.length)*te.size:=by
   rw[bE E3,iE]
  have iT:=OX.append Cs.jY;rw[<-cL]at iT;by_cases hn:ys.length=0
  ·have Ct:ys=[]:=List.length_eq_zero_iff.1 hn;subst Ct;have tG:news=[]:=by
    have:news.length=0:=by simpa using uP
    exact List.length_eq_zero_iff.1 this
   subst tG;have cY:xs.length<=mb:=by
    rcases iL.fL with⟨_,q2⟩|⟨ad,cap,f,q1,_,_,q2,_⟩
    ·simp[q2]
    rw[ex]at q1;simp only[Value.slice.injEq]at q1;rw[q1.2.2];exact q2
   have bJ:(Builtin.append_ #[t,t] o.type #[a.eval x,a.eval y]).run P g.w=.ok (a.eval x) g.w:=by
    rw[ex];cases Dw with
    | none =>
     have TX:xs=[]∧mb=0:=by
      rcases iL.fL with⟨q1,q2⟩|⟨ad,cap,f,q1,_⟩
      ·rw[ex]at q1;simp only[Value.slice.injEq]at q1;exact⟨q2,q1.2.2⟩
      rw[ex]at q1;simp at q1
     obtain⟨e1,e2⟩:=TX;subst e1;subst e2;have q:=Cr g.w rfl;simp only[List.length_nil]at q;simp[Builtin.append_,run_underlying hu,Go.sizeOf,typeInfo,h1,Cq,h2,q]
    | some ad =>
     have:=iG (P:=P) g.w g.w t o.type e i hu h1 ad xs.length mb 0 (a.eval y) [] (fun w=>by simpa using Cq w) (by rw[h2];simpa using Cr g.w rfl) (by omega) (by simp[storeCells]);simpa using this
   refine⟨a.eval x,g,.inl (by rw[c8];simp[bJ]),Le.refl g,hg,?_,?_⟩
   ·simp only[Mode.post,<-hO];exact(iw _ (by simp)).symm
   simpa using iL
  have hm:xs.length<xs.length+ys.length:=by omega
  by_cases nV:xs.length+ys.length<=mb
  ·-- in place
   obtain⟨l,arr,t',q1,q2,q3,q4,q5⟩:∃(l:Loc) (arr:Array Value) (t':TypeId),g.env[id]?=some (some l)∧Dw=some ⟨l.block,0,none⟩∧l.lo=xs.length*te.size∧g.w.heap[l.block]?=some (.cells arr t' (0,0))∧mb*te.size<=arr.size:=by
    rcases iL.fL with⟨q1,q2⟩|⟨ad,cap,f,q1,_,_,_,_,_,_,_,q2⟩
    ·rw[ex]at q1;simp only[Value.slice.injEq]at q1;omega
    rw[ex]at q1;simp only[Value.slice.injEq]at q1;obtain⟨e1,_,e3⟩:=q1;subst e1;subst e3;rcases(q2.2 _ gN).2 rfl with q|⟨l,arr,t',q1,q2,q3,q4,q5⟩
    ·omega
    exact⟨l,arr,t',q1,by rw[q2],q3,q4,q5⟩
   subst q2;have a8:xs.length*te.size+0+news.length<=arr.size:=by
    rw[uP,Nat.add_zero,<-Nat.add_mul];exact Nat.le_trans (Nat.mul_le_mul_right _ nV) q5
   have KZ:∀v∈news,v.oneCell'=true:=fun v hv=>by
    obtain⟨j,hj⟩:=List.getElem?_of_mem hv;have bg:=I hj;have hs:=Cs.1;simp only[List.size_toArray]at hs;rw[hs]at bg;have hc:=List.getElem?_eq_getElem bg;exact((Cs.2 j _ v hc (by simpa using hj)).jb (GJ _ (List.mem_of_getElem? hc))).1
   have fq:=run_storeCells_at P l.block (xs.length*te.size) t' news 0 arr g.w q4 a8 KZ;simp only[Nat.add_zero]at fq;obtain⟨ck,iY⟩:∃ck,ck=(arr.toList.take (xs.length*te.size)++news++arr.toList.drop (xs.length*te.size+news.length)).toArray:=⟨_,rfl⟩
   rw[<-iY]at fq;have oO:ck.size=arr.size:=by
    rw[iY];simp;omega
   have Ag:∀j,j<xs.length*te.size->ck[j]?=arr[j]?:=fun j hj=>by
    rw[iY];simp only[List.append_assoc,List.getElem?_toArray];rw[List.getElem?_append,if_pos (by simp;omega),List.getElem?_take,if_pos hj];simp
   have vZ:∀j u,ck[j]?=some u->xs.length*te.size<=j->j<(xs.length+ys.length)*te.size->news[j-xs.length*te.size]?=some u:=fun j u hj h1 h2=>by
    rw[iY]at hj;simp only[List.append_assoc,List.getElem?_toArray]at hj;have QY:(arr.toList.take (xs.length*te.size)).length=xs.length*te.size:=by simp;omega
    rw[List.getElem?_append,QY,if_neg (by omega),List.getElem?_append,if_pos (by rw[uP];rw[Nat.add_mul]at h2;omega)]at hj;exact hj
   have bJ:=iG (P:=P) g.w (g.w.setRow l.block ck) t o.type e i hu h1 ⟨l.block,0,none⟩ xs.length mb ys.length (a.eval y) news Cq (by rw[h2];exact Cr g.w rfl) nV (by rw[h2,addr_add,Nat.zero_add];exact fq);rw[<-ex]at bJ;have eR:ld g id (.spare xs.length) (some ⟨l.block,(xs.length+ys.length)*te.size,0⟩) (.spare (xs.length+ys.length)) (g.w.setRow l.block ck):={
    obj:=gN
    os:=rfl
    tape:=rfl
    output:=rfl
    size:=by rw[setRow_size];exact Nat.le_refl _
    block:=fun k _ hk=>setRow_other _ _ _ _ (fun e=>hk l q1 trivial e.symm)
    cell:=fun b off x hx hb=>by
     by_cases e:b=l.block
     ·subst e;have bg:=hb l q1 trivial rfl;rw[q3]at bg;rw[cell_of_row (setRow_heap g.w l.block arr ck t' (0,0) q4),Ag off bg];simp only[G.cell]at hx;rw[cell_of_row q4]at hx;exact hx
     rw[jL (setRow_other g.w l.block b ck e)];exact hx
    place:=fun l1 h1 _=>by
     simp only[Option.some.injEq]at h1;subst h1;exact .inr ⟨l,q1,trivial,rfl,by rw[q3];exact Nat.mul_le_mul_right _ (by omega)⟩
    spare:=fun m h=>by
     simp only[aj.spare.injEq]at h;subst h;exact .inl ⟨_,rfl,hm⟩
    plain:=fun h=>absurd trivial h
    gone:=by simp }
   have hle:=Le.bB hg eR;have dp:=Good.bB hg eR (fun l1 h1=>by
    simp only[Option.some.injEq]at h1;subst h1;exact⟨ck,t',setRow_heap g.w l.block arr ck t' (0,0) q4⟩) (fun l1 h1 _=>by
    simp only[Option.some.injEq]at h1;subst h1;rw[setRow_size];exact aW q4)
   refine⟨.slice (some ⟨l.block,0,none⟩) (xs.length+ys.length) mb,_,.inl ?_,hle,dp,by simp only[G.bB,Mode.post,hO],?_⟩
   ·rw[c8];simp[bJ,G.bB]
   have:=RV.AM (g:=g.bB id (some ⟨l.block,(xs.length+ys.length)*te.size,0⟩) (.spare (xs.length+ys.length)) (g.w.setRow l.block ck)) (zs:=xs++ys.map ae.share) (sz:=te.size) (cap:=mb)
    (l:=⟨l.block,(xs.length+ys.length)*te.size,0⟩) (arr:=ck) (t:=t') (id:=id) dp E3 K8 (by rw[iE];exact hlen) (by rw[iE];exact nV)
    (by simp only[G.bB];rw[List.getElem?_set_self (jn hg gN)]) (by rw[iE];simp only[G.bB];rw[List.getElem?_set_self (I gN)]) (by rw[iE])
    (setRow_heap g.w l.block arr ck t' (0,0) q4) (by rw[oO];exact q5) (fun off hf=>?_) (fun j c u hj hu=>?_)
   ·rw[iE]at this;exact this
   ·have fC:g.fr l.block off:=hf;exact absurd fC (hg.fQ id l _ q1 gN trivial off)
   have bg:=I hj;rw[gK]at bg;refine(iT.2 j c u hj ?_).mono hle;have HW:ix.length=xs.length*te.size:=GH;simp only[List.getElem?_toArray];rw[List.getElem?_append];by_cases e:j<ix.length
   ·rw[if_pos e];have jc:(au xs)[j]?=some c:=by
     rw[cL,List.getElem?_append,if_pos (by rw[bE K7];omega)]at hj;exact hj
    rw[Ag j (by omega)]at hu;have KG:=Ak g.w rfl;rw[ex]at KG;simp only[Builtin.firstCells]at KG;have Vv:=run_loadCells (P:=P) g.w ⟨l.block,0,none⟩ (xs.length*te.size) (fun k=>arr.getD k undef) (fun k hk=>by
     rw[addr_add,cell_of_row q4,Nat.zero_add];simp[Array.getD_eq_getD_getElem?,show k<arr.size by omega])
    rw[Vv]at KG;simp only[Result.ok.injEq,and_true]at KG;have holds:ix=(List.range (xs.length*te.size)).map (fun k=>arr.getD k undef):=by
     have:=congrArg Array.toList KG;simpa using this.symm
    rw[holds,List.getElem?_map,List.getElem?_range (by omega)];simp only[Option.map_some,Option.some.injEq];have Su:j<arr.size:=by omega
    simp only[Array.getElem?_eq_getElem Su,Option.some.injEq]at hu;simp[Array.getD_eq_getD_getElem?,Su,hu]
   rw[if_neg e,HW];exact vZ j u hu (by omega) bg
  -- a new row
  have bJ:=gZ (P:=P) g.w t o.type e i z hu h1 h4 Dw xs.length mb ys.length (a.eval y) ix news Cq (by rw[h2];exact Cr g.w.drew rfl) (by rw[h2,<-ex];exact Ak g.w.drew rfl) (by omega) hlen (by rw[h3];exact hb);rw[<-ex]at bJ;obtain⟨cap,cY⟩:∃cap,cap=grownCap g.w (xs.length+ys.length) mb e:=⟨_,rfl⟩
  obtain⟨rest,cO⟩:∃rest,rest=Builtin.zeroCells z.cells (cap-(xs.length+ys.length)):=⟨_,rfl⟩
  have qj:=grownCap_ge g.w (xs.length+ys.length) mb e;rw[<-cY]at bJ qj;rw[<-cO]at bJ;have yK:rest.size=(cap-(xs.length+ys.length))*te.size:=by rw[cO,size_zeroCells,h5,h6]
  obtain⟨arr,gT⟩:∃arr,arr=ix.toArray++news.toArray++rest:=⟨_,rfl⟩
  rw[<-gT]at bJ;have eR:ld g id (.spare xs.length) (some ⟨g.w.heap.size,(xs.length+ys.length)*te.size,0⟩) (.spare (xs.length+ys.length)) (g.w.drew.alloc (.cells arr e)):={
   obj:=gN
   os:=rfl
   tape:=rfl
   output:=rfl
   size:=by show g.w.heap.size<=(g.w.heap.push _).size;rw[Array.size_push];omega
   block:=fun k hk _=>cQ g.w.drew _ hk
   cell:=fun b off x hx _=>by
    have:=pw hx;rw[jL (cQ g.w.drew (.cells arr e) this)];exact hx
   place:=fun l1 h1 _=>by
    simp only[Option.some.injEq]at h1;subst h1;exact .inl (Nat.le_refl _)
   spare:=fun m h=>by
    simp only[aj.spare.injEq]at h;subst h;exact .inl ⟨_,rfl,hm⟩
   plain:=fun h=>absurd trivial h
   gone:=by simp }
  have hle:=Le.bB hg eR;have dp:=Good.bB hg eR (fun l1 h1=>by
   simp only[Option.some.injEq]at h1;subst h1;exact⟨arr,e,cM g.w.drew _⟩) (fun l1 h1 _=>by
   simp only[Option.some.injEq]at h1;subst h1;exact aW (cM g.w.drew (.cells arr e)))
  refine⟨.slice (some ⟨g.w.heap.size,0,none⟩) (xs.length+ys.length) cap,_,.inl ?_,hle,dp,by simp only[G.bB,Mode.post,hO],?_⟩
  ·rw[c8];simp[bJ,G.bB]
  have:=RV.AM (g:=g.bB id (some ⟨g.w.heap.size,(xs.length+ys.length)*te.size,0⟩) (.spare (xs.length+ys.length)) (g.w.drew.alloc (.cells arr e))) (zs:=xs++ys.map ae.share) (sz:=te.size) (cap:=cap)
   (l:=⟨g.w.heap.size,(xs.length+ys.length)*te.size,0⟩) (arr:=arr) (t:=e) (id:=id) dp E3 K8 (by rw[iE];exact hlen) (by rw[iE];exact qj)
   (by simp only[G.bB];rw[List.getElem?_set_self (jn hg gN)]) (by rw[iE];simp only[G.bB];rw[List.getElem?_set_self (I gN)]) (by rw[iE])
   (cM g.w.drew _) (by
    rw[gT];simp only[Array.size_append,List.size_toArray,GH,uP,yK,<-Nat.add_mul];rw[show xs.length+ys.length+(cap-(xs.length+ys.length))=cap by omega];exact Nat.le_refl _) (fun off hf=>by
    have fC:g.fr g.w.heap.size off:=hf;have:=hg.frlt _ _ fC;omega) (fun j c u hj hu=>by
    have bg:=I hj;rw[gK]at bg;rw[gT]at hu;have uO:=eW hu (by simp only[List.size_toArray,GH,uP,<-Nat.add_mul];exact bg);exact(iT.2 j c u hj (by simpa using uO)).mono hle)
  rw[iE]at this;exact this
end Go.Av
namespace Go.Av
def mE:Value->Value->Bool
 | .string a,.string b=>decide (a=b)
 | .int _ a,.int _ b=>decide (a=b)
 | _,_=>false
def fH:List (Value×ae)->Value->Option ae
 | [],_=>none
 | (k,x)::r,key=>if mE k key then some x else fH r key
def gP:List (Value×ae)->Value->ae->List (Value×ae)
 | [],key,y=>[(key,y)]
 | (k,x)::r,key,y=>if mE k key then(key,y)::r else(k,x)::gP r key y
def KT.desc:KT->TypeDesc->Prop
 | .str,d=>d=.string
 | .int k,d=>d=.int k
 | .iter _,_=>False
theorem KT.ng{kt:KT}{d:TypeDesc}(h:kt.desc d):kt.plain:=by
 cases kt with
 | str=>trivial
 | int k=>trivial
 | iter c=>exact h.elim
theorem bytes_beq(s t:ByteArray):(s == t)=decide (s=t):=by
 obtain⟨a⟩:=s;obtain⟨b⟩:=t;have e:((⟨a⟩:ByteArray) == ⟨b⟩)=(a == b):=rfl;rw[e,Bool.eq_iff_iff];simp
theorem FH{kt:KT}{d:TypeDesc}(hd:kt.desc d){a b:Value}(ha:kt.ok a)(hb:kt.ok b):Instr.sameNow d a b=some (mE b a):=by
 cases kt with
 | iter c=>exact hd.elim
 | str =>
  simp only[KT.desc]at hd;subst hd;cases a<;>simp only[KT.ok]at ha;cases b<;>simp only[KT.ok]at hb;rename_i s t;simp only[Instr.sameNow,mE,Option.some.injEq,bytes_beq];rw[Bool.eq_iff_iff];simp only[decide_eq_true_eq];exact⟨Eq.symm,Eq.symm⟩
 | int k =>
  simp only[KT.desc]at hd;subst hd;cases a<;>simp only[KT.ok]at ha;cases b<;>simp only[KT.ok]at hb;rename_i s t;subst ha;subst hb;simp only[Instr.sameNow,mE,if_true,Option.some.injEq];rw[Bool.eq_iff_iff];simp only[beq_iff_eq,decide_eq_true_eq];exact⟨Eq.symm,Eq.symm⟩
theorem findNow_spec{kt:KT}{d:TypeDesc}(hd:kt.desc d){key:Value}(hk:kt.ok key):∀(arr:List MapEntry) (es:List (Value×ae)) (i:Nat),arr.length=es.length ->
  (∀(j:Nat) (e:MapEntry) (kx:Value×ae),arr[j]?=some e->es[j]?=some kx->e.key=kx.1)->(∀p∈es,kt.ok p.1) ->
  ∃r,Instr.findNow d key arr i=some r ∧
   ((r=none∧fH es key=none∧∀y,gP es key y=es++[(key,y)]) ∨
    ∃(j:Nat) (e:MapEntry) (x:ae) (k0:Value),r=some (i+j,e.val)∧arr[j]?=some e∧es[j]?=some (k0,x)∧mE k0 key=true∧fH es key=some x∧∀y,gP es key y=es.set j (key,y))
 | [],[],i,_,_,_=>⟨none,rfl,.inl ⟨rfl,rfl,fun _=>rfl⟩⟩
 | [],_::_,i,hl,_,_=>by simp at hl
 | _::_,[],i,hl,_,_=>by simp at hl
 | e::arr,(k0,x)::es,i,hl,HR,lM=>by
  have he:e.key=k0:=HR 0 e (k0,x) rfl rfl;have DB:kt.ok k0:=lM (k0,x) (by simp);have hs:=FH hd hk (he ▸ DB:kt.ok e.key);simp only[Instr.findNow,hs];cases hq:mE e.key key with
  | true =>
   refine⟨some (i,e.val),by rfl,.inr ⟨0,e,x,k0,by simp,rfl,rfl,he ▸ hq,?_,fun y=>?_⟩⟩
   ·rw[he]at hq;simp[fH,hq]
   rw[he]at hq;simp[gP,hq]
  | false =>
   rw[he]at hq;obtain⟨r,h1,h2⟩:=findNow_spec hd hk arr es (i+1) (by simpa using hl) (fun j e' kx a b=>HR (j+1) e' kx (by simpa using a) (by simpa using b)) (fun p hp=>lM p (by simp[hp]));refine⟨r,h1,?_⟩;rcases h2 with⟨q1,q2,q3⟩|⟨j,e',x',k',q1,q2,q3,q4,q5,q6⟩
   ·exact .inl ⟨q1,by simp[fH,hq,q2],fun y=>by simp[gP,hq,q3]⟩
   refine .inr ⟨j+1,e',x',k',?_,by simpa using q2,by simpa using q3,q4,by simp[fH,hq,q5],fun y=>by simp[gP,hq,q6]⟩;rw[q1];simp only[Option.some.injEq,Prod.mk.injEq,and_true];omega
theorem mL{P:Program}{aT:eZ}(hT:b6 P aT){t k e:TypeId}{ti:cf}(ht:aT t=some ti)(aU:ti.desc=.map k e):P.underlying t=some (.map k e):=by
 obtain⟨_,d,h1,h2⟩:=hT t ti ht;rw[aU]at h2;simp only[sJ]at h2;rw[h1,h2]
theorem run_checkKey{P:Program}{kt:KT}{k:TypeId}{d:TypeDesc}(hu:P.underlying k=some d)(hd:kt.desc d){key:Value}(w:World)(b:Bool)(n:Nat):(Instr.checkKey b (n+1) k key).run P w=.ok () w:=by
 cases kt<;>simp only[KT.desc]at hd<;>subst hd<;>simp[Instr.checkKey,run_underlying hu]
def zeroOf(ti:cf):ae:=if ti.desc.agg then .agg ti.zero else ti.zero.getD 0 (.v (.bool false))
theorem pr{P:Program}{t:TypeId}{ti:cf}(h:F9 P t ti)(hs:ti.desc.agg=true∨ti.size=1):∃z,(∀w,(Go.zeroValue t).run P w=.ok z w)∧∀g,RV g (zeroOf ti) z:=by
 obtain⟨⟨i,z,h1,h2,h3,h4,h5,h6,h7,h8,h9⟩,_⟩:=h;refine⟨z,fun w=>by simp[Go.zeroValue,typeInfo,h1,h4],fun g=>?_⟩;unfold zeroOf;split
 ·rename_i fu;obtain⟨cs,e⟩:=h7.1 fu;subst e;exact .agg h5 h9 (h8 g)
 rename_i fu;have cP:ti.zero.length=1:=by
  rcases hs with q|q
  ·exact absurd q fu
  omega
 match hz:ti.zero,cP with
 | [c],_ =>
  have lL:z.cells.size=1:=by rw[h5,hz];rfl
  have dv:c.scalar:=h9 c (by rw[hz];simp);have hr:=h8 g 0 c (z.cells[0]) (by rw[hz];rfl) (by simp[lL]);have H3:=h7.2 (by simpa using fu);have Wg:z.cells[0]=z:=by simp[H3]
  rw[Wg]at hr;exact hr
theorem Bd{P:Program}{t:TypeId}{ti:cf}(h:F9 P t ti)(hs:ti.desc.agg=true∨ti.size=1):(zeroOf ti).cells=ti.zero∧ti.zero.length=ti.size∧∀c∈ti.zero,c.scalar:=by
 obtain⟨⟨i,z,h1,h2,h3,h4,h5,h6,h7,h8,h9⟩,_⟩:=h;refine⟨?_,h6,h9⟩;unfold zeroOf;split
 ·rfl
 rename_i fu;have cP:ti.zero.length=1:=by
  rcases hs with q|q
  ·exact absurd q fu
  omega
 match hz:ti.zero,cP with
 | [c],_ =>
  have dv:c.scalar:=h9 c (by rw[hz];simp);simp only[List.getD_cons_zero];cases c<;>first|rfl|exact dv.elim
theorem RV.Aq{g:G}{sz:Nat}{xs:List ae}{o:nR}{u:Value}(h:RV g (.aC sz xs o) u):RV g (.aC sz (xs.map ae.share) o) u:=by
 cases h with
 | nil ho hn=>exact .nil ho hn
 | aC cP dv cY cE hs f hm hr ho =>
  have key:∀(j:Nat) (c:ae),(au (xs.map ae.share))[j]?=some c->∃c',(au xs)[j]?=some c'∧c'.bk=c:=fun j c hj=>by
   rw[fO,List.getElem?_map,Option.map_eq_some_iff]at hj;exact hj
  have hl:(xs.map ae.share).length=xs.length:=List.length_map _;rw[<-hl]at cY cE ho ⊢;refine .aC (dS cP) (fun x hx c hc=>?_) cY cE (fun ct=>hs fun e=>ct (by rw[e];rfl)) f (fun j c hj=>?_) (fun j c hj=>?_) ho
  ·exact dA (fun c hc=>by
    simp only[au,List.mem_flatMap]at hc;obtain⟨x,hx,hc⟩:=hc;exact dv x hx c hc) c (by
    simp only[au,List.mem_flatMap];exact⟨x,hx,hc⟩)
  ·obtain⟨c',qZ,_⟩:=key j c hj;exact hm j c' qZ
  obtain⟨c',qZ,rfl⟩:=key j c hj;exact(hr j c' qZ).bk
theorem ui{P:Program}{aT:eZ}(hT:b6 P aT){o:Oper}{σ:St}{t e:TypeId}{x y:Operand}{ti te:cf}{k k':IntKind}{n:Int}
  (ho:o.op=.makeSlice t x y) (hd:∀d,o.dst=some d->d<σ.n) (ht:aT t=some ti) (aU:ti.desc=.slice e) (he:aT e=some te) (hx:σ.ev x=some (.v (.int k n))) (hy:σ.ev y=some (.v (.int k' n)))
  (h0:0<=n) (hb:te.bytes*n.toNat<=2 ^ 48) (QQ:n.toNat<=2 ^ 62) (hs:0<te.size) (KZ:te.desc.agg=true∨te.size=1) :
  Cert P o σ (.aC te.size (List.replicate n.toNat (zeroOf te).share) .ex) .pure :=
 Cert.iZ hd fun base fY a g bN h _=>by
  have hg:=bN.good;have ex:=(h x (by simp[ho,Op.operands]) _ hx).cb.1;have ey:=(h y (by simp[ho,Op.operands]) _ hy).cb.1;have hu:=bV hT ht aU;obtain⟨c1,c2,c3⟩:=Bd (hT e te he) KZ;obtain⟨⟨i,z,h1,h2,h3,h4,h5,h6,h7,h8,h9⟩,_⟩:=hT e te he;obtain⟨m,rfl⟩:=Int.eq_ofNat_of_zero_le h0;simp only[Int.toNat_natCast]at *;have EC:(i.bytes:Int)*(m:Int)<=281474976710656:=by
   rw[h3,<-Int.natCast_mul];omega
  have bJ:=run_make (P:=P) g.w t e i z hu h1 h4 k k' m m (by omega) (Int.le_refl _) EC (by omega);simp only[Int.toNat_natCast]at bJ;have UX:au (List.replicate m (zeroOf te))=(List.replicate m te.zero).flatten:=by
   rw[au,List.flatMap_replicate,c1]
  have hlen:(List.replicate m te.zero).flatten.length=m*te.size:=by simp[h6]
  have fm:∀(j:Nat) (c:ae),(List.replicate m te.zero).flatten[j]?=some c->te.zero[j % te.size]?=some c:=fun j c=>h6 ▸ pQ te.zero (by omega) m j c;have hle:=Le.push g hg (.cells (madeCells z.cells (m*i.size)) e);have vZ:=cM g.w (.cells (madeCells z.cells (m*i.size)) e (0,0));have SP:RV (g.push (.cells (madeCells z.cells (m*i.size)) e)) (.aC te.size (List.replicate m (zeroOf te)) .ex) (.slice (some ⟨g.w.heap.size,0,none⟩) m m):=by
   have key:=@RV.aC (g.push (.cells (madeCells z.cells (m*i.size)) e)) te.size (List.replicate m (zeroOf te)) .ex ⟨g.w.heap.size,0,none⟩ m (fun x hx=>by
    rw[(List.mem_replicate.1 hx).2,c1,c2]) (fun x hx c hc=>by
    rw[(List.mem_replicate.1 hx).2,c1]at hc;exact c3 c hc) (by simp) (by simpa using QQ) (fun _=>rfl) (fun j=>(madeCells z.cells (m*i.size)).getD j undef) (fun j c hj=>by
     rw[UX]at hj;have bg:=I hj;rw[hlen]at bg;refine⟨?_,?_⟩
     ·show(g.w.alloc _).cell? _=_;rw[cell_of_row vZ,Nat.zero_add];have cP:j<(madeCells z.cells (m*i.size)).size:=by rw[size_madeCells,h2];exact bg
      simp[Array.getD_eq_getD_getElem?,cP]
     ·rintro(hf|⟨id,l,o',q1,q2,q3,q4,_⟩)
      ·have:=hg.frlt _ _ hf;simp at this
      have:=hg.loc id l o' q1 q2 q3;simp only at q4;omega) (fun j c hj=>by
     rw[UX]at hj;have jc:=fm j c hj;have bg:=I hj;rw[hlen]at bg;have kF:j % te.size<z.cells.size:=by rw[h5];exact I jc
     refine h8 _ _ _ _ jc ?_;have cP:j<(madeCells z.cells (m*i.size)).size:=by rw[size_madeCells,h2];exact bg
     have:(madeCells z.cells (m*i.size))[j]?=some (z.cells[j % te.size]'kF):=by
      simp only[madeCells,Array.getElem?_map,h2,Array.getElem?_range,if_pos bg,Option.map_some,Option.some.injEq];rw[h5,h6];simp[Array.getD_eq_getD_getElem?,kF]
     rw[Array.getD_eq_getD_getElem?,this,Option.getD_some];exact Array.getElem?_eq_getElem kF) (by simp[tq])
   simpa using key
  refine⟨.slice (some ⟨g.w.heap.size,0,none⟩) m m,g.push (.cells (madeCells z.cells (m*i.size)) e),.inl ?_,hle,Good.push hg _,rfl,by simpa using SP.Aq⟩;simp[execOp,ho,ex,ey,bJ,G.push]
theorem wS{P:Program}{kt:KT}{t k e:TypeId}{d:TypeDesc}(hu:P.underlying t=some (.map k e))(hk:P.underlying k=some d)(hd:kt.desc d){g:G}{r clk:Nat}{arr:Array MapEntry}{es:List (Value×ae)}{z:Value}{zx:ae}
  (hh:g.w.heap[r]?=some (.map arr clk)) (hl:arr.size=es.length) (HR:∀(i:Nat) (e:MapEntry) (kx:Value×ae),arr[i]?=some e->es[i]?=some kx->e.key=kx.1) (lM:∀p∈es,kt.ok p.1)
  (hr:∀(i:Nat) (e:MapEntry) (kx:Value×ae),arr[i]?=some e->es[i]?=some kx->RV g kx.2 e.val) {key:Value} (gl:kt.ok key) (hz:(Go.zeroValue e).run P g.w=.ok z g.w) (hzx:RV g zx z) (ok:Bool) :
  ∃u,(Instr.lookup t (.map (some r)) key ok).run P g.w=.ok (if ok then .tuple #[u,.bool (fH es key).isSome]else u) g.w∧RV g ((fH es key).getD zx) u:=by
 obtain⟨fr,h1,h2⟩:=findNow_spec hd gl arr.toList es 0 (by simpa using hl) (fun j e kx a b=>HR j e kx (by simpa using a) b) lM;have EH:∀b,(Instr.checkKey b 10000 k key).run P g.w=.ok () g.w:=fun b=>run_checkKey hk hd g.w b 9999;have fm:(getObj r).run P g.w=.ok (.map arr clk) g.w:=by
  simp[Go.getObj,Sem.run,hh]
 have Cd:(Instr.findKey k key arr.toList).run P g.w=.ok fr g.w:=by
  simp[Instr.findKey,run_underlying hk,h1]
 rcases h2 with⟨q1,q2,_⟩|⟨j,e',x,k0,q1,q2,q3,_,q5,_⟩
 ·subst q1;refine⟨z,?_,by rw[q2];exact hzx⟩;simp only[Instr.lookup,Sem.run_bind,run_underlying hu,Result.andThen_ok,fm,Sem.run_pure,EH,Cd,hz,q2];cases ok<;>rfl
 subst q1;refine⟨e'.val,?_,by rw[q5];exact hr j e' (k0,x) (by simpa using q2) q3⟩;simp only[Instr.lookup,Sem.run_bind,run_underlying hu,Result.andThen_ok,fm,Sem.run_pure,EH,Cd,q5];cases ok<;>rfl
def lX(ok:Bool)(x:Option ae)(z:ae):ae:=if ok then .cD [x.getD z,.v (.bool x.isSome)]else x.getD z
theorem nv{g:G}{ok:Bool}{x:Option ae}{z:ae}{u:Value}(h:RV g (x.getD z) u):RV g (lX ok x z) (if ok then .tuple #[u,.bool x.isSome]else u):=by
 cases ok
 ·exact h
 refine .cD rfl (fun i c v h1 h2=>?_)
 match i,h1,h2 with
 | 0,h1,h2 =>
  simp at h1 h2;subst h1;subst h2;exact h
 | 1,h1,h2 =>
  simp at h1 h2;subst h1;subst h2;exact .v trivial
theorem vz{P:Program}{aT:eZ}(hT:b6 P aT){o:Oper}{σ:St}{t k e:TypeId}{x y:Operand}{ok:Bool}{ti te:cf}{kt:KT}{es:List (Value×ae)}{key:Value}{d:TypeDesc}
  (ho:o.op=.lookup t x y ok) (hd:∀d,o.dst=some d->d<σ.n) (ht:aT t=some ti) (aU:ti.desc=.map k e) (hk:P.underlying k=some d) (vV:kt.desc d) (he:aT e=some te) (cP:te.desc.agg=true∨te.size=1)
  (hx:σ.ev x=some (.im kt es)) (hy:σ.ev y=some (.v key)) (gl:kt.ok key):Cert P o σ (lX ok (fH es key) (zeroOf te)) .pure :=
 Cert.bT .pure (.inl rfl) hd fun a g _ h _=>by
  obtain⟨r,clk,arr,ex,hh,hl,HR,lM,hr⟩:=(h x (by simp[ho,Op.operands]) _ hx).SU;have ey:=(h y (by simp[ho,Op.operands]) _ hy).cb.1;obtain⟨z,hz,Jj⟩:=pr (hT e te he) cP;obtain⟨u,h1,h2⟩:=wS (mL hT ht aU) hk vV hh hl HR lM hr gl (hz g.w) (Jj g) ok;exact⟨_,by simp only[execOp,ho,ex,ey,Sem.run_bind,h1,Result.andThen_ok,Sem.run_pure],nv h2⟩
theorem vA{P:Program}{aT:eZ}(hT:b6 P aT){o:Oper}{σ:St}{t k e:TypeId}{x y:Operand}{ok:Bool}{ti te:cf}{kt:KT}{es:List (Value×ae)}{id:Nat}{key:Value}{d:TypeDesc}
  (ho:o.op=.lookup t x y ok) (hd:∀d,o.dst=some d->d<σ.n) (ht:aT t=some ti) (aU:ti.desc=.map k e) (hk:P.underlying k=some d) (vV:kt.desc d) (he:aT e=some te) (cP:te.desc.agg=true∨te.size=1)
  (hx:σ.ev x=some (.mm id)) (ns:σ.objs[id]?=some (.map kt es)) (hy:σ.ev y=some (.v key)) (gl:kt.ok key):Cert P o σ (lX ok (fH es key) (zeroOf te)) (.rd id) :=
 Cert.Pc hd fun a g hg h hO=>by
  obtain⟨l,o1,rJ,h1,_,ex⟩:=(h x (by simp[ho,Op.operands]) _ hx).Ff;have ey:=(h y (by simp[ho,Op.operands]) _ hy).cb.1;obtain⟨l',ob,e1,_,hh0,Ah⟩:=hg.map id kt es (by rw[hO];exact ns);obtain⟨arr,clk,e2,hl,lM,hr,_⟩:=Ah.map (KT.ng vV);subst e2;have hh:=hh0;rw[rJ]at e1;simp only[Option.some.injEq]at e1;subst e1;obtain⟨z,hz,Jj⟩:=pr (hT e te he) cP;obtain⟨u,h1,h2⟩:=wS (mL hT ht aU) hk vV hh hl (fun i e kx a b=>(hr i e kx a b).1) lM (fun i e kx a b=>(hr i e kx a b).2.2) gl (hz g.w) (Jj g) ok;exact⟨_,by simp only[execOp,ho,ex,ey,Sem.run_bind,h1,Result.andThen_ok,Sem.run_pure],nv h2⟩
theorem uh{P:Program}{aT:eZ}(hT:b6 P aT){o:Oper}{σ:St}{t k e:TypeId}{x y:Operand}{ok:Bool}{ti te:cf}{kt:KT}{key:Value}{d:TypeDesc}
  (ho:o.op=.lookup t x y ok) (hd:∀d,o.dst=some d->d<σ.n) (ht:aT t=some ti) (aU:ti.desc=.map k e) (hk:P.underlying k=some d) (vV:kt.desc d) (he:aT e=some te) (cP:te.desc.agg=true∨te.size=1)
  (hx:σ.ev x=some (.v (.map none))) (hy:σ.ev y=some (.v key)):Cert P o σ (lX ok none (zeroOf te)) .pure :=
 Cert.bT .pure (.inl rfl) hd fun a g _ h _=>by
  have ex:=(h x (by simp[ho,Op.operands]) _ hx).cb.1;have ey:=(h y (by simp[ho,Op.operands]) _ hy).cb.1;obtain⟨z,hz,Jj⟩:=pr (hT e te he) cP;have EH:∀b,(Instr.checkKey b 10000 k key).run P g.w=.ok () g.w:=fun b=>run_checkKey hk vV g.w b 9999;have h1:(Instr.lookup t (.map none) key ok).run P g.w=.ok (if ok then .tuple #[z,.bool (none:Option ae).isSome]else z) g.w:=by
   simp only[Instr.lookup,Sem.run_bind,run_underlying (mL hT ht aU),Result.andThen_ok,Sem.run_pure,EH,Instr.findKey,run_underlying hk,Instr.findNow,hz g.w];cases ok<;>rfl
  exact⟨_,by simp only[execOp,ho,ex,ey,Sem.run_bind,h1,Result.andThen_ok,Sem.run_pure],nv (Jj g)⟩
theorem Ke{kt:KT}{a b:Value}(ha:kt.ok a)(hb:kt.ok b)(h:mE a b=true):a=b:=by
 cases kt with
 | iter c=>exact ha.elim
 | str =>
  cases a<;>simp only[KT.ok]at ha;cases b<;>simp only[KT.ok]at hb;simp only[mE,decide_eq_true_eq]at h;rw[h]
 | int k =>
  cases a<;>simp only[KT.ok]at ha;cases b<;>simp only[KT.ok]at hb;simp only[mE,decide_eq_true_eq]at h;rw[h,ha,hb]
theorem sameBits_self{kt:KT}{a:Value}(ha:kt.ok a)(n:Nat):Instr.sameBits n a a=true:=by
 cases kt with
 | iter c=>exact ha.elim
 | str =>
  cases a<;>simp only[KT.ok]at ha;cases n<;>simp[Instr.sameBits,bytes_beq]
 | int k =>
  cases a<;>simp only[KT.ok]at ha;cases n<;>simp[Instr.sameBits]
theorem Pe{kt:KT}{es:List (Value×ae)}{key:Value}{y:ae}(h:∀p∈es,kt.ok p.1)(hk:kt.ok key):∀p∈gP es key y,kt.ok p.1:=by
 induction es with
 | nil=>simp[gP,hk]
 | cons q r ih =>
  obtain⟨k,x⟩:=q;simp only[gP];split
  ·intro p hp;rcases List.mem_cons.1 hp with e|e
   ·subst e;exact hk
   exact h p (by simp[e])
  intro p hp;rcases List.mem_cons.1 hp with e|e
  ·subst e;exact h _ (by simp)
  exact ih (fun p hp=>h p (by simp[hp])) p e
theorem jH.push{arr:Array MapEntry}{clk:Nat}(h:jH arr clk){x:MapEntry}(hx:x.born=clk):jH (arr.push x) (clk+1):=by
 have key:∀(i:Nat) (e:MapEntry),(arr.push x)[i]?=some e->(i<arr.size∧arr[i]?=some e)∨(i=arr.size∧e=x):=fun i e hi=>by
  rw[Array.getElem?_push]at hi;split at hi
  ·rename_i q;simp only[Option.some.injEq]at hi;exact .inr ⟨q,hi.symm⟩
  exact .inl ⟨aW hi,hi⟩
 refine⟨fun i j e e' sR hi hj=>?_,fun i e hi=>?_⟩
 ·rcases key j e' hj with⟨q1,q2⟩|⟨q1,q2⟩
  ·rcases key i e hi with⟨r1,r2⟩|⟨r1,r2⟩
   ·exact h.1 i j e e' sR r2 q2
   omega
  rcases key i e hi with⟨r1,r2⟩|⟨r1,r2⟩
  ·rw[q2,hx];exact h.2 i e r2
  omega
 rcases key i e hi with⟨q1,q2⟩|⟨q1,q2⟩
 ·have:=h.2 i e q2;omega
 rw[q2,hx];omega
theorem jH.modify{arr:Array MapEntry}{clk:Nat}(h:jH arr clk)(j:Nat){f:MapEntry->MapEntry}(hf:∀e,(f e).born=e.born):jH (arr.modify j f) clk:=by
 have key:∀(i:Nat) (e:MapEntry),(arr.modify j f)[i]?=some e->∃e0,arr[i]?=some e0∧e.born=e0.born:=fun i e hi=>by
  rw[Array.getElem?_modify]at hi;split at hi
  ·cases h0:arr[i]? with
   | none=>rw[h0]at hi;cases hi
   | some e0 =>
    rw[h0,Option.map_some,Option.some.injEq]at hi;exact⟨e0,rfl,by rw[<-hi,hf]⟩
  exact⟨e,hi,rfl⟩
 refine⟨fun i k e e' Vk hi hk=>?_,fun i e hi=>?_⟩
 ·obtain⟨a,a1,a2⟩:=key i e hi;obtain⟨b,b1,b2⟩:=key k e' hk;rw[a2,b2];exact h.1 i k a b Vk a1 b1
 obtain⟨a,a1,a2⟩:=key i e hi;rw[a2];exact h.2 i a a1
theorem oA{P:Program}{aT:eZ}(hT:b6 P aT){o:Oper}{σ:St}{t k e:TypeId}{x y v:Operand}{ti:cf}{kt:KT}{es:List (Value×ae)}{id:Nat}{key:Value}{d:TypeDesc}{val:ae}
  (ho:o.op=.mapUpdate t x y v∨o.op=.insert t x y v) (jA:o.dst=none) (ht:aT t=some ti) (aU:ti.desc=.map k e) (hk:P.underlying k=some d) (vV:kt.desc d)
  (hx:σ.ev x=some (.mm id)) (ns:σ.objs[id]?=some (.map kt es)) (hy:σ.ev y=some (.v key)) (gl:kt.ok key) (hv:σ.ev v=some val) :
  Cert P o σ (.v (.bool false)) (.write (σ.objs.set id (.map kt (gP es key val)))) :=
 Cert.iZ (by simp[jA]) fun base fY a g bN h je=>by
  have RZ:g.objs=σ.objs:=je.resolve_left (by simp);have hg:=bN.good;obtain⟨l,o1,rJ,h1,_,ex⟩:=(h x (by rcases ho with ho|ho<;>simp[ho,Op.operands]) _ hx).Ff;have X9:=(h y (by rcases ho with ho|ho<;>simp[ho,Op.operands]) _ hy).cb;have ey:=X9.1;have TV:=h v (by rcases ho with ho|ho<;>simp[ho,Op.operands]) _ hv;have ln:g.objs[id]?=some (.map kt es):=by rw[RZ];exact ns
  obtain⟨l',ob,e1,iK,hh,Ah⟩:=hg.map id kt es ln;obtain⟨arr,clk,e2,hl,lM,hr,Gq⟩:=Ah.map (KT.ng vV);subst e2;rw[rJ]at e1;simp only[Option.some.injEq]at e1;subst e1;obtain⟨fr,f1,f2⟩:=findNow_spec vV gl arr.toList es 0 (by simpa using hl) (fun j e kx a b=>(hr j e kx (by simpa using a) b).1) lM;have EH:∀b,(Instr.checkKey b 10000 k key).run P g.w=.ok () g.w:=fun b=>run_checkKey hk vV g.w b 9999;have fm:(getObj l.block).run P g.w=.ok (.map arr clk) g.w:=by
   simp[Go.getObj,Sem.run,hh]
  have Cd:(Instr.findKey k key arr.toList).run P g.w=.ok fr g.w:=by
   simp[Instr.findKey,run_underlying hk,f1]
  have iw:∀o',(setObj l.block o').run P g.w=.ok () { g.w with heap:=g.w.heap.setIfInBounds l.block o' }:=fun o'=>by
   simp[Go.setObj,Sem.run,hh]
  have bg:=aW hh;have Y3:∃ck BL,(Instr.mapUpdate t (.map (some l.block)) key (a.eval v)).run P g.w=.ok () { g.w with heap:=g.w.heap.setIfInBounds l.block (.map ck BL) }∧ck.size=(gP es key val).length ∧
    (∀(i:Nat) (e:MapEntry) (kx:Value×ae),ck[i]?=some e->(gP es key val)[i]?=some kx->e.key=kx.1∧iv kx.1∧RV g kx.2 e.val)∧jH ck BL:=by
   rcases f2 with⟨q1,q2,q3⟩|⟨j,e',x',k0,q1,q2,q3,q4,q5,q6⟩
   ·subst q1;refine⟨arr.push { key,val:=a.eval v,born:=clk },clk+1,?_,by rw[q3];simp[hl],fun i e kx a1 a2=>?_,Gq.push rfl⟩
    ·simp only[Instr.mapUpdate,Sem.run_bind,run_underlying (mL hT ht aU),Result.andThen_ok,fm,EH,Cd,iw]
    rw[q3]at a2;rcases aR a2 with b|⟨b1,b2⟩
    ·have hi:=I b;rw[Array.getElem?_push,if_neg (by omega)]at a1;exact hr i e kx a1 b
    subst b2;rw[Array.getElem?_push,if_pos (by omega)]at a1;simp only[Option.some.injEq]at a1;subst a1;exact⟨rfl,X9.2,TV⟩
   subst q1;have DB:k0=key:=Ke (lM (k0,x') (List.mem_of_getElem? q3)) gl q4;have Pf:arr[j]?=some e':=by simpa using q2
   have WR:e'.key=key:=(hr j e' (k0,x') Pf q3).1.trans DB;refine⟨arr.modify j fun e=>{ e with key,val:=a.eval v },clk,?_,by rw[q6];simp[hl],fun i e kx a1 a2=>?_,Gq.modify j fun _=>rfl⟩
   ·have V0:∀w,(Instr.keyThatStays key key).run P w=.ok key w:=fun w=>by simp[Instr.keyThatStays,sameBits_self gl]
    simp only[Instr.mapUpdate,Sem.run_bind,run_underlying (mL hT ht aU),Result.andThen_ok,fm,EH,Cd,Nat.zero_add,Pf,Option.map_some,Option.getD_some,WR,V0,iw]
   rw[q6]at a2;rw[Array.getElem?_modify]at a1;by_cases e:j=i
   ·subst e;rw[if_pos rfl,Pf]at a1;rw[List.getElem?_set_self (by rw[<-hl];exact aW Pf)]at a2;simp only[Option.map_some,Option.some.injEq]at a1 a2;subst a1;subst a2;exact⟨rfl,X9.2,TV⟩
   rw[if_neg e]at a1;rw[List.getElem?_set_ne e]at a2;exact hr i _ kx a1 a2
  obtain⟨ck,BL,bJ,oO,Sh,R7⟩:=Y3;have v8:∀k,k≠l.block->(g.w.heap.setIfInBounds l.block (.map ck BL))[k]?=g.w.heap[k]?:=fun k hk=>Array.getElem?_setIfInBounds_ne (fun e=>hk e.symm);have eR:ld g id (.map kt es) (some l) (.map kt (gP es key val)) { g.w with heap:=g.w.heap.setIfInBounds l.block (.map ck BL) }:={
   obj:=ln
   os:=rfl
   tape:=rfl
   output:=rfl
   size:=by simp
   block:=fun k _ hk=>v8 k (fun e=>hk l rJ trivial e.symm)
   cell:=fun b off x hx _=>by
    by_cases e:b=l.block
    ·subst e;simp only[G.cell,World.cell?,hh]at hx;cases hx
    simp only[World.cell?,v8 b e];exact hx
   place:=fun l1 h1 _=>by
    simp only[Option.some.injEq]at h1;subst h1;exact .inr ⟨l,rJ,trivial,rfl,Nat.le_refl _⟩
   spare:=fun m h=>by cases h
   plain:=fun _=>⟨by simp[aj.aF],rJ⟩
   gone:=by simp }
  have hle:=Le.bB hg eR;refine⟨.bool false,g.bB id (some l) (.map kt (gP es key val)) { g.w with heap:=g.w.heap.setIfInBounds l.block (.map ck BL) },.inr ⟨jA,?_⟩,hle,Good.bB hg eR ?_ ?_,by simp only[G.bB,Mode.post,RZ],.v trivial⟩
  ·rcases ho with ho|ho<;>simp only[execOp,ho,ex,ey,Sem.run_bind,bJ,Result.andThen_ok,Sem.run_pure,G.bB]
  ·refine⟨l,.map ck BL,rfl,iK,?_,tp.mok ⟨ck,BL,rfl,oO,Pe lM gl,fun i e kx a b=>⟨(Sh i e kx a b).1,(Sh i e kx a b).2.1,(Sh i e kx a b).2.2.mono hle⟩,R7⟩ (KT.ng vV)⟩;simp only[G.bB];rw[Array.getElem?_setIfInBounds_self_of_lt bg]
  intro l1 h1 _;simp only[Option.some.injEq]at h1;subst h1;simpa using bg
def St.BY(σ:St):List Operand->Option (List ae)
 | []=>some []
 | x::r =>
  match σ.ev x,σ.BY r with
  | some y,some ys=>some (y::ys)
  | _,_=>none
theorem rD{σ:St}{a:Act}{g:G}:∀{xs:List Operand} {ys:List ae},(∀x∈xs,∀y,σ.ev x=some y->RV g y (a.eval x))->σ.BY xs=some ys->jI g ys (xs.map a.eval).toArray
 | [],ys,_,h=>by
  simp only[St.BY,Option.some.injEq]at h;subst h;exact⟨rfl,by simp⟩
 | x::r,ys,mU,h=>by
  simp only[St.BY]at h;cases hx:σ.ev x with
  | none=>simp[hx]at h
  | some y =>
   cases hr:σ.BY r with
   | none=>simp[hx,hr]at h
   | some zs =>
    simp only[hx,hr,Option.some.injEq]at h;subst h;obtain⟨h1,h2⟩:=rD (g:=g) (a:=a) (fun z hz=>mU z (List.mem_cons_of_mem _ hz)) hr;refine⟨by simpa using h1,fun j c u a1 a2=>?_⟩;cases j with
    | zero =>
     simp at a1 a2;subst a1;subst a2;exact mU x (List.mem_cons_self) y hx
    | succ j=>exact h2 j c u (by simpa using a1) (by simpa using a2)
theorem xA{P:Program}{o:Oper}{σ:St}{f:Fn}{first captured:Array Operand}{fs cs:List ae}(ho:o.op=.makeFunc f first captured)(hd:∀d,o.dst=some d->d<σ.n)
  (hf:σ.BY first.toList=some fs) (hc:σ.BY captured.toList=some cs):Cert P o σ (.fn f fs cs) .pure :=
 Cert.bT .pure (.inl rfl) hd fun a g _ h _=>by
  have m1:∀x∈first.toList,x∈o.op.operands:=fun x hx=>by
   rw[ho];simp only[Op.operands,Array.mem_append];exact .inl (Array.mem_toList_iff.1 hx)
  have m2:∀x∈captured.toList,x∈o.op.operands:=fun x hx=>by
   rw[ho];simp only[Op.operands,Array.mem_append];exact .inr (Array.mem_toList_iff.1 hx)
  have h1:=rD (g:=g) (a:=a) (fun x hx y hy=>h x (m1 x hx) y hy) hf;have h2:=rD (g:=g) (a:=a) (fun x hx y hy=>h x (m2 x hx) y hy) hc;refine⟨.func f (first.map a.eval) (captured.map a.eval),by simp[execOp,ho,Instr.makeFunc],?_⟩;have e1:first.map a.eval=(first.toList.map a.eval).toArray:=Array.ext' (by rw[Array.toList_map])
  have e2:captured.map a.eval=(captured.toList.map a.eval).toArray:=Array.ext' (by rw[Array.toList_map]);rw[e1,e2];exact .fn h1.1 h2.1 h1.2 h2.2
mutual
def ae.upto(n:Nat):ae->Prop
 | .v _=>True
 | .agg cs=>aw n cs
 | .aC _ xs o=>aw n xs∧(match o with | .tok id=>id<n | _=>True)
 | .ip _ cs=>aw n cs
 | .mp id _=>id<n
 | .ms id _ _ _=>id<n
 | .os id _ _=>id<n
 | .raw _ _ id=>id<n
 | .mm id=>id<n
 | .im _ es=>lD n es
 | .fn _ fs cs=>aw n fs∧aw n cs
 | .cD cs=>aw n cs
def aw(n:Nat):List ae->Prop
 | []=>True
 | x::r=>x.upto n∧aw n r
def lD(n:Nat):List (Value×ae)->Prop
 | []=>True
 | x::r=>Rq n x∧lD n r
def Rq(n:Nat):Value×ae->Prop
 | (_,x)=>x.upto n
end
theorem aV{n:Nat}{l:List ae}:aw n l↔∀x∈l,x.upto n:=by
 induction l with
 | nil=>simp[aw]
 | cons x r ih=>simp[aw,ih]
theorem k9{n:Nat}{l:List (Value×ae)}:lD n l↔∀x∈l,x.2.upto n:=by
 induction l with
 | nil=>simp[lD]
 | cons x r ih =>
  obtain⟨k,x⟩:=x;simp[lD,Rq,ih]
def G.cu(g:G)(n:Nat):G:=⟨g.w,g.fr,g.env.take n,g.objs.take n⟩
theorem cZ{α:Type}{l:List α}{n i:Nat}{x:α}(h:(l.take n)[i]?=some x):l[i]?=some x∧i<n:=by
 rw[List.getElem?_take]at h;split at h
 ·rename_i hh;exact⟨h,hh⟩
 cases h
theorem ke.cu{g:G}{n b off:Nat}(h:ke (g.cu n) b off):ke g b off:=by
 obtain⟨id,l,o,h1,h2,h3,h4,h5⟩:=h;exact⟨id,l,o,(cZ h1).1,(cZ h2).1,h3,h4,h5⟩
theorem jy.cu{g:G}{n b off:Nat}(h:jy (g.cu n) b off):jy g b off:=h.imp id ke.cu
theorem gm.cu{g:G}{n b:Nat}(h:gm (g.cu n) b):gm g b:=by
 obtain⟨id,l,o,h1,h2,h3,h4⟩:=h;exact⟨id,l,o,(cZ h1).1,(cZ h2).1,h3,h4⟩
theorem RV.cu{g:G}{n:Nat}{x:ae}{u:Value}(h:RV g x u)(hn:n<=g.objs.length)(hb:x.upto n):RV (g.cu n) x u:=by
 have fm:∀(id:Nat),id<n->(g.cu n).objs[id]?=g.objs[id]?:=fun id gp=>by
  simp only[G.cu];rw[List.getElem?_take,if_pos gp]
 have yH:∀(id:Nat),id<n->(g.cu n).env[id]?=g.env[id]?:=fun id gp=>by
  simp only[G.cu];rw[List.getElem?_take,if_pos gp]
 induction h with
 | v hx=>exact .v hx
 | agg hl dv _ ih =>
  simp only[ae.upto,aV]at hb;exact .agg hl dv fun i c u a b=>ih i c u a b (hb c (List.mem_of_getElem? a))
 | nil ho Ai =>
  simp only[ae.upto]at hb;refine .nil (fun id e=>?_) Ai;subst e;have:=hb.2;simp only[G.cu,List.length_take];omega
 | aC cP dv cY cE hs f hm hr ho ih =>
  rename_i sz xs o a cap;simp only[ae.upto,aV]at hb;refine .aC cP dv cY cE hs f (fun j c hj=>⟨(hm j c hj).1,fun q=>(hm j c hj).2 q.cu⟩) (fun j c hj=>ih j c hj ?_) ?_
  ·have hc:=List.mem_of_getElem? hj;simp only[au,List.mem_flatMap]at hc;obtain⟨x,hx,hc⟩:=hc;have:=hb.1 x hx;cases x with
   | agg cs =>
    simp only[ae.upto,aV]at this;exact this c hc
   | _=>simp only[ae.cells,List.mem_singleton]at hc;subst hc;exact this
  cases o with
  | sh=>trivial
  | nn=>trivial
  | ex=>exact ho
  | loc a=>exact ho
  | tok id =>
   have gp:=hb.2;simp only at gp;obtain⟨q1,q2⟩:=ho;refine⟨by simp only[G.cu,List.length_take];omega,fun m eF=>?_⟩;rw[fm id gp]at eF;obtain⟨r1,r2⟩:=q2 m eF;refine⟨r1,fun e=>(r2 e).imp (fun h=>h) ?_⟩;rintro⟨l,arr,t,p1,p2,p3,p4,p5⟩;exact⟨l,arr,t,(yH id gp).trans p1,p2,p3,p4,p5⟩
 | ip ha dv f hm hr ih =>
  simp only[ae.upto,aV]at hb;exact .ip ha dv f (fun j c hj=>⟨(hm j c hj).1,fun q=>(hm j c hj).2 q.cu⟩) fun j c hj=>ih j c hj (hb c (List.mem_of_getElem? hj))
 | mp he ho jQ=>exact .mp ((yH _ hb).trans he) ((fm _ hb).trans ho) jQ
 | ms he ho jQ hc qZ cE=>exact .ms ((yH _ hb).trans he) ((fm _ hb).trans ho) jQ hc qZ cE
 | os he ho jQ hc qZ cE=>exact .os ((yH _ hb).trans he) ((fm _ hb).trans ho) jQ hc qZ cE
 | raw Ai ho =>
  rename_i sz n0 id a cap;have gp:id<n:=hb;obtain⟨q1,q2⟩:=ho;refine .raw Ai ⟨by simp only[G.cu,List.length_take];omega,fun m eF=>?_⟩;rw[fm id gp]at eF;obtain⟨r1,r2⟩:=q2 m eF;refine⟨r1,fun e=>(r2 e).imp (fun h=>h) ?_⟩;rintro⟨l,arr,t,p1,p2,p3,p4,p5⟩;exact⟨l,arr,t,(yH id gp).trans p1,p2,p3,p4,p5⟩
 | mm he ho jQ=>exact .mm ((yH _ hb).trans he) ((fm _ hb).trans ho) jQ
 | im hh jQ hl hk vW KA _ ih =>
  simp only[ae.upto,k9]at hb;exact .im hh (fun off q=>jQ off q.cu) hl hk vW KA fun i e kx a b=>ih i e kx a b (hb kx (List.mem_of_getElem? b))
 | fn hl Bh _ _ ih GL =>
  simp only[ae.upto,aV]at hb;exact .fn hl Bh (fun i c u a b=>ih i c u a b (hb.1 c (List.mem_of_getElem? a))) fun i c u a b=>GL i c u a b (hb.2 c (List.mem_of_getElem? a))
 | cD hl _ ih =>
  simp only[ae.upto,aV]at hb;exact .cD hl fun i c u a b=>ih i c u a b (hb c (List.mem_of_getElem? a))
def aj.upto(n:Nat):aj->Prop
 | .cells cs=>aw n cs
 | .map _ es=>lD n es
 | _=>True
theorem Good.cu{g:G}(hg:Good g){n:Nat}(hn:n<=g.objs.length)(hb:∀o∈g.objs.take n,o.upto n):Good (g.cu n) where
 frlt:=hg.frlt
 fQ:=fun id l o h1 h2 h3=>hg.fQ id l o (cZ h1).1 (cZ h2).1 h3
 len:=by simp only[G.cu,List.length_take,hg.len]
 loc:=fun id l o h1 h2 h3=>hg.loc id l o (cZ h1).1 (cZ h2).1 h3
 apart:=fun id mh l l' o o' h1 h2 h3 h4 h5 h6 h7=>hg.apart id mh l l' o o' (cZ h1).1 (cZ h2).1 h3 (cZ h4).1 (cZ h5).1 h6 h7
 cells:=fun id cs h=>by
  obtain⟨l,arr,t,e1,e0,e2,e3,e4,e5⟩:=hg.cells id cs (cZ h).1;have UQ:=hb _ (List.mem_of_getElem? h);simp only[aj.upto,aV]at UQ;exact⟨l,arr,t,by simp only[G.cu];rw[List.getElem?_take,if_pos (cZ h).2,e1],e0,e2,e3,fun j c u a b=>(e4 j c u a b).cu hn (UQ c (List.mem_of_getElem? a)),e5⟩
 spare:=fun id m l h1 h2=>hg.spare id m l (cZ h1).1 (cZ h2).1
 map:=fun id kt es h=>by
  obtain⟨l,ob,e1,e0,e2,e3⟩:=hg.map id kt es (cZ h).1;have UQ:=hb _ (List.mem_of_getElem? h);simp only[aj.upto,k9]at UQ;exact⟨l,ob,by simp only[G.cu];rw[List.getElem?_take,if_pos (cZ h).2,e1],e0,e2,e3.imp (fun p hp u q=>q.cu hn (UQ p hp)) fun m clk arr q1 q2=>⟨q1,fun off q=>q2 off q.cu⟩⟩
theorem Le.cu{g0 g:G}(h:Le g0 g){n:Nat}(hn:g0.objs.length<=n):Le g0 (g.cu n) where
 os:=h.os
 tape:=h.tape
 output:=h.output
 fr:=h.fr
 size:=h.size
 block:=fun k hk hh=>⟨(h.block k hk hh).1,fun q=>(h.block k hk hh).2 q.cu⟩
 cell:=fun b off x hx hh=>⟨(h.cell b off x hx hh).1,fun q=>(h.cell b off x hx hh).2 q.cu⟩
 len:=by
  have:=h.len;simp only[G.cu,List.length_take];omega
 spare:=fun id m hm=>by
  have bg:=I hm;have e:(g.cu n).objs[id]?=g.objs[id]?:=by
   simp only[G.cu];rw[List.getElem?_take,if_pos (by omega)]
  rw[e];exact h.spare id m hm
 plain:=fun id o ho hs=>by
  have bg:=I ho;have e:(g.cu n).objs[id]?=g.objs[id]?:=by
   simp only[G.cu];rw[List.getElem?_take,if_pos (by omega)]
  have e':(g.cu n).env[id]?=g.env[id]?:=by
   simp only[G.cu];rw[List.getElem?_take,if_pos (by omega)]
  rw[e,e'];exact h.plain id o ho hs
 gone:=fun id ho=>by
  have bg:=I ho;have e:(g.cu n).objs[id]?=g.objs[id]?:=by
   simp only[G.cu];rw[List.getElem?_take,if_pos (by omega)]
  rw[e];exact h.gone id ho
 tok:=fun id m hm eF=>by
  have bg:=I hm;have e:(g.cu n).objs[id]?=g.objs[id]?:=by
   simp only[G.cu];rw[List.getElem?_take,if_pos (by omega)]
  have e':(g.cu n).env[id]?=g.env[id]?:=by
   simp only[G.cu];rw[List.getElem?_take,if_pos (by omega)]
  rw[e]at eF;rw[e'];exact h.tok id m hm eF
def Enters (P : Program) (f : FuncId) : Prop := ∃ fn, P.funcs[f]? = some fn ∧ (fn.name == "runtime.NumGoroutine") = false ∧ fn.body.isNone = false
def bd(P:Program)(f:FuncId)(O:List aj)(args:List ae)(R:ae->List aj->Prop):Prop :=
 Enters P f∧∀(g:G) (vs:Array Value),Good g->g.objs=O->jI g args vs->Calls P f vs g.w fun e w'=>∃g' v r,e=.returned v∧g'.w=w'∧Le g g'∧Good g'∧RV g' r v∧R r g'.objs
def bD(P:Program)(f:FuncId)(args:List ae)(r:ae):Prop:=bd P f [] args fun r' O'=>r'=r∧O'=[]
theorem bd.mono{P:Program}{f:FuncId}{O:List aj}{args:List ae}{R R':ae->List aj->Prop}(h:bd P f O args R)(hr:∀r O',R r O'->R' r O'):bd P f O args R' :=
 ⟨h.1,fun g vs hg ho ha=>(h.2 g vs hg ho ha).mono fun _ _ ⟨g',v,r,h1,h2,h3,h4,h5,h6⟩=>⟨g',v,r,h1,h2,h3,h4,h5,hr _ _ h6⟩⟩
def G.bare(g:G):G:=⟨g.w,jy g,[],[]⟩
theorem vj{g:G}{b off:Nat}:jy g.bare b off↔jy g b off:=by
 constructor
 ·rintro(h|⟨id,l,o,h1,_⟩)
  ·exact h
  simp[G.bare]at h1
 exact .inl
theorem RV.bare{g:G}{x:ae}{u:Value}(h:RV g x u)(hb:x.upto 0):RV g.bare x u:=by
 induction h with
 | v hx=>exact .v hx
 | agg hl dv _ ih =>
  simp only[ae.upto,aV]at hb;exact .agg hl dv fun i c u a b=>ih i c u a b (hb c (List.mem_of_getElem? a))
 | nil ho Ai =>
  simp only[ae.upto]at hb;refine .nil (fun id e=>?_) Ai;subst e;have:=hb.2;simp only at this;omega
 | aC cP dv cY cE hs f hm hr ho ih =>
  rename_i sz xs o a cap;simp only[ae.upto,aV]at hb;refine .aC cP dv cY cE hs f (fun j c hj=>⟨(hm j c hj).1,fun q=>(hm j c hj).2 (vj.1 q)⟩) (fun j c hj=>ih j c hj ?_) ?_
  ·have hc:=List.mem_of_getElem? hj;simp only[au,List.mem_flatMap]at hc;obtain⟨x,hx,hc⟩:=hc;have:=hb.1 x hx;cases x with
   | agg cs =>
    simp only[ae.upto,aV]at this;exact this c hc
   | _=>simp only[ae.cells,List.mem_singleton]at hc;subst hc;exact this
  cases o with
  | sh=>trivial
  | nn=>trivial
  | ex=>exact ho
  | loc a=>exact ho
  | tok id =>
   have gp:=hb.2;simp only at gp;omega
 | ip ha dv f hm hr ih =>
  simp only[ae.upto,aV]at hb;exact .ip ha dv f (fun j c hj=>⟨(hm j c hj).1,fun q=>(hm j c hj).2 (vj.1 q)⟩) fun j c hj=>ih j c hj (hb c (List.mem_of_getElem? hj))
 | mp he ho jQ=>simp only[ae.upto]at hb;omega
 | ms he ho jQ hc qZ cE=>simp only[ae.upto]at hb;omega
 | os he ho jQ hc qZ cE=>simp only[ae.upto]at hb;omega
 | raw Ai ho=>simp only[ae.upto]at hb;omega
 | mm he ho jQ=>simp only[ae.upto]at hb;omega
 | im hh jQ hl hk vW KA _ ih =>
  simp only[ae.upto,k9]at hb;exact .im hh (fun off q=>jQ off (vj.1 q)) hl hk vW KA fun i e kx a b=>ih i e kx a b (hb kx (List.mem_of_getElem? b))
 | fn hl Bh _ _ ih GL =>
  simp only[ae.upto,aV]at hb;exact .fn hl Bh (fun i c u a b=>ih i c u a b (hb.1 c (List.mem_of_getElem? a))) fun i c u a b=>GL i c u a b (hb.2 c (List.mem_of_getElem? a))
 | cD hl _ ih =>
  simp only[ae.upto,aV]at hb;exact .cD hl fun i c u a b=>ih i c u a b (hb c (List.mem_of_getElem? a))
theorem Good.bare{g:G}(hg:Good g):Good g.bare where
 frlt:=fun b off h=>by
  rcases h with h|⟨id,l,o,h1,h2,h3,h4,_⟩
  ·exact hg.frlt b off h
  exact h4 ▸ hg.loc id l o h1 h2 h3
 fQ:=fun id l o h1=>by simp[G.bare]at h1
 len:=rfl
 loc:=fun id l o h1=>by simp[G.bare]at h1
 apart:=fun id mh l l' o o' h1=>by simp[G.bare]at h1
 cells:=fun id cs h1=>by simp[G.bare]at h1
 spare:=fun id m l h1=>by simp[G.bare]at h1
 map:=fun id kt es h1=>by simp[G.bare]at h1
def G.back(g g':G):G:=⟨g'.w,g.fr,g.env,g.objs⟩
theorem Ay{g:G}(he:g.env=[]){b:Nat}:¬gm g b:=by
 rintro⟨id,l,o,h1,_⟩;simp[he]at h1
theorem Le.back{g g':G}(hg:Good g)(h:Le g.bare g'):Le g (g.back g') where
 os:=h.os
 tape:=h.tape
 output:=h.output
 fr:=rfl
 size:=h.size
 block:=fun k hk hh=>⟨(h.block k hk (Ay rfl)).1,hh⟩
 cell:=fun b off x hx hh=>⟨(h.cell b off x hx (fun q=>Ay rfl q.block)).1,hh⟩
 len:=Nat.le_refl _
 spare:=fun id m hm=>.inl ⟨m,hm,Nat.le_refl _⟩
 plain:=fun id o ho hs=>⟨⟨o,ho,hs⟩,rfl⟩
 gone:=fun id ho=>ho
 tok:=fun id m hm eF=>⟨rfl,fun l hl=>(h.block _ (hg.loc id l _ hl hm trivial) (Ay rfl)).1⟩
theorem Good.back{g g':G}(hg:Good g)(h:Le g.bare g'):Good (g.back g'):=by
 have hle:=Le.back hg h;have vT:∀k,k<g.w.heap.size->g'.w.heap[k]?=g.w.heap[k]?:=fun k hk=>(h.block k hk (Ay rfl)).1;exact {
  frlt:=fun b off hf=>Nat.lt_of_lt_of_le (hg.frlt b off hf) h.size
  fQ:=hg.fQ
  len:=hg.len
  loc:=fun id l o h1 h2 h3=>Nat.lt_of_lt_of_le (hg.loc id l o h1 h2 h3) h.size
  apart:=hg.apart
  cells:=fun id cs h1=>by
   obtain⟨l,arr,t,e1,e0,e2,e3,e4,e5⟩:=hg.cells id cs h1;exact⟨l,arr,t,e1,e0,(vT _ (aW e2)).trans e2,e3,fun j c u a b=>(e4 j c u a b).mono hle,e5⟩
  spare:=fun id m l h1 h2=>by
   obtain⟨arr,t,e⟩:=hg.spare id m l h1 h2;exact⟨arr,t,(vT _ (aW e)).trans e⟩
  map:=fun id kt es h1=>by
   obtain⟨l,ob,e1,e0,e2,e3⟩:=hg.map id kt es h1;exact⟨l,ob,e1,e0,(vT _ (aW e2)).trans e2,e3.mono hle⟩ }
theorem RV.back{g g':G}{x:ae}{u:Value}(dQ:g'.fr=jy g)(HM:g'.env=[])(ns:g'.objs=[])(h:RV g' x u):RV (g.back g') x u:=by
 have oM:∀b off,jy (g.back g') b off->jy g' b off:=fun b off q=>by
  refine .inl ?_;rw[dQ];exact q
 induction h with
 | v hx=>exact .v hx
 | agg hl dv _ ih=>exact .agg hl dv ih
 | nil ho Ai =>
  refine .nil (fun id e=>?_) Ai;have:=ho id e;simp[ns]at this
 | aC cP dv cY cE hs f hm hr ho ih =>
  rename_i sz xs o a cap;refine .aC cP dv cY cE hs f (fun j c hj=>⟨(hm j c hj).1,fun q=>(hm j c hj).2 (oM _ _ q)⟩) ih ?_;cases o with
  | sh=>trivial
  | nn=>trivial
  | ex=>exact ho
  | loc a=>exact ho
  | tok id =>
   have:=ho.1;simp[ns]at this
 | ip ha dv f hm hr ih=>exact .ip ha dv f (fun j c hj=>⟨(hm j c hj).1,fun q=>(hm j c hj).2 (oM _ _ q)⟩) ih
 | mp he ho jQ=>simp[HM]at he
 | ms he ho jQ hc qZ cE=>simp[HM]at he
 | os he ho jQ hc qZ cE=>simp[HM]at he
 | raw Ai ho =>
  have:=ho.1;simp[ns]at this
 | mm he ho jQ=>simp[HM]at he
 | im hh jQ hl hk vW KA _ ih=>exact .im hh (fun off q=>jQ off (oM _ _ q)) hl hk vW KA ih
 | fn hl Bh _ _ ih GL=>exact .fn hl Bh ih GL
 | cD hl _ ih=>exact .cD hl ih
theorem bD.use{P:Program}{f:FuncId}{args:List ae}{r:ae}(h:bD P f args r)(hb:aw 0 args)(O:List aj):bd P f O args fun r' O'=>r'=r∧O'=O:=by
 refine⟨h.1,?_⟩;intro g vs hg ho ha;have Ja:jI g.bare args vs:=⟨ha.1,fun j c u a b=>(ha.2 j c u a b).bare (aV.1 hb c (List.mem_of_getElem? a))⟩
 refine(h.2 g.bare vs hg.bare rfl Ja).mono ?_;rintro e w' ⟨g',v,r',h1,h2,h3,h4,h5,h6,h7⟩;subst h6;have HM:g'.env=[]:=by
  have:=h4.len;rw[h7]at this;exact List.length_eq_zero_iff.1 this
 exact⟨g.back g',v,r',h1,h2,Le.back hg h3,Good.back hg h3,h5.back h3.fr HM h7,rfl,ho⟩
inductive Kind where
 | pure
 | read
 | rd (id:Nat)
 | write
 | wr (n:Nat) (l:List Nat)
 | new (id:Nat)
 deriving DecidableEq
def T8(k:Kind)(F:List aj->List aj):Prop :=
 match k with
 | .write=>∀O O',F O=F O'
 | .wr _ _=>∀O O',F O=F O'
 | .new id=>∃o,∀O,F O=O.set id o
 | _=>∀O,F O=O
def Mode.kind:Mode->Kind
 | .pure=>.pure
 | .read=>.read
 | .rd id=>.rd id
 | .write _=>.write
 | .wr n l _=>.wr n l
 | .new id _=>.new id
def rC(n:Nat)(d:Option Nat)(l:List (Nat×ae)):List (Nat×ae) :=
 match d with
 | some d=>if d<n then bF d (.cD []) l else bh d l
 | none=>l
structure iA(σ τ:St):Prop where
 n:σ.n=τ.n
 objs:σ.objs=τ.objs
 get:∀s,σ.get s=τ.get s
theorem iA.refl(σ:St):iA σ σ:=⟨rfl,rfl,fun _=>rfl⟩
theorem iA.symm{σ τ:St}(h:iA σ τ):iA τ σ:=⟨h.n.symm,h.objs.symm,fun s=>(h.get s).symm⟩
theorem iA.trans{σ τ ρ:St}(h:iA σ τ)(k:iA τ ρ):iA σ ρ:=⟨h.n.trans k.n,h.objs.trans k.objs,fun s=>(h.get s).trans (k.get s)⟩
theorem iA.ev{σ τ:St}(h:iA σ τ)(x:Operand):σ.ev x=τ.ev x:=by
 cases x with
 | tmp t=>exact h.get t
 | _=>rfl
theorem iA.rel{σ τ:St}(h:iA σ τ){base:G}{a:Act}{g:G}(k:Rel base σ a g):Rel base τ a g where
 le:=k.le
 good:=k.good
 objs:=k.objs.trans h.objs
 size:=k.size.trans h.n
 defers:=k.defers
 slot:=fun s x hx=>k.slot s x ((h.get s).trans hx)
def St.put(σ:St)(d:Option Nat)(r:ae)(O:List aj):St:=⟨σ.n,p9 d r σ.br,O⟩
def St.skip(σ:St)(d:Option Nat):St:=⟨σ.n,rC σ.n d σ.br,σ.objs⟩
theorem pC(σ:St)(d:Option Nat)(r:ae)(O:List aj)(s:Nat):(σ.put d r O).get s=if d=some s then some r else σ.get s:=by
 cases d with
 | none=>simp[St.put,St.get,p9]
 | some d =>
  simp only[St.put,St.get,p9,gy];by_cases e:d=s
  ·simp[e]
  simp[e]
theorem mG(σ:St)(d:Option Nat)(s:Nat):(σ.skip d).get s=if d=some s then(if s<σ.n then some (.cD [])else none)else σ.get s:=by
 cases d with
 | none=>simp[St.skip,St.get,rC]
 | some d =>
  simp only[St.skip,St.get,rC];by_cases e:d=s
  ·subst e;by_cases h:d<σ.n
   ·simp[h,gy]
   simp[h,mj]
  by_cases h:d<σ.n
  ·simp[e,h,gy]
  simp[e,h,ka e]
theorem Rel.skip{base:G}{σ:St}{a:Act}{g:G}(h:Rel base σ a g)(d:Nat):Rel base (σ.skip (some d)) (a.put (some d) undef) g:=by
 by_cases hd:d<σ.n
 ·have:=h.put (Le.refl g) h.good hd (r:=.cD []) (u:=undef) (.cD rfl (by simp));rw[show σ.skip (some d)=⟨σ.n,bF d (.cD []) σ.br,g.objs⟩ by simp[St.skip,rC,hd,h.objs]];exact this
 have:=h.forget d undef;rw[show σ.skip (some d)=⟨σ.n,bh d σ.br,σ.objs⟩ by simp[St.skip,rC,hd]];exact this
theorem iA.put{σ τ:St}(h:iA σ τ)(d:Option Nat)(r:ae)(O:List aj):iA (σ.put d r O) (τ.put d r O) :=
 ⟨h.n,rfl,fun s=>by rw[pC,pC,h.get]⟩
theorem iA.skip{σ τ:St}(h:iA σ τ)(d:Option Nat):iA (σ.skip d) (τ.skip d) :=
 ⟨h.n,h.objs,fun s=>by rw[mG,mG,h.get,h.n]⟩
def c7(ops:Array Oper)(o:Oper)(σ:St):Option Bool :=
 match o.guard with
 | none=>some true
 | some (j,want) =>
  match (ops[j]?).bind (·.dst)with
  | some t =>
   match σ.get t with
   | some (.v (.bool b))=>some (b == want)
   | some (.cD [])=>some false
   | _=>none
  | none=>none
theorem gk{ops:Array Oper}{o:Oper}{σ:St}{base:G}{a:Act}{g:G}{b:Bool}(h:Rel base σ a g)(hw:c7 ops o σ=some b):Region.wanted o (yielded ops a.tmps)=b:=by
 unfold c7 at hw;unfold Region.wanted;cases hg:o.guard with
 | none =>
  simp only[hg,Option.some.injEq]at hw;exact hw
 | some p =>
  obtain⟨j,want⟩:=p;simp only[hg]at hw;cases ht:(ops[j]?).bind (·.dst)with
  | none=>simp[ht]at hw
  | some t =>
   simp only[ht]at hw;split at hw
   ·rename_i c hc;simp only[Option.some.injEq]at hw;obtain⟨u,h1,h2⟩:=h.slot t _ hc;have:=h2.cb.1;subst this;have hy:yielded ops a.tmps j=some c:=by
     unfold yielded;simp[ht,h1]
    simp only[hy];rw[<-hw];cases c<;>cases want<;>rfl
   ·rename_i hc;simp only[Option.some.injEq]at hw;obtain⟨u,h1,h2⟩:=h.slot t _ hc;cases h2 with
    | cD hl _ =>
     rename_i vs;have hy:yielded ops a.tmps j=none:=by
      unfold yielded;simp[ht,h1]
     simp only[hy];rw[<-hw];rfl
   cases hw
theorem mn{ops:Array Oper}{o:Oper}{σ τ:St}(h:∀j want t,o.guard=some (j,want)->(ops[j]?).bind (·.dst)=some t->σ.get t=τ.get t):c7 ops o σ=c7 ops o τ:=by
 unfold c7;cases hg:o.guard with
 | none=>rfl
 | some p =>
  obtain⟨j,want⟩:=p;simp only;cases ht:(ops[j]?).bind (·.dst)with
  | none=>rfl
  | some t =>
   simp only;rw[h j want t hg ht]
theorem Cert.congr{P:Program}{o:Oper}{σ τ:St}{r:ae}{m:Mode}(h:Cert P o σ r m)(hn:σ.n=τ.n)(yF:∀x∈o.op.operands,σ.ev x=τ.ev x)(ho:m.agree τ.objs σ.objs):Cert P o τ r m:=by
 refine⟨?_,?_⟩
 ·have:=h.1;cases m with
  | wr n l O' =>
   intro i hi hl;rw[this i hi hl,show τ.objs=σ.objs from ho]
  | _=>trivial
 intro base ρ a g bN h1 h2 h3;refine h.2 base ρ a g bN (h1.trans hn.symm) (fun x hx y hy=>h2 x hx y ((yF x hx).symm.trans hy)) ?_;cases m with
 | pure=>trivial
 | rd id=>exact Eq.trans h3 ho
 | new id _=>exact Eq.trans h3 ho
 | _=>exact Eq.trans h3 ho
def ma(P:Program)(ops:Array Oper)(i:Nat)(k:Kind)(σ fY:St):Prop :=
 ∃o,ops[i]?=some o ∧
  ((c7 ops o σ=some true∧∃r m,Cert P o σ r m∧m.kind=k∧fY=σ.put o.dst r (m.post σ.objs)) ∨
   (c7 ops o σ=some false∧k=.pure∧fY=σ.skip o.dst))
def fw(P:Program)(ops:Array Oper):List (Nat×Kind)->St->St->Prop
 | [],σ,τ=>iA σ τ
 | (i,k)::r,σ,τ=>∃fY,ma P ops i k σ fY∧fw P ops r fY τ
theorem ma.same{P:Program}{ops:Array Oper}{i:Nat}{k:Kind}{σ fY τ:St}(h:ma P ops i k σ fY)(hs:iA σ τ):∃MY,ma P ops i k τ MY∧iA fY MY:=by
 obtain⟨o,ho,h⟩:=h;rcases h with⟨h1,r,m,h2,h3,h4⟩|⟨h1,h2,h3⟩
 ·refine⟨τ.put o.dst r (m.post τ.objs),⟨o,ho,.inl ⟨?_,r,m,h2.congr hs.n (fun x _=>hs.ev x) (Mode.ra (.inr hs.objs.symm)),h3,rfl⟩⟩,?_⟩
  ·rw[<-h1];exact mn fun _ _ t _ _=>(hs.get t).symm
  subst h4;rw[hs.objs];exact hs.put _ _ _
 refine⟨τ.skip o.dst,⟨o,ho,.inr ⟨?_,h2,rfl⟩⟩,?_⟩
 ·rw[<-h1];exact mn fun _ _ t _ _=>(hs.get t).symm
 subst h3;exact hs.skip _
theorem fw.same{P:Program}{ops:Array Oper}:∀{l:List (Nat×Kind)} {σ τ ρ:St},fw P ops l σ ρ->iA σ τ->fw P ops l τ ρ
 | [],_,_,_,h,hs=>hs.symm.trans h
 | (i,k)::r,σ,τ,ρ,h,hs=>by
  obtain⟨fY,h1,h2⟩:=h;obtain⟨MY,h3,h4⟩:=h1.same hs;exact⟨MY,h3,h2.same h4⟩
def bU(k k':Kind):Bool :=
 match k,k' with
 | .pure,_=>true
 | _,.pure=>true
 | .read,.read=>true
 | .rd _,.read=>true
 | .read,.rd _=>true
 | .rd _,.rd _=>true
 | .rd id,.wr n l=>decide (id<n)&&!l.contains id
 | .wr n l,.rd id=>decide (id<n)&&!l.contains id
 | .new i,.new j=>!decide (i=j)
 | .new i,.rd j=>!decide (i=j)
 | .rd i,.new j=>!decide (i=j)
 | _,_=>false
def Kind.agree(k:Kind)(O O0:List aj):Prop :=
 match k with
 | .pure=>True
 | .rd id=>O[id]?=O0[id]?
 | .new id=>O[id]?=O0[id]?
 | _=>O=O0
theorem Mode.DL{m:Mode}{O O0:List aj}(h:m.kind.agree O O0):m.agree O O0:=by
 cases m<;>exact h
theorem xT{ops:Array Oper}{o:Oper}{t:Nat}(h:(.tmp t:Operand)∈o.op.operands):t∈o.looksAt ops :=
 List.mem_append_left _ (List.mem_filterMap.2 ⟨.tmp t,Array.mem_toList_iff.2 h,rfl⟩)
theorem Cy{ops:Array Oper}{o:Oper}{j:Nat}{want:Bool}{t:Nat}(h:o.guard=some (j,want))(ht:(ops[j]?).bind (·.dst)=some t):t∈o.looksAt ops:=by
 refine List.mem_append_right _ ?_;simp[h,ht]
structure Ub(P:Program)(ops:Array Oper)(o:Oper)(k:Kind)(F:List aj->List aj)(σ fY:St):Prop where
 n:fY.n=σ.n
 get:∀s,o.dst≠some s->fY.get s=σ.get s
 Ut:T8 k F
 objs:fY.objs=F σ.objs
 mi:∀n l,k=.wr n l->∀i,i<n->i ∉ l->(F σ.objs)[i]?=σ.objs[i]?
 move:∀τ:St,τ.n=σ.n->(∀t∈o.looksAt ops,τ.get t=σ.get t)->k.agree τ.objs σ.objs ->
  ∃MY,(c7 ops o τ=some true∧(∃r m,Cert P o τ r m∧m.kind=k∧MY=τ.put o.dst r (m.post τ.objs))∨c7 ops o τ=some false∧k=.pure∧MY=τ.skip o.dst) ∧
   (∀s,o.dst=some s->MY.get s=fY.get s)∧(∀s,o.dst≠some s->MY.get s=τ.get s)∧MY.n=τ.n∧MY.objs=F τ.objs
theorem Rp{P:Program}{ops:Array Oper}{o:Oper}{k:Kind}{σ fY:St}
  (h:(c7 ops o σ=some true∧∃r m,Cert P o σ r m∧m.kind=k∧fY=σ.put o.dst r (m.post σ.objs))∨(c7 ops o σ=some false∧k=.pure∧fY=σ.skip o.dst)):∃F,Ub P ops o k F σ fY:=by
 have yF:∀τ:St,(∀t∈o.looksAt ops,τ.get t=σ.get t)->∀x∈o.op.operands,σ.ev x=τ.ev x:=fun τ ht x hx=>by
  cases x with
  | tmp t=>exact(ht t (xT hx)).symm
  | _=>rfl
 have Rg:∀τ:St,(∀t∈o.looksAt ops,τ.get t=σ.get t)->c7 ops o τ=c7 ops o σ:=fun τ ht=>mn fun j w t hg hd=>ht t (Cy hg hd);rcases h with⟨h1,r,m,h2,h3,h4⟩|⟨h1,h2,h3⟩
 ·subst h4;subst h3;have Ox:T8 m.kind m.post:=by
   cases m with
   | new id o=>exact⟨o,fun _=>rfl⟩
   | write O=>exact fun _ _=>rfl
   | wr n l O=>exact fun _ _=>rfl
   | _=>exact fun _=>rfl
  refine⟨m.post,rfl,fun s hs=>by rw[pC,if_neg hs],Ox,rfl,fun n l hk i hi hl=>?_,fun τ hn ht ho=>⟨τ.put o.dst r (m.post τ.objs),.inl ⟨(Rg τ ht).trans h1,r,m,?_,rfl,rfl⟩,?_,?_,rfl,rfl⟩⟩
  ·cases m with
   | wr n' l' O' =>
    simp only[Mode.kind,Kind.wr.injEq]at hk;obtain⟨rfl,rfl⟩:=hk;exact h2.1 i hi hl
   | _=>simp[Mode.kind]at hk
  ·exact h2.congr hn.symm (yF τ ht) (Mode.DL ho)
  ·intro s hs;rw[pC,pC,if_pos hs,if_pos hs]
  intro s hs;rw[pC,if_neg hs]
 subst h3;subst h2;refine⟨id,rfl,fun s hs=>by rw[mG,if_neg hs],fun _=>rfl,rfl,fun n l hk=>(by cases hk),fun τ hn ht ho=>⟨τ.skip o.dst,.inr ⟨(Rg τ ht).trans h1,rfl,rfl⟩,?_,?_,rfl,rfl⟩⟩
 ·intro s hs;rw[mG,mG,if_pos hs,if_pos hs,hn]
 intro s hs;rw[mG,if_neg hs]
theorem DM{k:Kind}{O O':List aj}(h:k.agree O O'):k.agree O' O:=by
 cases k<;>first|trivial|exact Eq.symm h
theorem ye{kj ki:Kind}{F:List aj->List aj}{O:List aj}(hk:bU kj ki=true)(hF:T8 kj F)(nU:∀n l,kj=.wr n l->∀i,i<n->i ∉ l->(F O)[i]?=O[i]?):ki.agree O (F O):=by
 cases ki with
 | pure=>trivial
 | rd id =>
  show O[id]?=(F O)[id]?;cases kj with
  | write=>simp[bU]at hk
  | wr n l =>
   simp only[bU,Bool.and_eq_true,decide_eq_true_eq,Bool.not_eq_true',List.contains_eq_mem,decide_eq_false_iff_not]at hk;exact(nU n l rfl id hk.1 hk.2).symm
  | new j =>
   obtain⟨o,hF⟩:=hF;simp only[bU,Bool.not_eq_true',decide_eq_false_iff_not]at hk;rw[hF,List.getElem?_set_ne hk]
  | _=>rw[hF O]
 | new id =>
  show O[id]?=(F O)[id]?;cases kj with
  | new j =>
   obtain⟨o,hF⟩:=hF;simp only[bU,Bool.not_eq_true',decide_eq_false_iff_not]at hk;rw[hF,List.getElem?_set_ne hk]
  | pure=>rw[hF O]
  | rd j=>rw[hF O]
  | _=>simp[bU]at hk
 | read=>cases kj<;>first | exact(hF O).symm | simp[bU]at hk
 | write=>cases kj<;>first | exact(hF O).symm | simp[bU]at hk
 | wr n l=>cases kj<;>first | exact(hF O).symm | simp[bU]at hk
theorem DN{k k':Kind}(h:bU k k'=true):bU k' k=true:=by
 cases k<;>cases k'<;>first|exact h|(simp only[bU,Bool.not_eq_true',decide_eq_false_iff_not]at h ⊢;exact fun e=>h e.symm)
theorem J8{kj ki:Kind}{Fj Fi:List aj->List aj}(hk:bU kj ki=true)(hj:T8 kj Fj)(hi:T8 ki Fi)(O:List aj):Fi (Fj O)=Fj (Fi O):=by
 cases kj with
 | new j =>
  obtain⟨oj,hj⟩:=hj;cases ki with
  | new i =>
   obtain⟨oi,hi⟩:=hi;simp only[bU,Bool.not_eq_true',decide_eq_false_iff_not]at hk;rw[hj,hi,hj,hi,List.set_comm _ _ hk]
  | pure=>rw[hi,hi]
  | rd _=>rw[hi,hi]
  | _=>simp[bU]at hk
 | pure=>rw[hj,hj]
 | read=>rw[hj,hj]
 | rd _=>rw[hj,hj]
 | write=>cases ki<;>first | (rw[hi,hi];done) | simp[bU]at hk
 | wr _ _=>cases ki<;>first | (rw[hi,hi];done) | simp[bU]at hk
theorem swap{P:Program}{ops:Array Oper}{i j:Nat}{oi oj:Oper}{ki kj:Kind}{σ Zh Zi:St}(hi:ops[i]?=some oi)(hj:ops[j]?=some oj)(hap:oj.apart ops oi=true)(hk:bU kj ki=true)
  (h1:ma P ops j kj σ Zh) (h2:ma P ops i ki Zh Zi):∃TB T7,ma P ops i ki σ TB∧ma P ops j kj TB T7∧iA Zi T7:=by
 obtain⟨a1,a2,a3⟩:=Oper.apart_spec hap;obtain⟨oj',jc,h1⟩:=h1;rw[hj]at jc;simp only[Option.some.injEq]at jc;subst jc;obtain⟨oi',ga,h2⟩:=h2;rw[hi]at ga;simp only[Option.some.injEq]at ga;subst ga;obtain⟨Fj,s1⟩:=Rp h1;obtain⟨Fi,s2⟩:=Rp h2;have U3:∀s,oj.dst=some s->oi.dst≠some s:=fun s hs e=>a2 s hs e;have mU:=ye hk s1.Ut s1.mi;rw[<-s1.objs]at mU;obtain⟨TB,t1,t2,t3,t4,t5⟩:=s2.move σ s1.n.symm (fun t ht=>(s1.get t (fun e=>a1 t e ht)).symm) mU;obtain⟨T7,u1,u2,u3,u4,u5⟩:=s1.move TB t4 (fun t ht=>t3 t (fun e=>a3 t e ht)) (by
  rw[t5];refine DM (ye (DN hk) s2.Ut fun n l e i hi hl=>?_);subst e;have h4:=s2.mi n l rfl i hi hl;rw[s1.objs]at h4;have hFj:∀O,Fj O=O:=by
   have he:=s1.Ut;clear s1 h1 mU;cases kj with
   | pure=>exact he
   | rd _=>exact he
   | _=>simp[bU]at hk
  rw[hFj]at h4;exact h4)
 refine⟨TB,T7,⟨oi,hi,t1⟩,⟨oj,hj,u1⟩,⟨?_,?_,fun s=>?_⟩⟩
 ·rw[s2.n,s1.n,u4,t4]
 ·rw[s2.objs,s1.objs,u5,t5];exact J8 hk s1.Ut s2.Ut _
 by_cases ei:oi.dst=some s
 ·have ej:oj.dst≠some s:=fun e=>U3 s e ei;rw[u3 s ej,t2 s ei]
 rw[s2.get s ei];by_cases ej:oj.dst=some s
 ·rw[u2 s ej]
 rw[u3 s ej,t3 s ei,s1.get s ej]
def indep(ops:Array Oper)(j i:Nat)(kj ki:Kind):Bool :=
 match ops[j]?,ops[i]? with
 | some oj,some oi=>oj.apart ops oi&&bU kj ki
 | _,_=>false
theorem fw.front{P:Program}{ops:Array Oper}{i:Nat}{ki:Kind}{l2:List (Nat×Kind)}:∀{l1:List (Nat×Kind)} {σ ρ:St},fw P ops (l1++(i,ki)::l2) σ ρ->(∀p∈l1,indep ops p.1 i p.2 ki=true)->fw P ops ((i,ki)::(l1++l2)) σ ρ
 | [],_,_,h,_=>h
 | (j,kj)::l1,σ,ρ,h,OG=>by
  obtain⟨Zh,h1,h2⟩:=h;obtain⟨Zi,h3,h4⟩:=fw.front h2 (fun p hp=>OG p (by simp[hp]));have sR:=OG (j,kj) (by simp);simp only[indep]at sR;have TN:∃oi,ops[i]?=some oi:=by
   obtain⟨oi,TN,_⟩:=h3;exact⟨oi,TN⟩
  have KY:∃oj,ops[j]?=some oj:=by
   obtain⟨oj,KY,_⟩:=h1;exact⟨oj,KY⟩
  obtain⟨oi,TN⟩:=TN;obtain⟨oj,KY⟩:=KY;simp only[TN,KY,Bool.and_eq_true]at sR;obtain⟨TB,T7,q1,q2,q3⟩:=swap TN KY sR.1 sR.2 h1 h3;exact⟨TB,q1,T7,q2,h4.same q3⟩
def qT(ops:Array Oper):Nat->Nat->Nat->Bool
 | 0,_,_=>false
 | n+1,j,i =>
  match ops[i]? with
  | some o=>o.after.toList.any fun e=>Region.binds .any e&&(e.on == j || qT ops n j e.on)
  | none=>false
def QH(ops:Array Oper):Bool :=
 (List.range ops.size).all fun i =>
  match ops[i]? with
  | some o=>o.after.toList.all fun e=>!Region.binds .any e || decide (e.on<i)
  | none=>true
def o6(ops:Array Oper)(ks:List Kind):Bool :=
 QH ops&&(ks.length == ops.size) &&
 (List.range ops.size).all fun i=>(List.range i).all fun j=>qT ops ops.size j i ||indep ops j i (ks.getD j .write) (ks.getD i .write)
def zP(ops:Array Oper)(bM:Array Bool):Prop :=
 ∀i o,ops[i]?=some o->bM.getD i false=true->∀e∈o.after.toList,Region.binds .any e=true->bM.getD e.on false=true
theorem r7{ops:Array Oper}{bM:Array Bool}(hc:zP ops bM):∀(n j i:Nat) (o:Oper),ops[i]?=some o->(∀e∈o.after.toList,Region.binds .any e=true->bM.getD e.on false=true)->qT ops n j i=true->bM.getD j false=true
 | 0,j,i,o,_,_,h=>by simp[qT]at h
 | n+1,j,i,o,ho,cz,h=>by
  simp only[qT,ho,List.any_eq_true,Bool.and_eq_true,Bool.or_eq_true,beq_iff_eq]at h;obtain⟨e,he,hb,h⟩:=h;have hon:=cz e he hb;rcases h with h|h
  ·rw[<-h];exact hon
  cases VG:ops[e.on]? with
  | none =>
   cases n with
   | zero=>simp[qT]at h
   | succ n=>simp[qT,VG]at h
  | some o'=>exact r7 hc n j e.on o' VG (fun e' DA EC=>hc e.on o' VG hon e' DA EC) h
theorem qN{ops:Array Oper}{bM:Array Bool}{i:Nat}:i∈Region.ready .any ops bM↔i<ops.size∧bM.getD i true=false∧∃o,ops[i]?=some o∧∀e∈o.after.toList,Region.binds .any e=true->bM.getD e.on false=true:=by
 unfold Region.ready;rw[List.mem_filter,List.mem_range];constructor
 ·rintro⟨h1,h2⟩;rw[Bool.and_eq_true]at h2;obtain⟨h2,h3⟩:=h2;refine⟨h1,by simpa using h2,?_⟩;cases ho:ops[i]? with
  | none=>simp[ho]at h3
  | some o =>
   refine⟨o,rfl,fun e he hb=>?_⟩;simp only[ho,Option.map_some,Option.getD_some]at h3;have:=Array.all_eq_true_iff_forall_mem.1 h3 e (Array.mem_toList_iff.1 he);simpa[hb]using this
 rintro⟨h1,h2,o,ho,h3⟩;refine⟨h1,?_⟩;rw[Bool.and_eq_true];refine⟨by simpa using h2,?_⟩;simp only[ho,Option.map_some,Option.getD_some];refine Array.all_eq_true_iff_forall_mem.2 fun e he=>?_;by_cases hb:Region.binds .any e=true
 ·simp only[hb,Bool.not_true,Bool.false_or];exact h3 e (Array.mem_toList_iff.2 he) hb
 simp[hb]
theorem range_split{n i:Nat}(h:i<n):List.range n=List.range i++i::(List.range n).drop (i+1):=by
 apply List.ext_getElem?;intro j;rw[List.getElem?_append];simp only[List.length_range];by_cases h1:j<i
 ·rw[if_pos h1,List.getElem?_range h1,List.getElem?_range (by omega)]
 rw[if_neg h1];by_cases h2:j=i
 ·subst h2;simp[h]
 obtain⟨m,hm⟩:∃m,j-i=m+1:=⟨j-i-1,by omega⟩
 rw[hm,List.getElem?_cons_succ,List.getElem?_drop];congr 1;omega
theorem vK{n i j:Nat}(h:j∈(List.range n).drop (i+1)):i<j∧j<n:=by
 obtain⟨k,hk⟩:=List.getElem?_of_mem h;rw[List.getElem?_drop]at hk;have:=I hk;simp only[List.length_range]at this;rw[List.getElem?_range this]at hk;simp only[Option.some.injEq]at hk;omega
def iy(ks:List Kind)(n:Nat)(bM:Array Bool):List (Nat×Kind) :=
 ((List.range n).filter fun i=>!bM.getD i true).map fun i=>(i,ks.getD i .write)
theorem FX(ks:List Kind){n:Nat}{bM:Array Bool}(cP:bM.size=n){i:Nat}(hi:i<n)(hl:bM.getD i true=false) :
  ∃l1 l2,iy ks n bM=l1++(i,ks.getD i .write)::l2∧iy ks n (bM.setIfInBounds i true)=l1++l2∧∀p∈l1,p.1<i∧bM.getD p.1 true=false∧p.2=ks.getD p.1 .write:=by
 refine⟨((List.range i).filter fun j=>!bM.getD j true).map fun j=>(j,ks.getD j .write),(((List.range n).drop (i+1)).filter fun j=>!bM.getD j true).map fun j=>(j,ks.getD j .write),?_,?_,?_⟩
 ·unfold iy;rw[range_split hi];rw[List.filter_append,List.map_append,List.filter_cons];simp only[hl,Bool.not_false,if_true,List.map_cons];rw[<-range_split hi]
 ·unfold iy;rw[range_split hi];rw[List.filter_append,List.map_append,List.filter_cons];have WW:(bM.setIfInBounds i true).getD i true=true:=by
   simp[Array.getD_eq_getD_getElem?,Array.getElem?_setIfInBounds_self_of_lt (by omega:i<bM.size)]
  simp only[WW,Bool.not_true,Bool.false_eq_true,if_false];rw[<-range_split hi];have ct:∀j,j≠i->(bM.setIfInBounds i true).getD j true=bM.getD j true:=fun j hj=>by
   simp[Array.getD_eq_getD_getElem?,Array.getElem?_setIfInBounds_ne (fun e=>hj e.symm)]
  congr 2
  ·apply List.filter_congr;intro j hj;rw[List.mem_range]at hj;rw[ct j (by omega)]
  apply List.filter_congr;intro j hj;have:=vK hj;rw[ct j (by omega)]
 intro p hp;rw[List.mem_map]at hp;obtain⟨j,hj,e⟩:=hp;subst e;rw[List.mem_filter,List.mem_range]at hj;exact⟨hj.1,by simpa using hj.2,rfl⟩
theorem yy{bM:Array Bool}{i:Nat}(h:i<bM.size):bM.getD i true=bM.getD i false:=by
 simp[Array.getD_eq_getD_getElem?,h]
theorem Dt{P:Program}{ops:Array Oper}{ks:List Kind}(hB:o6 ops ks=true){base:G}{ρ:St}{Q:Exit->Act->World->Prop}(hQ:∀a g,Rel base ρ a g->Q .normal a g.w) :
  ∀(fuel:Nat) (bM:Array Bool) (σ:St) (a:Act) (g:G),bM.size=ops.size->zP ops bM->(iy ks ops.size bM).length<=fuel->fw P ops (iy ks ops.size bM) σ ρ->Rel base σ a g ->
   wpAny P .any ops Q fuel bM a g.w:=by
 simp only[o6,Bool.and_eq_true,List.all_eq_true,Bool.or_eq_true]at hB;obtain⟨⟨yC,_⟩,OG⟩:=hB;have R5:∀i o,ops[i]?=some o->∀e∈o.after.toList,Region.binds .any e=true->e.on<i:=by
  intro i o ho e he hb;simp only[QH,List.all_eq_true]at yC;have bg:i<ops.size:=aW ho;have:=yC i (List.mem_range.2 bg);simp only[ho,List.all_eq_true,Bool.or_eq_true,decide_eq_true_eq]at this;have:=this e he;simpa[hb]using this
 have Sf:∀bM:Array Bool,bM.size=ops.size->Region.ready .any ops bM=[]->iy ks ops.size bM=[]:=by
  intro bM cP hr;refine Classical.byContradiction fun ct=>?_;have hex:∃i,i<ops.size∧bM.getD i true=false:=by
   cases ht:iy ks ops.size bM with
   | nil=>exact absurd ht ct
   | cons p r =>
    have hm:p∈iy ks ops.size bM:=by rw[ht];simp
    simp only[iy,List.mem_map,List.mem_filter,List.mem_range]at hm;obtain⟨i,⟨h1,h2⟩,_⟩:=hm;exact⟨i,h1,by simpa using h2⟩
  have Yv:∃i,i<ops.size∧bM.getD i true=false∧∀j,j<i->bM.getD j true=true:=by
   obtain⟨i,h1,h2⟩:=hex;induction i using Nat.strongRecOn with
   | _ i ih =>
    by_cases h:∃j,j<i∧bM.getD j true=false
    ·obtain⟨j,h3,h4⟩:=h;exact ih j h3 (by omega) h4
    refine⟨i,h1,h2,fun j hj=>?_⟩;cases hc:bM.getD j true with
    | true=>rfl
    | false=>exact absurd ⟨j,hj,hc⟩ h
  obtain⟨i,h1,h2,h3⟩:=Yv;have hi:i∈Region.ready .any ops bM:=by
   refine qN.2 ⟨h1,h2,ops[i],Array.getElem?_eq_getElem h1,fun e he hb=>?_⟩;have bg:=R5 i _ (Array.getElem?_eq_getElem h1) e he hb;rw[<-yy (by omega)];exact h3 _ bg
  rw[hr]at hi;cases hi
 intro fuel;induction fuel with
 | zero =>
  intro bM σ a g cP hc hlen pD bN;have ht:iy ks ops.size bM=[]:=List.length_eq_zero_iff.1 (by omega);rw[ht]at pD;refine⟨?_,hQ a g (iA.rel pD bN)⟩;cases hr:Region.ready .any ops bM with
  | nil=>rfl
  | cons i r =>
   have hi:i∈Region.ready .any ops bM:=by rw[hr];simp
   obtain⟨h1,h2,_⟩:=qN.1 hi;have:(i,ks.getD i .write)∈iy ks ops.size bM:=by
    simp only[iy,List.mem_map,List.mem_filter,List.mem_range];exact⟨i,⟨h1,by rw[h2];rfl⟩,rfl⟩
   rw[ht]at this;cases this
 | succ fuel ih =>
  intro bM σ a g cP hc hlen pD bN;refine⟨fun hr=>?_,fun i hi=>?_⟩
  ·have ht:=Sf bM cP hr;rw[ht]at pD;exact hQ a g (iA.rel pD bN)
  obtain⟨h1,h2,o,ho,h3⟩:=qN.1 hi;obtain⟨l1,l2,e1,e2,e3⟩:=FX ks cP h1 h2;rw[e1]at pD;have XZ:=fw.front pD (fun p hp=>by
   obtain⟨q1,q2,q3⟩:=e3 p hp;have:=OG i (List.mem_range.2 h1) p.1 (List.mem_range.2 q1);rcases this with this|this
   ·have:=r7 hc _ _ _ o ho h3 this;rw[<-yy (by omega),q2]at this;cases this
   rw[q3];exact this)
  obtain⟨fY,⟨o',je,bL⟩,cO⟩:=XZ;rw[ho]at je;simp only[Option.some.injEq]at je;subst je;rw[<-e2]at cO;have oO:(bM.setIfInBounds i true).size=ops.size:=by simpa using cP
  have qZ:zP ops (bM.setIfInBounds i true):=by
   intro j oj KY xk e he hb;have GA:∀k,bM.getD k false=true->(bM.setIfInBounds i true).getD k false=true:=fun k hk=>getD_set_true hk;by_cases WX:j=i
   ·subst WX;rw[ho]at KY;simp only[Option.some.injEq]at KY;subst KY;exact GA _ (h3 e he hb)
   rw[getD_set_ne false (fun e=>WX e.symm)]at xk;exact GA _ (hc j oj KY xk e he hb)
  have iE:(iy ks ops.size (bM.setIfInBounds i true)).length<=fuel:=by
   rw[e1]at hlen;rw[e2];simp only[List.length_append,List.length_cons]at hlen ⊢;omega
  unfold wpOp;simp only[ho];rcases bL with⟨hw,r,m,B9,hk,K9⟩|⟨hw,_,K9⟩
  ·rw[if_pos (gk bN hw)];refine .inl (B9.2 base σ a g bN rfl (fun x _ y hy=>hy) (Mode.ra (.inr rfl)) _ _ fun u g' ql=>?_);subst K9;exact ih _ _ _ _ oO qZ iE cO ql
  rw[if_neg (by rw[gk bN hw];simp)];subst K9;refine ih _ _ _ g oO qZ iE cO ?_;cases jA:o.dst with
  | none=>exact bN
  | some d=>exact bN.skip d
theorem n6{P:Program}(hm:P.follows .mixedOrders=true){ops:Array Oper}{ks:List Kind}(hB:o6 ops ks=true){id:Nat}{base:G}{σ ρ:St}{a:Act}{g:G}{Q:Exit->Act->World->Prop}
  (pD:fw P ops ((List.range ops.size).map fun i=>(i,ks.getD i .write)) σ ρ) (bN:Rel base σ a g) (hQ:∀a g,Rel base ρ a g->Q .normal a g.w):(Code.region id ops true).wp P Q a g.w:=by
 refine wp_region_any hm ?_;have Re:iy ks ops.size (Array.replicate ops.size false)=(List.range ops.size).map fun i=>(i,ks.getD i .write):=by
  unfold iy;congr 1;rw[List.filter_eq_self];intro i hi;rw[List.mem_range]at hi;simp[Array.getD_eq_getD_getElem?,hi]
 have Z2:=bN.good.heap (w':={ g.w with drawn:=g.w.drawn+1 }) rfl rfl rfl rfl;have Ys:=Le.heap (g:=g) (w':={ g.w with drawn:=g.w.drawn+1 }) rfl rfl rfl rfl;have ql:=bN.step Ys Z2;have jd:(⟨σ.n,σ.br,g.objs⟩:St)=σ:=by rw[bN.objs]
 rw[jd]at ql;refine Dt hB hQ ops.size (Array.replicate ops.size false) σ a _ (by simp) ?_ ?_ (by rw[Re];exact pD) ql
 ·intro i o ho hl;have bg:i<ops.size:=aW ho;simp[Array.getD_eq_getD_getElem?,bg]at hl
 rw[Re];simp
theorem pq{P:Program}{ops:Array Oper}{base:G}{ρ:St}{Q:Exit->Act->World->Prop}(hQ:∀a g,Rel base ρ a g->Q .normal a g.w) :
  ∀(l:List (Nat×Kind)) (σ:St) (a:Act) (g:G),fw P ops l σ ρ->Rel base σ a g->wpOps P ops Q (l.map (·.1)) a g.w
 | [],σ,a,g,pD,bN=>hQ a g (iA.rel pD bN)
 | (i,k)::r,σ,a,g,pD,bN=>by
  obtain⟨fY,⟨o,ho,bL⟩,cO⟩:=pD;simp only[List.map_cons,wpOps,ho];rcases bL with⟨hw,r',m,B9,hk,K9⟩|⟨hw,_,K9⟩
  ·rw[if_pos (gk bN hw)];refine .inl (B9.2 base σ a g bN rfl (fun x _ y hy=>hy) (Mode.ra (.inr rfl)) _ _ fun u g' ql=>?_);subst K9;exact pq hQ r _ _ _ cO ql
  rw[if_neg (by rw[gk bN hw];simp)];subst K9;refine pq hQ r _ _ g cO ?_;cases jA:o.dst with
  | none=>exact bN
  | some d=>exact bN.skip d
theorem mo{P:Program}{ops:Array Oper}{ks:List Kind}{id:Nat}{base:G}{σ ρ:St}{a:Act}{g:G}{Q:Exit->Act->World->Prop}
  (pD:fw P ops ((List.range ops.size).map fun i=>(i,ks.getD i .write)) σ ρ) (bN:Rel base σ a g) (hQ:∀a g,Rel base ρ a g->Q .normal a g.w):(Code.region id ops false).wp P Q a g.w:=by
 refine wp_region ?_;have:=pq (Q:=Q) hQ _ σ a g pD bN;rw[List.map_map]at this;rw[show((List.range ops.size).map ((fun x:Nat×Kind=>x.1) ∘ fun i=>(i,ks.getD i .write)))=List.range ops.size by
  conv=>rhs;rw[<-List.map_id (List.range ops.size)]
  rfl]at this
 exact this
inductive dE where
 | norm
 | ret
 | exit (id:Nat)
def Ry(base:G)(Q:dE->St->Prop):Exit->Act->World->Prop
 | .normal,a,w=>∃g σ,g.w=w∧Rel base σ a g∧Q .norm σ
 | .ret,a,w=>∃g σ,g.w=w∧Rel base σ a g∧Q .ret σ
 | .exit id,a,w=>∃g σ,g.w=w∧Rel base σ a g∧Q (.exit id) σ
 | _,_,_=>False
def cc(P:Program)(kb:Nat)(c:Code)(Q:dE->St->Prop)(σ:St):Prop :=
 ∀(base:G) (a:Act) (g:G),base.objs.length<=kb->Rel base σ a g->c.wp P (Ry base Q) a g.w
theorem cc.mono{P:Program}{kb:Nat}{c:Code}{Q Q':dE->St->Prop}{σ:St}(h:cc P kb c Q σ)(hq:∀e σ,Q e σ->Q' e σ):cc P kb c Q' σ:=fun base a g hb hr =>
 wp_mono (h base a g hb hr) fun e a w hp=>by
  cases e with
  | normal=>obtain⟨g,σ,h1,h2,h3⟩:=hp;exact⟨g,σ,h1,h2,hq _ _ h3⟩
  | ret=>obtain⟨g,σ,h1,h2,h3⟩:=hp;exact⟨g,σ,h1,h2,hq _ _ h3⟩
  | exit id=>obtain⟨g,σ,h1,h2,h3⟩:=hp;exact⟨g,σ,h1,h2,hq _ _ h3⟩
  | goto l=>exact hp
  | panic c=>exact hp
  | outgrown=>exact hp
theorem cc.weaken{P:Program}{kb:Nat}{c:Code}{Q:dE->St->Prop}{σ τ:St}(h:cc P kb c Q τ)(hw:∀base a g,base.objs.length<=kb->Rel base σ a g->∃g',g'.w=g.w∧Rel base τ a g'):cc P kb c Q σ:=fun base a g hb hr=>by
 obtain⟨g',h1,h2⟩:=hw base a g hb hr;rw[<-h1];exact h base a g' hb h2
def bK(P:Program)(kb:Nat)(b:Code)(Q:dE->St->Prop):dE->St->Prop
 | .norm,σ=>cc P kb b Q σ
 | e,σ=>Q e σ
theorem aJ{P:Program}{kb:Nat}{x y:Code}{Q:dE->St->Prop}{σ:St}(h:cc P kb x (bK P kb y Q) σ):cc P kb (.seq x y) Q σ:=fun base a g hb hr =>
 wp_seq (wp_mono (h base a g hb hr) fun e a w hp=>by
  cases e with
  | normal =>
   obtain⟨g,σ,h1,h2,h3⟩:=hp;subst h1;exact h3 base a g hb h2
  | ret=>exact hp
  | exit id=>exact hp
  | goto l=>exact hp
  | panic c=>exact hp
  | outgrown=>exact hp)
theorem a6{P:Program}{kb:Nat}{Q:dE->St->Prop}{σ:St}(h:Q .norm σ):cc P kb .skip Q σ:=fun base _ g _ hr=>wp_skip ⟨g,σ,rfl,hr,h⟩
theorem aq{P:Program}{kb:Nat}{Q:dE->St->Prop}{σ:St}(h:Q .ret σ):cc P kb .ret Q σ:=fun base _ g _ hr=>wp_ret ⟨g,σ,rfl,hr,h⟩
theorem aM{P:Program}{kb:Nat}{Q:dE->St->Prop}{σ:St}{id:Nat}(h:Q (.exit id) σ):cc P kb (.exit id) Q σ:=fun base _ g _ hr=>wp_exit ⟨g,σ,rfl,hr,h⟩
def bO(id:Nat)(Q:dE->St->Prop):dE->St->Prop
 | .exit mh,σ=>if mh=id then Q .norm σ else Q (.exit mh) σ
 | e,σ=>Q e σ
theorem ai{P:Program}{kb:Nat}{id:Nat}{c:Code}{Q:dE->St->Prop}{σ:St}(h:cc P kb c (bO id Q) σ):cc P kb (.block id c) Q σ:=fun base a g hb hr =>
 wp_block (wp_mono (h base a g hb hr) fun e a w hp=>by
  cases e with
  | normal=>exact hp
  | ret=>exact hp
  | exit mh =>
   obtain⟨g,σ,h1,h2,h3⟩:=hp;simp only[bO]at h3;simp only[Exit.inBlock];split
   ·rename_i e;rw[if_pos e]at h3;exact⟨g,σ,h1,h2,h3⟩
   rename_i e;rw[if_neg e]at h3;exact⟨g,σ,h1,h2,h3⟩
  | goto l=>exact hp
  | panic c=>exact hp
  | outgrown=>exact hp)
theorem oy{P:Program}{kb:Nat}{c:Operand}{x y:Code}{Q:dE->St->Prop}{σ:St}{b:Bool}(hc:σ.ev c=some (.v (.bool b)))(ht:b=true->cc P kb x Q σ)(hf:b=false->cc P kb y Q σ):cc P kb (.cond c x y) Q σ:=fun base a g hb hr=>by
 have qZ:=(hr.eval hc).cb.1;cases b
 ·exact wp_cond_false qZ (hf rfl base a g hb hr)
 exact wp_cond_true qZ (ht rfl base a g hb hr)
def Sub(O:List aj)(x y:ae):Prop:=∀(g:G) (u:Value),g.objs=O->RV g x u->RV g y u
theorem Sub.refl{O:List aj}(x:ae):Sub O x x:=fun _ _ _ h=>h
theorem Sub.of_eq{O:List aj}{x y:ae}(h:x=y):Sub O x y:=h ▸ Sub.refl x
theorem Sub.sh{O:List aj}{sz:Nat}{xs ys:List ae}{o:nR}(h:xs=ys):Sub O (.aC sz xs o) (.aC sz ys .sh):=fun _ _ _ k=>h ▸ k.sX
theorem Sub.nil{O:List aj}{sz:Nat}{xs:List ae}{o:nR}(h:xs=[])(ho:∀id,o≠.tok id)(hn:o≠.nn):Sub O (.v (.slice none 0 0)) (.aC sz xs o):=fun g u _ k=>by
 have:=k.cb.1;subst this;subst h;exact .nil (fun id e=>absurd e (ho id)) hn
def fj(σ:St):List (Nat×ae)->Prop
 | []=>True
 | (s,y)::r=>(∃x,σ.get s=some x∧Sub σ.objs x y)∧fj σ r
theorem th{σ:St}{base:G}{a:Act}{g:G}(hr:Rel base σ a g):∀{l:List (Nat×ae)},fj σ l->∀s y,look l s=some y->∃u,a.tmps[s]?=some u∧RV g y u
 | [],_,s,y,h=>by cases h
 | (k,z)::l,h,s,y,hl=>by
  obtain⟨⟨x,h1,h2⟩,h3⟩:=h;simp only[look]at hl;split at hl
  ·rename_i e;subst e;simp only[Option.some.injEq]at hl;subst hl;obtain⟨u,h4,h5⟩:=hr.slot k x h1;exact⟨u,h4,h2 g u hr.objs h5⟩
  exact th hr h3 s y hl
structure bc(σ τ:St):Prop where
 n:σ.n=τ.n
 objs:σ.objs=τ.objs
 Y9:fj σ τ.br
theorem bc.rel{σ τ:St}(h:bc σ τ){base:G}{a:Act}{g:G}(hr:Rel base σ a g):Rel base τ a g where
 le:=hr.le
 good:=hr.good
 objs:=hr.objs.trans h.objs
 size:=hr.size.trans h.n
 defers:=hr.defers
 slot:=fun s y hy=>th hr h.Y9 s y hy
theorem cc.cover{P:Program}{kb:Nat}{c:Code}{Q:dE->St->Prop}{σ τ:St}(h:cc P kb c Q τ)(hc:bc σ τ):cc P kb c Q σ:=fun base a g hb hr=>h base a g hb (hc.rel hr)
def gq{ι:Type}(L:ι->St)(μ:ι->Nat)(i:ι)(Q:dE->St->Prop):dE->St->Prop
 | .norm,σ=>∃j,μ j<μ i∧bc σ (L j)
 | e,σ=>Q e σ
theorem aO{P:Program}{kb:Nat}{c:Code}{Q:dE->St->Prop}{σ:St}{ι:Type}(L:ι->St)(μ:ι->Nat)(i0:ι)(h0:bc σ (L i0))(round:∀i,cc P kb c (gq L μ i Q) (L i)):cc P kb (.loop c) Q σ:=by
 intro base a g hb hr b k cs;have key:∀n i a g,μ i=n->Rel base (L i) a g->∃e a' w',Ry base Q e a' w'∧Arrives P (lone (b.at a (.code c::.inLoop c::k)) cs g.w) b k cs e a' w':=by
  intro n;induction n using Nat.strongRecOn with
  | _ n ih =>
   intro i a g hn hr;obtain⟨e,RB,WB,hq,gT⟩:=round i base a g hb hr b (.inLoop c::k) cs;cases e with
   | normal =>
    obtain⟨Kq,G6,h1,h2,j,h3,h4⟩:=hq;subst h1;obtain⟨Xq,Xj,Zd,VT,Oo⟩:=ih (μ j) (hn ▸ h3) j RB Kq rfl (h4.rel h2);exact⟨Xq,Xj,Zd,VT,.of_steps (Steps.trans gT (.one step_inLoop)) Oo⟩
   | exit id =>
    obtain⟨Kq,G6,h1,h2,h3⟩:=hq;exact⟨.exit id,RB,WB,⟨Kq,G6,h1,h2,h3⟩,.pass (x:=.inLoop c) rfl (fun _ _=>.inl (by simp)) gT⟩
   | goto l=>exact hq.elim
   | ret =>
    obtain⟨Kq,G6,h1,h2,h3⟩:=hq;exact⟨.ret,RB,WB,⟨Kq,G6,h1,h2,h3⟩,.pass (x:=.inLoop c) rfl (fun _ _=>.inl (by simp)) gT⟩
   | panic ch=>exact hq.elim
   | outgrown=>exact hq.elim
 obtain⟨e,a',w',hq,gT⟩:=key _ i0 a g rfl (h0.rel hr);exact⟨e,a',w',hq,.of_steps (.one step_loop) gT⟩
theorem NH{P:Program}{kb:Nat}{c:Code}{Q:dE->St->Prop}{n:Nat}{br:List (Nat×ae)}{O:List aj}(s:Nat){sz:Nat}{xs:List ae}(hs:look br s=some (.aC sz xs .ex))
  (h:cc P kb c Q ⟨n,bF s (.aC sz xs (.tok O.length)) br,O++[.spare xs.length]⟩):cc P kb c Q ⟨n,br,O⟩ :=
 h.weaken fun base a g hb hr=>by
  have hO:g.objs=O:=hr.objs;refine⟨g.mark (.spare xs.length),rfl,?_⟩;have hle:=Le.mark hr.good (.spare xs.length);refine { le:=hr.le.trans hle,good:=Good.mark hr.good _,objs:=by simp[G.mark,hO],size:=hr.size,defers:=hr.defers,slot:=fun k x hx=>?_ };simp only[St.get,gy]at hx;split at hx
  ·rename_i e;subst e;simp only[Option.some.injEq]at hx;subst hx;obtain⟨u,h1,h2⟩:=hr.slot s _ hs;refine⟨u,h1,?_⟩;have h3:=h2.mono hle;cases h3 with
   | nil=>exact .nil (fun id e=>by simp only[nR.tok.injEq]at e;subst e;simp[G.mark,hO]) (by simp)
   | aC cP dv cY cE hs f hm hr ho =>
    refine .aC cP dv cY cE hs f hm hr ⟨by simp[G.mark,hO],fun m eF=>?_⟩;have:(g.mark (.spare xs.length)).objs[O.length]?=some (.spare xs.length):=by
     rw[<-hO];exact ff
    rw[this]at eF;simp only[Option.some.injEq,aj.spare.injEq]at eF;exact⟨by omega,fun _=>.inl ho⟩
  obtain⟨u,h1,h2⟩:=hr.slot k x hx;exact⟨u,h1,h2.mono hle⟩
theorem sy{P:Program}{kb:Nat}{c:Code}{Q:dE->St->Prop}{n:Nat}{br:List (Nat×ae)}{O:List aj}(k:Nat)(hk:k<=O.length)(HQ:kb<=k)(cF:List (Nat×ae))(hb:∀o∈O.take k,o.upto k)(hs:fj ⟨n,br,O⟩ cF)
  (mW:∀s x,look cF s=some x->x.upto k) (h:cc P kb c Q ⟨n,cF,O.take k⟩):cc P kb c Q ⟨n,br,O⟩:=by
 intro base a g UP hr;have hO:g.objs=O:=hr.objs;have EX:Rel base ⟨n,cF,O.take k⟩ a (g.cu k):={
  le:=hr.le.cu (by omega)
  good:=hr.good.cu (by rw[hO];exact hk) (by rw[hO];exact hb)
  objs:=by simp only[G.cu,hO]
  size:=hr.size
  defers:=hr.defers
  slot:=fun s x hx=>by
   obtain⟨u,h1,h2⟩:=th hr hs s x hx;exact⟨u,h1,h2.cu (by rw[hO];exact hk) (mW s x hx)⟩ }
 exact h base a (g.cu k) UP EX
theorem zk{P:Program}{o:Oper}{x:Operand}{args:Array Operand}{su:Array TypeId}(ho:o.op=.call ⟨.value x,args,su⟩){a:Act}{w:World}{f:FuncId}{us vs:Array Value}(hx:a.eval x=.func (.func f) us vs)(hf:Enters P f) :
  (execOp a.eval o).run P w=.ok (.enter f (us++args.map a.eval++vs)) w:=by
 obtain⟨fn,h1,h2,h3⟩:=hf;simp only[execOp,ho,resolve,hx,Deferred.ofValue,Sem.run_bind,Sem.run_pure,Result.andThen_ok,invoke,callFunc,run_program,h1,h2,h3];rfl
theorem jI.m5{g:G}{cs ds:List ae}{us vs:Array Value}(h:jI g cs us)(k:jI g ds vs):jI g (cs++ds) (us++vs):=by
 have:=jI.append (us:=us.toList) (vs:=vs.toList) (by simpa using h) (by simpa using k);have e:(us.toList++vs.toList).toArray=us++vs:=Array.ext' (by simp);rw[<-e];exact this
theorem sD{P:Program}{o:Oper}{σ:St}{x:Operand}{args:Array Operand}{su:Array TypeId}{f:FuncId}{fs cs dP:List ae}{r:ae}(m:Mode)
  (ho:o.op=.call ⟨.value x,args,su⟩) (hd:∀d,o.dst=some d->d<σ.n) (hx:σ.ev x=some (.fn (.func f) fs cs)) (ha:σ.BY args.toList=some dP) {args':List ae} (fG:∀g u,jI g (fs++dP++cs) u->jI g args' u)
  (dD:∀O,(m=.pure∨O=σ.objs)->bd P f O args' fun r' O'=>r'=r∧O'=m.post O) (HM:Enters P f) (hp:m.plain:=by trivial):Cert P o σ r m:=by
 refine⟨by cases m<;>first|trivial|exact hp.elim,?_⟩;intro base τ a g bN hn mU hm K Q hK;have Wd:σ.ev x=some (.fn (.func f) fs cs):=hx;have h1:=bN.eval (mU x (by simp[ho,Op.operands,Call.operands]) _ hx);obtain⟨us,vs,e1,l1,l2,r1,r2⟩:=h1.Kn;have h2:=rD (σ:=σ) (a:=a) (g:=g) (xs:=args.toList) (fun z hz y hy=>bN.eval (mU z (by
  rw[ho];simp only[Op.operands,Call.operands,Array.mem_append];exact .inr (Array.mem_toList_iff.1 hz)) y hy)) ha
 have Kr:jI g dP (args.map a.eval):=by
  have e:args.map a.eval=(args.toList.map a.eval).toArray:=Array.ext' (by rw[Array.toList_map]);rw[e];exact h2
 have cz:=fG g _ ((jI.m5 (jI.m5 ⟨l1,r1⟩ Kr) ⟨l2,r2⟩));have bJ:=zk (P:=P) (w:=g.w) ho e1 HM;unfold Oper.wp;rw[bJ,Oper.upon_enter];refine((dD g.objs (by
  rcases m.CS hp hm with hm|hm
  ·exact .inl hm
  exact .inr (bN.objs.trans hm))).2 g _ bN.good rfl cz).mono ?_
 rintro e w' ⟨g',v,r',q1,q2,q3,q4,q5,q6,q7⟩;subst q1;subst q2;subst q6;refine hK v g' ?_;have e:g'.objs=m.post τ.objs:=by rw[q7,bN.objs]
 cases jA:o.dst with
 | none =>
  have:=bN.step q3 q4;rw[e]at this;exact this
 | some d =>
  have:=bN.put q3 q4 (d:=d) (by rw[hn];exact hd d jA) q5;rw[e]at this;exact this
theorem jI.share{g:G}{cs:List ae}{u:Array Value}(h:jI g cs u):jI g (cs.map ae.share) u :=
 ⟨by simpa using h.1,fun j c v a b=>by
  rw[List.getElem?_map,Option.map_eq_some_iff]at a;obtain⟨c',h1,h2⟩:=a;subst h2;exact(h.2 j c' v h1 b).share⟩
theorem D7{P:Program}{o:Oper}{σ:St}{x:Operand}{args:Array Operand}{su:Array TypeId}{f:FuncId}{fs cs dP:List ae}{r:ae}
  (ho:o.op=.call ⟨.value x,args,su⟩) (hd:∀d,o.dst=some d->d<σ.n) (hx:σ.ev x=some (.fn (.func f) fs cs)) (ha:σ.BY args.toList=some dP)
  (dD:bD P f ((fs++dP++cs).map ae.share) r) (bG:aw 0 ((fs++dP++cs).map ae.share)):Cert P o σ r .pure :=
 sD .pure ho hd hx ha (args':=(fs++dP++cs).map ae.share) (fun _ _ h=>h.share) (fun O _=>dD.use bG O) dD.1
theorem vx{P:Program}{o:Oper}{σ:St}{x:Operand}{args:Array Operand}{su:Array TypeId}{f:FuncId}{fs cs dP:List ae}{r:ae}{O':List aj}
  (ho:o.op=.call ⟨.value x,args,su⟩) (hd:∀d,o.dst=some d->d<σ.n) (hx:σ.ev x=some (.fn (.func f) fs cs)) (ha:σ.BY args.toList=some dP)
  (dD:bd P f σ.objs (fs++dP++cs) fun r' O1=>r'=r∧O1=O'):Cert P o σ r (.write O') :=
 sD (.write O') ho hd hx ha (args':=fs++dP++cs) (fun _ _ h=>h) (fun O hO=>by
  have:O=σ.objs:=hO.resolve_left (by simp);subst this;exact dD) dD.1
theorem D8{P:Program}{o:Oper}{σ:St}{x:Operand}{args:Array Operand}{su:Array TypeId}{f:FuncId}{fs cs dP:List ae}{r:ae}
  (ho:o.op=.call ⟨.value x,args,su⟩) (hd:∀d,o.dst=some d->d<σ.n) (hx:σ.ev x=some (.fn (.func f) fs cs)) (ha:σ.BY args.toList=some dP)
  (dD:bd P f σ.objs (fs++dP++cs) fun r' O1=>r'=r∧O1=σ.objs):Cert P o σ r .read :=
 sD .read ho hd hx ha (args':=fs++dP++cs) (fun _ _ h=>h) (fun O hO=>by
  have:O=σ.objs:=hO.resolve_left (by simp);subst this;exact dD) dD.1
theorem qV{g:G}{id:Nat}{o:aj}{l':Option Loc}(ho:g.objs[id]?=some o)(he:g.env[id]?=some l')(hp:¬o.aF)(hl:o.live):ld g id o l' .gone g.w where
 obj:=ho
 os:=rfl
 tape:=rfl
 output:=rfl
 size:=Nat.le_refl _
 block:=fun _ _ _=>rfl
 cell:=fun b off x hx _=>hx
 place:=fun _ _ h=>h.elim
 spare:=fun m h=>by subst h;exact absurd trivial hp
 plain:=fun _=>⟨by simp[aj.aF],he⟩
 gone:=fun h=>by subst h;exact hl
def G.freeze(g:G)(id:Nat)(l':Option Loc):G:=g.bB id l' .gone g.w
def bQ(O:List aj)(id:Nat)(x y:ae):Prop :=
 ∀(g:G) (u:Value) (l':Option Loc),Good g->g.objs=O->g.env[id]?=some l'->Le g (g.freeze id l')->RV g x u->RV (g.freeze id l') y u
theorem bQ.refl{O:List aj}{id:Nat}(x:ae):bQ O id x x:=fun _ _ _ _ _ _ hle h=>h.mono hle
theorem nm{g:G}(hg:Good g){id:Nat}{l:Loc}{o:aj}(he:g.env[id]?=some (some l))(ho:g.objs[id]?=some o)(hl:o.live)(off:Nat):¬jy (g.freeze id (some l)) l.block off:=by
 have bg:=I ho;rintro(hf|⟨mh,l',o',h1,h2,h3,h4,_⟩)
 ·exact hg.fQ id l o he ho hl off hf
 simp only[G.freeze,G.bB]at h1 h2;by_cases e:mh=id
 ·subst e;rw[List.getElem?_set_self (by omega)]at h2;simp only[Option.some.injEq]at h2;subst h2;exact h3
 rw[List.getElem?_set_ne (Ne.symm e)]at h1 h2;exact e (hg.apart mh id l' l o' o h1 h2 h3 he ho hl h4)
theorem bQ.mp{O:List aj}{id off:Nat}{cs ds:List ae}(gp:O[id]?=some (.cells cs))(hd:(cs.drop off).map ae.bk=ds):bQ O id (.mp id off) (.ip none ds):=fun g u l' hg hO he hle h=>by
 obtain⟨l,o1,h1,h2,_,eu⟩:=h.lu;subst eu;rw[he]at h1;simp only[Option.some.injEq]at h1;subst h1;have gN:g.objs[id]?=some (.cells cs):=by rw[hO];exact gp
 obtain⟨arr,t',iK,dk,hlen,fS,oJ,_⟩:=hg.row gN he;subst hd;refine .ip (.inl rfl) (fun c hc=>by
  obtain⟨c',h1,h2⟩:=List.mem_map.1 hc;subst h2;exact ae.eY (oJ c' (List.mem_of_mem_drop h1))) (fun j=>arr.getD (off+j) undef) (fun j c hj=>?_) (fun j c hj=>?_)
 ·rw[List.getElem?_map,Option.map_eq_some_iff]at hj;obtain⟨c',hj,_⟩:=hj;rw[List.getElem?_drop]at hj;have bg:=I hj;refine⟨?_,nm hg he gN trivial _⟩;show g.w.cell? _=_;rw[cell_of_row dk];simp[Array.getD_eq_getD_getElem?,show off+j<arr.size by omega]
 rw[List.getElem?_map,Option.map_eq_some_iff]at hj;obtain⟨c',hj,e⟩:=hj;subst e;rw[List.getElem?_drop]at hj;have bg:=I hj;exact((fS _ c' _ hj (by simp[Array.getD_eq_getD_getElem?,show off+j<arr.size by omega])).mono hle).bk
theorem bQ.ms{O:List aj}{id off len cap sz:Nat}{cs xs:List ae}(gp:O[id]?=some (.cells cs))(cP:∀x∈xs,x.cells.length=sz)(hlen:xs.length=len)(hd:((cs.drop off).take (len*sz)).map ae.bk=au xs):bQ O id (.ms id off len cap) (.aC sz xs .sh):=fun g u l' hg hO he hle h=>by
 obtain⟨l,o1,h1,h2,_,Jd,cE,ij,cY,eu⟩:=h.oX;subst eu;rw[he]at h1;simp only[Option.some.injEq]at h1;subst h1;have gN:g.objs[id]?=some (.cells cs):=by rw[hO];exact gp
 obtain⟨arr,t',iK,dk,lK,fS,oJ,_⟩:=hg.row gN he;subst hlen;have key:∀(j:Nat) (c:ae),(au xs)[j]?=some c->∃c',cs[off+j]?=some c'∧c'.bk=c:=fun j c hj=>by
  rw[<-hd,List.getElem?_map,Option.map_eq_some_iff]at hj;obtain⟨c',hj,e⟩:=hj;have:=mQ hj;rw[List.getElem?_drop]at this;exact⟨c',this,e⟩
 refine .aC cP (fun x hx c hc=>?_) (Nat.le_trans Jd cY) cE (fun _=>rfl) (fun j=>arr.getD (off+j) undef) (fun j c hj=>?_) (fun j c hj=>?_) trivial
 ·have fX:c∈au xs:=by
   simp only[au,List.mem_flatMap];exact⟨x,hx,hc⟩
  obtain⟨j,hj⟩:=List.getElem?_of_mem fX;obtain⟨c',jc,e⟩:=key j c hj;subst e;exact ae.eY (oJ c' (List.mem_of_getElem? jc))
 ·obtain⟨c',jc,e⟩:=key j c hj;have bg:=I jc;refine⟨?_,nm hg he gN trivial _⟩;show g.w.cell? _=_;simp only;rw[cell_of_row dk];simp[Array.getD_eq_getD_getElem?,show off+j<arr.size by omega]
 obtain⟨c',jc,e⟩:=key j c hj;have bg:=I jc;subst e;exact((fS _ c' _ jc (by simp[Array.getD_eq_getD_getElem?,show off+j<arr.size by omega])).mono hle).bk
theorem bQ.mm{O:List aj}{id:Nat}{kt:KT}{es:List (Value×ae)}(gp:O[id]?=some (.map kt es))(hp:kt.plain:=by trivial):bQ O id (.mm id) (.im kt es):=fun g u l' hg hO he hle h=>by
 obtain⟨l,o1,h1,h2,_,eu⟩:=h.Ff;subst eu;rw[he]at h1;simp only[Option.some.injEq]at h1;subst h1;have gN:g.objs[id]?=some (.map kt es):=by rw[hO];exact gp
 obtain⟨l2,ob,e1,e2,e3,Ah⟩:=hg.map id kt es gN;obtain⟨arr,clk,e9,e4,e5,e6,KA⟩:=Ah.map hp;subst e9;rw[he]at e1;simp only[Option.some.injEq]at e1;subst e1;exact .im (r:=l.block) (clk:=clk) (arr:=arr) e3 (fun off=>nm hg he gN trivial off) e4 (fun i e kx a b=>(e6 i e kx a b).1) e5 KA (fun i e kx a b=>(e6 i e kx a b).2.2.mono hle)
theorem DS{P:Program}{kb:Nat}{c:Code}{Q:dE->St->Prop}{n:Nat}{br:List (Nat×ae)}{O:List aj}(id:Nat){o:aj}(gp:O[id]?=some o)(hp:¬o.aF)(lV:o.live)(cF:List (Nat×ae))
  (hs:∀s y,look cF s=some y->∃x,look br s=some x∧bQ O id x y) (h:cc P kb c Q ⟨n,cF,O.set id .gone⟩):cc P kb c Q ⟨n,br,O⟩ :=
 h.weaken fun base a g hb hr=>by
  have hO:g.objs=O:=hr.objs;have gN:g.objs[id]?=some o:=by rw[hO];exact gp
  have bg:=jn hr.good gN;have he:g.env[id]?=some g.env[id]:=List.getElem?_eq_getElem bg;have ht:=qV gN he hp lV;have hle:=Le.bB hr.good ht;refine⟨g.freeze id g.env[id],rfl,{ le:=hr.le.trans hle,good:=Good.bB hr.good ht trivial (fun _ _ h=>h.elim),objs:=by simp[G.freeze,G.bB,hO],size:=hr.size,defers:=hr.defers,slot:=fun s y hy=>?_ }⟩;obtain⟨x,h1,h2⟩:=hs s y hy;obtain⟨u,h3,h4⟩:=hr.slot s x h1;exact⟨u,h3,h2 g u _ hr.good hO he hle h4⟩
theorem aD{P:Program}{kb:Nat}{c:Code}{Q:dE->St->Prop}{n:Nat}{br:List (Nat×ae)}{O:List aj}(s id:Nat){o:aj}{x:ae}(y:ae)(gp:O[id]?=some o)(hp:¬o.aF)(lV:o.live)(hx:look br s=some x)(hf:bQ O id x y)
  (h:cc P kb c Q ⟨n,bF s y br,O.set id .gone⟩):cc P kb c Q ⟨n,br,O⟩ :=
 DS id gp hp lV (bF s y br) (fun k z hz=>by
  rw[gy]at hz;split at hz
  ·rename_i e;subst e;simp only[Option.some.injEq]at hz;subst hz;exact⟨x,hx,hf⟩
  exact⟨z,hz,.refl z⟩) h
theorem iB{P:Program}{kb:Nat}{c:Code}{Q:dE->St->Prop}{n:Nat}{br:List (Nat×ae)}{O:List aj}(id:Nat){o:aj}(gp:O[id]?=some o)(hp:¬o.aF)(lV:o.live)(cF:List (Nat×ae))
  (hs:∀s y,look cF s=some y->∃x,look br s=some x∧bQ O id x y) (k:Nat) (hk:k≠id) (cs ds:List ae) (lM:O[k]?=some (.cells cs)) (hl:cs.length=ds.length) (dv:∀d∈ds,d.scalar)
  (fS:∀(j:Nat) (c d:ae),cs[j]?=some c->ds[j]?=some d->bQ O id c d) (h:cc P kb c Q ⟨n,cF,(O.set id .gone).set k (.cells ds)⟩):cc P kb c Q ⟨n,br,O⟩ :=
 h.weaken fun base a g hb hr=>by
  have hO:g.objs=O:=hr.objs;have gN:g.objs[id]?=some o:=by rw[hO];exact gp
  have bg:=jn hr.good gN;have he:g.env[id]?=some g.env[id]:=List.getElem?_eq_getElem bg;have ht:=qV gN he hp lV;have hle:=Le.bB hr.good ht;have dp:=Good.bB hr.good ht trivial (fun _ _ h=>h.elim);obtain⟨l,arr,t,e1,e2,e3,e4,e5,e6⟩:=hr.good.cells k cs (by rw[hO];exact lM);have OO:(g.freeze id g.env[id]).objs[k]?=some (.cells cs):=by
   simp only[G.freeze,G.bB];rw[List.getElem?_set_ne (Ne.symm hk),hO];exact lM
  have U':(g.freeze id g.env[id]).env[k]?=some (some l):=by
   simp only[G.freeze,G.bB];rw[List.getElem?_set_ne (Ne.symm hk)];exact e1
  have V5:ld (g.freeze id g.env[id]) k (.cells cs) (some l) (.cells ds) g.w:={
   obj:=OO
   os:=rfl
   tape:=rfl
   output:=rfl
   size:=Nat.le_refl _
   block:=fun _ _ _=>rfl
   cell:=fun b off x hx _=>hx
   place:=fun l1 h1 _=>by
    simp only[Option.some.injEq]at h1;subst h1;exact .inr ⟨l,U',trivial,rfl,Nat.le_refl _⟩
   spare:=fun m h=>by cases h
   plain:=fun _=>⟨by simp[aj.aF],U'⟩
   gone:=by simp }
  have Cg:=Le.bB dp V5;have EM:=Good.bB dp V5 ⟨l,arr,t,rfl,e2,e3,by omega,fun j d u hd hu=>by
   have bg:=I hd;have hc:cs[j]?=some cs[j]:=List.getElem?_eq_getElem (by omega);exact(fS j _ d hc hd g u _ hr.good hO he hle (e5 j _ u hc hu)).mono Cg,dv,e6.2⟩ (fun l1 h1 _=>by
    simp only[Option.some.injEq]at h1;subst h1;exact aW e3)
  refine⟨(g.freeze id g.env[id]).bB k (some l) (.cells ds) g.w,rfl,{ le:=(hr.le.trans hle).trans Cg,good:=EM,objs:=by simp[G.freeze,G.bB,hO],size:=hr.size,defers:=hr.defers,slot:=fun s y hy=>?_ }⟩;obtain⟨x,h1,h2⟩:=hs s y hy;obtain⟨u,h3,h4⟩:=hr.slot s x h1;exact⟨u,h3,(h2 g u _ hr.good hO he hle h4).mono Cg⟩
theorem nJ{P:Program}(w:World){t e:TypeId}(a:Addr)(n c:Nat)(ht:P.underlying t=some (.slice e)) :
  (binOp .neq t (.slice (some a) n c) (.slice none 0 0)).run P w=.ok (.bool true) w:=by
 have h:∀d:Nat,(Op.equalIn (d+1) t (.slice (some a) n c) (.slice none 0 0)).run P w=.ok false w:=fun d=>by
  simp[Op.equalIn,run_underlying ht]
 simp only[binOp];simp[Op.equal,Op.maxDepth,h 9999]
theorem om{P:Program}(w:World){t e:TypeId}(n c:Nat)(ht:P.underlying t=some (.slice e)) :
  (binOp .neq t (.slice none n c) (.slice none 0 0)).run P w=.ok (.bool false) w:=by
 have h:∀d:Nat,(Op.equalIn (d+1) t (.slice none n c) (.slice none 0 0)).run P w=.ok true w:=fun d=>by
  simp[Op.equalIn,run_underlying ht]
 simp only[binOp];simp[Op.equal,Op.maxDepth,h 9999]
theorem AN{P:Program}(w:World){op:BinOp}{t e:TypeId}{u:Value}{b r:Bool}(ht:P.underlying t=some (.slice e))(hu:(∃n c,u=.slice none n c∧b=true)∨(∃a n c,u=.slice (some a) n c∧b=false))
  (hr:(op=.eql∧r=b)∨(op=.neq∧r=!b)):(binOp op t u (.slice none 0 0)).run P w=.ok (.bool r) w:=by
 rcases hu with⟨n,c,e1,e2⟩|⟨a,n,c,e1,e2⟩<;>rcases hr with⟨e3,e4⟩|⟨e3,e4⟩<;>subst e1<;>subst e2<;>subst e3<;>subst e4
 ·exact Go.Lib.run_eql_slice_nil_nil w n c ht
 ·exact om w n c ht
 ·exact Go.Lib.run_eql_slice_some_nil w a n c ht
 exact nJ w a n c ht
theorem BI{P:Program}{aT:eZ}(hT:b6 P aT){o:Oper}{σ:St}{t t' e:TypeId}{x:Operand}{ti:cf}{y:ae}{b r:Bool}{op:BinOp}
  (ho:o.op=.binOp op t x (.const (.slice none 0 0)) t') (hd:∀d,o.dst=some d->d<σ.n) (ht:aT t=some ti) (aU:ti.desc=.slice e) (hx:σ.ev x=some y)
  (hy:(y=.v (.slice none 0 0)∧b=true)∨(∃sz xs,y=.aC sz xs .nn∧b=false)∨(∃id off len cap,y=.ms id off len cap∧b=false)) (hr:(op=.eql∧r=b)∨(op=.neq∧r=!b)):Cert P o σ (.v (.bool r)) .pure :=
 Cert.bT .pure (.inl rfl) hd fun a g _ h _=>by
  have hu:=bV hT ht aU;have iL:=h x (by simp[ho,Op.operands]) _ hx;refine⟨.bool r,?_,.v trivial⟩;have mW:(∃n c,a.eval x=.slice none n c∧b=true)∨(∃ad n c,a.eval x=.slice (some ad) n c∧b=false):=by
   rcases hy with⟨e1,e2⟩|⟨sz,xs,e1,e2⟩|⟨id,off,len,cap,e1,e2⟩
   ·subst e1;exact .inl ⟨_,_,iL.cb.1,e2⟩
   ·subst e1;cases hv:a.eval x with
    | slice ad len cap =>
     rw[hv]at iL;cases iL with
     | nil ho hn=>exact absurd rfl hn
     | aC cP dv cY cE hs f hm hr ho=>exact .inr ⟨_,_,_,rfl,e2⟩
    | _=>rw[hv]at iL;cases iL
   subst e1;obtain⟨l,o1,_,_,_,_,_,ij,_,eu⟩:=iL.oX;exact .inr ⟨_,_,_,eu,e2⟩
  have bJ:=AN (P:=P) g.w hu mW hr;have OS:∃ad n c,a.eval x=.slice ad n c:=by
   rcases mW with⟨_,_,e,_⟩|⟨_,_,_,e,_⟩
   ·exact⟨_,_,_,e⟩
   exact⟨_,_,_,e⟩
  obtain⟨ad,n,c,OS⟩:=OS;have hg:=cS (P:=P) op t x (.const (.slice none 0 0)) (.slice ad n c) (.slice none 0 0) g.w (by simp) (by simp);rw[OS]at bJ;have hc:a.eval (.const (.slice none 0 0))=.slice none 0 0:=rfl;simp[execOp,ho,OS,hc,hg,bJ]
theorem D5{P:Program}{aT:eZ}(hT:b6 P aT){o:Oper}{σ:St}{t e:TypeId}{x:Operand}{ti:cf}{sz:Nat}{xs:List ae}
  (ho:o.op=.call ⟨.builtin .cap,#[x],#[t]⟩) (hd:∀d,o.dst=some d->d<σ.n) (ht:aT t=some ti) (aU:ti.desc=.slice e) (hx:σ.ev x=some (.aC sz xs .ex)):Cert P o σ (.v (.int .i64 xs.length)) .pure :=
 Cert.bT .pure (.inl rfl) hd fun a g _ h _=>by
  have hu:=bV hT ht aU;have iL:=h x (by simp[ho,Op.operands,Call.operands]) _ hx;have cE:=iL.GP;have key:∃ad,a.eval x=.slice ad xs.length xs.length:=by
   rcases iL.fL with⟨q1,q2⟩|⟨ad,cap,_,q1,_,_,_,_,_,_,_,q2⟩
   ·subst q2;exact⟨_,q1⟩
   have q3:cap=xs.length:=q2;subst q3;exact⟨_,q1⟩
  obtain⟨ad,q1⟩:=key;refine⟨.int .i64 xs.length,?_,.v ?_⟩
  ·rw[cR ho];simp[builtin,Builtin.cap_,q1,run_underlying hu,goInt]
  simp[iv,IntKind.min,IntKind.max,IntKind.bits,IntKind.signed];omega
theorem qf{P:Program}{o:Oper}{σ:St}{x:Operand}{y:ae}(ho:o.op=.nilCheck x)(hd:∀d,o.dst=some d->d<σ.n)(hx:σ.ev x=some y)
  (hy:(∃id off,y=.mp id off)∨∃oa cs,y=.ip oa cs):Cert P o σ y .pure :=
 Cert.bT .pure (.inl rfl) hd fun a g _ h _=>by
  have iL:=h x (by simp[ho,Op.operands]) _ hx;have key:∃ad,a.eval x=.pointer (some ad):=by
   rcases hy with⟨id,off,e⟩|⟨oa,cs,e⟩
   ·subst e;obtain⟨l,o1,_,_,_,eu⟩:=iL.lu;exact⟨_,eu⟩
   subst e;obtain⟨b,off,f,eu,_⟩:=iL.oR;exact⟨_,eu⟩
  obtain⟨ad,e⟩:=key;exact⟨a.eval x,by simp[execOp,ho,e],iL⟩
theorem uj{P:Program}{aT:eZ}(hT:b6 P aT){o:Oper}{σ:St}{t e:TypeId}{x:Operand}{ti te:cf}{sz:Nat}{xs:List ae}{ow:nR}{lo hi:Option Operand}
  (ho:o.op=.slice t x lo hi none) (hd:∀d,o.dst=some d->d<σ.n) (ht:aT t=some ti) (aU:ti.desc=.slice e) (he:aT e=some te) (hx:σ.ev x=some (.aC sz xs ow))
  (iK:oz σ lo 0 0) (pY:oz σ hi xs.length xs.length):Cert P o σ (.aC sz xs ow) .pure :=
 Cert.bT .pure (.inl rfl) hd fun a g _ hh _=>by
  have hu:=bV hT ht aU;have iL:=hh x (by cases lo<;>cases hi<;>simp[ho,Op.operands]) _ hx;have hl:(lo=none)∨∃q k,lo=some q∧a.eval q=.int k (0:Int):=by
   rcases iK with q|⟨q,k,e1,e2⟩
   ·exact .inl q.1
   exact .inr ⟨q,k,e1,(hh q (by subst e1;cases hi<;>simp[ho,Op.operands]) _ e2).cb.1⟩
  have ga:(hi=none)∨∃q k,hi=some q∧a.eval q=.int k (xs.length:Int):=by
   rcases pY with q|⟨q,k,e1,e2⟩
   ·exact .inl q.1
   exact .inr ⟨q,k,e1,(hh q (by subst e1;cases lo<;>simp[ho,Op.operands]) _ e2).cb.1⟩
  have c8:execOp a.eval o=(do pure (.value (<-Instr.sliceAt t (a.eval x) (lo.map a.eval) (hi.map a.eval) none))):=by
   simp[execOp,ho]
  clear iK pY ho;have bounds:∀cap:Nat,xs.length<=cap->(Instr.sliceBounds true xs.length cap (lo.map a.eval) (hi.map a.eval) none).run P g.w=.ok (0,xs.length,cap) g.w:=by
   intro cap cY;rcases hl with e1|⟨p,k,e1,hk⟩
   ·rcases ga with e3|⟨q,k',e3,pF⟩
    ·subst e1 e3;simp[Instr.sliceBounds]
    subst e1 e3;have:=run_sliceBound (P:=P) k' xs.length cap .sliceAcap g.w (by omega) (by omega);simp[Instr.sliceBounds,pF,this]
   rcases ga with e3|⟨q,k',e3,pF⟩
   ·subst e1 e3;have:=run_sliceBound (P:=P) k 0 xs.length .sliceB g.w (by omega) (by omega);simp[Instr.sliceBounds,hk,this]
   subst e1 e3;have e1:=run_sliceBound (P:=P) k' xs.length cap .sliceAcap g.w (by omega) (by omega);have e2:=run_sliceBound (P:=P) k 0 xs.length .sliceB g.w (by omega) (by omega);simp[Instr.sliceBounds,hk,pF,e1,e2]
  have lp:=(hT e te he).sizeOf g.w;refine⟨a.eval x,?_,iL⟩;rw[c8];rcases iL.fL with⟨q1,q2⟩|⟨ad,cap,f,q1,oO,dv,cY,cE,hs,hm,hr,_⟩
  ·subst q2;have b:=bounds 0 (by simp);simp only[List.length_nil]at b;simp[Instr.sliceAt,run_underlying hu,Instr.slice,q1,lp,b]
  have b:=bounds cap cY;by_cases Gr:cap=0
  ·subst Gr;simp[Instr.sliceAt,run_underlying hu,Instr.slice,q1,lp,b,Addr.add]
  simp[Instr.sliceAt,run_underlying hu,Instr.slice,q1,lp,b,Gr,Addr.add]
theorem xD{P:Program}{aT:eZ}(hT:b6 P aT){o:Oper}{σ:St}{t e:TypeId}{x:Operand}{ti te:cf}{id off len cap:Nat}{lo hi:Option Operand}{l h:Nat}
  (ho:o.op=.slice t x lo hi none) (hd:∀d,o.dst=some d->d<σ.n) (ht:aT t=some ti) (aU:ti.desc=.slice e) (he:aT e=some te) (hx:σ.ev x=some (.ms id off len cap))
  (iK:oz σ lo 0 l) (pY:oz σ hi len h) (h1:l<=h) (h2:h<=cap) (h3:l<cap) (QQ:h<=2 ^ 62):Cert P o σ (.ms id (off+l*te.size) (h-l) (cap-l)) .pure :=
 Cert.bT .pure (.inl rfl) hd fun a g _ hh _=>by
  have hu:=bV hT ht aU;have iL:=hh x (by cases lo<;>cases hi<;>simp[ho,Op.operands]) _ hx;have hl:(lo=none∧l=0)∨∃q k,lo=some q∧a.eval q=.int k (l:Int):=by
   rcases iK with q|⟨q,k,e1,e2⟩
   ·exact .inl q
   exact .inr ⟨q,k,e1,(hh q (by subst e1;cases hi<;>simp[ho,Op.operands]) _ e2).cb.1⟩
  have ga:(hi=none∧h=len)∨∃q k,hi=some q∧a.eval q=.int k (h:Int):=by
   rcases pY with q|⟨q,k,e1,e2⟩
   ·exact .inl q
   exact .inr ⟨q,k,e1,(hh q (by subst e1;cases lo<;>simp[ho,Op.operands]) _ e2).cb.1⟩
  have c8:execOp a.eval o=(do pure (.value (<-Instr.sliceAt t (a.eval x) (lo.map a.eval) (hi.map a.eval) none))):=by
   simp[execOp,ho]
  clear iK pY ho;obtain⟨lc,o1,q1,q2,q3,Jd,cE,ij,cY,eu⟩:=iL.oX;have bounds:(Instr.sliceBounds true len ij (lo.map a.eval) (hi.map a.eval) none).run P g.w=.ok (l,h,ij) g.w:=by
   rcases hl with⟨e1,e2⟩|⟨p,k,e1,hk⟩
   ·rcases ga with⟨e3,e4⟩|⟨q,k',e3,pF⟩
    ·subst e1 e2 e3 e4;simp[Instr.sliceBounds]
    subst e1 e2 e3;have:=run_sliceBound (P:=P) k' h ij .sliceAcap g.w (by omega) (by omega);simp[Instr.sliceBounds,pF,this]
   rcases ga with⟨e3,e4⟩|⟨q,k',e3,pF⟩
   ·subst e1 e3 e4;have:=run_sliceBound (P:=P) k l h .sliceB g.w (by omega) (by omega);simp[Instr.sliceBounds,hk,this]
   subst e1 e3;have e1:=run_sliceBound (P:=P) k' h ij .sliceAcap g.w (by omega) (by omega);have e2:=run_sliceBound (P:=P) k l h .sliceB g.w (by omega) (by omega);simp[Instr.sliceBounds,hk,pF,e1,e2]
  have lp:=(hT e te he).sizeOf g.w;refine⟨.slice (some ((⟨lc.block,off,none⟩:Addr).add (l*te.size))) (h-l) (ij-l),?_,?_⟩
  ·rw[c8];simp[Instr.sliceAt,run_underlying hu,Instr.slice,eu,bounds,lp,show ij≠l by omega]
  rw[addr_add];exact .ms q1 q2 q3 (by omega) (by omega) (by omega)
theorem vC{P:Program}{aT:eZ}(hT:b6 P aT){o:Oper}{σ:St}{t e:TypeId}{x:Operand}{ti te:cf}{id sz len:Nat}{lo hi:Option Operand} 
  (ho:o.op=.slice t x lo hi none) (hd:∀d,o.dst=some d->d<σ.n) (ht:aT t=some ti) (aU:ti.desc=.slice e) (he:aT e=some te) (hx:σ.ev x=some (.raw sz len id))
  (iK:oz σ lo 0 0) (pY:oz σ hi len 0) (h3:0<len):Cert P o σ (.aC sz [] (.tok id)) .pure :=
 Cert.bT .pure (.inl rfl) hd fun a g _ hh _=>by
  have hu:=bV hT ht aU;have iL:=hh x (by cases lo<;>cases hi<;>simp[ho,Op.operands]) _ hx;have hl:(lo=none∧(0:Nat)=0)∨∃q k,lo=some q∧a.eval q=.int k ((0:Nat):Int):=by
   rcases iK with q|⟨q,k,e1,e2⟩
   ·exact .inl q
   exact .inr ⟨q,k,e1,(hh q (by subst e1;cases hi<;>simp[ho,Op.operands]) _ e2).cb.1⟩
  have ga:(hi=none∧(0:Nat)=len)∨∃q k,hi=some q∧a.eval q=.int k ((0:Nat):Int):=by
   rcases pY with q|⟨q,k,e1,e2⟩
   ·exact .inl q
   exact .inr ⟨q,k,e1,(hh q (by subst e1;cases lo<;>simp[ho,Op.operands]) _ e2).cb.1⟩
  have c8:execOp a.eval o=(do pure (.value (<-Instr.sliceAt t (a.eval x) (lo.map a.eval) (hi.map a.eval) none))):=by
   simp[execOp,ho]
  clear iK pY ho;obtain⟨ad,ij,eu,cY,Q6⟩:=iL.Pg;have bounds:(Instr.sliceBounds true len ij (lo.map a.eval) (hi.map a.eval) none).run P g.w=.ok (0,0,ij) g.w:=by
   rcases hl with⟨e1,e2⟩|⟨p,k,e1,hk⟩
   ·rcases ga with⟨e3,e4⟩|⟨q,k',e3,pF⟩
    ·omega
    subst e1 e3;have:=run_sliceBound (P:=P) k' 0 ij .sliceAcap g.w (by omega) (by omega);simp[Instr.sliceBounds,pF,this]
   rcases ga with⟨e3,e4⟩|⟨q,k',e3,pF⟩
   ·omega
   subst e1 e3;have e1:=run_sliceBound (P:=P) k' 0 ij .sliceAcap g.w (by omega) (by omega);have e2:=run_sliceBound (P:=P) k 0 0 .sliceB g.w (by omega) (by omega);simp[Instr.sliceBounds,hk,pF,e1,e2]
  have lp:=(hT e te he).sizeOf g.w;refine⟨.slice (some (ad.add (0*te.size))) (0-0) (ij-0),?_,?_⟩
  ·rw[c8];simp[Instr.sliceAt,run_underlying hu,Instr.slice,eu,bounds,lp,show ij≠0 by omega]
  rw[Nat.zero_mul,show ad.add 0=ad by cases ad;rfl];exact .aC (xs:=[]) (by simp) (by simp) (Nat.zero_le _) (Nat.zero_le _) (by simp) (fun _=>undef) (by simp[au]) (by simp[au]) Q6
theorem ud{P:Program}{aT:eZ}(hT:b6 P aT){o:Oper}{σ:St}{t e:TypeId}{x y:Operand}{ti te:cf}{sz:Nat}{xs ys:List ae}{ow:nR}
  (ho:o.op=.call ⟨.builtin .append,#[x,y],#[t,t]⟩) (hd:∀d,o.dst=some d->d<σ.n) (ht:aT t=some ti) (aU:ti.desc=.slice e) (he:aT e=some te) (cP:te.size=sz) (hx:σ.ev x=some (.aC sz xs .ex)) (hy:σ.ev y=some (.aC sz ys ow))
  (hn:ys.length≠0) (hlen:xs.length+ys.length<=2 ^ 62) (hb:(xs.length+ys.length)*te.bytes<=2 ^ 47) :
  Cert P o σ (.ms σ.objs.length 0 (xs.length+ys.length) (xs.length+ys.length)) (.write (σ.objs++[.cells (au (xs++ys.map ae.share))])) :=
 Cert.iZ hd fun base fY a g bN h je=>by
  have hO:g.objs=σ.objs:=je.resolve_left (by simp);have hg:=bN.good;have hu:=bV hT ht aU;subst cP;have iL:=h x (by simp[ho,Op.operands,Call.operands]) _ hx;have DD:=h y (by simp[ho,Op.operands,Call.operands]) _ hy;obtain⟨Dw,mb,ix,ex,OW,Ak,OX,K7,Nj,GH⟩:=iL.gu (P:=P);obtain⟨Ug,JG,news,ey,Cq,Cr,Cs,Ji,GJ,uP⟩:=DD.gu (P:=P);obtain⟨⟨i,z,h1,h2,h3,h4,h5,h6,h7,h8,h9⟩,_⟩:=hT e te he;have rI:mb=xs.length:=by
   rcases iL.fL with⟨q1,q2⟩|⟨ad,cap,f,q1,_,_,_,_,_,_,_,q2⟩
   ·rw[ex]at q1;cases q2;simp at q1;simp[q1]
   rw[ex]at q1;simp only[Value.slice.injEq]at q1;rw[q1.2.2];exact q2
  subst rI;have c8:=cR (P:=P) ho a g.w;simp only[builtin,List.map_toArray,List.map_cons,List.map_nil]at c8;have bJ:=gZ (P:=P) g.w t o.type e i z hu h1 h4 Dw xs.length xs.length ys.length (a.eval y) ix news Cq (by rw[h2];exact Cr g.w.drew rfl) (by rw[h2,<-ex];exact Ak g.w.drew rfl) (by omega) hlen (by rw[h3];exact hb);rw[<-ex]at bJ;obtain⟨cap,cY⟩:∃cap,cap=grownCap g.w (xs.length+ys.length) xs.length e:=⟨_,rfl⟩
  obtain⟨rest,cO⟩:∃rest,rest=Builtin.zeroCells z.cells (cap-(xs.length+ys.length)):=⟨_,rfl⟩
  have qj:=grownCap_ge g.w (xs.length+ys.length) xs.length e;rw[<-cY]at bJ qj;rw[<-cO]at bJ;obtain⟨arr,gT⟩:∃arr,arr=ix.toArray++news.toArray++rest:=⟨_,rfl⟩
  rw[<-gT]at bJ;have oc:=hg.heap (w':=g.w.drew) rfl rfl rfl rfl;have oK:=Le.heap (g:=g) (w':=g.w.drew) rfl rfl rfl rfl;obtain⟨g1,lH⟩:∃g1:G,g1=⟨g.w.drew,g.fr,g.env,g.objs⟩:=⟨_,rfl⟩
  rw[<-lH]at oc oK;have sV:g1.w=g.w.drew:=by rw[lH]
  have nr:g1.objs=σ.objs:=by rw[lH];exact hO
  have iT:=OX.append Cs.jY;rw[<-cL]at iT;have gK:(au (xs++ys.map ae.share)).length=(xs.length+ys.length)*te.size:=by
   rw[bE (sz:=te.size) (fun x hx=>by
    rcases List.mem_append.1 hx with q|q
    ·exact K7 x q
    exact dS Ji x q)]
   simp
  have xH:(au (xs++ys.map ae.share)).length<=arr.size:=by
   rw[gK,gT];simp only[Array.size_append,List.size_toArray,GH,uP,<-Nat.add_mul];omega
  have hle:=oK.trans (Le.alloc oc (.cells arr e) 0 (.cells (au (xs++ys.map ae.share))));have jd:Fits (g1.alloc (.cells arr e) 0 (.cells (au (xs++ys.map ae.share)))) (.cells arr e) (.cells (au (xs++ys.map ae.share))):=by
   refine⟨arr,e,rfl,xH,fun j c u hj hu=>?_,fun c hc=>?_⟩
   ·have bg:=I hj;rw[gK]at bg;rw[gT]at hu;have uO:=eW hu (by simp only[List.size_toArray,GH,uP,<-Nat.add_mul];exact bg);exact(iT.2 j c u hj (by simpa using uO)).mono hle
   rw[cL]at hc;rcases List.mem_append.1 hc with q|q
   ·exact Nj c q
   exact dA GJ c q
  have dp:=Good.alloc oc (.cells arr e) 0 (.cells (au (xs++ys.map ae.share))) (.inr rfl) jd;refine⟨.slice (some ⟨g.w.heap.size,0,none⟩) (xs.length+ys.length) cap,_,.inl ?_,hle,dp,?_,?_⟩
  ·rw[c8];simp[bJ,G.alloc,sV]
  ·simp[G.alloc,nr,Mode.post]
  rw[<-nr];have e1:(g.w.heap.size)=g1.w.heap.size:=by rw[sV];rfl
  rw[e1];exact .ms (l:=⟨g1.w.heap.size,0,_⟩) (iJ oc) ff (by simp[aj.aF]) (Nat.le_refl _) qj hlen
theorem nY{P:Program}(w:World)(t t' ty e:TypeId)(i:TypeInfo)(z:Value)(ht:P.underlying t=some (.slice e))(V3:P.underlying t'=some (.int .i64))(hi:P.info? e=some i)(hz:i.zero=some z)(s:Option Addr)(n:Nat)
  (hs:(Builtin.firstCells i.size 0 (.slice s 0 0)).run P w.drew=.ok #[] w.drew) (hn:0<n) (h63:n<=2 ^ 62) (a8:n*i.bytes<=2 ^ 47) (cP:0<i.size) :
  (Builtin.append_ #[t,t'] ty #[.slice s 0 0,.int .i64 n]).run P w =
   .ok (.slice (some ⟨w.heap.size,0,none⟩) n (grownCap w n 0 e)) (w.drew.alloc (.cells (Builtin.zeroCells z.cells n++Builtin.zeroCells z.cells (grownCap w n 0 e-n)) e)):=by
 have hw:IntKind.i64.wrap (n:Int)=n:=nQ .i64 n (by simp[IntKind.min,IntKind.bits,IntKind.signed]<;>omega) (by simp[IntKind.max,IntKind.bits,IntKind.signed]<;>omega);have h0:¬((n:Int)<0):=by omega
 have Zs:¬((2:Int) ^ 48<(n:Int)*(i.bytes:Int)):=by
  rw[<-Int.natCast_mul];omega
 have hns:¬(n<=0):=by omega
 have ct:¬(n*i.size=0):=by
  have:=Nat.mul_pos hn cP;omega
 have h1:¬(9223372036854775807<(n:Int)):=by omega
 have cY:Builtin.nextslicecap n 0=n:=by
  unfold Builtin.nextslicecap;rw[if_pos (by omega)]
 have ha:∀w:World,(asInt (.int .i64 (n:Int))).run P w=.ok (n:Int) w:=fun _=>rfl;have Xv:¬(281474976710656<(n:Int)*(i.bytes:Int)):=by
  rw[<-Int.natCast_mul];omega
 have UA:¬(281474976710656<n*i.bytes):=by omega
 have vX:¬(n=0):=by omega
 simp[Builtin.append_,run_underlying ht,run_underlying V3,Go.sizeOf,typeInfo,hi,ha,hw,vX,Xv,UA,cY,Question.forced,hs,Go.zeroValue,hz,Go.newRow,grownCap,h1];rw[if_neg h0,if_neg ct]
theorem sC{P:Program}{aT:eZ}(hT:b6 P aT){o:Oper}{σ:St}{t t' e:TypeId}{x y:Operand}{ti te:cf}{sz:Nat}{n:Int}
  (ho:o.op=.call ⟨.builtin .append,#[x,y],#[t,t']⟩) (hd:∀d,o.dst=some d->d<σ.n) (ht:aT t=some ti) (aU:ti.desc=.slice e) (he:aT e=some te) (V3:P.underlying t'=some (.int .i64)) (hx:σ.ev x=some (.aC sz [] .ex)) (hy:σ.ev y=some (.v (.int .i64 n)))
  (hn:0<n) (hlen:n.toNat<=2 ^ 62) (hb:n.toNat*te.bytes<=2 ^ 47) (cP:0<te.size) :
  Cert P o σ (.ms σ.objs.length 0 n.toNat n.toNat) (.write (σ.objs++[.cells (List.replicate n.toNat te.zero).flatten])) :=
 Cert.iZ hd fun base fY a g bN h je=>by
  have hO:g.objs=σ.objs:=je.resolve_left (by simp);have hg:=bN.good;have hu:=bV hT ht aU;have iL:=h x (by simp[ho,Op.operands,Call.operands]) _ hx;have ey:=(h y (by simp[ho,Op.operands,Call.operands]) _ hy).cb.1;obtain⟨Dw,mb,ix,ex,OW,Ak,OX,K7,Nj,GH⟩:=iL.gu (P:=P);obtain⟨⟨i,z,h1,h2,h3,h4,h5,h6,h7,h8,h9⟩,_⟩:=hT e te he;obtain⟨m,rfl⟩:=Int.eq_ofNat_of_zero_le (show 0<=n by omega);simp only[Int.toNat_natCast]at *;have rI:mb=0:=by
   rcases iL.fL with⟨q1,q2⟩|⟨ad,cap,f,q1,_,_,_,_,_,_,_,q2⟩
   ·rw[ex]at q1;simp at q1;exact q1.2
   rw[ex]at q1;simp only[Value.slice.injEq]at q1;rw[q1.2.2];exact q2
  subst rI;simp only[List.length_nil]at ex;have c8:=cR (P:=P) ho a g.w;simp only[builtin,List.map_toArray,List.map_cons,List.map_nil]at c8;have bJ:=nY (P:=P) g.w t t' o.type e i z hu V3 h1 h4 Dw m (by cases Dw<;>simp[Builtin.firstCells,loadCells,loadCellsFrom]) (by omega) hlen (by rw[h3];exact hb) (by omega);rw[<-ex]at bJ;obtain⟨cap,cY⟩:∃cap,cap=grownCap g.w m 0 e:=⟨_,rfl⟩
  have qj:=grownCap_ge g.w m 0 e;rw[<-cY]at bJ qj;obtain⟨rest,cO⟩:∃rest,rest=Builtin.zeroCells z.cells (cap-m):=⟨_,rfl⟩
  rw[<-cO]at bJ;obtain⟨arr,gT⟩:∃arr,arr=Builtin.zeroCells z.cells m++rest:=⟨_,rfl⟩
  rw[<-gT]at bJ;have oc:=hg.heap (w':=g.w.drew) rfl rfl rfl rfl;have oK:=Le.heap (g:=g) (w':=g.w.drew) rfl rfl rfl rfl;obtain⟨g1,lH⟩:∃g1:G,g1=⟨g.w.drew,g.fr,g.env,g.objs⟩:=⟨_,rfl⟩
  rw[<-lH]at oc oK;have sV:g1.w=g.w.drew:=by rw[lH]
  have nr:g1.objs=σ.objs:=by rw[lH];exact hO
  have vU:(List.replicate m te.zero).flatten.length=m*te.size:=by simp[h6]
  have fm:∀(j:Nat) (c:ae),(List.replicate m te.zero).flatten[j]?=some c->te.zero[j % te.size]?=some c:=fun j c=>h6 ▸ pQ te.zero (by omega) m j c;have hle:=oK.trans (Le.alloc oc (.cells arr e) 0 (.cells (List.replicate m te.zero).flatten));have Am:(Builtin.zeroCells z.cells m).size=m*te.size:=by rw[size_zeroCells,h5,h6]
  have jd:Fits (g1.alloc (.cells arr e) 0 (.cells (List.replicate m te.zero).flatten)) (.cells arr e) (.cells (List.replicate m te.zero).flatten):=by
   refine⟨arr,e,rfl,by rw[vU,gT,Array.size_append,Am];omega,fun j c u hj hu=>?_,fun c hc=>?_⟩
   ·have jc:=fm j c hj;have bg:=I hj;rw[vU]at bg;rw[gT,Array.getElem?_append,if_pos (by rw[Am];exact bg)]at hu;have kF:j % te.size<z.cells.size:=by rw[h5];exact I jc
    refine h8 _ _ _ _ jc ?_;simp only[Builtin.zeroCells,Array.getElem?_map,h5,h6,Array.getElem?_range,if_pos bg,Option.map_some,Option.some.injEq]at hu;subst hu;simp[kF]
   rw[List.mem_flatten]at hc;obtain⟨l,hl,hc⟩:=hc;rw[List.mem_replicate]at hl;exact h9 c (hl.2 ▸ hc)
  have dp:=Good.alloc oc (.cells arr e) 0 (.cells (List.replicate m te.zero).flatten) (.inr rfl) jd;refine⟨.slice (some ⟨g.w.heap.size,0,none⟩) m cap,_,.inl ?_,hle,dp,?_,?_⟩
  ·rw[c8,ey];simp[bJ,G.alloc,sV]
  ·simp[G.alloc,nr,Mode.post]
  rw[<-nr];have e1:(g.w.heap.size)=g1.w.heap.size:=by rw[sV];rfl
  rw[e1];exact .ms (l:=⟨g1.w.heap.size,0,_⟩) (iJ oc) ff (by simp[aj.aF]) (Nat.le_refl _) (by omega) hlen
theorem ue{P:Program}{aT:eZ}(hT:b6 P aT){o:Oper}{σ:St}{t t' e:TypeId}{x y:Operand}{ti te:cf}{sz:Nat}{n:Int}
  (ho:o.op=.call ⟨.builtin .append,#[x,y],#[t,t']⟩) (hd:∀d,o.dst=some d->d<σ.n) (ht:aT t=some ti) (aU:ti.desc=.slice e) (he:aT e=some te) (V3:P.underlying t'=some (.int .i64)) (hx:σ.ev x=some (.aC sz [] .ex)) (hy:σ.ev y=some (.v (.int .i64 n)))
  (hn:0<n) (hlen:n.toNat<=2 ^ 62) (hb:n.toNat*te.bytes<=2 ^ 47) (cP:0<te.size) :
  Cert P o σ (.raw te.size n.toNat σ.objs.length) (.write (σ.objs++[.spare 0])) :=
 Cert.iZ hd fun base fY a g bN h je=>by
  have hO:g.objs=σ.objs:=je.resolve_left (by simp);have hg:=bN.good;have hu:=bV hT ht aU;have iL:=h x (by simp[ho,Op.operands,Call.operands]) _ hx;have ey:=(h y (by simp[ho,Op.operands,Call.operands]) _ hy).cb.1;obtain⟨Dw,mb,ix,ex,OW,Ak,OX,K7,Nj,GH⟩:=iL.gu (P:=P);obtain⟨⟨i,z,h1,h2,h3,h4,h5,h6,h7,h8,h9⟩,_⟩:=hT e te he;obtain⟨m,rfl⟩:=Int.eq_ofNat_of_zero_le (show 0<=n by omega);simp only[Int.toNat_natCast]at *;have rI:mb=0:=by
   rcases iL.fL with⟨q1,q2⟩|⟨ad,cap,f,q1,_,_,_,_,_,_,_,q2⟩
   ·rw[ex]at q1;simp at q1;exact q1.2
   rw[ex]at q1;simp only[Value.slice.injEq]at q1;rw[q1.2.2];exact q2
  subst rI;simp only[List.length_nil]at ex;have c8:=cR (P:=P) ho a g.w;simp only[builtin,List.map_toArray,List.map_cons,List.map_nil]at c8;have bJ:=nY (P:=P) g.w t t' o.type e i z hu V3 h1 h4 Dw m (by cases Dw<;>simp[Builtin.firstCells,loadCells,loadCellsFrom]) (by omega) hlen (by rw[h3];exact hb) (by omega);rw[<-ex]at bJ;obtain⟨cap,cY⟩:∃cap,cap=grownCap g.w m 0 e:=⟨_,rfl⟩
  have qj:=grownCap_ge g.w m 0 e;rw[<-cY]at bJ qj;obtain⟨rest,cO⟩:∃rest,rest=Builtin.zeroCells z.cells (cap-m):=⟨_,rfl⟩
  rw[<-cO]at bJ;obtain⟨arr,gT⟩:∃arr,arr=Builtin.zeroCells z.cells m++rest:=⟨_,rfl⟩
  rw[<-gT]at bJ;have oc:=hg.heap (w':=g.w.drew) rfl rfl rfl rfl;have oK:=Le.heap (g:=g) (w':=g.w.drew) rfl rfl rfl rfl;obtain⟨g1,lH⟩:∃g1:G,g1=⟨g.w.drew,g.fr,g.env,g.objs⟩:=⟨_,rfl⟩
  rw[<-lH]at oc oK;have sV:g1.w=g.w.drew:=by rw[lH]
  have nr:g1.objs=σ.objs:=by rw[lH];exact hO
  have hle:=oK.trans (Le.alloc oc (.cells arr e) 0 (.spare 0));have Am:(Builtin.zeroCells z.cells m).size=m*te.size:=by rw[size_zeroCells,h5,h6]
  have dp:=Good.alloc oc (.cells arr e) 0 (.spare 0) (.inr rfl) ⟨arr,e,rfl⟩;have yK:rest.size=(cap-m)*te.size:=by rw[cO,size_zeroCells,h5,h6]
  refine⟨.slice (some ⟨g.w.heap.size,0,none⟩) m cap,_,.inl ?_,hle,dp,?_,?_⟩
  ·rw[c8,ey];simp[bJ,G.alloc,sV]
  ·simp[G.alloc,nr,Mode.post]
  rw[<-nr];have e1:(g.w.heap.size)=g1.w.heap.size:=by rw[sV];rfl
  rw[e1];refine .raw (by omega) ⟨by simp[G.alloc],fun m' eF=>?_⟩;have vZ:(g1.alloc (.cells arr e) 0 (.spare 0)).objs[g1.objs.length]?=some (.spare 0):=ff;rw[vZ]at eF;simp only[Option.some.injEq,aj.spare.injEq]at eF;subst eF;refine⟨Nat.le_refl _,fun _=>.inr ⟨⟨g1.w.heap.size,0,_⟩,arr,e,iJ oc,rfl,by simp,cM _ _,?_⟩⟩;rw[gT,Array.size_append,Am,yK,<-Nat.add_mul];exact Nat.mul_le_mul_right _ (by omega)
theorem vu{P:Program}{aT:eZ}(hT:b6 P aT){o:Oper}{σ:St}{t e:TypeId}{x y:Operand}{ti te:cf}{id off len cap sz:Nat}{cs ys:List ae}{ow:nR}
  (ho:o.op=.call ⟨.builtin .append,#[x,y],#[t,t]⟩) (hd:∀d,o.dst=some d->d<σ.n) (ht:aT t=some ti) (aU:ti.desc=.slice e) (he:aT e=some te) (cP:te.size=sz) (hx:σ.ev x=some (.ms id off len cap)) (ns:σ.objs[id]?=some (.cells cs)) (hy:σ.ev y=some (.aC sz ys ow))
  (nV:len+ys.length<=cap) (QQ:len+ys.length<=2 ^ 62) (tD:off+(len+ys.length)*sz<=cs.length) :
  Cert P o σ (.ms id off (len+ys.length) cap) (.write (σ.objs.set id (.cells (bo cs (off+len*sz) (au (ys.map ae.share)))))) :=
 Cert.iZ hd fun base fY a g bN h je=>by
  have hO:g.objs=σ.objs:=je.resolve_left (by simp);have hg:=bN.good;have hu:=bV hT ht aU;subst cP;have iL:=h x (by simp[ho,Op.operands,Call.operands]) _ hx;have DD:=h y (by simp[ho,Op.operands,Call.operands]) _ hy;obtain⟨l,o1,q1,q2,q3,Jd,cE,ij,cY,eu⟩:=iL.oX;obtain⟨Ug,JG,news,ey,Cq,Cr,Cs,Ji,GJ,uP⟩:=DD.gu (P:=P);obtain⟨⟨i,z,h1,h2,h3,h4,h5,h6,h7,h8,h9⟩,_⟩:=hT e te he;have ln:g.objs[id]?=some (.cells cs):=by rw[hO];exact ns
  obtain⟨arr,t',iK,dk,hlen,fS,oJ,HS⟩:=hg.row ln q1;have c8:=cR (P:=P) ho a g.w;simp only[builtin,List.map_toArray,List.map_cons,List.map_nil]at c8;obtain⟨ck,iY⟩:∃ck,ck=(arr.toList.take (off+len*te.size)++news++arr.toList.drop (off+len*te.size+news.length)).toArray:=⟨_,rfl⟩
  have hmul:off+(len+ys.length)*te.size=off+len*te.size+ys.length*te.size:=by rw[Nat.add_mul];omega
  have fq:=run_storeCells_at P l.block (off+len*te.size) t' news 0 arr g.w dk (by rw[uP];omega) (fun u hu=>by
   obtain⟨j,hj⟩:=List.getElem?_of_mem hu;have bg:=I hj;have cP:=Cs.1;simp only[List.size_toArray]at cP;rw[cP]at bg;have hc:=List.getElem?_eq_getElem bg;exact((Cs.2 j _ u hc (by simpa using hj)).jb (GJ _ (List.mem_of_getElem? hc))).1)
  simp only[Nat.add_zero]at fq;rw[<-iY]at fq;have bJ:=iG (P:=P) g.w (g.w.setRow l.block ck) t o.type e i hu h1 ⟨l.block,off,none⟩ len ij ys.length (a.eval y) news Cq (by rw[h2];exact Cr g.w rfl) (by omega) (by rw[addr_add,h2];exact fq);rw[<-eu]at bJ;have eR:=l7 (cs':=bo cs (off+len*te.size) (au (ys.map ae.share))) ln q1 iK ck;have hle:=Le.bB hg eR;have kG:=Cs.jY;have gK:(au (ys.map ae.share)).length=ys.length*te.size:=by
   rw[bE (dS Ji)];simp
  have nW:=jI.bo ⟨hlen,fS⟩ kG (off:=off+len*te.size) (by rw[gK];omega);simp only at nW;rw[<-iY]at nW;refine⟨.slice (some ⟨l.block,off,none⟩) (len+ys.length) ij,g.bB id (some l) (.cells (bo cs (off+len*te.size) (au (ys.map ae.share)))) (g.w.setRow l.block ck),.inl ?_,hle,Good.bB hg eR ?_ ?_,?_,?_⟩
  ·rw[c8];simp[bJ,G.bB]
  ·refine⟨l,ck,t',rfl,iK,?_,nW.1,fun j c u a b=>(nW.2 j c u a b).mono hle,fun c hc=>?_,?_⟩
   ·exact setRow_heap g.w l.block arr ck t' (0,0) dk
   ·simp only[bo,List.mem_append]at hc;rcases hc with hc|hc|hc
    ·exact oJ c (List.mem_of_mem_take hc)
    ·exact dA GJ c hc
    exact oJ c (List.mem_of_mem_drop hc)
   have q:=uP;have q2:=hmul;rw[iY];simp only[List.size_toArray,List.length_append,List.length_take,List.length_drop,Array.length_toList];omega
  ·intro l1 h1 _;simp only[Option.some.injEq]at h1;subst h1;rw[setRow_size];exact aW dk
  ·simp only[G.bB,Mode.post,hO]
  have bg:id<g.objs.length:=I ln;have KP:=jn hg ln;refine .ms (l:=l) (o:=.cells (bo cs (off+len*te.size) (au (ys.map ae.share)))) ?_ ?_ (by simp[aj.aF]) nV cY QQ
  ·simp only[G.bB];rw[List.getElem?_set_self KP]
  simp only[G.bB];rw[List.getElem?_set_self bg]
theorem xv{P:Program}{aT:eZ}(hT:b6 P aT){o:Oper}{σ:St}{t e:TypeId}{x:Operand}{ti te:cf}{id off len cap:Nat}{cs:List ae}
  (ho:o.op=.call ⟨.builtin .clear,#[x],#[t]⟩) (hd:o.dst=none) (ht:aT t=some ti) (aU:ti.desc=.slice e) (he:aT e=some te) (hx:σ.ev x=some (.ms id off len cap)) (ns:σ.objs[id]?=some (.cells cs))
  (oN:0<len) (hz:0<te.size) (tD:off+len*te.size<=cs.length) :
  Cert P o σ (.cD []) (.write (σ.objs.set id (.cells (bo cs off (List.replicate len te.zero).flatten)))) :=
 Cert.iZ (by simp[hd]) fun base fY a g bN h je=>by
  have hO:g.objs=σ.objs:=je.resolve_left (by simp);have hg:=bN.good;have hu:=bV hT ht aU;have iL:=h x (by simp[ho,Op.operands,Call.operands]) _ hx;obtain⟨l,o1,q1,q2,q3,Jd,cE,ij,cY,eu⟩:=iL.oX;obtain⟨⟨i,z,h1,h2,h3,h4,h5,h6,h7,h8,h9⟩,_⟩:=hT e te he;have ln:g.objs[id]?=some (.cells cs):=by rw[hO];exact ns
  obtain⟨arr,t',iK,dk,hlen,fS,oJ,HS⟩:=hg.row ln q1;have c8:=cR (P:=P) ho a g.w;simp only[builtin,List.map_toArray,List.map_cons,List.map_nil]at c8;have Am:(Builtin.zeroCells z.cells len).size=len*te.size:=by rw[size_zeroCells,h5,h6]
  have vU:(List.replicate len te.zero).flatten.length=len*te.size:=by simp[h6]
  have fm:∀(j:Nat) (c:ae),(List.replicate len te.zero).flatten[j]?=some c->te.zero[j % te.size]?=some c:=fun j c=>h6 ▸ pQ te.zero (by omega) len j c;have Jj:jI g (List.replicate len te.zero).flatten (Builtin.zeroCells z.cells len):=⟨by rw[Am,vU],fun j c u hj hu=>by
   have jc:=fm j c hj;have bg:=I hj;rw[vU]at bg;have kF:j % te.size<z.cells.size:=by rw[h5];exact I jc
   refine h8 _ _ _ _ jc ?_;simp only[Builtin.zeroCells,Array.getElem?_map,h5,h6,Array.getElem?_range,if_pos bg,Option.map_some,Option.some.injEq]at hu;subst hu;simp[kF]⟩
  have K8:∀c∈(List.replicate len te.zero).flatten,c.scalar:=fun c hc=>by
   rw[List.mem_flatten]at hc;obtain⟨l,hl,hc⟩:=hc;rw[List.mem_replicate]at hl;exact h9 c (hl.2 ▸ hc)
  obtain⟨news,tG⟩:∃news,news=(Builtin.zeroCells z.cells len).toList:=⟨_,rfl⟩
  have ET:news.length=len*te.size:=by rw[tG,Array.length_toList,Am]
  obtain⟨ck,iY⟩:∃ck,ck=(arr.toList.take off++news++arr.toList.drop (off+news.length)).toArray:=⟨_,rfl⟩
  have fq:=run_storeCells_at P l.block off t' news 0 arr g.w dk (by rw[ET];omega) (fun u hu=>by
   obtain⟨j,hj⟩:=List.getElem?_of_mem hu;have bg:=I hj;rw[ET,<-vU]at bg;have hc:=List.getElem?_eq_getElem bg;exact((Jj.2 j _ u hc (by rw[tG]at hj;simpa using hj)).jb (K8 _ (List.mem_of_getElem? hc))).1)
  simp only[Nat.add_zero]at fq;rw[<-iY]at fq;have bJ:(Builtin.clear_ #[t] o.type #[a.eval x]).run P g.w=.ok (.tuple #[]) (g.w.setRow l.block ck):=by
   obtain⟨k,rfl⟩:∃k,len=k+1:=⟨len-1,by omega⟩
   rw[eu];simp[Builtin.clear_,run_underlying hu,Go.zeroValue,typeInfo,h1,h4,<-tG,fq]
  have eR:=l7 (cs':=bo cs off (List.replicate len te.zero).flatten) ln q1 iK ck;have hle:=Le.bB hg eR;have nW:=jI.bo ⟨hlen,fS⟩ Jj (off:=off) (by rw[vU];omega);rw[<-tG,<-iY]at nW;refine⟨.tuple #[],g.bB id (some l) (.cells (bo cs off (List.replicate len te.zero).flatten)) (g.w.setRow l.block ck),?_,hle,Good.bB hg eR ?_ ?_,?_,.cD rfl (by simp)⟩
  ·refine .inl ?_;rw[c8];simp[bJ,G.bB]
  ·refine⟨l,ck,t',rfl,iK,?_,nW.1,fun j c u a b=>(nW.2 j c u a b).mono hle,fun c hc=>?_,?_⟩
   ·exact setRow_heap g.w l.block arr ck t' (0,0) dk
   ·simp only[bo,List.mem_append]at hc;rcases hc with hc|hc|hc
    ·exact oJ c (List.mem_of_mem_take hc)
    ·exact K8 c hc
    exact oJ c (List.mem_of_mem_drop hc)
   have q:=ET;rw[iY];simp only[List.size_toArray,List.length_append,List.length_take,List.length_drop,Array.length_toList];omega
  ·intro l1 h1 _;simp only[Option.some.injEq]at h1;subst h1;rw[setRow_size];exact aW dk
  simp only[G.bB,Mode.post,hO]
def G.nH(g:G)(id:Nat)(l:Loc)(o:aj):G:=⟨g.w,g.fr,g.env++[some l],g.objs.set id .gone++[o]⟩
theorem pP{g:G}{id:Nat}{l:Loc}{o:aj}(hg:Good g)(gp:id<g.objs.length){i:Nat}{l':Loc}{o':aj}(h1:(g.nH id l o).env[i]?=some (some l'))(h2:(g.nH id l o).objs[i]?=some o')(h3:o'.live) :
  (i≠id∧g.env[i]?=some (some l')∧g.objs[i]?=some o')∨(i=g.objs.length∧l'=l∧o'=o):=by
 have hlen:=hg.len;rcases aR h1 with q1|⟨q1,Rl⟩
 ·rcases aR h2 with q2|⟨q2,_⟩
  ·by_cases e:id=i
   ·subst e;rw[List.getElem?_set_self gp]at q2;simp only[Option.some.injEq]at q2;subst q2;exact h3.elim
   rw[List.getElem?_set_ne e]at q2;exact .inl ⟨Ne.symm e,q1,q2⟩
  have:=I q1;simp only[List.length_set]at q2;omega
 rcases aR h2 with q2|⟨q2,Pf⟩
 ·have:=I q2;simp only[List.length_set]at this;omega
 simp only[Option.some.injEq]at Rl;exact .inr ⟨by omega,Rl,Pf⟩
theorem ke.nH{g:G}{id:Nat}{l:Loc}{o o1:aj}(hg:Good g)(he:g.env[id]?=some (some l))(ho:g.objs[id]?=some o1)(hl:o1.live){b off:Nat}(h:ke (g.nH id l o) b off):ke g b off:=by
 obtain⟨i,l',o',h1,h2,h3,h4,h5⟩:=h;rcases pP hg (I ho) h1 h2 h3 with⟨_,q1,q2⟩|⟨_,q1,_⟩
 ·exact⟨i,l',o',q1,q2,h3,h4,h5⟩
 subst q1;exact⟨id,l',o1,he,ho,hl,h4,h5⟩
theorem gm.nH{g:G}{id:Nat}{l:Loc}{o o1:aj}(hg:Good g)(he:g.env[id]?=some (some l))(ho:g.objs[id]?=some o1)(hl:o1.live){b:Nat}(h:gm (g.nH id l o) b):gm g b:=by
 obtain⟨i,l',o',h1,h2,h3,h4⟩:=h;exact(ke.nH hg he ho hl ⟨i,l',o',h1,h2,h3,h4,Nat.le_refl _⟩).block
theorem AL{g:G}{id i:Nat}{l:Loc}{o o':aj}(ct:id≠i)(h:g.objs[i]?=some o'):(g.nH id l o).objs[i]?=some o':=by
 have:=I h;simp only[G.nH];rw[List.getElem?_append,if_pos (by simpa using this),List.getElem?_set_ne ct];exact h
theorem C2{g:G}{id:Nat}{l:Loc}{o:aj}(h:id<g.objs.length):(g.nH id l o).objs[id]?=some .gone:=by
 simp only[G.nH];rw[List.getElem?_append,if_pos (by simpa using h),List.getElem?_set_self h]
theorem r9{g:G}{id i:Nat}{l:Loc}{o:aj}(h:i<g.env.length):(g.nH id l o).env[i]?=g.env[i]?:=by
 simp only[G.nH];rw[List.getElem?_append,if_pos h]
theorem Le.nH{g:G}{id:Nat}{l:Loc}{o o1:aj}(hg:Good g)(he:g.env[id]?=some (some l))(ho:g.objs[id]?=some o1)(hl:o1.live)(hs:¬o1.aF):Le g (g.nH id l o) where
 os:=rfl
 tape:=rfl
 output:=rfl
 fr:=rfl
 size:=Nat.le_refl _
 block:=fun k _ h=>⟨rfl,fun q=>h (gm.nH hg he ho hl q)⟩
 cell:=fun b off x hx hn=>⟨hx,fun q=>hn (ke.nH hg he ho hl q)⟩
 len:=by simp[G.nH]
 spare:=fun i m hm=>by
  have ct:id≠i:=by
   intro e;subst e;rw[ho]at hm;simp only[Option.some.injEq]at hm;subst hm;exact hs trivial
  exact .inl ⟨m,AL ct hm,Nat.le_refl _⟩
 plain:=fun i o' je hn=>by
  refine⟨?_,r9 (by have:=I je;have:=hg.len;omega)⟩;by_cases e:id=i
  ·subst e;exact⟨.gone,C2 (I ho),by simp[aj.aF]⟩
  exact⟨o',AL e je,hn⟩
 gone:=fun i hi=>by
  by_cases e:id=i
  ·subst e;exact C2 (I ho)
  exact AL e hi
 tok:=fun i m hm _=>⟨r9 (by have:=I hm;have:=hg.len;omega),fun _ _=>rfl⟩
theorem Good.nH{g:G}{id:Nat}{l:Loc}{cs:List ae}(hg:Good g)(he:g.env[id]?=some (some l))(ho:g.objs[id]?=some (.cells cs)):Good (g.nH id l (.cells cs)):=by
 have bg:=I ho;have hle:=Le.nH (o:=.cells cs) hg he ho trivial (by simp[aj.aF]);have vZ:(g.nH id l (.cells cs)).env[g.objs.length]?=some (some l):=by
  simp only[G.nH];rw[<-hg.len];simp
 refine⟨hg.frlt,?_,by simp[G.nH,hg.len],?_,?_,?_,?_,?_⟩
 ·intro i l' o' h1 h2 h3;rcases pP hg bg h1 h2 h3 with⟨_,q1,q2⟩|⟨_,q1,_⟩
  ·exact hg.fQ i l' o' q1 q2 h3
  subst q1;exact hg.fQ id l' _ he ho trivial
 ·intro i l' o' h1 h2 h3;rcases pP hg bg h1 h2 h3 with⟨_,q1,q2⟩|⟨_,q1,_⟩
  ·exact hg.loc i l' o' q1 q2 h3
  subst q1;exact hg.loc id l' _ he ho trivial
 ·intro i j l1 l2 o1 o2 h1 h2 h3 k1 k2 k3 hb;rcases pP hg bg h1 h2 h3 with⟨n1,q1,q2⟩|⟨n1,q1,_⟩
  ·rcases pP hg bg k1 k2 k3 with⟨_,r1,r2⟩|⟨m1,r1,_⟩
   ·exact hg.apart i j l1 l2 o1 o2 q1 q2 h3 r1 r2 k3 hb
   subst r1;exact absurd (hg.apart i id l1 l2 o1 _ q1 q2 h3 he ho trivial hb) n1
  rcases pP hg bg k1 k2 k3 with⟨m1,r1,r2⟩|⟨m1,r1,_⟩
  ·subst q1;exact absurd (hg.apart j id l2 l1 o2 _ r1 r2 k3 he ho trivial hb.symm) m1
  omega
 ·intro i ds h;have lV:(aj.cells ds).live:=trivial;rcases aR h with q|⟨q,q'⟩
  ·have ct:id≠i:=by
    intro e;subst e;rw[List.getElem?_set_self bg]at q;cases q
   rw[List.getElem?_set_ne ct]at q;obtain⟨l',arr,t,e1,e0,e2,e3,e4,e5⟩:=hg.cells i ds q;exact⟨l',arr,t,(r9 (by have:=I q;have:=hg.len;omega)).trans e1,e0,e2,e3,fun j c u a b=>(e4 j c u a b).mono hle,e5⟩
  simp only[aj.cells.injEq]at q';subst q';obtain⟨l',arr,t,e1,e0,e2,e3,e4,e5⟩:=hg.cells id _ ho;rw[he]at e1;simp only[Option.some.injEq]at e1;subst e1;refine⟨l,arr,t,?_,e0,e2,e3,fun j c u a b=>(e4 j c u a b).mono hle,e5⟩;rw[q,List.length_set];exact vZ
 ·intro i m l' h h1;rcases aR h with q|⟨q,q'⟩
  ·have ct:id≠i:=by
    intro e;subst e;rw[List.getElem?_set_self bg]at q;cases q
   rw[List.getElem?_set_ne ct]at q;rw[r9 (by have:=I q;have:=hg.len;omega)]at h1;exact hg.spare i m l' q h1
  cases q'
 intro i kt es h;rcases aR h with q|⟨q,q'⟩
 ·have ct:id≠i:=by
   intro e;subst e;rw[List.getElem?_set_self bg]at q;cases q
  rw[List.getElem?_set_ne ct]at q;obtain⟨l',ob,e1,e0,e2,e3⟩:=hg.map i kt es q;exact⟨l',ob,(r9 (by have:=I q;have:=hg.len;omega)).trans e1,e0,e2,e3.mono hle⟩
 cases q'
theorem rr{P:Program}{aT:eZ}(hT:b6 P aT){o:Oper}{σ:St}{t e:TypeId}{x i:Operand}{ti te:cf}{id len sz:Nat}{k:IntKind}{n:Int}
  (ho:o.op=.indexAddr t x i) (hd:∀d,o.dst=some d->d<σ.n) (ht:aT t=some ti) (aU:ti.desc=.slice e) (he:aT e=some te)
  (hx:σ.ev x=some (.os id len sz)) (hi:σ.ev i=some (.v (.int k n))) (h0:0<=n) (hn:n<len):Cert P o σ (.mp id (n.toNat*te.size)) .pure :=
 Cert.bT .pure (.inl rfl) hd fun a g _ h _=>by
  have ei:=(h i (by simp[ho,Op.operands]) _ hi).cb.1;have hu:=bV hT ht aU;obtain⟨l,o1,cap,h1,h2,h3,_,_,_,eu⟩:=(h x (by simp[ho,Op.operands]) _ hx).s8;exact⟨.pointer (some ⟨l.block,n.toNat*te.size,none⟩),by simp[execOp,ho,ei,eu,Instr.indexAt,asIntOf,run_underlying hu,h0,hn,(hT e te he).sizeOf,addr_add],.mp h1 h2 h3⟩
theorem xE{P:Program}{aT:eZ}(hT:b6 P aT){o:Oper}{σ:St}{t e:TypeId}{x:Operand}{ti te:cf}{id len sz:Nat}{lo hi:Option Operand}{h:Nat}
  (ho:o.op=.slice t x lo hi none) (hd:∀d,o.dst=some d->d<σ.n) (ht:aT t=some ti) (aU:ti.desc=.slice e) (he:aT e=some te) (hx:σ.ev x=some (.os id len sz))
  (iK:oz σ lo 0 0) (pY:oz σ hi len h) (h2:h<=len) (h3:0<len):Cert P o σ (.os id h sz) .pure :=
 Cert.bT .pure (.inl rfl) hd fun a g _ hh _=>by
  have hu:=bV hT ht aU;have iL:=hh x (by cases lo<;>cases hi<;>simp[ho,Op.operands]) _ hx;have hl:(lo=none∧(0:Nat)=0)∨∃q k,lo=some q∧a.eval q=.int k ((0:Nat):Int):=by
   rcases iK with q|⟨q,k,e1,e2⟩
   ·exact .inl q
   exact .inr ⟨q,k,e1,(hh q (by subst e1;cases hi<;>simp[ho,Op.operands]) _ e2).cb.1⟩
  have ga:(hi=none∧h=len)∨∃q k,hi=some q∧a.eval q=.int k (h:Int):=by
   rcases pY with q|⟨q,k,e1,e2⟩
   ·exact .inl q
   exact .inr ⟨q,k,e1,(hh q (by subst e1;cases lo<;>simp[ho,Op.operands]) _ e2).cb.1⟩
  have c8:execOp a.eval o=(do pure (.value (<-Instr.sliceAt t (a.eval x) (lo.map a.eval) (hi.map a.eval) none))):=by
   simp[execOp,ho]
  clear iK pY ho;obtain⟨lc,o1,ij,q1,q2,q3,Jd,Gs,cE,eu⟩:=iL.s8;have bounds:(Instr.sliceBounds true len ij (lo.map a.eval) (hi.map a.eval) none).run P g.w=.ok (0,h,ij) g.w:=by
   rcases hl with⟨e1,e2⟩|⟨p,k,e1,hk⟩
   ·rcases ga with⟨e3,e4⟩|⟨q,k',e3,pF⟩
    ·subst e1 e3 e4;simp[Instr.sliceBounds]
    subst e1 e3;have:=run_sliceBound (P:=P) k' h ij .sliceAcap g.w (by omega) (by omega);simp[Instr.sliceBounds,pF,this]
   rcases ga with⟨e3,e4⟩|⟨q,k',e3,pF⟩
   ·subst e1 e3 e4;have:=run_sliceBound (P:=P) k 0 h .sliceB g.w (by omega) (by omega);simp[Instr.sliceBounds,hk,this]
   subst e1 e3;have e1:=run_sliceBound (P:=P) k' h ij .sliceAcap g.w (by omega) (by omega);have e2:=run_sliceBound (P:=P) k 0 h .sliceB g.w (by omega) (by omega);simp[Instr.sliceBounds,hk,pF,e1,e2]
  have lp:=(hT e te he).sizeOf g.w;refine⟨.slice (some ((⟨lc.block,0,none⟩:Addr).add (0*te.size))) (h-0) (ij-0),?_,?_⟩
  ·rw[c8];simp[Instr.sliceAt,run_underlying hu,Instr.slice,eu,bounds,lp,show ij≠0 by omega]
  rw[addr_add];simp only[Nat.zero_mul,Nat.add_zero,Nat.sub_zero];exact .os q1 q2 q3 (by omega) Gs (by omega)
theorem rm{P:Program}{aT:eZ}(hT:b6 P aT){o:Oper}{σ:St}{t e:TypeId}{x y:Operand}{ti te:cf}{sz:Nat}{xs ys:List ae}{ow:nR}
  (ho:o.op=.call ⟨.builtin .append,#[x,y],#[t,t]⟩) (hd:∀d,o.dst=some d->d<σ.n) (ht:aT t=some ti) (aU:ti.desc=.slice e) (he:aT e=some te) (cP:te.size=sz) (hx:σ.ev x=some (.aC sz xs .ex)) (hy:σ.ev y=some (.aC sz ys ow))
  (hn:ys.length≠0) (hlen:xs.length+ys.length<=2 ^ 62) (hb:(xs.length+ys.length)*te.bytes<=2 ^ 47) :
  Cert P o σ (.os σ.objs.length (xs.length+ys.length) sz) (.write (σ.objs++[.cells (au (xs++ys.map ae.share))])) :=
 Cert.iZ hd fun base fY a g bN h je=>by
  have hO:g.objs=σ.objs:=je.resolve_left (by simp);have hg:=bN.good;have hu:=bV hT ht aU;subst cP;have iL:=h x (by simp[ho,Op.operands,Call.operands]) _ hx;have DD:=h y (by simp[ho,Op.operands,Call.operands]) _ hy;obtain⟨Dw,mb,ix,ex,OW,Ak,OX,K7,Nj,GH⟩:=iL.gu (P:=P);obtain⟨Ug,JG,news,ey,Cq,Cr,Cs,Ji,GJ,uP⟩:=DD.gu (P:=P);obtain⟨⟨i,z,h1,h2,h3,h4,h5,h6,h7,h8,h9⟩,_⟩:=hT e te he;have rI:mb=xs.length:=by
   rcases iL.fL with⟨q1,q2⟩|⟨ad,cap,f,q1,_,_,_,_,_,_,_,q2⟩
   ·rw[ex]at q1;cases q2;simp at q1;simp[q1]
   rw[ex]at q1;simp only[Value.slice.injEq]at q1;rw[q1.2.2];exact q2
  subst rI;have c8:=cR (P:=P) ho a g.w;simp only[builtin,List.map_toArray,List.map_cons,List.map_nil]at c8;have bJ:=gZ (P:=P) g.w t o.type e i z hu h1 h4 Dw xs.length xs.length ys.length (a.eval y) ix news Cq (by rw[h2];exact Cr g.w.drew rfl) (by rw[h2,<-ex];exact Ak g.w.drew rfl) (by omega) hlen (by rw[h3];exact hb);rw[<-ex]at bJ;obtain⟨cap,cY⟩:∃cap,cap=grownCap g.w (xs.length+ys.length) xs.length e:=⟨_,rfl⟩
  obtain⟨rest,cO⟩:∃rest,rest=Builtin.zeroCells z.cells (cap-(xs.length+ys.length)):=⟨_,rfl⟩
  have qj:=grownCap_ge g.w (xs.length+ys.length) xs.length e;rw[<-cY]at bJ qj;rw[<-cO]at bJ;have yK:rest.size=(cap-(xs.length+ys.length))*te.size:=by rw[cO,size_zeroCells,h5,h6]
  obtain⟨arr,gT⟩:∃arr,arr=ix.toArray++news.toArray++rest:=⟨_,rfl⟩
  rw[<-gT]at bJ;have oc:=hg.heap (w':=g.w.drew) rfl rfl rfl rfl;have oK:=Le.heap (g:=g) (w':=g.w.drew) rfl rfl rfl rfl;obtain⟨g1,lH⟩:∃g1:G,g1=⟨g.w.drew,g.fr,g.env,g.objs⟩:=⟨_,rfl⟩
  rw[<-lH]at oc oK;have sV:g1.w=g.w.drew:=by rw[lH]
  have nr:g1.objs=σ.objs:=by rw[lH];exact hO
  have iT:=OX.append Cs.jY;rw[<-cL]at iT;have gK:(au (xs++ys.map ae.share)).length=(xs.length+ys.length)*te.size:=by
   rw[bE (sz:=te.size) (fun x hx=>by
    rcases List.mem_append.1 hx with q|q
    ·exact K7 x q
    exact dS Ji x q)]
   simp
  have xH:arr.size=cap*te.size:=by
   rw[gT];simp only[Array.size_append,List.size_toArray,GH,uP,yK,<-Nat.add_mul];rw[show xs.length+ys.length+(cap-(xs.length+ys.length))=cap by omega]
  have hle:=oK.trans (Le.alloc oc (.cells arr e) 0 (.cells (au (xs++ys.map ae.share))));have jd:Fits (g1.alloc (.cells arr e) 0 (.cells (au (xs++ys.map ae.share)))) (.cells arr e) (.cells (au (xs++ys.map ae.share))):=by
   refine⟨arr,e,rfl,by rw[gK,xH];exact Nat.mul_le_mul_right _ qj,fun j c u hj hu=>?_,fun c hc=>?_⟩
   ·have bg:=I hj;rw[gK]at bg;rw[gT]at hu;have uO:=eW hu (by simp only[List.size_toArray,GH,uP,<-Nat.add_mul];exact bg);exact(iT.2 j c u hj (by simpa using uO)).mono hle
   rw[cL]at hc;rcases List.mem_append.1 hc with q|q
   ·exact Nj c q
   exact dA GJ c q
  have dp:=Good.alloc oc (.cells arr e) 0 (.cells (au (xs++ys.map ae.share))) (.inr rfl) jd;refine⟨.slice (some ⟨g.w.heap.size,0,none⟩) (xs.length+ys.length) cap,_,.inl ?_,hle,dp,?_,?_⟩
  ·rw[c8];simp[bJ,G.alloc,sV]
  ·simp[G.alloc,nr,Mode.post]
  rw[<-nr];have e1:(g.w.heap.size)=g1.w.heap.size:=by rw[sV];rfl
  rw[e1];exact .os (l:=⟨g1.w.heap.size,0,arr.size⟩) (iJ oc) ff (by simp[aj.aF]) qj (by rw[xH];exact Nat.le_refl _) hlen
theorem vv{P:Program}{aT:eZ}(hT:b6 P aT){o:Oper}{σ:St}{t e:TypeId}{x y:Operand}{ti te:cf}{id len sz:Nat}{cs ys:List ae}{ow:nR}
  (ho:o.op=.call ⟨.builtin .append,#[x,y],#[t,t]⟩) (hd:∀d,o.dst=some d->d<σ.n) (ht:aT t=some ti) (aU:ti.desc=.slice e) (he:aT e=some te) (cP:te.size=sz) (hx:σ.ev x=some (.os id len sz)) (ns:σ.objs[id]?=some (.cells cs)) (hy:σ.ev y=some (.aC sz ys ow))
  (tD:len*sz<=cs.length) (hn:ys.length≠0) (hlen:len+ys.length<=2 ^ 62) (hb:(len+ys.length)*te.bytes<=2 ^ 47) :
  Cert P o σ (.os σ.objs.length (len+ys.length) sz) (.write (σ.objs.set id .gone++[.cells (cs.take (len*sz)++au (ys.map ae.share))])) :=
 Cert.iZ hd fun base fY a g bN h je=>by
  have hO:g.objs=σ.objs:=je.resolve_left (by simp);have hg:=bN.good;have hu:=bV hT ht aU;subst cP;have iL:=h x (by simp[ho,Op.operands,Call.operands]) _ hx;have DD:=h y (by simp[ho,Op.operands,Call.operands]) _ hy;obtain⟨l,o1,cap,q1,q2,q3,Jd,Gs,cE,eu⟩:=iL.s8;obtain⟨Ug,JG,news,ey,Cq,Cr,Cs,Ji,GJ,uP⟩:=DD.gu (P:=P);obtain⟨⟨i,z,h1,h2,h3,h4,h5,h6,h7,h8,h9⟩,_⟩:=hT e te he;have ln:g.objs[id]?=some (.cells cs):=by rw[hO];exact ns
  have Gw:=I ln;obtain⟨arr,t',iK,dk,ZS,fS,oJ,HS⟩:=hg.row ln q1;have c8:=cR (P:=P) ho a g.w;simp only[builtin,List.map_toArray,List.map_cons,List.map_nil]at c8;have kG:=Cs.jY;have gK:(au (ys.map ae.share)).length=ys.length*te.size:=by
   rw[bE (dS Ji)];simp
  obtain⟨m,hm⟩:∃m,m=len*te.size:=⟨_,rfl⟩
  obtain⟨ix,HW⟩:∃ix,ix=arr.toList.take m:=⟨_,rfl⟩
  obtain⟨ds,uK⟩:∃ds,ds=cs.take (len*te.size)++au (ys.map ae.share):=⟨_,rfl⟩
  rw[<-hm]at uK tD;have K0:ix.length=m:=by rw[HW];simp;omega
  have holds:jI g (cs.take m) ix.toArray:=by
   refine⟨by simp[K0];omega,fun j c u hj hu=>?_⟩;have bg:=I hj;simp only[List.length_take]at bg;rw[List.getElem?_take,if_pos (by omega)]at hj;refine fS j c u hj ?_;simp only[List.getElem?_toArray,HW]at hu;rw[List.getElem?_take,if_pos (by omega)]at hu;simpa using hu
  have cz:jI g ds (ix++news).toArray:=by
   rw[uK];exact holds.append kG
  have ll:ds.length=m+ys.length*te.size:=by
   rw[uK,List.length_append,List.length_take,gK];omega
  have U5:∀c∈ds,c.scalar:=fun c hc=>by
   rw[uK]at hc;rcases List.mem_append.1 hc with hc|hc
   ·exact oJ c (List.mem_of_mem_take hc)
   exact dA GJ c hc
  have Na:(len+ys.length)*te.size=m+ys.length*te.size:=by rw[Nat.add_mul,hm]
  rw[<-hm,<-uK];by_cases nV:len+ys.length<=cap
  ·have a8:m+ys.length*te.size<=arr.size:=by
    have:=Nat.mul_le_mul_right te.size nV;omega
   obtain⟨ck,iY⟩:∃ck,ck=(arr.toList.take m++news++arr.toList.drop (m+news.length)).toArray:=⟨_,rfl⟩
   have fq:=run_storeCells_at P l.block m t' news 0 arr g.w dk (by rw[uP];omega) (fun u hu=>by
    obtain⟨j,hj⟩:=List.getElem?_of_mem hu;have bg:=I hj;have cP:=Cs.1;simp only[List.size_toArray]at cP;rw[cP]at bg;have hc:=List.getElem?_eq_getElem bg;exact((Cs.2 j _ u hc (by simpa using hj)).jb (GJ _ (List.mem_of_getElem? hc))).1)
   simp only[Nat.add_zero]at fq;rw[<-iY]at fq;have bJ:=iG (P:=P) g.w (g.w.setRow l.block ck) t o.type e i hu h1 ⟨l.block,0,none⟩ len cap ys.length (a.eval y) news Cq (by rw[h2];exact Cr g.w rfl) (by omega) (by rw[addr_add,h2,Nat.zero_add,<-hm];exact fq);rw[<-eu]at bJ;have eR:=l7 (cs':=ds) ln q1 iK ck;have hle:=Le.bB hg eR;have xH:ck.size=arr.size:=by
    rw[iY];simp only[List.size_toArray,List.length_append,List.length_take,List.length_drop,Array.length_toList,uP];omega
   have dp:=Good.bB hg eR (by
    refine⟨l,ck,t',rfl,iK,setRow_heap g.w l.block arr ck t' (0,0) dk,by rw[ll,xH];exact a8,fun j c u hj pG=>?_,U5,by rw[xH];exact HS⟩;have bg:=I hj;rw[ll]at bg;have e1:ck=ix.toArray++news.toArray++(arr.toList.drop (m+news.length)).toArray:=by
     rw[iY,HW];simp
    rw[e1]at pG;have uO:=eW pG (by simp only[List.size_toArray,K0,uP];exact bg);exact(cz.2 j c u hj (by simpa using uO)).mono hle) (fun l1 h1 _=>by
    simp only[Option.some.injEq]at h1;subst h1;rw[setRow_size];exact aW dk)
   obtain⟨g1,lH⟩:∃g1:G,g1=g.bB id (some l) (.cells ds) (g.w.setRow l.block ck):=⟨_,rfl⟩
   rw[<-lH]at hle dp;have rJ:g1.env[id]?=some (some l):=by
    rw[lH];simp only[G.bB];rw[List.getElem?_set_self (jn hg ln)]
   have nr:g1.objs[id]?=some (.cells ds):=by
    rw[lH];simp only[G.bB];rw[List.getElem?_set_self Gw]
   have eO:g1.objs.length=σ.objs.length:=by
    rw[lH,<-hO];simp[G.bB]
   refine⟨.slice (some ⟨l.block,0,none⟩) (len+ys.length) cap,g1.nH id l (.cells ds),.inl ?_,hle.trans (Le.nH dp rJ nr trivial (by simp[aj.aF])),Good.nH dp rJ nr,?_,?_⟩
   ·rw[c8,lH];simp[bJ,G.bB,G.nH]
   ·simp only[G.nH,lH,G.bB,Mode.post,List.set_set,hO]
   refine .os (l:=l) (o:=.cells ds) ?_ ?_ (by simp[aj.aF]) nV Gs hlen
   ·simp only[G.nH];rw[<-eO,<-dp.len];simp
   simp only[G.nH];rw[<-eO];simp
  have bJ:=gZ (P:=P) g.w t o.type e i z hu h1 h4 (some ⟨l.block,0,none⟩) len cap ys.length (a.eval y) ix news Cq (by rw[h2];exact Cr g.w.drew rfl) (by
   rw[h2];simp only[Builtin.firstCells];rw[<-hm];have:=run_loadCells (P:=P) g.w.drew ⟨l.block,0,none⟩ m (fun j=>arr.getD j undef) (fun j hj=>by
    rw[addr_add,Nat.zero_add];have:g.w.drew.cell? ⟨l.block,j,none⟩=arr[j]?:=cell_of_row (w:=g.w.drew) dk j;rw[this];simp[Array.getD_eq_getD_getElem?,show j<arr.size by omega])
   rw[xS ix m _ K0 (fun j hj=>by
    rw[HW,List.getElem?_take,if_pos hj];simp[Array.getD_eq_getD_getElem?,show j<arr.size by omega])]at this
   exact this) (by omega) hlen (by rw[h3];exact hb)
  rw[<-eu]at bJ;obtain⟨xr,cY⟩:∃xr,xr=grownCap g.w (len+ys.length) cap e:=⟨_,rfl⟩
  obtain⟨rest,cO⟩:∃rest,rest=Builtin.zeroCells z.cells (xr-(len+ys.length)):=⟨_,rfl⟩
  have qj:=grownCap_ge g.w (len+ys.length) cap e;rw[<-cY]at bJ qj;rw[<-cO]at bJ;have yK:rest.size=(xr-(len+ys.length))*te.size:=by rw[cO,size_zeroCells,h5,h6]
  obtain⟨vb,gT⟩:∃vb,vb=ix.toArray++news.toArray++rest:=⟨_,rfl⟩
  rw[<-gT]at bJ;have oc:=hg.heap (w':=g.w.drew) rfl rfl rfl rfl;have oK:=Le.heap (g:=g) (w':=g.w.drew) rfl rfl rfl rfl;obtain⟨g1,lH⟩:∃g1:G,g1=⟨g.w.drew,g.fr,g.env,g.objs⟩:=⟨_,rfl⟩
  rw[<-lH]at oc oK;have sV:g1.w=g.w.drew:=by rw[lH]
  have nr:g1.objs=σ.objs:=by rw[lH];exact hO
  have xH:vb.size=xr*te.size:=by
   rw[gT];simp only[Array.size_append,List.size_toArray,K0,uP,yK];have:(len+ys.length)*te.size+(xr-(len+ys.length))*te.size=xr*te.size:=by
    rw[<-Nat.add_mul,show len+ys.length+(xr-(len+ys.length))=xr by omega]
   omega
  have hle:=oK.trans (Le.alloc oc (.cells vb e) 0 (.cells ds));have jd:Fits (g1.alloc (.cells vb e) 0 (.cells ds)) (.cells vb e) (.cells ds):=by
   refine⟨vb,e,rfl,by rw[ll,xH,<-Na];exact Nat.mul_le_mul_right _ qj,fun j c u hj hu=>?_,U5⟩;have bg:=I hj;rw[ll]at bg;rw[gT]at hu;have uO:=eW hu (by simp only[List.size_toArray,K0,uP];exact bg);exact(cz.2 j c u hj (by simpa using uO)).mono hle
  have dp:=Good.alloc oc (.cells vb e) 0 (.cells ds) (.inr rfl) jd;obtain⟨g2,M9⟩:∃g2:G,g2=g1.alloc (.cells vb e) 0 (.cells ds):=⟨_,rfl⟩
  rw[<-M9]at hle dp;have Va:g2.env[id]?=some (some l):=by
   rw[M9];simp only[G.alloc];rw[List.getElem?_append,if_pos (by rw[lH];exact jn hg ln),lH];exact q1
  have VD:g2.objs[id]?=some (.cells cs):=by
   rw[M9];simp only[G.alloc];rw[List.getElem?_append,if_pos (by rw[lH];exact Gw),lH];exact ln
  have eR:=qV VD Va (by simp[aj.aF]) trivial;have OV:g2.w=g.w.drew.alloc (.cells vb e):=by rw[M9,<-sV];rfl
  refine⟨.slice (some ⟨g.w.heap.size,0,none⟩) (len+ys.length) xr,g2.bB id (some l) .gone g2.w,.inl ?_,hle.trans (Le.bB dp eR),Good.bB dp eR trivial (fun _ _ hh=>hh.elim),?_,?_⟩
  ·rw[c8];simp[bJ,G.bB,OV]
  ·simp only[G.bB,M9,G.alloc,nr,Mode.post];rw[List.set_append,if_pos (by rw[<-hO];exact Gw)]
  have e1:(g.w.heap.size)=g1.w.heap.size:=by rw[sV];rfl
  have Yi:id<g1.objs.length:=by rw[lH];exact Gw
  rw[e1,<-nr];refine .os (l:=⟨g1.w.heap.size,0,vb.size⟩) (o:=.cells ds) ?_ ?_ (by simp[aj.aF]) qj (by rw[xH];exact Nat.le_refl _) hlen
  ·simp only[G.bB,M9,G.alloc];rw[List.getElem?_set_ne (by omega)];exact iJ oc
  simp only[G.bB,M9,G.alloc];rw[List.getElem?_set_ne (by omega)];exact ff
end Go.Av
